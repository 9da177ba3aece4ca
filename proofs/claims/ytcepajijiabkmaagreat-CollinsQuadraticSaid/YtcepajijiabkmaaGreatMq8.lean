/- Layer 20: sums of terms as values. -/
import Derived.Test.YtcepajijiabkmaaGreatMq7
set_option linter.unusedSimpArgs false
set_option linter.unusedVariables false

namespace Go.Proofs.YtcepajijiabkmaaGreat
open Lib (hid)
open Go.RowKit
def Cf (w:World) (k:Option Nat) (x:Value) (z:Int):Prop:=match k with
 | none=>vk w x z
 | some L=>qm w x z L
section
variable {w w':World} {k:Option Nat} {x:Value} {z:Int}
theorem Cf.turn (h:Cf w k x z) (hn:∀ v ds,jb w v ds->jb w' v ds):Cf w' k x z:=by
 cases k with
 | none=>obtain ⟨v,e,hv⟩:=h; exact ⟨v,e,hn _ _ hv⟩
 | some L=>obtain ⟨neg,v,ds,e,hv,h1,h2⟩:=h; exact ⟨neg,v,ds,e,hn _ _ hv,h1,h2⟩
theorem Cf.ext (h:Cf w k x z) (hx:Ext w w'):Cf w' k x z:=h.turn fun _ _ hv=>hv.ext hx
theorem Cf.unpack (h:Cf w k x z):∃ b A n c,x=.agg #[.bool b,.slice A n c]:=by
 cases k with
 | none=>exact vk.unpack h
 | some L=>exact qm.unpack h
theorem Cf.raw (h:Cf w k x z):qm w x z (k.getD (dg z.natAbs).length):=by
 cases k with
 | none=>exact vk.raw h
 | some L=>exact h
end
def tmC (b:Bool) (s:Value) (m:Mo):List Value:=[.bool b,s,.int .i64 m.a,.int .i64 m.b,.int .i64 m.c,.int .i64 m.d]
def vak (w:World) (ad:Addr) (b:Bool) (s:Value) (m:Mo):Prop:=
 w.cell? ad=some (.bool b)/\w.cell? ⟨ad.block,ad.off+1,none⟩=some s/\w.cell? ⟨ad.block,ad.off+2,none⟩=some (.int .i64 m.a)/\w.cell? ⟨ad.block,ad.off+3,none⟩=some (.int .i64 m.b)/\w.cell? ⟨ad.block,ad.off+4,none⟩=some (.int .i64 m.c)/\w.cell? ⟨ad.block,ad.off+5,none⟩=some (.int .i64 m.d)
theorem vak.same {w w':World} {ad:Addr} {b:Bool} {s:Value} {m:Mo} (h:vak w ad b s m) (k0:w'.cell? ad=w.cell? ad) (k:∀ n,n < 6->w'.cell? ⟨ad.block,ad.off+n,none⟩=w.cell? ⟨ad.block,ad.off+n,none⟩):vak w' ad b s m:=by
 obtain ⟨h0,h1,h2,h3,h4,h5⟩:=h;exact ⟨k0.trans h0,(k 1 (by omega)).trans h1,(k 2 (by omega)).trans h2,(k 3 (by omega)).trans h3,(k 4 (by omega)).trans h4,(k 5 (by omega)).trans h5⟩
theorem vak.ext {w w':World} {ad:Addr} {b:Bool} {s:Value} {m:Mo} (h:vak w ad b s m) (hx:Ext w w') (hb:ad.block < w.heap.size):vak w' ad b s m:=h.same (hx.cell hb) (fun n _=>hx.cell (p:=⟨ad.block,ad.off+n,none⟩) hb)
def vao (w:World) (k:Option Nat) (A:Option Addr) (l:Sp):Prop:=
 ∀ i (h:i < l.length),∃ ad b B n c,A=some ad/\ad.block < w.heap.size/\vak w (ad.add (i * 6)) b (.slice B n c) l[i].2/\Cf w k (.agg #[.bool b,.slice B n c]) l[i].1
def SpV (w:World) (k:Option Nat) (v:Value) (l:Sp):Prop:=∃ A c,v=.slice A l.length c/\l.length<=c/\c<=9223372036854775807/\vao w k A l
theorem vao.ext {w w':World} {k:Option Nat} {A:Option Addr} {l:Sp} (h:vao w k A l) (hx:Ext w w'):vao w' k A l:=by
 intro i hi;obtain ⟨ad,b,B,n,c,e,hb,h1,h2⟩:=h i hi;exact ⟨ad,b,B,n,c,e,Nat.lt_of_lt_of_le hb hx.size,h1.ext hx (by rw [ja]; exact hb),h2.ext hx⟩
theorem SpV.ext {w w':World} {k:Option Nat} {v:Value} {l:Sp} (h:SpV w k v l) (hx:Ext w w'):SpV w' k v l:=by
 obtain ⟨A,c,e,h1,h2,h3⟩:=h;exact ⟨A,c,e,h1,h2,h3.ext hx⟩
theorem kck:(Tryz.prog.info? 76).map (fun i=>(i.zero,i.size,i.bytes))=some (some (.agg #[.bool false,.slice none 0 0,.int .i64 0,.int .i64 0,.int .i64 0,.int .i64 0]),6,64):=by kernel_rfl
theorem jco : xap 23 76 6 64 (.agg #[.bool false, .slice none 0 0, .int .i64 0, .int .i64 0, .int .i64 0, .int .i64 0]) where
 und:=Tryz.underlying23
 info:=kck
 cells:=rfl
 pos:=by omega
 nodig:=by
  intro u hu;simp only [Value.cells] at hu;simp only [List.mem_cons,List.not_mem_nil,or_false] at hu;rcases hu with rfl | rfl | rfl | rfl | rfl | rfl <;> rfl
def kam (rs:List (Bool × Value × Int × Mo)):List Value:=rs.flatMap fun r=>tmC r.1 r.2.1 r.2.2.2
theorem vbw (a b:List (Bool × Value × Int × Mo)):kam (a ++ b)=kam a ++ kam b:=by simp [kam]
theorem yaw (rs:List (Bool × Value × Int × Mo)) (k:Nat) (hk:k < rs.length) (j:Nat) (hj:j < 6):(kam rs)[k * 6+j]?=(tmC rs[k].1 rs[k].2.1 rs[k].2.2.2)[j]?:=by
 induction rs generalizing k with
 | nil=>simp at hk
 | cons r rs ih =>
   have hl:(tmC r.1 r.2.1 r.2.2.2).length=6:=rfl;simp only [kam,List.flatMap_cons];cases k with
   | zero=>simp only [Nat.zero_mul,Nat.zero_add,List.getElem_cons_zero]; rw [List.getElem?_append_left (by omega)]
   | succ k =>
     rw [List.getElem?_append_right (by omega),hl,show (k+1) * 6+j - 6=k * 6+j by omega];exact ih k (by simpa using hk)
def TsV (k:Option Nat) (base:Nat) (W:World) (v:Value) (l:Sp):Prop:=
 ∃ rs:List (Bool × Value × Int × Mo),rs.map (fun r=>r.2.2)=l/\jm 76 6 base W v rs.length (kam rs)/\∀ r ∈ rs,Cf W k (.agg #[.bool r.1,r.2.1]) r.2.2.1
section
variable {k:Option Nat} {base base':Nat} {W W':World} {v:Value} {l:Sp}
theorem TsV.nil (k:Option Nat) (base:Nat) (W:World):TsV k base W (.slice none 0 0) []:=⟨[],rfl,jm.nil _ _ _ _,by simp⟩
theorem TsV.own (h:TsV k base W v l) {R:Nat} (hR:v.ownBlock=some R):base<=R/\R < W.heap.size:=by
 obtain ⟨rs,-,h2,-⟩:=h;exact h2.own hR
theorem TsV.len (h:TsV k base W v l):∃ A c,v=.slice A l.length c/\l.length<=c/\c<=9223372036854775807:=by
 obtain ⟨rs,rfl,h2,-⟩:=h;rw [List.length_map];exact h2.len
theorem TsV.turn (h:TsV k base W v l) (hb:∀ R,v.ownBlock=some R->W'.heap[R]?=W.heap[R]?) (hn:∀ v ds,jb W v ds->jb W' v ds):TsV k base W' v l:=by
 obtain ⟨rs,e,h2,h3⟩:=h;exact ⟨rs,e,h2.turn hb,fun r hr=>(h3 r hr).turn hn⟩
theorem TsV.ext (h:TsV k base W v l) (hx:Ext W W'):TsV k base W' v l:=h.turn (fun R hR=>hx.below.block R (h.own hR).2) (fun _ _ hv=>hv.ext hx)
theorem TsV.sp (h:TsV k base W v l):SpV W k v l:=by
 obtain ⟨A,c,e,h1,h2⟩:=h.len;obtain ⟨rs,rfl,hr,h3⟩:=h;refine ⟨A,c,e,h1,h2,fun i hi=>?_⟩;rw [List.length_map] at hi;obtain ⟨g,c',e',-,-,-,af,-⟩:=hr.pos (by omega);rw [e] at e';injection e' with e1 e2 e3
 subst e1 e3;subst e;rw [List.length_map] at hr;have ai:∀ j,j < 6->W.cell? ⟨g,i * 6+j,none⟩=(tmC rs[i].1 rs[i].2.1 rs[i].2.2.2)[j]?:=by
  intro j hj;rw [hr.cell (i * 6+j) (by omega)];exact yaw rs i hi j hj
 have hc:=h3 rs[i] (List.getElem_mem hi);obtain ⟨b,B,n,c'',e2⟩:=hc.unpack;simp only [Value.agg.injEq,Array.mk.injEq,List.cons.injEq,and_true,Value.bool.injEq] at e2;obtain ⟨rfl,e3⟩:=e2;refine ⟨_,rs[i].1,B,n,c'',rfl,af,?_,?_⟩
 · rw [uq,Nat.zero_add,List.getElem_map,<- e3];exact ⟨ai 0 (by omega),ai 1 (by omega),ai 2 (by omega),ai 3 (by omega),ai 4 (by omega),ai 5 (by omega)⟩
 · rw [List.getElem_map,<- e3]; exact hc
end
theorem TsV.push {k:Option Nat} {base:Nat} {W:World} {v:Value} {l:Sp} {b:Bool} {s:Value} {z:Int} (h:TsV k base W v l) (dU:base<=W.heap.size) (hc:Cf W k (.agg #[.bool b,s]) z) (m:Mo) (hlen:l.length < 1099511627776) (ty:TypeId) :
 ∃ v4 w4,(Builtin.append_ #[23,23] ty #[v,.slice (some ⟨W.heap.size,0,none⟩) 1 1]).run Tryz.prog (W.alloc (.cells #[.bool b,s,.int .i64 m.a,.int .i64 m.b,.int .i64 m.c,.int .i64 m.d] 76))=.ok v4 w4/\TsV k base w4 v4 (l ++ [(z,m)])/\W.grownBy w4 v.ownBlock/\(∀ v ds,jb W v ds->jb w4 v ds)/\(v4.ownBlock=v.ownBlock\/v4.ownBlock=some (W.heap.size+1)):=by
 obtain ⟨rs,rfl,h2,h3⟩:=h;rw [List.length_map] at hlen;obtain ⟨b',B,n,c,e⟩:=hc.unpack;simp only [Value.agg.injEq,Array.mk.injEq,List.cons.injEq,and_true,Value.bool.injEq] at e;obtain ⟨rfl,rfl⟩:=e;obtain ⟨v4,w4,e,r1,r2,r3,r4⟩:=h2.push jco dU (tmC b (.slice B n c) m) rfl (by
  intro u hu;simp only [tmC,List.mem_cons,List.not_mem_nil,or_false] at hu
  rcases hu with rfl | rfl | rfl | rfl | rfl | rfl <;> exact ⟨rfl,rfl⟩) (by omega) (by omega) ty
 refine ⟨v4,w4,e,⟨rs ++ [(b,.slice B n c,z,m)],by simp,?_,fun r hr=>?_⟩,r2,r3,r4⟩
 · rw [vbw,List.length_append];exact r1
 · rcases List.mem_append.1 hr with hr | hr
   · exact (h3 r hr).turn r3
   · obtain rfl:r=(b,.slice B n c,z,m):=by simpa using hr
     exact hc.turn r3
def vw (w:World) (g:Nat) (m:Mo):Prop:=
 w.cell? ⟨g,0,none⟩=some (.int .i64 m.a)/\w.cell? ⟨g,1,none⟩=some (.int .i64 m.b)/\w.cell? ⟨g,2,none⟩=some (.int .i64 m.c)/\w.cell? ⟨g,3,none⟩=some (.int .i64 m.d)
theorem vw.turn {w w':World} {g:Nat} {m:Mo} (h:vw w g m) (hb:w'.heap[g]?=w.heap[g]?):vw w' g m:=by
 obtain ⟨h0,h1,h2,h3⟩:=h;have k:∀ i,w'.cell? ⟨g,i,none⟩=w.cell? ⟨g,i,none⟩:=fun i=>World.cell?_of_block (a:=⟨g,i,none⟩) hb
 exact ⟨(k _).trans h0,(k _).trans h1,(k _).trans h2,(k _).trans h3⟩
theorem vw.ext {w w':World} {g:Nat} {m:Mo} (h:vw w g m) (hx:Ext w w') (hg:g < w.heap.size):vw w' g m:=h.turn (hx.below.block g hg)
theorem vw.new (w:World) (m:Mo) (T:TypeId):vw (w.alloc (.cells #[.int .i64 m.a,.int .i64 m.b,.int .i64 m.c,.int .i64 m.d] T)) w.heap.size m:=by
 refine ⟨?_,?_,?_,?_⟩ <;> simp [go_sem]
end Go.Proofs.YtcepajijiabkmaaGreat

set_option maxRecDepth 100000
set_option maxHeartbeats 8000000
namespace Go.Proofs.YtcepajijiabkmaaGreat
open Lib (hid)
open Go.RowKit
theorem zax (l:Int) (w:World):Calls Tryz.prog 50 #[.int .i64 l] w fun e w'=>e=.returned (.bool (decide (1<=l) && decide (l<=4)))/\w'=w:=by
 by_cases h:1<=l
 · go_enter Tryz.func50,Tryz.ntmps50;go_wp2_with fail;go_ret;simp [h]
 · go_enter Tryz.func50,Tryz.ntmps50;go_wp2_with fail;go_ret;have h':l < 1:=by omega
   simp [h]; omega
theorem kad {w:World} {q:Nat->Prop} (p:Pl) (v:Value) (h:PlV w q p v):Calls Tryz.prog 49 #[v] w fun e w'=>e=.returned (.bool p.isZ)/\Ext w w':=by
 obtain ⟨A0,n0,c0,A,c,rfl,⟨Vy,c0',e,-,-,-⟩,dY,dK,h4⟩:=h.open_;injection e with e1 e2 e3
 subst e1 e2 e3;have HX:Hid (∀ o,Ext w (w.alloc o)):=fun o=>(Ext.refl w).alloc o
 unfold plV Pl.isZ;clear h h4
 by_cases hl:p.lv=0
 · go_enter Tryz.func49,Tryz.ntmps49;go_wp2_with fail;go_ret;exact ⟨by simp [hl]; cases p.ds <;> simp <;> omega,HX.out _⟩
 · go_enter Tryz.func49,Tryz.ntmps49;go_wp2_with fail;go_ret;exact ⟨by simp [hl],HX.out _⟩
def yc4 (w0:World) (q:Nat->Prop) (n:Nat):Prop:=∀ (p:Pl) (v:Value) (w:World),p.sz < n->PlV w0 q p v->Ext w0 w->Calls Tryz.prog 64 #[v] w fun e w'=>e=.returned (.bool p.isCan)/\Ext w w'
theorem xcc {w0 w:World} {q:Nat->Prop} (p:Pl) (v:Value) (h:PlV w0 q p v) (aF:Ext w0 w) (hl:p.lv=0):Calls Tryz.prog 64 #[v] w fun e w'=>e=.returned (.bool p.isCan)/\Ext w w':=by
 obtain ⟨A0,n0,c0,A,c,rfl,⟨Vy,c0',e,dO,nR,hd⟩,dY,dK,h4⟩:=h.open_;injection e with e1 e2 e3
 subst e1 e2 e3;obtain ⟨l,ng,ds,cs⟩:=p
 change l=0 at hl
 subst hl;have HX:Hid (∀ o,Ext w (w.alloc o)):=fun o=>(Ext.refl w).alloc o
 have MR:Hid (yj (w.alloc (.cells #[.int .i64 0,.bool ng,.slice A0 ds.length c0,.slice A cs.length c] 33)) A0 ds):=hd.ext (aF.trans ((Ext.refl w).alloc _));simp only [Pl.cs,Pl.ds,Pl.lv,Pl.neg,plV] at *;clear h h4 hd
 by_cases hc:0 < cs.length
 · have HF:Hid ((Pl.mk 0 ng ds cs).isCan=false):=by
    have:(Pl.mk 0 ng ds cs).isCan=false:=by rw [Pl.isCan,if_pos rfl,if_pos hc]
    exact this
   go_enter Tryz.func64,Tryz.ntmps64;go_wp2_with fail;go_ret;exact ⟨by rw [HF.out]; rfl,HX.out _⟩
 · have HF:Hid ((Pl.mk 0 ng ds cs).isCan=((decide (ds.length=0) && !ng) || (decide (0 < ds.length) && decide (ds.getLast? ≠ some 0)))):=by
    have:(Pl.mk 0 ng ds cs).isCan=((decide (ds.length=0) && !ng) || (decide (0 < ds.length) && decide (ds.getLast? ≠ some 0))):=by rw [Pl.isCan,if_pos rfl,if_neg hc]
    exact this
   by_cases xC:0 < ds.length
   · obtain ⟨ad,x,rfl,hb,ai,hx,HG⟩:=MR.out.get_ (ds.length - 1) (by omega);obtain ⟨k,hk⟩:∃ k:Nat,ds.length - 1=k:=⟨_,rfl⟩;have hk2:ds.length=k+1:=by omega
     rw [hk] at ai HG;have Vo:Hid (ds.getLast?=some x):=by
      have:ds.getLast?=some x:=by rw [List.getLast?_eq_getElem?,hk]; exact HG.out
      exact this
     generalize ds.length=N at *;subst hk2;have og:IntKind.i64.wrap (((k+1:Nat):Int) - 1)=k:=by simp [IntKind.wrap,IntKind.bits,IntKind.signed]; omega
     go_enter Tryz.func64,Tryz.ntmps64;go_wp2_with fail;go_ret;exact ⟨by rw [HF.out,Vo.out]; simp; by_cases aF:x=0 <;> simp [aF] <;> omega,HX.out _⟩
   · have hN:ds.length=0:=by omega
     rw [hN] at HF MR;rw [hN];cases ng
     · go_enter Tryz.func64,Tryz.ntmps64;go_wp2_with fail;go_ret;exact ⟨by rw [HF.out]; rfl,HX.out _⟩
     · go_enter Tryz.func64,Tryz.ntmps64;go_wp2_with fail;go_ret;exact ⟨by rw [HF.out]; rfl,HX.out _⟩
theorem ycu (w0:World) (q:Nat->Prop) (n:Nat):yc4 w0 q n:=by
 induction n with
 | zero=>intro p v w h; omega
 | succ n ih =>
 intro p v w hn h aF
 by_cases hl:p.lv=0
 · exact xcc p v h aF hl
 obtain ⟨A0,n0,c0,A,c,rfl,⟨Vy,c0',e,dO,nR,hd⟩,dY,dK,h4⟩:=h.open_;injection e with e1 e2 e3
 subst e1 e2 e3;obtain ⟨l,ng,ds,cs⟩:=p;simp only [Pl.cs,Pl.ds,Pl.lv,Pl.neg,plV] at *;have IH:=hid ih;have H4:=hid h4;have ay:=hid aF;have iT:Hid (∀ k (hk:k < cs.length),cs[k].sz < n):=by
  have:∀ k (hk:k < cs.length),cs[k].sz < n:=fun k hk=>by
   have h1:=xak (List.getElem_mem hk);have h2:(Pl.mk l ng ds cs).sz=xk cs+1:=by rw [Pl.sz]
   omega
  exact this
 clear h h4 hd ih aF;obtain ⟨W,hW⟩:=n_m (w.alloc (.cells #[.int .i64 l,.bool ng,.slice A0 ds.length c0,.slice A cs.length c] 33));have ag:Ext w W:=by rw [<- hW]; exact (Ext.refl w).alloc _
 have bY:W.heap.size=w.heap.size+1:=by rw [<- hW]; simp
 have bJ:jc W w.heap.size (.mk l ng ds cs) (.slice A0 ds.length c0) (.slice A cs.length c):=by rw [<- hW]; exact jc.new w (.mk l ng ds cs) _ _ _
 have aB:=hid ag;have eY:=hid bJ;obtain ⟨b0,b1,b2,b3⟩:=bJ;simp only [Pl.lv,Pl.neg] at b0 b1;have kV:(l == 0)=false:=by simpa using hl
 by_cases hg:(l < 1\/4 < l)\/0 < ds.length\/ng=true\/cs.length < 2
 · have HF:Hid ((Pl.mk l ng ds cs).isCan=false):=by
    have:(Pl.mk l ng ds cs).isCan=false:=by rw [Pl.isCan,if_neg hl,if_pos hg]
    exact this
   clear ag;go_enter Tryz.func64,Tryz.ntmps64;go_wp2_with fail;refine (zax l _).mono ?_;rintro e w1 ⟨rfl,rfl⟩
   by_cases iH:1<=l/\l<=4
   · have dL:(decide (1<=l) && decide (l<=4))=true:=by simp [iH]
     rw [dL]
     by_cases PN:0 < ds.length
     · have nN:decide ((ds.length:Int) > 0)=true:=decide_eq_true (by omega);go_wp2_with fail;go_ret;exact ⟨by rw [HF.out]; rfl,aB.out⟩
     · obtain rfl:ds=[]:=List.eq_nil_of_length_eq_zero (by omega);simp only [List.length_nil] at *;cases ng
       · have Uk:decide ((cs.length:Int) < 2)=true:=decide_eq_true (by
          have:cs.length < 2:=by
           rcases hg with h | h | h | h
           · omega
           · exact absurd h (by decide)
           · cases h
           · exact h
          omega)
         go_wp2_with fail;go_ret;exact ⟨by rw [HF.out]; rfl,aB.out⟩
       · go_wp2_with fail;go_ret;exact ⟨by rw [HF.out]; rfl,aB.out⟩
   · have dL:(decide (1<=l) && decide (l<=4))=false:=by simp at iH ⊢; omega
     rw [dL];go_wp2_with fail;go_ret;exact ⟨by rw [HF.out]; rfl,aB.out⟩
 · have dL:(decide (1<=l) && decide (l<=4))=true:=by simp; omega
   obtain rfl:ds=[]:=List.eq_nil_of_length_eq_zero (by omega);have pY:ng=false:=by
    cases ng
    · rfl
    · exact absurd (.inr (.inr (.inl rfl))) hg
   have Uk:decide ((cs.length:Int) < 2)=false:=decide_eq_false (by omega);have hlen:2<=cs.length:=by omega
   have HG:=hid hg;have HL:=hid hl;subst pY;clear ag hg;simp only [List.length_nil] at *;go_enter Tryz.func64,Tryz.ntmps64;go_wp2_with fail;refine (zax l _).mono ?_;rintro e w1 ⟨rfl,rfl⟩;rw [dL];go_wp2_with fail;clear hW b0 b1 b2 b3
   go_loopw [63] (fun iv wr=>∃ k:Nat,k<=cs.length/\iv=.int .i64 k/\Hid ((∀ c ∈ cs.take k,c.lv < l/\c.isCan=true)/\Ext w1 wr)) (fun iv _=>cs.length - (intOf iv).toNat)
   case atStart=>exact ⟨0,Nat.zero_le _,rfl,⟨by simp,Ext.refl _⟩⟩
   case round =>
    obtain ⟨k,hk,rfl,⟨iC,hx⟩⟩:=hrel;have BN:=hid iC;have HX:=hid hx;obtain ⟨b0,b1,b2,b3⟩:=eY.out.ext hx (by omega);simp only [Pl.lv,Pl.neg] at b0 b1;have lK:w.heap.size < wr.heap.size:=by have:=hx.size; omega
    by_cases af:k < cs.length
    · obtain ⟨ad,B0,m0,d0,B1,m1,d1,rfl,ah,bF,aV⟩:=jd.kid H4.out k af;have bC:Ext w0 wr:=(ay.out.trans aB.out).trans hx;obtain ⟨e0,e1,e2,e3⟩:=bF.ext bC (by rw [ja]; exact ah);have hsz:=iT.out k af;have HC:=hid (fun W (nZ:Ext wr W)=>IH.out cs[k] _ W hsz aV (bC.trans nZ));have Tq:Hid (l<=cs[k].lv\/cs[k].isCan=false->(Pl.mk l false [] cs).isCan=false):=fun h=>Pl.isCan_bad HL.out (List.getElem_mem af) h
      have SE:Hid (cs[k].lv < l->cs[k].isCan=true->∀ c ∈ cs.take (k+1),c.lv < l/\c.isCan=true):=fun h1 h2 c hc=>by
       rw [List.take_succ_eq_append_getElem af] at hc;rcases List.mem_append.1 hc with hc | hc
       · exact BN.out c hc
       · rw [List.mem_singleton.1 hc]; exact ⟨h1,h2⟩
      generalize cs[k]=ck at *;clear hx iC bF aV ah hsz bC
      by_cases dJ:l<=ck.lv
      · have hq:decide (ck.lv ≥ l)=true:=by simpa using dJ
        go_wp2_with fail;go_ret;exact ⟨by rw [Tq.out (.inl dJ)]; rfl,(aB.out.trans HX.out).alloc _⟩
      · have hq:decide (ck.lv ≥ l)=false:=by simpa using dJ
        go_wp2_with fail;refine (HC.out _ ((Ext.refl _).alloc _)).mono ?_;rintro e w2 ⟨rfl,x2⟩;have X2:Hid (Ext w1 w2):=(HX.out.trans ((Ext.refl _).alloc _)).trans x2;clear x2 HC;cases hci:ck.isCan
        · go_wp2_with fail;go_ret;exact ⟨by rw [Tq.out (.inr hci)]; rfl,aB.out.trans X2.out⟩
        · go_wp2_with fail
          go_roundw
          case rel=>exact ⟨k+1,by omega,by go_num,SE.out (by omega) hci,X2.out⟩
          case measure=>simp [intOf]; omega
    · have bV:k=cs.length:=by omega
      rw [bV,List.take_length] at BN;obtain ⟨j,hj⟩:∃ j:Nat,cs.length=j+1:=⟨cs.length - 1,by omega⟩;have oK:j < cs.length:=by omega
      obtain ⟨ad,B0,m0,d0,B1,m1,d1,rfl,ah,bF,aV⟩:=jd.kid H4.out j oK;have bC:Ext w0 wr:=(ay.out.trans aB.out).trans hx;obtain ⟨e0,e1,e2,e3⟩:=bF.ext bC (by rw [ja]; exact ah);have MK:=hid (aV.ext bC);have bD:Hid ((Pl.mk l false [] cs).isCan=!(cs[j]).isZ):=by
       have h:=Pl.isCan_fin (n:=false) (d:=[]) HL.out HG.out BN.out (by omega);have Ff:cs.length - 1=j:=by omega
       simp only [Ff] at h;exact h
      generalize cs[j]=cj at *;rw [hj] at bV;subst bV;have og:IntKind.i64.wrap (((j+1:Nat):Int) - 1)=j:=by simp [IntKind.wrap,IntKind.bits,IntKind.signed]; omega
      clear hx iC bF aV ah bC;rw [hj];go_wp2_with fail;refine (kad _ _ MK.out).mono ?_;rintro e w2 ⟨rfl,x2⟩;have X2:=hid (HX.out.trans x2);clear x2;go_wp2_with fail;go_ret;exact ⟨by rw [bD.out]; rfl,aB.out.trans X2.out⟩
theorem gbm {w:World} {q:Nat->Prop} (p:Pl) (v:Value) (h:PlV w q p v):Calls Tryz.prog 64 #[v] w fun e w'=>e=.returned (.bool p.isCan)/\Ext w w':=
 ycu w q (p.sz+1) p v w (Nat.lt_succ_self _) h (Ext.refl w)
def zg (q:Nat->Prop) (p:Pl) (w:World) (e:Ending) (w':World):Prop:=∃ v,e=.returned v/\PlV w' q p v/\Ext w w'
theorem Pl.zero_v (w:World) (q:Nat->Prop) (A:Option Addr) (c:Nat) (hc:c<=9223372036854775807):PlV w q Pl.zero (plV Pl.zero (.slice none 0 0) (.slice A 0 c)):=
 PlV.mk (t:=Pl.zero) (c:=c) (jb.nil w) (by simp [Pl.zero,Pl.cs]) hc (by unfold Pl.zero Pl.cs jd; trivial)
def zi (W:World) (q:Nat->Prop) (R:Nat) (l:List Pl):Prop:=
 R < W.heap.size/\(∀ i,W.frozen? ⟨R,i,none⟩=false)/\∀ i (h:i < l.length),∃ A0 n0 c0 A1 n1 c1,vaa W ⟨R,i * 4,none⟩ l[i] (.slice A0 n0 c0) (.slice A1 n1 c1)/\PlV W (fun b=>q b/\b ≠ R) l[i] (plV l[i] (.slice A0 n0 c0) (.slice A1 n1 c1))
section
variable {W W':World} {q q':Nat->Prop} {R:Nat} {l:List Pl}
theorem zi.ext (h:zi W q R l) (hx:Ext W W'):zi W' q R l:=by
 obtain ⟨h1,h2,h3⟩:=h;refine ⟨Nat.lt_of_lt_of_le h1 hx.size,fun i=>(hx.frozen (p:=⟨R,i,none⟩) h1).trans (h2 i),fun i hi=>?_⟩;obtain ⟨A0,n0,c0,A1,n1,c1,h4,h5⟩:=h3 i hi;exact ⟨A0,n0,c0,A1,n1,c1,h4.ext hx h1,h5.ext hx⟩
theorem zi.mono (h:zi W q R l) (hq:∀ b,q b->q' b):zi W q' R l:=by
 obtain ⟨h1,h2,h3⟩:=h;refine ⟨h1,h2,fun i hi=>?_⟩;obtain ⟨A0,n0,c0,A1,n1,c1,h4,h5⟩:=h3 i hi;exact ⟨A0,n0,c0,A1,n1,c1,h4,h5.mono fun b hb=>⟨hq b hb.1,hb.2⟩⟩
theorem zi.fin (h:zi W q R l) (hR:q R):jd W q l (some ⟨R,0,none⟩) 0:=by
 obtain ⟨h1,h2,h3⟩:=h;refine jd.of l _ 0 fun i hi=>?_
 obtain ⟨A0,n0,c0,A1,n1,c1,h4,h5⟩:=h3 i hi;refine ⟨⟨R,0,none⟩,_,_,rfl,h1,hR,?_,h5.mono fun b hb=>hb.1⟩;rw [uq,Nat.zero_add,Nat.zero_add];exact h4
theorem zi.set_ (h:zi W q R l) (k:Nat) (hk:k < l.length) (p:Pl) {A0 A1:Option Addr} {n0 c0 n1 c1:Nat} (hp:PlV W (fun b=>q b/\b ≠ R) p (plV p (.slice A0 n0 c0) (.slice A1 n1 c1))) :
 zi ((((W.setCell ⟨R,k * 4,none⟩ (.int .i64 p.lv)).setCell ⟨R,k * 4+1,none⟩ (.bool p.neg)).setCell ⟨R,k * 4+2,none⟩ (.slice A0 n0 c0)).setCell ⟨R,k * 4+3,none⟩ (.slice A1 n1 c1)) q R (l.set k p) /\
 ∀ v ds,jb W v ds->jb ((((W.setCell ⟨R,k * 4,none⟩ (.int .i64 p.lv)).setCell ⟨R,k * 4+1,none⟩ (.bool p.neg)).setCell ⟨R,k * 4+2,none⟩ (.slice A0 n0 c0)).setCell ⟨R,k * 4+3,none⟩ (.slice A1 n1 c1)) v ds:=by
 obtain ⟨h1,h2,h3⟩:=h;obtain ⟨B0,m0,d0,B1,m1,d1,⟨g0,g1,g2,g3⟩,-⟩:=h3 k hk;simp only at g0 g1 g2 g3;obtain ⟨W1,aP⟩:=n_m (W.setCell ⟨R,k * 4,none⟩ (.int .i64 p.lv));obtain ⟨W2,xM⟩:=n_m (W1.setCell ⟨R,k * 4+1,none⟩ (.bool p.neg));obtain ⟨W3,xK⟩:=n_m (W2.setCell ⟨R,k * 4+2,none⟩ (.slice A0 n0 c0));obtain ⟨W4,Jk⟩:=n_m (W3.setCell ⟨R,k * 4+3,none⟩ (.slice A1 n1 c1));rw [aP,xM,xK,Jk];have e1:∀ i,i ≠ k * 4->W1.cell? ⟨R,i,none⟩=W.cell? ⟨R,i,none⟩:=fun i hi=>by rw [<- aP,World.cell?_setCell_other _ _ _ _ (by intro e; injection e; omega)]
 have e2:∀ i,i ≠ k * 4+1->W2.cell? ⟨R,i,none⟩=W1.cell? ⟨R,i,none⟩:=fun i hi=>by rw [<- xM,World.cell?_setCell_other _ _ _ _ (by intro e; injection e; omega)]
 have e3:∀ i,i ≠ k * 4+2->W3.cell? ⟨R,i,none⟩=W2.cell? ⟨R,i,none⟩:=fun i hi=>by rw [<- xK,World.cell?_setCell_other _ _ _ _ (by intro e; injection e; omega)]
 have e4:∀ i,i ≠ k * 4+3->W4.cell? ⟨R,i,none⟩=W3.cell? ⟨R,i,none⟩:=fun i hi=>by rw [<- Jk,World.cell?_setCell_other _ _ _ _ (by intro e; injection e; omega)]
 have s1:W1.cell? ⟨R,k * 4,none⟩=some (.int .i64 p.lv):=by rw [<- aP]; exact World.cell?_setCell_same _ _ _ g0
 have q1:W1.cell? ⟨R,k * 4+1,none⟩=some (.bool l[k].neg):=(e1 _ (by omega)).trans g1;have s2:W2.cell? ⟨R,k * 4+1,none⟩=some (.bool p.neg):=by rw [<- xM]; exact World.cell?_setCell_same _ _ _ q1
 have q2:W2.cell? ⟨R,k * 4+2,none⟩=some (.slice B0 m0 d0):=((e2 _ (by omega)).trans (e1 _ (by omega))).trans g2;have s3:W3.cell? ⟨R,k * 4+2,none⟩=some (.slice A0 n0 c0):=by rw [<- xK]; exact World.cell?_setCell_same _ _ _ q2
 have q3:W3.cell? ⟨R,k * 4+3,none⟩=some (.slice B1 m1 d1):=((e3 _ (by omega)).trans ((e2 _ (by omega)).trans (e1 _ (by omega)))).trans g3;have s4:W4.cell? ⟨R,k * 4+3,none⟩=some (.slice A1 n1 c1):=by rw [<- Jk]; exact World.cell?_setCell_same _ _ _ q3
 have ak:∀ v ds,jb W v ds->jb W4 v ds:=fun v ds hv=>by
  rw [<- Jk];refine jb.box ?_ q3 rfl _;rw [<- xK];refine jb.box ?_ q2 rfl _;rw [<- xM];refine jb.box ?_ q1 rfl _;rw [<- aP];exact hv.box g0 rfl _
 have bH:∀ b,b ≠ R->W4.heap[b]?=W.heap[b]?:=fun b hb=>by
  rw [<- Jk,<- xK,<- xM,<- aP];rw [Below.heap_setCell _ _ _ b hb,Below.heap_setCell _ _ _ b hb,Below.heap_setCell _ _ _ b hb,Below.heap_setCell _ _ _ b hb]
 have hsz:W4.heap.size=W.heap.size:=by rw [<- Jk,<- xK,<- xM,<- aP]; simp [World.setCell]
 have bu:∀ i,W4.frozen? ⟨R,i,none⟩=false:=fun i=>by rw [<- Jk,<- xK,<- xM,<- aP]; simp only [World.frozen?_setCell]; exact h2 i
 refine ⟨⟨by omega,bu,fun i hi=>?_⟩,ak⟩;rw [List.length_set] at hi;have keep:∀ t v,PlV W (fun b=>q b/\b ≠ R) t v->PlV W4 (fun b=>q b/\b ≠ R) t v:=fun t v ht=>PlV.turn_ (by omega) ak (fun b hb hq=>⟨hq,bH b hq.2⟩) ht
 by_cases kW:i=k
 · subst kW;rw [List.getElem_set_self];refine ⟨A0,n0,c0,A1,n1,c1,⟨?_,?_,?_,s4⟩,keep _ _ hp⟩
   · exact (e4 (i * 4) (by omega)).trans ((e3 (i * 4) (by omega)).trans ((e2 (i * 4) (by omega)).trans s1))
   · exact (e4 (i * 4+1) (by omega)).trans ((e3 (i * 4+1) (by omega)).trans s2)
   · exact (e4 (i * 4+2) (by omega)).trans s3
 · rw [List.getElem_set_ne (Ne.symm kW)];obtain ⟨C0,j0,f0,C1,j1,f1,h4,h5⟩:=h3 i hi;have far:∀ j,j < 4->W4.cell? ⟨R,i * 4+j,none⟩=W.cell? ⟨R,i * 4+j,none⟩:=fun j hj=>(e4 _ (by omega)).trans ((e3 _ (by omega)).trans ((e2 _ (by omega)).trans (e1 _ (by omega))))
   exact ⟨C0,j0,f0,C1,j1,f1,h4.same (far 0 (by omega)) (fun n hn=>far n hn),keep _ _ h5⟩
end
theorem wav:(Tryz.prog.info? 33).map (fun i=>(i.zero,i.size,i.bytes))=some (some (.agg #[.int .i64 0,.bool false,.slice none 0 0,.slice none 0 0]),4,64):=by kernel_rfl
theorem qab (n:Int) (h0:0<=n) (h1:n<=1099511627776) (w:World) :
 ∃ w',(Instr.makeSlice 31 (.int .i64 n) (.int .i64 n)).run Tryz.prog w=.ok (.slice (some ⟨w.heap.size,0,none⟩) n.toNat n.toNat) w'/\Ext w w'/\w'.heap.size=w.heap.size+1/\∀ q,zi w' q w.heap.size (List.replicate n.toNat Pl.zero):=by
 obtain ⟨i0,hi,lh,gK,iU⟩:=info_parts wav;refine ⟨_,run_make w 31 33 i0 _ Tryz.underlying31 hi lh .i64 .i64 n n h0 (by omega) (by rw [iU]; omega) (by omega),(Ext.refl w).alloc _,by simp,fun q=>⟨by simp,fun i=>by simp [go_sem],fun i IA=>?_⟩⟩;rw [List.length_replicate] at IA;have hc:∀ j,j < 4->(w.alloc (.cells (madeCells (Value.agg #[.int .i64 0,.bool false,.slice none 0 0,.slice none 0 0]).cells (n.toNat * i0.size)) 33)).cell? ⟨w.heap.size,i * 4+j,none⟩=#[Value.int .i64 0,.bool false,.slice none 0 0,.slice none 0 0][j]?:=by
  intro j hj;have af:i * 4+j < n.toNat * 4:=by omega
  have Ae:(i * 4+j) % 4=j:=by omega
  rw [cell_of_row _ _ (i * 4+j) _ _ (0,0) (heap_alloc_new w _)];rw [gK];unfold madeCells;rw [Array.getElem?_map,Array.getElem?_range,if_pos af];show some ((#[Value.int .i64 0,.bool false,.slice none 0 0,.slice none 0 0]:Array Value)[(i * 4+j) % 4]!)=_;rw [Ae];rcases (show j=0\/j=1\/j=2\/j=3 by omega) with rfl | rfl | rfl | rfl <;> rfl
 rw [List.getElem_replicate];exact ⟨none,0,0,none,0,0,⟨hc 0 (by omega),hc 1 (by omega),hc 2 (by omega),hc 3 (by omega)⟩,Pl.zero_v _ _ none 0 (by omega)⟩
def uf (w:World) (g:Nat):Prop:=(w.cell? ⟨g,0,none⟩=some (.int .i64 0)/\w.cell? ⟨g,1,none⟩=some (.bool false)/\w.cell? ⟨g,2,none⟩=some (.slice none 0 0)/\w.cell? ⟨g,3,none⟩=some (.slice none 0 0))/\∀ i,w.frozen? ⟨g,i,none⟩=false
theorem uf.ext {w w':World} {g:Nat} (h:uf w g) (hx:Ext w w') (hg:g < w.heap.size):uf w' g:=by
 obtain ⟨⟨h0,h1,h2,h3⟩,h4⟩:=h;have k:∀ i,w'.cell? ⟨g,i,none⟩=w.cell? ⟨g,i,none⟩:=fun i=>hx.cell (p:=⟨g,i,none⟩) hg
 exact ⟨⟨(k _).trans h0,(k _).trans h1,(k _).trans h2,(k _).trans h3⟩,fun i=>(hx.frozen (p:=⟨g,i,none⟩) hg).trans (h4 i)⟩
theorem uf.new (w:World) (T:TypeId):uf (w.alloc (.cells #[.int .i64 0,.bool false,.slice none 0 0,.slice none 0 0] T)) w.heap.size:=by
 refine ⟨⟨?_,?_,?_,?_⟩,fun i=>?_⟩ <;> simp [go_sem]
theorem jg {w W:World} {g:Nat} {p:Pl} {q q':Nat->Prop} {A0 A1:Option Addr} {n0 c0 n1 c1:Nat} (hx:Ext w W) (hg:w.heap.size<=g) (hz:uf W g) (hp:PlV W q p (plV p (.slice A0 n0 c0) (.slice A1 n1 c1))) (hq:∀ b,b < W.heap.size->q b->b ≠ g/\q' b) :
 zg q' p w (.returned (plV p (.slice A0 n0 c0) (.slice A1 n1 c1))) ((((W.setCell ⟨g,0,none⟩ (.int .i64 p.lv)).setCell ⟨g,1,none⟩ (.bool p.neg)).setCell ⟨g,2,none⟩ (.slice A0 n0 c0)).setCell ⟨g,3,none⟩ (.slice A1 n1 c1)):=by
 obtain ⟨⟨z0,z1,z2,z3⟩,-⟩:=hz;refine ⟨_,rfl,?_,(((hx.setCell hg _).setCell hg _).setCell hg _).setCell hg _⟩;refine PlV.turn_ (by simp [World.setCell]) (fun v ds hv=>?_) (fun b af hb=>⟨(hq b af hb).2,?_⟩) hp
 · refine (((hv.box z0 rfl _).box (u:=.bool false) ?_ rfl _).box (u:=.slice none 0 0) ?_ rfl _).box (u:=.slice none 0 0) ?_ rfl _
   · rw [World.cell?_setCell_other _ _ _ _ (by simp)]; exact z1
   · rw [World.cell?_setCell_other _ _ _ _ (by simp),World.cell?_setCell_other _ _ _ _ (by simp)]; exact z2
   · rw [World.cell?_setCell_other _ _ _ _ (by simp),World.cell?_setCell_other _ _ _ _ (by simp),World.cell?_setCell_other _ _ _ _ (by simp)]; exact z3
 · have au:=(hq b af hb).1;rw [Below.heap_setCell _ _ _ b au,Below.heap_setCell _ _ _ b au,Below.heap_setCell _ _ _ b au,Below.heap_setCell _ _ _ b au]
theorem vaf {α:Type} (L l:List α) (k:Nat) (h:L.take k=l.take k) (hL:k < L.length) (hl:k < l.length):(L.set k l[k]).take (k+1)=l.take (k+1):=by
 have h1:k < (L.set k l[k]).length:=by rw [List.length_set]; exact hL
 rw [List.take_succ_eq_append_getElem h1,List.take_succ_eq_append_getElem hl,List.getElem_set_self,List.take_set_of_le (Nat.le_refl _),h]
end Go.Proofs.YtcepajijiabkmaaGreat
