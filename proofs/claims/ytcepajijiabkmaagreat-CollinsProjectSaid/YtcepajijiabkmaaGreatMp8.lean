/- Layer 20: sums of terms as values. -/
import Derived.Test.YtcepajijiabkmaaGreatMp7
set_option linter.unusedSimpArgs false
set_option linter.unusedVariables false

namespace Go.Proofs.YtcepajijiabkmaaGreat
open Lib (hid)
open Go.RowKit
def Cf (w:World) (k:Option Nat) (x:Value) (z:Int):Prop:=match k with
 | none=>ul w x z
 | some L=>jm w x z L
section
variable {w w':World} {k:Option Nat} {x:Value} {z:Int}
theorem Cf.xl (h:Cf w k x z) (hn:∀ v ds,jc w v ds->jc w' v ds):Cf w' k x z:=by
 cases k with
 | none=>obtain ⟨v,e,hv⟩:=h; exact ⟨v,e,hn _ _ hv⟩
 | some L=>obtain ⟨neg,v,ds,e,hv,h1,h2⟩:=h; exact ⟨neg,v,ds,e,hn _ _ hv,h1,h2⟩
theorem Cf.ext (h:Cf w k x z) (hx:Ext w w'):Cf w' k x z:=h.xl fun _ _ hv=>hv.ext hx
theorem Cf.unpack (h:Cf w k x z):∃ b A n c,x=.agg #[.bool b,.slice A n c]:=by
 cases k with
 | none=>exact ul.unpack h
 | some L=>exact jm.unpack h
theorem Cf.raw (h:Cf w k x z):jm w x z (k.getD (dg z.natAbs).length):=by
 cases k with
 | none=>exact ul.raw h
 | some L=>exact h
end
def tmC (b:Bool) (s:Value) (m:Mo):List Value:=[.bool b,s,.int .i64 m.a,.int .i64 m.b,.int .i64 m.c,.int .i64 m.d]
def kal (w:World) (ad:Addr) (b:Bool) (s:Value) (m:Mo):Prop:=
 w.cell? ad=some (.bool b)/\w.cell? ⟨ad.block,ad.off+1,none⟩=some s/\w.cell? ⟨ad.block,ad.off+2,none⟩=some (.int .i64 m.a)/\w.cell? ⟨ad.block,ad.off+3,none⟩=some (.int .i64 m.b)/\w.cell? ⟨ad.block,ad.off+4,none⟩=some (.int .i64 m.c)/\w.cell? ⟨ad.block,ad.off+5,none⟩=some (.int .i64 m.d)
theorem kal.same {w w':World} {ad:Addr} {b:Bool} {s:Value} {m:Mo} (h:kal w ad b s m) (k0:w'.cell? ad=w.cell? ad) (k:∀ n,n < 6->w'.cell? ⟨ad.block,ad.off+n,none⟩=w.cell? ⟨ad.block,ad.off+n,none⟩):kal w' ad b s m:=by
 obtain ⟨h0,h1,h2,h3,h4,h5⟩:=h;exact ⟨k0.trans h0,(k 1 (by omega)).trans h1,(k 2 (by omega)).trans h2,(k 3 (by omega)).trans h3,(k 4 (by omega)).trans h4,(k 5 (by omega)).trans h5⟩
theorem kal.ext {w w':World} {ad:Addr} {b:Bool} {s:Value} {m:Mo} (h:kal w ad b s m) (hx:Ext w w') (hb:ad.block < w.heap.size):kal w' ad b s m:=h.same (hx.cell hb) (fun n _=>hx.cell (p:=⟨ad.block,ad.off+n,none⟩) hb)
def gaq (w:World) (k:Option Nat) (A:Option Addr) (l:Sp):Prop:=
 ∀ i (h:i < l.length),∃ ad b B n c,A=some ad/\ad.block < w.heap.size/\kal w (ad.add (i * 6)) b (.slice B n c) l[i].2/\Cf w k (.agg #[.bool b,.slice B n c]) l[i].1
def SpV (w:World) (k:Option Nat) (v:Value) (l:Sp):Prop:=∃ A c,v=.slice A l.length c/\l.length<=c/\c<=9223372036854775807/\gaq w k A l
theorem gaq.ext {w w':World} {k:Option Nat} {A:Option Addr} {l:Sp} (h:gaq w k A l) (hx:Ext w w'):gaq w' k A l:=by
 intro i hi;obtain ⟨ad,b,B,n,c,e,hb,h1,h2⟩:=h i hi;exact ⟨ad,b,B,n,c,e,pw hb hx.size,h1.ext hx (by rw [ja]; exact hb),h2.ext hx⟩
theorem SpV.ext {w w':World} {k:Option Nat} {v:Value} {l:Sp} (h:SpV w k v l) (hx:Ext w w'):SpV w' k v l:=by
 obtain ⟨A,c,e,h1,h2,h3⟩:=h;exact ⟨A,c,e,h1,h2,h3.ext hx⟩
theorem wcn:(Tryz.prog.info? 76).map (fun i=>(i.zero,i.size,i.bytes))=some (some (.agg #[.bool false,.slice none 0 0,.int .i64 0,.int .i64 0,.int .i64 0,.int .i64 0]),6,64):=by kernel_rfl
theorem qcs : jao 23 76 6 64 (.agg #[.bool false, .slice none 0 0, .int .i64 0, .int .i64 0, .int .i64 0, .int .i64 0]) where
 und:=Tryz.underlying23
 info:=wcn
 cells:=rfl
 pos:=by omega
 nodig:=by
  intro u hu;simp only [Value.cells] at hu;simp only [pQ,sM,or_false] at hu;rcases hu with rfl | rfl | rfl | rfl | rfl | rfl <;> rfl
def yao (rs:List (Bool × Value × Int × Mo)):List Value:=rs.flatMap fun r=>tmC r.1 r.2.1 r.2.2.2
theorem ybz (a b:List (Bool × Value × Int × Mo)):yao (a ++ b)=yao a ++ yao b:=by simp [yao]
theorem uax (rs:List (Bool × Value × Int × Mo)) (k:Nat) (hk:k < rs.length) (j:Nat) (hj:j < 6):(yao rs)[k * 6+j]?=(tmC rs[k].1 rs[k].2.1 rs[k].2.2.2)[j]?:=by
 induction rs generalizing k with
 | nil=>simp at hk
 | cons r rs ih =>
   have hl:(tmC r.1 r.2.1 r.2.2.2).length=6:=rfl;simp only [yao,th];cases k with
   | zero=>simp only [sY,rh,tT]; rw [List.getElem?_append_left (by omega)]
   | succ k =>
     rw [List.getElem?_append_right (by omega),hl,show (k+1) * 6+j - 6=k * 6+j by omega];exact ih k (by simpa using hk)
def TsV (k:Option Nat) (base:Nat) (W:World) (v:Value) (l:Sp):Prop:=
 ∃ rs:List (Bool × Value × Int × Mo),rs.map (fun r=>r.2.2)=l/\yl 76 6 base W v rs.length (yao rs)/\∀ r ∈ rs,Cf W k (.agg #[.bool r.1,r.2.1]) r.2.2.1
section
variable {k:Option Nat} {base base':Nat} {W W':World} {v:Value} {l:Sp}
theorem TsV.nil (k:Option Nat) (base:Nat) (W:World):TsV k base W (.slice none 0 0) []:=⟨[],rfl,yl.nil _ _ _ _,by simp⟩
theorem TsV.own (h:TsV k base W v l) {R:Nat} (hR:v.ownBlock=some R):base<=R/\R < W.heap.size:=by
 obtain ⟨rs,-,h2,-⟩:=h;exact h2.own hR
theorem TsV.len (h:TsV k base W v l):∃ A c,v=.slice A l.length c/\l.length<=c/\c<=9223372036854775807:=by
 obtain ⟨rs,rfl,h2,-⟩:=h;rw [px];exact h2.len
theorem TsV.xl (h:TsV k base W v l) (hb:∀ R,v.ownBlock=some R->W'.heap[R]?=W.heap[R]?) (hn:∀ v ds,jc W v ds->jc W' v ds):TsV k base W' v l:=by
 obtain ⟨rs,e,h2,h3⟩:=h;exact ⟨rs,e,h2.xl hb,fun r hr=>(h3 r hr).xl hn⟩
theorem TsV.ext (h:TsV k base W v l) (hx:Ext W W'):TsV k base W' v l:=h.xl (fun R hR=>hx.below.block R (h.own hR).2) (fun _ _ hv=>hv.ext hx)
theorem TsV.sp (h:TsV k base W v l):SpV W k v l:=by
 obtain ⟨A,c,e,h1,h2⟩:=h.len;obtain ⟨rs,rfl,hr,h3⟩:=h;refine ⟨A,c,e,h1,h2,fun i hi=>?_⟩;rw [px] at hi;obtain ⟨g,c',e',-,-,-,af,-⟩:=hr.pos (by omega);rw [e] at e';injection e' with e1 e2 e3
 subst e1 e3;subst e;rw [px] at hr;have aj:∀ j,j < 6->W.cell? ⟨g,i * 6+j,none⟩=(tmC rs[i].1 rs[i].2.1 rs[i].2.2.2)[j]?:=by
  intro j hj;rw [hr.cell (i * 6+j) (by omega)];exact uax rs i hi j hj
 have hc:=h3 rs[i] (pt hi);obtain ⟨b,B,n,c'',e2⟩:=hc.unpack;simp only [tm,tD,so,and_true,Value.bool.injEq] at e2;obtain ⟨rfl,e3⟩:=e2;refine ⟨_,rs[i].1,B,n,c'',rfl,af,?_,?_⟩
 · rw [zu,rh,rK,<- e3];exact ⟨aj 0 (by omega),aj 1 (by omega),aj 2 (by omega),aj 3 (by omega),aj 4 (by omega),aj 5 (by omega)⟩
 · rw [rK,<- e3]; exact hc
end
theorem TsV.push {k:Option Nat} {base:Nat} {W:World} {v:Value} {l:Sp} {b:Bool} {s:Value} {z:Int} (h:TsV k base W v l) (dh:base<=W.heap.size) (hc:Cf W k (.agg #[.bool b,s]) z) (m:Mo) (hlen:l.length < 1099511627776) (ty:TypeId) :
 ∃ v4 w4,(Builtin.append_ #[23,23] ty #[v,.slice (some ⟨W.heap.size,0,none⟩) 1 1]).run Tryz.prog (W.alloc (.cells #[.bool b,s,.int .i64 m.a,.int .i64 m.b,.int .i64 m.c,.int .i64 m.d] 76))=.ok v4 w4/\TsV k base w4 v4 (l ++ [(z,m)])/\W.grownBy w4 v.ownBlock/\(∀ v ds,jc W v ds->jc w4 v ds)/\(v4.ownBlock=v.ownBlock\/v4.ownBlock=some (W.heap.size+1)):=by
 obtain ⟨rs,rfl,h2,h3⟩:=h;rw [px] at hlen;obtain ⟨b',B,n,c,e⟩:=hc.unpack;simp only [tm,tD,so,and_true,Value.bool.injEq] at e;obtain ⟨rfl,rfl⟩:=e;obtain ⟨v4,w4,e,r1,r2,r3,r4⟩:=h2.push qcs dh (tmC b (.slice B n c) m) rfl (by
  intro u hu;simp only [tmC,pQ,sM,or_false] at hu
  rcases hu with rfl | rfl | rfl | rfl | rfl | rfl <;> exact ⟨rfl,rfl⟩) (by omega) (by omega) ty
 refine ⟨v4,w4,e,⟨rs ++ [(b,.slice B n c,z,m)],by simp,?_,fun r hr=>?_⟩,r2,r3,r4⟩
 · rw [ybz,ra];exact r1
 · rcases rj.1 hr with hr | hr
   · exact (h3 r hr).xl r3
   · obtain rfl:r=(b,.slice B n c,z,m):=by simpa using hr
     exact hc.xl r3
def vw (w:World) (g:Nat) (m:Mo):Prop:=
 w.cell? ⟨g,0,none⟩=some (.int .i64 m.a)/\w.cell? ⟨g,1,none⟩=some (.int .i64 m.b)/\w.cell? ⟨g,2,none⟩=some (.int .i64 m.c)/\w.cell? ⟨g,3,none⟩=some (.int .i64 m.d)
theorem vw.xl {w w':World} {g:Nat} {m:Mo} (h:vw w g m) (hb:w'.heap[g]?=w.heap[g]?):vw w' g m:=by
 obtain ⟨h0,h1,h2,h3⟩:=h;have k:∀ i,w'.cell? ⟨g,i,none⟩=w.cell? ⟨g,i,none⟩:=fun i=>pB (a:=⟨g,i,none⟩) hb
 exact ⟨(k _).trans h0,(k _).trans h1,(k _).trans h2,(k _).trans h3⟩
theorem vw.ext {w w':World} {g:Nat} {m:Mo} (h:vw w g m) (hx:Ext w w') (hg:g < w.heap.size):vw w' g m:=h.xl (hx.below.block g hg)
theorem vw.new (w:World) (m:Mo) (T:TypeId):vw (w.alloc (.cells #[.int .i64 m.a,.int .i64 m.b,.int .i64 m.c,.int .i64 m.d] T)) w.heap.size m:=by
 refine ⟨?_,?_,?_,?_⟩ <;> simp [go_sem]
end Go.Proofs.YtcepajijiabkmaaGreat

set_option maxRecDepth 100000
set_option maxHeartbeats 8000000
namespace Go.Proofs.YtcepajijiabkmaaGreat
open Lib (hid)
open Go.RowKit
theorem uay (l:Int) (w:World):Calls Tryz.prog 50 #[.int .i64 l] w fun e w'=>e=.returned (.bool (decide (1<=l) && decide (l<=4)))/\w'=w:=by
 by_cases h:1<=l
 · go_enter Tryz.func50,Tryz.ntmps50;go_wp2_with fail;go_ret;simp [h]
 · go_enter Tryz.func50,Tryz.ntmps50;go_wp2_with fail;go_ret;have h':l < 1:=by omega
   simp [h]; omega
theorem jae {w:World} {q:Nat->Prop} (p:Pl) (v:Value) (h:PlV w q p v):Calls Tryz.prog 49 #[v] w fun e w'=>e=.returned (.bool p.zp)/\Ext w w':=by
 obtain ⟨A0,n0,c0,A,c,rfl,⟨YW,c0',e,-,-,-⟩,dP,dC,h4⟩:=h.open_;injection e with e1 e2 e3
 subst e1 e2 e3;have HX:Hid (∀ o,Ext w (w.alloc o)):=fun o=>(Ext.refl w).alloc o
 unfold plV Pl.zp;clear h h4
 by_cases hl:p.lv=0
 · go_enter Tryz.func49,Tryz.ntmps49;go_wp2_with fail;go_ret;exact ⟨by simp [hl]; cases p.ds <;> simp <;> omega,HX.out _⟩
 · go_enter Tryz.func49,Tryz.ntmps49;go_wp2_with fail;go_ret;exact ⟨by simp [hl],HX.out _⟩
def vc9 (w0:World) (q:Nat->Prop) (n:Nat):Prop:=∀ (p:Pl) (v:Value) (w:World),p.sz < n->PlV w0 q p v->Ext w0 w->Calls Tryz.prog 64 #[v] w fun e w'=>e=.returned (.bool p.xL)/\Ext w w'
theorem xcf {w0 w:World} {q:Nat->Prop} (p:Pl) (v:Value) (h:PlV w0 q p v) (aC:Ext w0 w) (hl:p.lv=0):Calls Tryz.prog 64 #[v] w fun e w'=>e=.returned (.bool p.xL)/\Ext w w':=by
 obtain ⟨A0,n0,c0,A,c,rfl,⟨YW,c0',e,eH,uF,hd⟩,dP,dC,h4⟩:=h.open_;injection e with e1 e2 e3
 subst e1 e2 e3;obtain ⟨l,ng,ds,cs⟩:=p
 change l=0 at hl
 subst hl;have HX:Hid (∀ o,Ext w (w.alloc o)):=fun o=>(Ext.refl w).alloc o
 have PP:Hid (uj (w.alloc (.cells #[.int .i64 0,.bool ng,.slice A0 ds.length c0,.slice A cs.length c] 33)) A0 ds):=hd.ext (aC.trans ((Ext.refl w).alloc _));simp only [Pl.cs,Pl.ds,Pl.lv,Pl.neg,plV] at *;clear h h4 hd
 by_cases hc:0 < cs.length
 · have HF:Hid ((Pl.mk 0 ng ds cs).xL=false):=by
    have:(Pl.mk 0 ng ds cs).xL=false:=by rw [Pl.xL,if_pos rfl,if_pos hc]
    exact this
   go_enter Tryz.func64,Tryz.ntmps64;go_wp2_with fail;go_ret;exact ⟨by rw [HF.out]; rfl,HX.out _⟩
 · have HF:Hid ((Pl.mk 0 ng ds cs).xL=((decide (ds.length=0) && !ng) || (decide (0 < ds.length) && decide (ds.getLast? ≠ some 0)))):=by
    have:(Pl.mk 0 ng ds cs).xL=((decide (ds.length=0) && !ng) || (decide (0 < ds.length) && decide (ds.getLast? ≠ some 0))):=by rw [Pl.xL,if_pos rfl,if_neg hc]
    exact this
   by_cases zB:0 < ds.length
   · obtain ⟨ad,x,rfl,hb,aj,hx,HG⟩:=PP.out.xS (ds.length - 1) (by omega);obtain ⟨k,hk⟩:∃ k:Nat,ds.length - 1=k:=⟨_,rfl⟩;have hk2:ds.length=k+1:=by omega
     rw [hk] at aj HG;have YM:Hid (ds.getLast?=some x):=by
      have:ds.getLast?=some x:=by rw [sC,hk]; exact HG.out
      exact this
     generalize ds.length=N at *;subst hk2;have jL:IntKind.i64.wrap (((k+1:Nat):Int) - 1)=k:=by simp [IntKind.wrap,IntKind.bits,IntKind.signed]; omega
     go_enter Tryz.func64,Tryz.ntmps64;go_wp2_with fail;go_ret;exact ⟨by rw [HF.out,YM.out]; simp; by_cases aC:x=0 <;> simp [aC] <;> omega,HX.out _⟩
   · have hN:ds.length=0:=by omega
     rw [hN] at HF PP;rw [hN];cases ng
     · go_enter Tryz.func64,Tryz.ntmps64;go_wp2_with fail;go_ret;exact ⟨by rw [HF.out]; rfl,HX.out _⟩
     · go_enter Tryz.func64,Tryz.ntmps64;go_wp2_with fail;go_ret;exact ⟨by rw [HF.out]; rfl,HX.out _⟩
theorem kcx (w0:World) (q:Nat->Prop) (n:Nat):vc9 w0 q n:=by
 induction n with
 | zero=>intro p v w h; omega
 | succ n ih =>
 intro p v w hn h aC
 by_cases hl:p.lv=0
 · exact xcf p v h aC hl
 obtain ⟨A0,n0,c0,A,c,rfl,⟨YW,c0',e,eH,uF,hd⟩,dP,dC,h4⟩:=h.open_;injection e with e1 e2 e3
 subst e1 e2 e3;obtain ⟨l,ng,ds,cs⟩:=p;simp only [Pl.cs,Pl.ds,Pl.lv,Pl.neg,plV] at *;have IH:=hid ih;have H4:=hid h4;have ay:=hid aC;have jD:Hid (∀ k (hk:k < cs.length),cs[k].sz < n):=by
  have:∀ k (hk:k < cs.length),cs[k].sz < n:=fun k hk=>by
   have h1:=yal (pt hk);have h2:(Pl.mk l ng ds cs).sz=vk cs+1:=by rw [Pl.sz]
   omega
  exact this
 clear h h4 hd ih aC;obtain ⟨W,hW⟩:=n_m (w.alloc (.cells #[.int .i64 l,.bool ng,.slice A0 ds.length c0,.slice A cs.length c] 33));have ai:Ext w W:=by rw [<- hW]; exact (Ext.refl w).alloc _
 have dG:W.heap.size=w.heap.size+1:=by rw [<- hW]; simp
 have bV:jb W w.heap.size (.mk l ng ds cs) (.slice A0 ds.length c0) (.slice A cs.length c):=by rw [<- hW]; exact jb.new w (.mk l ng ds cs) _ _ _
 have aG:=hid ai;have kL:=hid bV;obtain ⟨b0,b1,b2,b3⟩:=bV;simp only [Pl.lv,Pl.neg] at b0 b1;have lV:(l == 0)=false:=by simpa using hl
 by_cases hg:(l < 1\/4 < l)\/0 < ds.length\/ng=true\/cs.length < 2
 · have HF:Hid ((Pl.mk l ng ds cs).xL=false):=by
    have:(Pl.mk l ng ds cs).xL=false:=by rw [Pl.xL,if_neg hl,if_pos hg]
    exact this
   clear ai;go_enter Tryz.func64,Tryz.ntmps64;go_wp2_with fail;refine (uay l _).mono ?_;rintro e w1 ⟨rfl,rfl⟩
   by_cases jT:1<=l/\l<=4
   · have dR:(decide (1<=l) && decide (l<=4))=true:=by simp [jT]
     rw [dR]
     by_cases sO:0 < ds.length
     · have nT:decide ((ds.length:Int) > 0)=true:=decide_eq_true (by omega);go_wp2_with fail;go_ret;exact ⟨by rw [HF.out]; rfl,aG.out⟩
     · obtain rfl:ds=[]:=rL (by omega);simp only [r8] at *;cases ng
       · have KJ:decide ((cs.length:Int) < 2)=true:=decide_eq_true (by
          have:cs.length < 2:=by
           rcases hg with h | h | h | h
           · omega
           · exact absurd h (by decide)
           · cases h
           · exact h
          omega)
         go_wp2_with fail;go_ret;exact ⟨by rw [HF.out]; rfl,aG.out⟩
       · go_wp2_with fail;go_ret;exact ⟨by rw [HF.out]; rfl,aG.out⟩
   · have dR:(decide (1<=l) && decide (l<=4))=false:=by simp at jT ⊢; omega
     rw [dR];go_wp2_with fail;go_ret;exact ⟨by rw [HF.out]; rfl,aG.out⟩
 · have dR:(decide (1<=l) && decide (l<=4))=true:=by simp; omega
   obtain rfl:ds=[]:=rL (by omega);have rZ:ng=false:=by
    cases ng
    · rfl
    · exact absurd (.inr (.inr (.inl rfl))) hg
   have KJ:decide ((cs.length:Int) < 2)=false:=decide_eq_false (by omega);have hlen:2<=cs.length:=by omega
   have HG:=hid hg;have HL:=hid hl;subst rZ;clear ai hg;simp only [r8] at *;go_enter Tryz.func64,Tryz.ntmps64;go_wp2_with fail;refine (uay l _).mono ?_;rintro e w1 ⟨rfl,rfl⟩;rw [dR];go_wp2_with fail;clear hW b0 b1 b2 b3
   go_loopw [63] (fun iv wr=>∃ k:Nat,k<=cs.length/\iv=.int .i64 k/\Hid ((∀ c ∈ cs.take k,c.lv < l/\c.xL=true)/\Ext w1 wr)) (fun iv _=>cs.length - (intOf iv).toNat)
   case atStart=>exact ⟨0,pS _,rfl,⟨by simp,Ext.refl _⟩⟩
   case round =>
    obtain ⟨k,hk,rfl,⟨iU,hx⟩⟩:=hrel;have DT:=hid iU;have HX:=hid hx;obtain ⟨b0,b1,b2,b3⟩:=kL.out.ext hx (by omega);simp only [Pl.lv,Pl.neg] at b0 b1;have oz:w.heap.size < wr.heap.size:=by have:=hx.size; omega
    by_cases af:k < cs.length
    · obtain ⟨ad,B0,m0,d0,B1,m1,d1,rfl,ah,bP,bC⟩:=jd.ym H4.out k af;have bQ:Ext w0 wr:=(ay.out.trans aG.out).trans hx;obtain ⟨e0,e1,e2,e3⟩:=bP.ext bQ (by rw [ja]; exact ah);have hsz:=jD.out k af;have HC:=hid (fun W (qI:Ext wr W)=>IH.out cs[k] _ W hsz bC (bQ.trans qI));have WB:Hid (l<=cs[k].lv\/cs[k].xL=false->(Pl.mk l false [] cs).xL=false):=fun h=>Pl.Vi HL.out (pt af) h
      have VY:Hid (cs[k].lv < l->cs[k].xL=true->∀ c ∈ cs.take (k+1),c.lv < l/\c.xL=true):=fun h1 h2 c hc=>by
       rw [pC af] at hc;rcases rj.1 hc with hc | hc
       · exact DT.out c hc
       · rw [pD.1 hc]; exact ⟨h1,h2⟩
      generalize cs[k]=ck at *;clear hx iU bP bC ah hsz bQ
      by_cases fC:l<=ck.lv
      · have hq:decide (ck.lv ≥ l)=true:=by simpa using fC
        go_wp2_with fail;go_ret;exact ⟨by rw [WB.out (.inl fC)]; rfl,(aG.out.trans HX.out).alloc _⟩
      · have hq:decide (ck.lv ≥ l)=false:=by simpa using fC
        go_wp2_with fail;refine (HC.out _ ((Ext.refl _).alloc _)).mono ?_;rintro e w2 ⟨rfl,x2⟩;have X2:Hid (Ext w1 w2):=(HX.out.trans ((Ext.refl _).alloc _)).trans x2;clear x2 HC;cases hci:ck.xL
        · go_wp2_with fail;go_ret;exact ⟨by rw [WB.out (.inr hci)]; rfl,aG.out.trans X2.out⟩
        · go_wp2_with fail
          go_roundw
          case rel=>exact ⟨k+1,by omega,by go_num,VY.out (by omega) hci,X2.out⟩
          case measure=>simp [intOf]; omega
    · have df:k=cs.length:=by omega
      rw [df,pP] at DT;obtain ⟨j,hj⟩:∃ j:Nat,cs.length=j+1:=⟨cs.length - 1,by omega⟩;have qR:j < cs.length:=by omega
      obtain ⟨ad,B0,m0,d0,B1,m1,d1,rfl,ah,bP,bC⟩:=jd.ym H4.out j qR;have bQ:Ext w0 wr:=(ay.out.trans aG.out).trans hx;obtain ⟨e0,e1,e2,e3⟩:=bP.ext bQ (by rw [ja]; exact ah);have PG:=hid (bC.ext bQ);have bT:Hid ((Pl.mk l false [] cs).xL=!(cs[j]).zp):=by
       have h:=Pl.Vc (n:=false) (d:=[]) HL.out HG.out DT.out (by omega);have Hz:cs.length - 1=j:=by omega
       simp only [Hz] at h;exact h
      generalize cs[j]=cj at *;rw [hj] at df;subst df;have jL:IntKind.i64.wrap (((j+1:Nat):Int) - 1)=j:=by simp [IntKind.wrap,IntKind.bits,IntKind.signed]; omega
      clear hx iU bP bC ah bQ;rw [hj];go_wp2_with fail;refine (jae _ _ PG.out).mono ?_;rintro e w2 ⟨rfl,x2⟩;have X2:=hid (HX.out.trans x2);clear x2;go_wp2_with fail;go_ret;exact ⟨by rw [bT.out]; rfl,aG.out.trans X2.out⟩
theorem kbp {w:World} {q:Nat->Prop} (p:Pl) (v:Value) (h:PlV w q p v):Calls Tryz.prog 64 #[v] w fun e w'=>e=.returned (.bool p.xL)/\Ext w w':=
 kcx w q (p.sz+1) p v w (tx _) h (Ext.refl w)
def uf (q:Nat->Prop) (p:Pl) (w:World) (e:Ending) (w':World):Prop:=∃ v,e=.returned v/\PlV w' q p v/\Ext w w'
theorem Pl.xt (w:World) (q:Nat->Prop) (A:Option Addr) (c:Nat) (hc:c<=9223372036854775807):PlV w q Pl.zero (plV Pl.zero (.slice none 0 0) (.slice A 0 c)):=
 PlV.mk (t:=Pl.zero) (c:=c) (jc.nil w) (by simp [Pl.zero,Pl.cs]) hc (by unfold Pl.zero Pl.cs jd; trivial)
def xh (W:World) (q:Nat->Prop) (R:Nat) (l:List Pl):Prop:=
 R < W.heap.size/\(∀ i,W.frozen? ⟨R,i,none⟩=false)/\∀ i (h:i < l.length),∃ A0 n0 c0 A1 n1 c1,zx W ⟨R,i * 4,none⟩ l[i] (.slice A0 n0 c0) (.slice A1 n1 c1)/\PlV W (fun b=>q b/\b ≠ R) l[i] (plV l[i] (.slice A0 n0 c0) (.slice A1 n1 c1))
section
variable {W W':World} {q q':Nat->Prop} {R:Nat} {l:List Pl}
theorem xh.ext (h:xh W q R l) (hx:Ext W W'):xh W' q R l:=by
 obtain ⟨h1,h2,h3⟩:=h;refine ⟨pw h1 hx.size,fun i=>(hx.frozen (p:=⟨R,i,none⟩) h1).trans (h2 i),fun i hi=>?_⟩;obtain ⟨A0,n0,c0,A1,n1,c1,h4,h5⟩:=h3 i hi;exact ⟨A0,n0,c0,A1,n1,c1,h4.ext hx h1,h5.ext hx⟩
theorem xh.mono (h:xh W q R l) (hq:∀ b,q b->q' b):xh W q' R l:=by
 obtain ⟨h1,h2,h3⟩:=h;refine ⟨h1,h2,fun i hi=>?_⟩;obtain ⟨A0,n0,c0,A1,n1,c1,h4,h5⟩:=h3 i hi;exact ⟨A0,n0,c0,A1,n1,c1,h4,h5.mono fun b hb=>⟨hq b hb.1,hb.2⟩⟩
theorem xh.fin (h:xh W q R l) (hR:q R):jd W q l (some ⟨R,0,none⟩) 0:=by
 obtain ⟨h1,h2,h3⟩:=h;refine jd.of l _ 0 fun i hi=>?_
 obtain ⟨A0,n0,c0,A1,n1,c1,h4,h5⟩:=h3 i hi;refine ⟨⟨R,0,none⟩,_,_,rfl,h1,hR,?_,h5.mono fun b hb=>hb.1⟩;rw [zu,rh,rh];exact h4
theorem xh.xD (h:xh W q R l) (k:Nat) (hk:k < l.length) (p:Pl) {A0 A1:Option Addr} {n0 c0 n1 c1:Nat} (hp:PlV W (fun b=>q b/\b ≠ R) p (plV p (.slice A0 n0 c0) (.slice A1 n1 c1))) :
 xh ((((W.setCell ⟨R,k * 4,none⟩ (.int .i64 p.lv)).setCell ⟨R,k * 4+1,none⟩ (.bool p.neg)).setCell ⟨R,k * 4+2,none⟩ (.slice A0 n0 c0)).setCell ⟨R,k * 4+3,none⟩ (.slice A1 n1 c1)) q R (l.set k p) /\
 ∀ v ds,jc W v ds->jc ((((W.setCell ⟨R,k * 4,none⟩ (.int .i64 p.lv)).setCell ⟨R,k * 4+1,none⟩ (.bool p.neg)).setCell ⟨R,k * 4+2,none⟩ (.slice A0 n0 c0)).setCell ⟨R,k * 4+3,none⟩ (.slice A1 n1 c1)) v ds:=by
 obtain ⟨h1,h2,h3⟩:=h;obtain ⟨B0,m0,d0,B1,m1,d1,⟨g0,g1,g2,g3⟩,-⟩:=h3 k hk;simp only at g0 g1 g2 g3;obtain ⟨W1,aV⟩:=n_m (W.setCell ⟨R,k * 4,none⟩ (.int .i64 p.lv));obtain ⟨W2,zK⟩:=n_m (W1.setCell ⟨R,k * 4+1,none⟩ (.bool p.neg));obtain ⟨W3,zJ⟩:=n_m (W2.setCell ⟨R,k * 4+2,none⟩ (.slice A0 n0 c0));obtain ⟨W4,LD⟩:=n_m (W3.setCell ⟨R,k * 4+3,none⟩ (.slice A1 n1 c1));rw [aV,zK,zJ,LD];have e1:∀ i,i ≠ k * 4->W1.cell? ⟨R,i,none⟩=W.cell? ⟨R,i,none⟩:=fun i hi=>by rw [<- aV,ph _ _ _ _ (by intro e; injection e; omega)]
 have e2:∀ i,i ≠ k * 4+1->W2.cell? ⟨R,i,none⟩=W1.cell? ⟨R,i,none⟩:=fun i hi=>by rw [<- zK,ph _ _ _ _ (by intro e; injection e; omega)]
 have e3:∀ i,i ≠ k * 4+2->W3.cell? ⟨R,i,none⟩=W2.cell? ⟨R,i,none⟩:=fun i hi=>by rw [<- zJ,ph _ _ _ _ (by intro e; injection e; omega)]
 have e4:∀ i,i ≠ k * 4+3->W4.cell? ⟨R,i,none⟩=W3.cell? ⟨R,i,none⟩:=fun i hi=>by rw [<- LD,ph _ _ _ _ (by intro e; injection e; omega)]
 have s1:W1.cell? ⟨R,k * 4,none⟩=some (.int .i64 p.lv):=by rw [<- aV]; exact pN _ _ _ g0
 have q1:W1.cell? ⟨R,k * 4+1,none⟩=some (.bool l[k].neg):=(e1 _ (by omega)).trans g1;have s2:W2.cell? ⟨R,k * 4+1,none⟩=some (.bool p.neg):=by rw [<- zK]; exact pN _ _ _ q1
 have q2:W2.cell? ⟨R,k * 4+2,none⟩=some (.slice B0 m0 d0):=((e2 _ (by omega)).trans (e1 _ (by omega))).trans g2;have s3:W3.cell? ⟨R,k * 4+2,none⟩=some (.slice A0 n0 c0):=by rw [<- zJ]; exact pN _ _ _ q2
 have q3:W3.cell? ⟨R,k * 4+3,none⟩=some (.slice B1 m1 d1):=((e3 _ (by omega)).trans ((e2 _ (by omega)).trans (e1 _ (by omega)))).trans g3;have s4:W4.cell? ⟨R,k * 4+3,none⟩=some (.slice A1 n1 c1):=by rw [<- LD]; exact pN _ _ _ q3
 have au:∀ v ds,jc W v ds->jc W4 v ds:=fun v ds hv=>by
  rw [<- LD];refine jc.box ?_ q3 rfl _;rw [<- zJ];refine jc.box ?_ q2 rfl _;rw [<- zK];refine jc.box ?_ q1 rfl _;rw [<- aV];exact hv.box g0 rfl _
 have cO:∀ b,b ≠ R->W4.heap[b]?=W.heap[b]?:=fun b hb=>by
  rw [<- LD,<- zJ,<- zK,<- aV];rw [Below.heap_setCell _ _ _ b hb,Below.heap_setCell _ _ _ b hb,Below.heap_setCell _ _ _ b hb,Below.heap_setCell _ _ _ b hb]
 have hsz:W4.heap.size=W.heap.size:=by rw [<- LD,<- zJ,<- zK,<- aV]; simp [World.setCell]
 have bG:∀ i,W4.frozen? ⟨R,i,none⟩=false:=fun i=>by rw [<- LD,<- zJ,<- zK,<- aV]; simp only [rm]; exact h2 i
 refine ⟨⟨by omega,bG,fun i hi=>?_⟩,au⟩;rw [pH] at hi;have keep:∀ t v,PlV W (fun b=>q b/\b ≠ R) t v->PlV W4 (fun b=>q b/\b ≠ R) t v:=fun t v ht=>PlV.zd (by omega) au (fun b hb hq=>⟨hq,cO b hq.2⟩) ht
 by_cases nG:i=k
 · subst nG;rw [rR];refine ⟨A0,n0,c0,A1,n1,c1,⟨?_,?_,?_,s4⟩,keep _ _ hp⟩
   · exact (e4 (i * 4) (by omega)).trans ((e3 (i * 4) (by omega)).trans ((e2 (i * 4) (by omega)).trans s1))
   · exact (e4 (i * 4+1) (by omega)).trans ((e3 (i * 4+1) (by omega)).trans s2)
   · exact (e4 (i * 4+2) (by omega)).trans s3
 · rw [sX (Ne.symm nG)];obtain ⟨C0,j0,f0,C1,j1,f1,h4,h5⟩:=h3 i hi;have far:∀ j,j < 4->W4.cell? ⟨R,i * 4+j,none⟩=W.cell? ⟨R,i * 4+j,none⟩:=fun j hj=>(e4 _ (by omega)).trans ((e3 _ (by omega)).trans ((e2 _ (by omega)).trans (e1 _ (by omega))))
   exact ⟨C0,j0,f0,C1,j1,f1,h4.same (far 0 (by omega)) (fun n hn=>far n hn),keep _ _ h5⟩
end
theorem kax:(Tryz.prog.info? 33).map (fun i=>(i.zero,i.size,i.bytes))=some (some (.agg #[.int .i64 0,.bool false,.slice none 0 0,.slice none 0 0]),4,64):=by kernel_rfl
theorem uw (n:Int) (h0:0<=n) (h1:n<=1099511627776) (w:World) :
 ∃ w',(Instr.makeSlice 31 (.int .i64 n) (.int .i64 n)).run Tryz.prog w=.ok (.slice (some ⟨w.heap.size,0,none⟩) n.toNat n.toNat) w'/\Ext w w'/\w'.heap.size=w.heap.size+1/\∀ q,xh w' q w.heap.size (List.replicate n.toNat Pl.zero):=by
 obtain ⟨i0,hi,iV,iI,iH⟩:=info_parts kax;refine ⟨_,run_make w 31 33 i0 _ Tryz.underlying31 hi iV .i64 .i64 n n h0 (by omega) (by rw [iH]; omega) (by omega),(Ext.refl w).alloc _,by simp,fun q=>⟨by simp,fun i=>by simp [go_sem],fun i KA=>?_⟩⟩;rw [p8] at KA;have hc:∀ j,j < 4->(w.alloc (.cells (madeCells (Value.agg #[.int .i64 0,.bool false,.slice none 0 0,.slice none 0 0]).cells (n.toNat * i0.size)) 33)).cell? ⟨w.heap.size,i * 4+j,none⟩=#[Value.int .i64 0,.bool false,.slice none 0 0,.slice none 0 0][j]?:=by
  intro j hj;have af:i * 4+j < n.toNat * 4:=by omega
  have Ci:(i * 4+j) % 4=j:=by omega
  rw [cell_of_row _ _ (i * 4+j) _ _ (0,0) (heap_alloc_new w _)];rw [iI];unfold madeCells;rw [Sq,RW,if_pos af];show some ((#[Value.int .i64 0,.bool false,.slice none 0 0,.slice none 0 0]:Array Value)[(i * 4+j) % 4]!)=_;rw [Ci];rcases (show j=0\/j=1\/j=2\/j=3 by omega) with rfl | rfl | rfl | rfl <;> rfl
 rw [u7];exact ⟨none,0,0,none,0,0,⟨hc 0 (by omega),hc 1 (by omega),hc 2 (by omega),hc 3 (by omega)⟩,Pl.xt _ _ none 0 (by omega)⟩
def jf (w:World) (g:Nat):Prop:=(w.cell? ⟨g,0,none⟩=some (.int .i64 0)/\w.cell? ⟨g,1,none⟩=some (.bool false)/\w.cell? ⟨g,2,none⟩=some (.slice none 0 0)/\w.cell? ⟨g,3,none⟩=some (.slice none 0 0))/\∀ i,w.frozen? ⟨g,i,none⟩=false
theorem jf.ext {w w':World} {g:Nat} (h:jf w g) (hx:Ext w w') (hg:g < w.heap.size):jf w' g:=by
 obtain ⟨⟨h0,h1,h2,h3⟩,h4⟩:=h;have k:∀ i,w'.cell? ⟨g,i,none⟩=w.cell? ⟨g,i,none⟩:=fun i=>hx.cell (p:=⟨g,i,none⟩) hg
 exact ⟨⟨(k _).trans h0,(k _).trans h1,(k _).trans h2,(k _).trans h3⟩,fun i=>(hx.frozen (p:=⟨g,i,none⟩) hg).trans (h4 i)⟩
theorem jf.new (w:World) (T:TypeId):jf (w.alloc (.cells #[.int .i64 0,.bool false,.slice none 0 0,.slice none 0 0] T)) w.heap.size:=by
 refine ⟨⟨?_,?_,?_,?_⟩,fun i=>?_⟩ <;> simp [go_sem]
theorem qf {w W:World} {g:Nat} {p:Pl} {q q':Nat->Prop} {A0 A1:Option Addr} {n0 c0 n1 c1:Nat} (hx:Ext w W) (hg:w.heap.size<=g) (hz:jf W g) (hp:PlV W q p (plV p (.slice A0 n0 c0) (.slice A1 n1 c1))) (hq:∀ b,b < W.heap.size->q b->b ≠ g/\q' b) :
 uf q' p w (.returned (plV p (.slice A0 n0 c0) (.slice A1 n1 c1))) ((((W.setCell ⟨g,0,none⟩ (.int .i64 p.lv)).setCell ⟨g,1,none⟩ (.bool p.neg)).setCell ⟨g,2,none⟩ (.slice A0 n0 c0)).setCell ⟨g,3,none⟩ (.slice A1 n1 c1)):=by
 obtain ⟨⟨z0,z1,z2,z3⟩,-⟩:=hz;refine ⟨_,rfl,?_,(((hx.setCell hg _).setCell hg _).setCell hg _).setCell hg _⟩;refine PlV.zd (by simp [World.setCell]) (fun v ds hv=>?_) (fun b af hb=>⟨(hq b af hb).2,?_⟩) hp
 · refine (((hv.box z0 rfl _).box (u:=.bool false) ?_ rfl _).box (u:=.slice none 0 0) ?_ rfl _).box (u:=.slice none 0 0) ?_ rfl _
   · rw [ph _ _ _ _ (by simp)]; exact z1
   · rw [ph _ _ _ _ (by simp),ph _ _ _ _ (by simp)]; exact z2
   · rw [ph _ _ _ _ (by simp),ph _ _ _ _ (by simp),ph _ _ _ _ (by simp)]; exact z3
 · have ax:=(hq b af hb).1;rw [Below.heap_setCell _ _ _ b ax,Below.heap_setCell _ _ _ b ax,Below.heap_setCell _ _ _ b ax,Below.heap_setCell _ _ _ b ax]
theorem zae {α:Type} (L l:List α) (k:Nat) (h:L.take k=l.take k) (hL:k < L.length) (hl:k < l.length):(L.set k l[k]).take (k+1)=l.take (k+1):=by
 have h1:k < (L.set k l[k]).length:=by rw [pH]; exact hL
 rw [pC h1,pC hl,rR,Sd (pj _),h]
end Go.Proofs.YtcepajijiabkmaaGreat
