/- Rows of polynomials that grow. -/
import Derived.Test.YtklnlgnnlmdibaaGreatMr8
import Derived.Test.YtklnlgnnlmdibaaGreatMr14
set_option linter.unusedSimpArgs false
set_option linter.unusedVariables false

namespace Go.Proofs.YtklnlgnnlmdibaaGreat
open Go.RowKit
theorem wb9 : vay 24 35 4 64 (.agg #[.int .i64 0, .bool false, .slice none 0 0, .slice none 0 0]) where
 und:=Tryz.underlying24
 info:=xaq
 cells:=rfl
 pos:=by omega
 nodig:=by
  intro u hu;simp only [Value.cells] at hu;simp only [List.mem_cons,List.not_mem_nil,or_false] at hu;rcases hu with rfl | rfl | rfl | rfl <;> rfl
def plC (r:Pl × Value × Value):List Value:=[.int .i64 r.1.lv,.bool r.1.neg,r.2.1,r.2.2]
def jl (rs:List (Pl × Value × Value)):List Value:=rs.flatMap plC
theorem qao (a b:List (Pl × Value × Value)):jl (a ++ b)=jl a ++ jl b:=by simp [jl]
theorem xy (a:List (Pl × Value × Value)):(jl a).length=a.length * 4:=by
 induction a with
 | nil=>rfl
 | cons r rs ih=>simp only [jl,List.flatMap_cons,List.length_append,List.length_cons] at *; rw [ih]; simp [plC]; omega
theorem zah (rs:List (Pl × Value × Value)) (k:Nat) (hk:k < rs.length) (j:Nat) (hj:j < 4):(jl rs)[k * 4+j]?=(plC rs[k])[j]?:=by
 induction rs generalizing k with
 | nil=>simp at hk
 | cons r rs ih =>
   have hl:(plC r).length=4:=rfl;simp only [jl,List.flatMap_cons];cases k with
   | zero=>simp only [Nat.zero_mul,Nat.zero_add,List.getElem_cons_zero]; rw [List.getElem?_append_left (by omega)]
   | succ k =>
     rw [List.getElem?_append_right (by omega),hl,show (k+1) * 4+j - 4=k * 4+j by omega];exact ih k (by simpa using hk)
def uh (base:Nat) (q:Nat->Prop) (W:World) (v:Value) (l:List Pl):Prop:=
 ∃ rs:List (Pl × Value × Value),rs.map (fun r=>r.1)=l/\xn 35 4 base W v rs.length (jl rs)/\∀ r ∈ rs,(∃ A0 n0 c0 A1 n1 c1,r.2=(.slice A0 n0 c0,.slice A1 n1 c1))/\PlV W (fun b=>v.ownBlock ≠ some b/\q b) r.1 (plV r.1 r.2.1 r.2.2)
section
variable {base:Nat} {q:Nat->Prop} {W W':World} {v:Value} {l:List Pl}
theorem uh.nil (base:Nat) (q:Nat->Prop) (W:World):uh base q W (.slice none 0 0) []:=⟨[],rfl,xn.nil _ _ _ _,by simp⟩
theorem uh.own (h:uh base q W v l) {R:Nat} (hR:v.ownBlock=some R):base<=R/\R < W.heap.size:=by
 obtain ⟨rs,-,h2,-⟩:=h;exact h2.own hR
theorem uh.len (h:uh base q W v l):∃ A c,v=.slice A l.length c/\l.length<=c/\c<=9223372036854775807:=by
 obtain ⟨rs,rfl,h2,-⟩:=h;rw [List.length_map];exact h2.len
theorem uh.ext (h:uh base q W v l) (hx:Ext W W'):uh base q W' v l:=by
 obtain ⟨rs,e,h2,h3⟩:=h;exact ⟨rs,e,h2.ext hx,fun r hr=>⟨(h3 r hr).1,(h3 r hr).2.ext hx⟩⟩
theorem uh.at_ {A:Option Addr} {n c:Nat} (h:uh base q W (.slice A n c) l):jd W (fun b=>base<=b\/q b) l A 0:=by
 obtain ⟨rs,rfl,h2,h3⟩:=h;refine jd.of _ _ 0 fun i hi=>?_
 rw [List.length_map] at hi;obtain ⟨g,c',e',-,-,hbg,hlt,-⟩:=h2.pos (by omega);injection e' with e1 e2 e3
 subst e1 e2 e3;have hcell:∀ j,j < 4->W.cell? ⟨g,i * 4+j,none⟩=(plC rs[i])[j]?:=by
  intro j hj;rw [h2.cell (i * 4+j) (by omega)];exact zah rs i hi j hj
 refine ⟨⟨g,0,none⟩,rs[i].2.1,rs[i].2.2,rfl,hlt,.inl hbg,?_,?_⟩
 · rw [yt,Nat.zero_add,Nat.zero_add,List.getElem_map];exact ⟨hcell 0 (by omega),hcell 1 (by omega),hcell 2 (by omega),hcell 3 (by omega)⟩
 · rw [List.getElem_map]; exact (h3 rs[i] (List.getElem_mem hi)).2.mono fun b hb=>.inr hb.2
end
theorem jd.rows {W:World} {p:Nat->Prop} {A:Option Addr} (l:List Pl):∀ (j:Nat),jd W p l A j->∃ rs:List (Pl × Value × Value),rs.map (fun r=>r.1)=l/\(∀ r ∈ rs,(∃ A0 n0 c0 A1 n1 c1,r.2=(.slice A0 n0 c0,.slice A1 n1 c1))/\PlV W p r.1 (plV r.1 r.2.1 r.2.2))/\∀ ad,A=some ad->∀ i (hi:i < rs.length),uy W (ad.add ((j+i) * 4)) rs[i].1 rs[i].2.1 rs[i].2.2:=by
 induction l with
 | nil=>intro j h; exact ⟨[],rfl,by simp,fun ad _ i hi=>by simp at hi⟩
 | cons x r ih =>
   intro j h;unfold jd at h;obtain ⟨⟨ad,s,K,e,hb,hq,h1,h2⟩,h3⟩:=h;obtain ⟨rs,e1,e2,e3⟩:=ih (j+1) h3;obtain ⟨A0,n0,c0,A1,c1,ee,-⟩:=id h2.open_;have ee2:s=.slice A0 n0 c0/\K=.slice A1 x.cs.length c1:=by
    unfold plV at ee;simpa using ee
   refine ⟨(x,s,K) :: rs,by simp [e1],fun r hr=>?_,fun ad' ha i hi=>?_⟩
   · rcases List.mem_cons.1 hr with rfl | hr
     · exact ⟨⟨_,_,_,_,_,_,by rw [ee2.1,ee2.2]⟩,h2⟩
     · exact e2 r hr
   · cases i with
     | zero=>rw [e] at ha; injection ha with ha; subst ha; exact h1
     | succ i =>
       have:=e3 ad' ha i (by simpa using hi);rw [show j+(i+1)=j+1+i by omega];exact this
theorem kbv (a:Addr) (n:Nat):(a.add n).off=a.off+n:=by unfold Addr.add; split <;> simp_all
theorem wcj (a:Addr) (n:Nat) (h:0 < n):a.add n=⟨a.block,a.off+n,none⟩:=by unfold Addr.add; rw [if_neg (by omega)]
theorem uy.cells {W:World} {ad:Addr} {r:Pl × Value × Value} {i:Nat} (h:uy W (ad.add (i * 4)) r.1 r.2.1 r.2.2) (j:Nat) (hj:j < 4) (u:Value) (hu:(plC r)[j]?=some u):W.cell? (ad.add (i * 4+j))=some u:=by
 obtain ⟨h0,h1,h2,h3⟩:=h;rw [ja,kbv] at h1 h2 h3;rcases (show j=0\/j=1\/j=2\/j=3 by omega) with rfl | rfl | rfl | rfl
 · simp only [plC,List.getElem?_cons_zero,Option.some.injEq] at hu;subst hu; exact h0
 all_goals
  rw [wcj _ _ (by omega)];simp only [plC,List.getElem?_cons_zero,List.getElem?_cons_succ,Option.some.injEq] at hu;subst hu
  first | exact h1 | exact h2 | exact h3
theorem uh.append_ {base:Nat} {q:Nat->Prop} {W:World} {ov:Value} {l:List Pl} {ad:Addr} (h:uh base q W ov l) (hbase:base<=W.heap.size) (rs2:List (Pl × Value × Value)) (e2:∀ r ∈ rs2,(∃ A0 n0 c0 A1 n1 c1,r.2=(.slice A0 n0 c0,.slice A1 n1 c1))/\PlV W (fun b=>ov.ownBlock ≠ some b/\q b) r.1 (plV r.1 r.2.1 r.2.2)) (e3:∀ i (hi:i < rs2.length),uy W (ad.add (i * 4)) rs2[i].1 rs2[i].2.1 rs2[i].2.2) (hpos:0 < rs2.length) (hlen:l.length+rs2.length<=1000000000) (c:Nat) (ty:TypeId) :
 ∃ v4 w4,(Builtin.append_ #[24,24] ty #[ov,.slice (some ad) rs2.length c]).run Tryz.prog W=.ok v4 w4/\W.grownBy w4 ov.ownBlock/\(∀ v ds,jc W v ds->jc w4 v ds)/\uh base q w4 v4 (l ++ rs2.map (fun r=>r.1))/\(v4.ownBlock=ov.ownBlock\/v4.ownBlock=some W.heap.size):=by
 obtain ⟨rs,rfl,h2,h3⟩:=h;rw [List.length_map] at hlen;obtain ⟨v4,w4,hrun,r1,r2,r3,r4⟩:=h2.append wb9 hbase ad rs2.length c (jl rs2) (xy rs2) (by
  intro j u hu;have hj:j < rs2.length * 4:=by rw [<- xy]; exact (List.getElem?_eq_some_iff.1 hu).1
  have hd:j / 4 * 4+j % 4=j:=by omega
  have hm:=e3 (j / 4) (by omega);have hg:=zah rs2 (j / 4) (by omega) (j % 4) (by omega);rw [hd,hu] at hg;have:=hm.cells (j % 4) (by omega) u hg.symm
  rwa [hd] at this) (by
  intro u hu;simp only [jl,List.mem_flatMap] at hu;obtain ⟨r,hr,hu⟩:=hu;obtain ⟨⟨A0,n0,c0,A1,n1,c1,er⟩,-⟩:=e2 r hr;simp only [plC,er,List.mem_cons,List.not_mem_nil,or_false] at hu
  rcases hu with rfl | rfl | rfl | rfl <;> exact ⟨rfl,rfl⟩) hpos (by omega) (by omega) ty
 refine ⟨v4,w4,hrun,r2,r3,⟨rs ++ rs2,by simp,?_,fun r hr=>?_⟩,r4⟩
 · rw [qao,List.length_append]; exact r1
 · have hv4:∀ b,b < W.heap.size->ov.ownBlock ≠ some b->v4.ownBlock ≠ some b:=by
    intro b hb hne e;rcases r4 with r4 | r4
    · exact hne (by rw [<- r4]; exact e)
    · rw [r4] at e; injection e with e; omega
   have hblk:∀ b,b < W.heap.size->ov.ownBlock ≠ some b->w4.heap[b]?=W.heap[b]?:=fun b hb hne=>World.grownBy.block r2 b hb (fun e=>hne e.symm)
   rcases List.mem_append.1 hr with hr | hr
   · exact ⟨(h3 r hr).1,PlV.turn_ r2.size r3 (fun b hb hp=>⟨⟨hv4 b hb hp.1,hp.2⟩,hblk b hb hp.1⟩) (h3 r hr).2⟩
   · exact ⟨(e2 r hr).1,PlV.turn_ r2.size r3 (fun b hb hp=>⟨⟨hv4 b hb hp.1,hp.2⟩,hblk b hb hp.1⟩) (e2 r hr).2⟩
theorem uh.push {base:Nat} {q:Nat->Prop} {W:World} {ov:Value} {l:List Pl} (h:uh base q W ov l) (hbase:base<=W.heap.size) {x:Pl} {A0 A1:Option Addr} {n0 c0 n1 c1:Nat} (hx:PlV W (fun b=>ov.ownBlock ≠ some b/\q b) x (plV x (.slice A0 n0 c0) (.slice A1 n1 c1))) (hlen:l.length+1<=1000000000) (ty:TypeId) :
 ∃ v4 w4,(Builtin.append_ #[24,24] ty #[ov,.slice (some ⟨W.heap.size,0,none⟩) 1 1]).run Tryz.prog (W.alloc (.cells #[.int .i64 x.lv,.bool x.neg,.slice A0 n0 c0,.slice A1 n1 c1] 35))=.ok v4 w4/\W.grownBy w4 ov.ownBlock/\(∀ v ds,jc W v ds->jc w4 v ds)/\uh base q w4 v4 (l ++ [x])/\(v4.ownBlock=ov.ownBlock\/v4.ownBlock=some (W.heap.size+1)):=by
 have hxa:Ext W (W.alloc (.cells #[.int .i64 x.lv,.bool x.neg,.slice A0 n0 c0,.slice A1 n1 c1] 35)):=(Ext.refl W).alloc _;obtain ⟨v4,w4,hrun,h2,h3,h4,h5⟩:=(h.ext hxa).append_ (ad:=⟨W.heap.size,0,none⟩) (by have:=hxa.size; omega) [(x,.slice A0 n0 c0,.slice A1 n1 c1)] (by
  intro r hr;obtain rfl:=List.mem_singleton.1 hr;exact ⟨⟨_,_,_,_,_,_,rfl⟩,hx.ext hxa⟩) (by
  intro i hi;obtain rfl:i=0:=by simpa using hi
  rw [Nat.zero_mul,yt,Nat.zero_add]
  refine ⟨?_,?_,?_,?_⟩ <;> simp [go_sem]) (by simp) (by simpa using hlen) 1 ty
 refine ⟨v4,w4,hrun,⟨h2.os.trans hxa.below.os,h2.tape.trans hxa.below.tape,h2.output.trans hxa.below.output,Nat.le_trans hxa.size h2.size,fun i hi hne=>(World.grownBy.block h2 i (Nat.lt_of_lt_of_le hi hxa.size) hne).trans (hxa.below.block i hi)⟩,fun v ds hv=>h3 v ds (hv.ext hxa),h4,?_⟩
 rwa [World.size_alloc] at h5
end Go.Proofs.YtklnlgnnlmdibaaGreat

/- Rows of integers that a call makes and fills. -/
namespace Go.Proofs.YtklnlgnnlmdibaaGreat
open Go.RowKit
def yar (W:World) (R:Nat) (l:List Int):Prop:=
 R < W.heap.size/\(∀ i,W.frozen? ⟨R,i,none⟩=false)/\∀ i (h:i < l.length),∃ A n c,W.cell? ⟨R,i * 2,none⟩=some (.bool (decide (l[i] < 0)))/\W.cell? ⟨R,i * 2+1,none⟩=some (.slice A n c)/\jc W (.slice A n c) (dg l[i].natAbs)
section
variable {W W':World} {R:Nat} {l:List Int}
theorem yar.ext (h:yar W R l) (hx:Ext W W'):yar W' R l:=by
 obtain ⟨h1,h2,h3⟩:=h;refine ⟨Nat.lt_of_lt_of_le h1 hx.size,fun i=>(hx.frozen (p:=⟨R,i,none⟩) h1).trans (h2 i),fun i hi=>?_⟩;obtain ⟨A,n,c,h4,h5,h6⟩:=h3 i hi;exact ⟨A,n,c,(hx.cell (p:=⟨R,i * 2,none⟩) h1).trans h4,(hx.cell (p:=⟨R,i * 2+1,none⟩) h1).trans h5,h6.ext hx⟩
theorem yar.fin (h:yar W R l) (c:Nat) (h1:l.length<=c) (h2:c<=9223372036854775807):IsV W (.slice (some ⟨R,0,none⟩) l.length c) l:=by
 obtain ⟨h3,-,h4⟩:=h;refine ⟨_,c,rfl,h1,h2,fun k hk=>?_⟩;obtain ⟨A,n,d,h5,h6,h7⟩:=h4 k hk;refine ⟨⟨R,0,none⟩,A,n,d,rfl,h3,?_,?_,h7⟩
 · rw [yt,Nat.zero_add]; exact h5
 · rw [yt,Nat.zero_add]; exact h6
theorem yar.set_ (h:yar W R l) (k:Nat) (hk:k < l.length) (z:Int) {A:Option Addr} {n c:Nat} (hz:jc W (.slice A n c) (dg z.natAbs)) :
 yar ((W.setCell ⟨R,k * 2,none⟩ (.bool (decide (z < 0)))).setCell ⟨R,k * 2+1,none⟩ (.slice A n c)) R (l.set k z):=by
 obtain ⟨h1,h2,h3⟩:=h;obtain ⟨B,m,d,g0,g1,-⟩:=h3 k hk;have q1:(W.setCell ⟨R,k * 2,none⟩ (.bool (decide (z < 0)))).cell? ⟨R,k * 2+1,none⟩=some (.slice B m d):=by rw [World.cell?_setCell_other _ _ _ _ (by intro e; injection e; omega)]; exact g1
 have hnat:∀ v ds,jc W v ds->jc ((W.setCell ⟨R,k * 2,none⟩ (.bool (decide (z < 0)))).setCell ⟨R,k * 2+1,none⟩ (.slice A n c)) v ds:=fun v ds hv=>(hv.box g0 rfl _).box q1 rfl _
 refine ⟨by simpa [World.setCell] using h1,fun i=>by rw [World.frozen?_setCell,World.frozen?_setCell]; exact h2 i,fun i hi=>?_⟩;rw [List.length_set] at hi
 by_cases hik:i=k
 · subst hik;rw [List.getElem_set_self];refine ⟨A,n,c,?_,World.cell?_setCell_same _ _ _ q1,hnat _ _ hz⟩;rw [World.cell?_setCell_other _ _ _ _ (by intro e; injection e; omega)];exact World.cell?_setCell_same _ _ _ g0
 · rw [List.getElem_set_ne (Ne.symm hik)];obtain ⟨C,j,f,h4,h5,h6⟩:=h3 i hi;refine ⟨C,j,f,?_,?_,hnat _ _ h6⟩
   · rw [World.cell?_setCell_other _ _ _ _ (by intro e; injection e; omega),World.cell?_setCell_other _ _ _ _ (by intro e; injection e; omega)]; exact h4
   · rw [World.cell?_setCell_other _ _ _ _ (by intro e; injection e; omega),World.cell?_setCell_other _ _ _ _ (by intro e; injection e; omega)]; exact h5
end
theorem wb2:(Tryz.prog.info? 33).map (fun i=>(i.zero,i.size,i.bytes))=some (some (.agg #[.bool false,.slice none 0 0]),2,32):=by kernel_rfl
theorem gbg (n:Int) (h0:0<=n) (h1:n<=1099511627776) (w:World) :
 ∃ w',(Instr.makeSlice 105 (.int .i64 n) (.int .i64 n)).run Tryz.prog w=.ok (.slice (some ⟨w.heap.size,0,none⟩) n.toNat n.toNat) w'/\Ext w w'/\w'.heap.size=w.heap.size+1/\yar w' w.heap.size (List.replicate n.toNat 0):=by
 obtain ⟨i0,hi,hz0,hz1,hz2⟩:=info_parts wb2;refine ⟨_,run_make w 105 33 i0 _ Tryz.underlying105 hi hz0 .i64 .i64 n n h0 (by omega) (by rw [hz2]; omega) (by omega),(Ext.refl w).alloc _,by simp,⟨by simp,fun i=>by simp [go_sem],fun i hi2=>?_⟩⟩;rw [List.length_replicate] at hi2;have hc:∀ j,j < 2->(w.alloc (.cells (madeCells (Value.agg #[.bool false,.slice none 0 0]).cells (n.toNat * i0.size)) 33)).cell? ⟨w.heap.size,i * 2+j,none⟩=#[Value.bool false,.slice none 0 0][j]?:=by
  intro j hj;have hlt:i * 2+j < n.toNat * 2:=by omega
  have hmod:(i * 2+j) % 2=j:=by omega
  rw [cell_of_row _ _ (i * 2+j) _ _ (0,0) (heap_alloc_new w _)];rw [hz1];unfold madeCells;rw [Array.getElem?_map,Array.getElem?_range,if_pos hlt];show some ((#[Value.bool false,.slice none 0 0]:Array Value)[(i * 2+j) % 2]!)=_;rw [hmod];rcases (show j=0\/j=1 by omega) with rfl | rfl <;> rfl
 rw [List.getElem_replicate];exact ⟨none,0,0,hc 0 (by omega),hc 1 (by omega),by rw [Int.natAbs_zero,uk]; exact jc.nil _⟩
end Go.Proofs.YtklnlgnnlmdibaaGreat

/- Layer 22: recpoly.trim. -/
set_option maxRecDepth 100000
set_option maxHeartbeats 8000000
namespace Go.Proofs.YtklnlgnnlmdibaaGreat
open Go.RowKit
theorem jd.take {w:World} {q:Nat->Prop} {l:List Pl} {A:Option Addr} (h:jd w q l A 0) (n:Nat):jd w q (l.take n) A 0:=by
 refine jd.of _ _ _ fun i hi=>?_
 rw [List.length_take] at hi;obtain ⟨ad,s,K,e,h1,h2,h3,h4⟩:=h.get_ l A 0 i (by omega);refine ⟨ad,s,K,e,h1,h2,?_,?_⟩
 · rw [List.getElem_take]; exact h3
 · rw [List.getElem_take]; exact h4
theorem jbb {w:World} {q:Nat->Prop} (l:Int) (cs:List Pl) (A:Option Addr) (c:Nat) (h:jd w q cs A 0) (hl1:cs.length<=c) (hl2:c<=9223372036854775807) :
 Calls Tryz.prog 78 #[.int .i64 l,.slice A cs.length c] w (jf q (gy l cs) w):=by
 have hh:jd w (fun b=>q b/\b < w.heap.size) cs A 0:=jd.turn (Nat.le_refl _) (fun _ _ h=>h) (fun b hb hq=>⟨⟨hq,hb⟩,rfl⟩) cs A 0 h;have HH:=Lib.hid hh;obtain ⟨W,hW⟩:∃ W,w.alloc (.cells #[.int .i64 0,.bool false,.slice none 0 0,.slice none 0 0] 35)=W:=⟨_,rfl⟩;have hWx:Ext w W:=by rw [<- hW]; exact (Ext.refl w).alloc _
 have hWs:W.heap.size=w.heap.size+1:=by rw [<- hW]; simp
 have hz:yf W w.heap.size:=by rw [<- hW]; exact yf.new w _
 have HWX:=Lib.hid hWx;have HZ:=Lib.hid hz;clear h hh hWx hz;go_enter Tryz.func78,Tryz.ntmps78;go_wp2_with fail;clear hW
 go_loopw [5] (fun nv wr=>∃ n:Nat,n<=cs.length/\nv=.int .i64 n/\Hid (ji cs=ji (cs.take n)/\Ext W wr)) (fun nv _=>(intOf nv).toNat)
 case atStart=>exact ⟨cs.length,Nat.le_refl _,rfl,⟨by rw [List.take_length],Ext.refl W⟩⟩
 case round =>
  obtain ⟨n,hn,rfl,⟨hst,hx⟩⟩:=hrel;have HST:=Lib.hid hst;have HX:=Lib.hid hx;have hws:=hx.size;clear hst hx;cases n with
  | zero =>
    have HT:Hid (gy l cs=Pl.zero):=Lib.hid (by
     rw [ja2 (Nat.zero_le _) (by rw [HST.out]; rfl),if_pos rfl])
    have hzn:=HZ.out.ext HX.out (by omega);have HF:Hid (jf q (gy l cs) w (.returned (plV Pl.zero (.slice none 0 0) (.slice none 0 0))) ((((wr.setCell ⟨w.heap.size,0,none⟩ (.int .i64 0)).setCell ⟨w.heap.size,1,none⟩ (.bool false)).setCell ⟨w.heap.size,2,none⟩ (.slice none 0 0)).setCell ⟨w.heap.size,3,none⟩ (.slice none 0 0))):=by
     rw [HT.out];exact yg (p:=Pl.zero) (q:=fun _=>False) (HWX.out.trans HX.out) (Nat.le_refl _) hzn (Pl.zero_v _ _ none 0 (by omega)) (fun b _ h=>h.elim)
    obtain ⟨⟨z0,z1,z2,z3⟩,zf⟩:=hzn;clear hn;go_wp2_with fail;exact bodyPost_ret (v:=plV Pl.zero (.slice none 0 0) (.slice none 0 0)) (by simp [results,Tryz.results78,go_sem,z0,z1,z2,z3,plV,Pl.zero,Pl.lv,Pl.neg]) rfl HF.out
  | succ n =>
    have hlt:n < cs.length:=by omega
    obtain ⟨ad,C0,j0,g0,C1,j1,g1,rfl,hadb,hnd,hkt⟩:=jd.kid HH.out n hlt;have hxx:=HWX.out.trans HX.out;obtain ⟨a0,a1,a2,a3⟩:=hnd.ext hxx (by rw [ja]; exact hadb);have HIZ:=Lib.hid (wab _ _ (hkt.ext hxx));have hwn:IntKind.i64.wrap (((n+1:Nat):Int) - 1)=(n:Int):=by rw [IntKind.wrap_i64]; omega
    have HTK:Hid (cs.take (n+1)=cs.take n ++ [cs[n]]):=Lib.hid (List.take_succ_eq_append_getElem hlt);have HIZ2:Hid (cs[n].isZ=false->ji cs=cs.take (n+1)):=Lib.hid (fun hz=>by rw [HST.out,HTK.out,ybz hz]);have HIZ3:Hid (cs[n].isZ=true->ji cs=ji (cs.take n)):=Lib.hid (fun hz=>by rw [HST.out,HTK.out,wbm hz]);have hpos:(0:Int) < ((n+1:Nat):Int):=by omega
    unfold plV at HIZ;generalize cs[n].isZ=bz at *;generalize cs[n]=cn at *;clear hnd hkt hadb;go_wp2_with fail;clear a0 a1 a2 a3;refine HIZ.out.mono ?_;rintro e w2 ⟨rfl,x2⟩;have X2:=Lib.hid (HX.out.trans x2);clear x2 HIZ;cases bz
    · have HS:=Lib.hid (HIZ2.out rfl);have hzn:=HZ.out.ext X2.out (by omega);cases n with
      | zero =>
        have HT:Hid (gy l cs=cs[0]):=Lib.hid (by
         rw [ja2 (show 0+1<=cs.length by omega) HS.out,if_neg (by omega),dif_pos ⟨rfl,hlt⟩])
        obtain ⟨ad',D0,i0,h0,D1,i1,h1,e4,hadb,hnd,hkt⟩:=jd.kid HH.out 0 hlt;injection e4 with e4
        subst e4;have hxx2:=HWX.out.trans X2.out;obtain ⟨a0,a1,a2,a3⟩:=hnd.ext hxx2 (by rw [ja]; exact hadb);have HF:Hid (jf q (gy l cs) w (.returned (plV cs[0] (.slice D0 i0 h0) (.slice D1 i1 h1))) ((((w2.setCell ⟨w.heap.size,0,none⟩ (.int .i64 cs[0].lv)).setCell ⟨w.heap.size,1,none⟩ (.bool cs[0].neg)).setCell ⟨w.heap.size,2,none⟩ (.slice D0 i0 h0)).setCell ⟨w.heap.size,3,none⟩ (.slice D1 i1 h1))):=by
         rw [HT.out];exact yg hxx2 (Nat.le_refl _) hzn (hkt.ext hxx2) (fun b _ hb=>⟨by omega,hb.1⟩)
        rw [show ad.add (0 * 4)=ad by simp [Addr.add]] at a0 a1 a2 a3;have hb1:=hadb;obtain ⟨⟨z0,z1,z2,z3⟩,zf⟩:=hzn;clear hnd hkt hn hwn;generalize cs[0]=c0' at *;go_wp2_with fail;exact bodyPost_ret (v:=plV c0' (.slice D0 i0 h0) (.slice D1 i1 h1)) (by simp [results,Tryz.results78,go_sem,z0,z1,z2,z3,plV]) rfl HF.out
      | succ n =>
        have HT:Hid (gy l cs=.mk l false [] (cs.take (n+2))):=Lib.hid (by
         rw [ja2 (show n+2<=cs.length by omega) HS.out,if_neg (by omega),dif_neg (by omega)])
        have hln:(cs.take (n+2)).length=n+2:=by rw [List.length_take]; omega
        have HF:Hid (jf q (gy l cs) w (.returned (plV (.mk l false [] (cs.take (n+2))) (.slice none 0 0) (.slice (some ad) (n+2) (n+2)))) ((((w2.setCell ⟨w.heap.size,0,none⟩ (.int .i64 l)).setCell ⟨w.heap.size,1,none⟩ (.bool false)).setCell ⟨w.heap.size,2,none⟩ (.slice none 0 0)).setCell ⟨w.heap.size,3,none⟩ (.slice (some ad) (n+2) (n+2)))):=by
         rw [HT.out];have h1:=PlV.mk (t:=.mk l false [] (cs.take (n+2))) (c:=n+2) (jc.nil w2) (by simp only [Pl.cs]; omega) (by omega) ((HH.out.take (n+2)).ext (HWX.out.trans X2.out));rw [show (Pl.mk l false [] (cs.take (n+2))).cs.length=n+2 from hln] at h1;exact yg (p:=.mk l false [] (cs.take (n+2))) (HWX.out.trans X2.out) (Nat.le_refl _) hzn h1 (fun b _ hb=>⟨by omega,hb.1⟩)
        obtain ⟨⟨z0,z1,z2,z3⟩,zf⟩:=hzn;have hn1:((((n+1+1:Nat):Int)) == 0)=false:=by simp; omega
        have hn2:((((n+1+1:Nat):Int)) == 1)=false:=by simp; omega
        clear hwn;go_wp2_with fail;exact bodyPost_ret (v:=plV (.mk l false [] (cs.take (n+2))) (.slice none 0 0) (.slice (some ad) (n+2) (n+2))) (by simp [results,Tryz.results78,go_sem,z0,z1,z2,z3,plV,Pl.lv,Pl.neg]) rfl HF.out
    · have HS:=Lib.hid (HIZ3.out rfl);go_wp2_with fail
      go_roundw
      case rel=>exact ⟨n,by omega,by go_num,⟨HS.out,X2.out⟩⟩
      case measure=>simp [intOf]
end Go.Proofs.YtklnlgnnlmdibaaGreat
