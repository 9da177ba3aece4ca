/- Rows of polynomials that grow. -/
import Derived.Test.YtcepajijiabkmaaGreatMq14
set_option linter.unusedSimpArgs false
set_option linter.unusedVariables false

namespace Go.Proofs.YtcepajijiabkmaaGreat
open Lib (hid)
open Go.RowKit
theorem qcs : xap 31 33 4 64 (.agg #[.int .i64 0, .bool false, .slice none 0 0, .slice none 0 0]) where
 und:=Tryz.underlying31
 info:=wav
 cells:=rfl
 pos:=by omega
 nodig:=by
  intro u hu;simp only [Value.cells] at hu;simp only [List.mem_cons,List.not_mem_nil,or_false] at hu;rcases hu with rfl | rfl | rfl | rfl <;> rfl
def plC (r:Pl × Value × Value):List Value:=[.int .i64 r.1.lv,.bool r.1.neg,r.2.1,r.2.2]
def yl (rs:List (Pl × Value × Value)):List Value:=rs.flatMap plC
theorem uat (a b:List (Pl × Value × Value)):yl (a ++ b)=yl a ++ yl b:=by simp [yl]
theorem yu (a:List (Pl × Value × Value)):(yl a).length=a.length * 4:=by
 induction a with
 | nil=>rfl
 | cons r rs ih=>simp only [yl,List.flatMap_cons,List.length_append,List.length_cons] at *; rw [ih]; simp [plC]; omega
theorem wak (rs:List (Pl × Value × Value)) (k:Nat) (hk:k < rs.length) (j:Nat) (hj:j < 4):(yl rs)[k * 4+j]?=(plC rs[k])[j]?:=by
 induction rs generalizing k with
 | nil=>simp at hk
 | cons r rs ih =>
   have hl:(plC r).length=4:=rfl;simp only [yl,List.flatMap_cons];cases k with
   | zero=>simp only [Nat.zero_mul,Nat.zero_add,List.getElem_cons_zero]; rw [List.getElem?_append_left (by omega)]
   | succ k =>
     rw [List.getElem?_append_right (by omega),hl,show (k+1) * 4+j - 4=k * 4+j by omega];exact ih k (by simpa using hk)
def yh (base:Nat) (q:Nat->Prop) (W:World) (v:Value) (l:List Pl):Prop:=
 ∃ rs:List (Pl × Value × Value),rs.map (fun r=>r.1)=l/\jm 33 4 base W v rs.length (yl rs)/\∀ r ∈ rs,(∃ A0 n0 c0 A1 n1 c1,r.2=(.slice A0 n0 c0,.slice A1 n1 c1))/\PlV W (fun b=>v.ownBlock ≠ some b/\q b) r.1 (plV r.1 r.2.1 r.2.2)
section
variable {base:Nat} {q:Nat->Prop} {W W':World} {v:Value} {l:List Pl}
theorem yh.nil (base:Nat) (q:Nat->Prop) (W:World):yh base q W (.slice none 0 0) []:=⟨[],rfl,jm.nil _ _ _ _,by simp⟩
theorem yh.own (h:yh base q W v l) {R:Nat} (hR:v.ownBlock=some R):base<=R/\R < W.heap.size:=by
 obtain ⟨rs,-,h2,-⟩:=h;exact h2.own hR
theorem yh.len (h:yh base q W v l):∃ A c,v=.slice A l.length c/\l.length<=c/\c<=9223372036854775807:=by
 obtain ⟨rs,rfl,h2,-⟩:=h;rw [List.length_map];exact h2.len
theorem yh.ext (h:yh base q W v l) (hx:Ext W W'):yh base q W' v l:=by
 obtain ⟨rs,e,h2,h3⟩:=h;exact ⟨rs,e,h2.ext hx,fun r hr=>⟨(h3 r hr).1,(h3 r hr).2.ext hx⟩⟩
theorem yh.less {base':Nat} (h:yh base q W v l) (hb:base'<=base):yh base' q W v l:=by
 obtain ⟨rs,e,h2,h3⟩:=h;exact ⟨rs,e,h2.less hb,h3⟩
theorem yh.at_ {A:Option Addr} {n c:Nat} (h:yh base q W (.slice A n c) l):jd W (fun b=>base<=b\/q b) l A 0:=by
 obtain ⟨rs,rfl,h2,h3⟩:=h;refine jd.of _ _ 0 fun i hi=>?_
 rw [List.length_map] at hi;obtain ⟨g,c',e',-,-,FI,af,-⟩:=h2.pos (by omega);injection e' with e1 e2 e3
 subst e1 e2 e3;have ai:∀ j,j < 4->W.cell? ⟨g,i * 4+j,none⟩=(plC rs[i])[j]?:=by
  intro j hj;rw [h2.cell (i * 4+j) (by omega)];exact wak rs i hi j hj
 refine ⟨⟨g,0,none⟩,rs[i].2.1,rs[i].2.2,rfl,af,.inl FI,?_,?_⟩
 · rw [uq,Nat.zero_add,Nat.zero_add,List.getElem_map];exact ⟨ai 0 (by omega),ai 1 (by omega),ai 2 (by omega),ai 3 (by omega)⟩
 · rw [List.getElem_map]; exact (h3 rs[i] (List.getElem_mem hi)).2.mono fun b hb=>.inr hb.2
end
theorem jd.rows {W:World} {p:Nat->Prop} {A:Option Addr} (l:List Pl):∀ (j:Nat),jd W p l A j->∃ rs:List (Pl × Value × Value),rs.map (fun r=>r.1)=l/\(∀ r ∈ rs,(∃ A0 n0 c0 A1 n1 c1,r.2=(.slice A0 n0 c0,.slice A1 n1 c1))/\PlV W p r.1 (plV r.1 r.2.1 r.2.2))/\∀ ad,A=some ad->∀ i (hi:i < rs.length),vaa W (ad.add ((j+i) * 4)) rs[i].1 rs[i].2.1 rs[i].2.2:=by
 induction l with
 | nil=>intro j h; exact ⟨[],rfl,by simp,fun ad _ i hi=>by simp at hi⟩
 | cons x r ih =>
   intro j h;unfold jd at h;obtain ⟨⟨ad,s,K,e,hb,hq,h1,h2⟩,h3⟩:=h;obtain ⟨rs,e1,e2,e3⟩:=ih (j+1) h3;obtain ⟨A0,n0,c0,A1,c1,ee,-⟩:=id h2.open_;have ee2:s=.slice A0 n0 c0/\K=.slice A1 x.cs.length c1:=by
    unfold plV at ee;simpa using ee
   refine ⟨(x,s,K) :: rs,by simp [e1],fun r hr=>?_,fun ad' ha i hi=>?_⟩
   · rcases List.mem_cons.1 hr with rfl | hr
     · exact ⟨⟨_,_,_,_,_,_,by rw [ee2.1,ee2.2]⟩,h2⟩
     · exact e2 r hr
   · cases i with
     | zero=>rw [e] at ha; injection ha with ha; subst ha; exact h1
     | succ i =>
       have:=e3 ad' ha i (by simpa using hi);rw [show j+(i+1)=j+1+i by omega];exact this
theorem ucb (a:Addr) (n:Nat):(a.add n).off=a.off+n:=by unfold Addr.add; split <;> simp_all
theorem uc3 (a:Addr) (n:Nat) (h:0 < n):a.add n=⟨a.block,a.off+n,none⟩:=by unfold Addr.add; rw [if_neg (by omega)]
theorem vaa.cells {W:World} {ad:Addr} {r:Pl × Value × Value} {i:Nat} (h:vaa W (ad.add (i * 4)) r.1 r.2.1 r.2.2) (j:Nat) (hj:j < 4) (u:Value) (hu:(plC r)[j]?=some u):W.cell? (ad.add (i * 4+j))=some u:=by
 obtain ⟨h0,h1,h2,h3⟩:=h;rw [ja,ucb] at h1 h2 h3;rcases (show j=0\/j=1\/j=2\/j=3 by omega) with rfl | rfl | rfl | rfl
 · simp only [plC,List.getElem?_cons_zero,Option.some.injEq] at hu;subst hu; exact h0
 all_goals
  rw [uc3 _ _ (by omega)];simp only [plC,List.getElem?_cons_zero,List.getElem?_cons_succ,Option.some.injEq] at hu;subst hu
  first | exact h1 | exact h2 | exact h3
theorem yh.append_ {base:Nat} {q:Nat->Prop} {W:World} {ov:Value} {l:List Pl} {ad:Addr} (h:yh base q W ov l) (dU:base<=W.heap.size) (rO:List (Pl × Value × Value)) (e2:∀ r ∈ rO,(∃ A0 n0 c0 A1 n1 c1,r.2=(.slice A0 n0 c0,.slice A1 n1 c1))/\PlV W (fun b=>ov.ownBlock ≠ some b/\q b) r.1 (plV r.1 r.2.1 r.2.2)) (e3:∀ i (hi:i < rO.length),vaa W (ad.add (i * 4)) rO[i].1 rO[i].2.1 rO[i].2.2) (dh:0 < rO.length) (hlen:l.length+rO.length<=1000000000) (c:Nat) (ty:TypeId) :
 ∃ v4 w4,(Builtin.append_ #[31,31] ty #[ov,.slice (some ad) rO.length c]).run Tryz.prog W=.ok v4 w4/\W.grownBy w4 ov.ownBlock/\(∀ v ds,jb W v ds->jb w4 v ds)/\yh base q w4 v4 (l ++ rO.map (fun r=>r.1))/\(v4.ownBlock=ov.ownBlock\/v4.ownBlock=some W.heap.size):=by
 obtain ⟨rs,rfl,h2,h3⟩:=h;rw [List.length_map] at hlen;obtain ⟨v4,w4,ax,r1,r2,r3,r4⟩:=h2.append qcs dU ad rO.length c (yl rO) (yu rO) (by
  intro j u hu;have hj:j < rO.length * 4:=by rw [<- yu]; exact (List.getElem?_eq_some_iff.1 hu).1
  have hd:j / 4 * 4+j % 4=j:=by omega
  have hm:=e3 (j / 4) (by omega);have hg:=wak rO (j / 4) (by omega) (j % 4) (by omega);rw [hd,hu] at hg;have:=hm.cells (j % 4) (by omega) u hg.symm
  rwa [hd] at this) (by
  intro u hu;simp only [yl,List.mem_flatMap] at hu;obtain ⟨r,hr,hu⟩:=hu;obtain ⟨⟨A0,n0,c0,A1,n1,c1,er⟩,-⟩:=e2 r hr;simp only [plC,er,List.mem_cons,List.not_mem_nil,or_false] at hu
  rcases hu with rfl | rfl | rfl | rfl <;> exact ⟨rfl,rfl⟩) dh (by omega) (by omega) ty
 refine ⟨v4,w4,ax,r2,r3,⟨rs ++ rO,by simp,?_,fun r hr=>?_⟩,r4⟩
 · rw [uat,List.length_append]; exact r1
 · have rV:∀ b,b < W.heap.size->ov.ownBlock ≠ some b->v4.ownBlock ≠ some b:=by
    intro b hb au e;rcases r4 with r4 | r4
    · exact au (by rw [<- r4]; exact e)
    · rw [r4] at e; injection e with e; omega
   have iQ:∀ b,b < W.heap.size->ov.ownBlock ≠ some b->w4.heap[b]?=W.heap[b]?:=fun b hb au=>World.grownBy.block r2 b hb (fun e=>au e.symm)
   rcases List.mem_append.1 hr with hr | hr
   · exact ⟨(h3 r hr).1,PlV.turn_ r2.size r3 (fun b hb hp=>⟨⟨rV b hb hp.1,hp.2⟩,iQ b hb hp.1⟩) (h3 r hr).2⟩
   · exact ⟨(e2 r hr).1,PlV.turn_ r2.size r3 (fun b hb hp=>⟨⟨rV b hb hp.1,hp.2⟩,iQ b hb hp.1⟩) (e2 r hr).2⟩
theorem yh.push {base:Nat} {q:Nat->Prop} {W:World} {ov:Value} {l:List Pl} (h:yh base q W ov l) (dU:base<=W.heap.size) {x:Pl} {A0 A1:Option Addr} {n0 c0 n1 c1:Nat} (hx:PlV W (fun b=>ov.ownBlock ≠ some b/\q b) x (plV x (.slice A0 n0 c0) (.slice A1 n1 c1))) (hlen:l.length+1<=1000000000) (ty:TypeId) :
 ∃ v4 w4,(Builtin.append_ #[31,31] ty #[ov,.slice (some ⟨W.heap.size,0,none⟩) 1 1]).run Tryz.prog (W.alloc (.cells #[.int .i64 x.lv,.bool x.neg,.slice A0 n0 c0,.slice A1 n1 c1] 33))=.ok v4 w4/\W.grownBy w4 ov.ownBlock/\(∀ v ds,jb W v ds->jb w4 v ds)/\yh base q w4 v4 (l ++ [x])/\(v4.ownBlock=ov.ownBlock\/v4.ownBlock=some (W.heap.size+1)):=by
 have iM:Ext W (W.alloc (.cells #[.int .i64 x.lv,.bool x.neg,.slice A0 n0 c0,.slice A1 n1 c1] 33)):=(Ext.refl W).alloc _;obtain ⟨v4,w4,ax,h2,h3,h4,h5⟩:=(h.ext iM).append_ (ad:=⟨W.heap.size,0,none⟩) (by have:=iM.size; omega) [(x,.slice A0 n0 c0,.slice A1 n1 c1)] (by
  intro r hr;obtain rfl:=List.mem_singleton.1 hr;exact ⟨⟨_,_,_,_,_,_,rfl⟩,hx.ext iM⟩) (by
  intro i hi;obtain rfl:i=0:=by simpa using hi
  rw [Nat.zero_mul,uq,Nat.zero_add]
  refine ⟨?_,?_,?_,?_⟩ <;> simp [go_sem]) (by simp) (by simpa using hlen) 1 ty
 refine ⟨v4,w4,ax,⟨h2.os.trans iM.below.os,h2.tape.trans iM.below.tape,h2.output.trans iM.below.output,Nat.le_trans iM.size h2.size,fun i hi au=>(World.grownBy.block h2 i (Nat.lt_of_lt_of_le hi iM.size) au).trans (iM.below.block i hi)⟩,fun v ds hv=>h3 v ds (hv.ext iM),h4,?_⟩
 rwa [World.size_alloc] at h5
def qax (W:World) (R:Nat) (l:List Int):Prop:=
 R < W.heap.size/\(∀ i,W.frozen? ⟨R,i,none⟩=false)/\∀ i (h:i < l.length),∃ A n c,W.cell? ⟨R,i * 2,none⟩=some (.bool (decide (l[i] < 0)))/\W.cell? ⟨R,i * 2+1,none⟩=some (.slice A n c)/\jb W (.slice A n c) (dg l[i].natAbs)
section
variable {W W':World} {R:Nat} {l:List Int}
theorem qax.ext (h:qax W R l) (hx:Ext W W'):qax W' R l:=by
 obtain ⟨h1,h2,h3⟩:=h;refine ⟨Nat.lt_of_lt_of_le h1 hx.size,fun i=>(hx.frozen (p:=⟨R,i,none⟩) h1).trans (h2 i),fun i hi=>?_⟩;obtain ⟨A,n,c,h4,h5,h6⟩:=h3 i hi;exact ⟨A,n,c,(hx.cell (p:=⟨R,i * 2,none⟩) h1).trans h4,(hx.cell (p:=⟨R,i * 2+1,none⟩) h1).trans h5,h6.ext hx⟩
theorem qax.fin (h:qax W R l) (c:Nat) (h1:l.length<=c) (h2:c<=9223372036854775807):IsV W (.slice (some ⟨R,0,none⟩) l.length c) l:=by
 obtain ⟨h3,-,h4⟩:=h;refine ⟨_,c,rfl,h1,h2,fun k hk=>?_⟩;obtain ⟨A,n,d,h5,h6,h7⟩:=h4 k hk;refine ⟨⟨R,0,none⟩,A,n,d,rfl,h3,?_,?_,h7⟩
 · rw [uq,Nat.zero_add]; exact h5
 · rw [uq,Nat.zero_add]; exact h6
theorem qax.set_ (h:qax W R l) (k:Nat) (hk:k < l.length) (z:Int) {A:Option Addr} {n c:Nat} (hz:jb W (.slice A n c) (dg z.natAbs)) :
 qax ((W.setCell ⟨R,k * 2,none⟩ (.bool (decide (z < 0)))).setCell ⟨R,k * 2+1,none⟩ (.slice A n c)) R (l.set k z):=by
 obtain ⟨h1,h2,h3⟩:=h;obtain ⟨B,m,d,g0,g1,-⟩:=h3 k hk;have q1:(W.setCell ⟨R,k * 2,none⟩ (.bool (decide (z < 0)))).cell? ⟨R,k * 2+1,none⟩=some (.slice B m d):=by rw [World.cell?_setCell_other _ _ _ _ (by intro e; injection e; omega)]; exact g1
 have ak:∀ v ds,jb W v ds->jb ((W.setCell ⟨R,k * 2,none⟩ (.bool (decide (z < 0)))).setCell ⟨R,k * 2+1,none⟩ (.slice A n c)) v ds:=fun v ds hv=>(hv.box g0 rfl _).box q1 rfl _
 refine ⟨by simpa [World.setCell] using h1,fun i=>by rw [World.frozen?_setCell,World.frozen?_setCell]; exact h2 i,fun i hi=>?_⟩;rw [List.length_set] at hi
 by_cases kW:i=k
 · subst kW;rw [List.getElem_set_self];refine ⟨A,n,c,?_,World.cell?_setCell_same _ _ _ q1,ak _ _ hz⟩;rw [World.cell?_setCell_other _ _ _ _ (by intro e; injection e; omega)];exact World.cell?_setCell_same _ _ _ g0
 · rw [List.getElem_set_ne (Ne.symm kW)];obtain ⟨C,j,f,h4,h5,h6⟩:=h3 i hi;refine ⟨C,j,f,?_,?_,ak _ _ h6⟩
   · rw [World.cell?_setCell_other _ _ _ _ (by intro e; injection e; omega),World.cell?_setCell_other _ _ _ _ (by intro e; injection e; omega)]; exact h4
   · rw [World.cell?_setCell_other _ _ _ _ (by intro e; injection e; omega),World.cell?_setCell_other _ _ _ _ (by intro e; injection e; omega)]; exact h5
end
theorem gck:(Tryz.prog.info? 30).map (fun i=>(i.zero,i.size,i.bytes))=some (some (.agg #[.bool false,.slice none 0 0]),2,32):=by kernel_rfl
theorem jbs (n:Int) (h0:0<=n) (h1:n<=1099511627776) (w:World) :
 ∃ w',(Instr.makeSlice 92 (.int .i64 n) (.int .i64 n)).run Tryz.prog w=.ok (.slice (some ⟨w.heap.size,0,none⟩) n.toNat n.toNat) w'/\Ext w w'/\w'.heap.size=w.heap.size+1/\qax w' w.heap.size (List.replicate n.toNat 0):=by
 obtain ⟨i0,hi,lh,gK,iU⟩:=info_parts gck;refine ⟨_,run_make w 92 30 i0 _ Tryz.underlying92 hi lh .i64 .i64 n n h0 (by omega) (by rw [iU]; omega) (by omega),(Ext.refl w).alloc _,by simp,⟨by simp,fun i=>by simp [go_sem],fun i IA=>?_⟩⟩;rw [List.length_replicate] at IA;have hc:∀ j,j < 2->(w.alloc (.cells (madeCells (Value.agg #[.bool false,.slice none 0 0]).cells (n.toNat * i0.size)) 30)).cell? ⟨w.heap.size,i * 2+j,none⟩=#[Value.bool false,.slice none 0 0][j]?:=by
  intro j hj;have af:i * 2+j < n.toNat * 2:=by omega
  have Ae:(i * 2+j) % 2=j:=by omega
  rw [cell_of_row _ _ (i * 2+j) _ _ (0,0) (heap_alloc_new w _)];rw [gK];unfold madeCells;rw [Array.getElem?_map,Array.getElem?_range,if_pos af];show some ((#[Value.bool false,.slice none 0 0]:Array Value)[(i * 2+j) % 2]!)=_;rw [Ae];rcases (show j=0\/j=1 by omega) with rfl | rfl <;> rfl
 rw [List.getElem_replicate];exact ⟨none,0,0,hc 0 (by omega),hc 1 (by omega),by rw [Int.natAbs_zero,xn]; exact jb.nil _⟩
end Go.Proofs.YtcepajijiabkmaaGreat

set_option maxRecDepth 100000
set_option maxHeartbeats 8000000
namespace Go.Proofs.YtcepajijiabkmaaGreat
open Lib (hid)
open Go.RowKit
theorem jd.take {w:World} {q:Nat->Prop} {l:List Pl} {A:Option Addr} (h:jd w q l A 0) (n:Nat):jd w q (l.take n) A 0:=by
 refine jd.of _ _ _ fun i hi=>?_
 rw [List.length_take] at hi;obtain ⟨ad,s,K,e,h1,h2,h3,h4⟩:=h.get_ l A 0 i (by omega);refine ⟨ad,s,K,e,h1,h2,?_,?_⟩
 · rw [List.getElem_take]; exact h3
 · rw [List.getElem_take]; exact h4
theorem vbl {w:World} {q:Nat->Prop} (l:Int) (cs:List Pl) (A:Option Addr) (c:Nat) (h:jd w q cs A 0) (dY:cs.length<=c) (dK:c<=9223372036854775807) :
 Calls Tryz.prog 63 #[.int .i64 l,.slice A cs.length c] w (zg q (uaa l cs) w):=by
 have hh:jd w (fun b=>q b/\b < w.heap.size) cs A 0:=jd.turn (Nat.le_refl _) (fun _ _ h=>h) (fun b hb hq=>⟨⟨hq,hb⟩,rfl⟩) cs A 0 h;have HH:=hid hh;obtain ⟨W,hW⟩:=n_m (w.alloc (.cells #[.int .i64 0,.bool false,.slice none 0 0,.slice none 0 0] 33));have ag:Ext w W:=by rw [<- hW]; exact (Ext.refl w).alloc _
 have bY:W.heap.size=w.heap.size+1:=by rw [<- hW]; simp
 have hz:uf W w.heap.size:=by rw [<- hW]; exact uf.new w _
 have aB:=hid ag;have HZ:=hid hz;clear h hh ag hz;go_enter Tryz.func63,Tryz.ntmps63;go_wp2_with fail;clear hW
 go_loopw [5] (fun nv wr=>∃ n:Nat,n<=cs.length/\nv=.int .i64 n/\Hid (uj cs=uj (cs.take n)/\Ext W wr)) (fun nv _=>(intOf nv).toNat)
 case atStart=>exact ⟨cs.length,Nat.le_refl _,rfl,⟨by rw [List.take_length],Ext.refl W⟩⟩
 case round =>
  obtain ⟨n,hn,rfl,⟨dF,hx⟩⟩:=hrel;have dP:=hid dF;have HX:=hid hx;have lK:=hx.size;clear dF hx;cases n with
  | zero =>
    have HT:Hid (uaa l cs=Pl.zero):=hid (by
     rw [wba (Nat.zero_le _) (by rw [dP.out]; rfl),if_pos rfl])
    have aX:=HZ.out.ext HX.out (by omega);have HF:Hid (zg q (uaa l cs) w (.returned (plV Pl.zero (.slice none 0 0) (.slice none 0 0))) ((((wr.setCell ⟨w.heap.size,0,none⟩ (.int .i64 0)).setCell ⟨w.heap.size,1,none⟩ (.bool false)).setCell ⟨w.heap.size,2,none⟩ (.slice none 0 0)).setCell ⟨w.heap.size,3,none⟩ (.slice none 0 0))):=by
     rw [HT.out];exact jg (p:=Pl.zero) (q:=fun _=>False) (aB.out.trans HX.out) (Nat.le_refl _) aX (Pl.zero_v _ _ none 0 (by omega)) (fun b _ h=>h.elim)
    obtain ⟨⟨z0,z1,z2,z3⟩,zf⟩:=aX;clear hn;go_wp2_with fail;exact bodyPost_ret (v:=plV Pl.zero (.slice none 0 0) (.slice none 0 0)) (by simp [results,Tryz.results63,go_sem,z0,z1,z2,z3,plV,Pl.zero,Pl.lv,Pl.neg]) rfl HF.out
  | succ n =>
    have af:n < cs.length:=by omega
    obtain ⟨ad,C0,j0,g0,C1,j1,g1,rfl,ah,bF,aV⟩:=jd.kid HH.out n af;have bC:=aB.out.trans HX.out;obtain ⟨a0,a1,a2,a3⟩:=bF.ext bC (by rw [ja]; exact ah);have kD:=hid (kad _ _ (aV.ext bC));have VU:IntKind.i64.wrap (((n+1:Nat):Int) - 1)=(n:Int):=by rw [IntKind.wrap_i64]; omega
    have vP:Hid (cs.take (n+1)=cs.take n ++ [cs[n]]):=hid (List.take_succ_eq_append_getElem af);have aaj:Hid (cs[n].isZ=false->uj cs=cs.take (n+1)):=hid (fun hz=>by rw [dP.out,vP.out,kcg hz]);have aai:Hid (cs[n].isZ=true->uj cs=uj (cs.take n)):=hid (fun hz=>by rw [dP.out,vP.out,gbz hz]);have dh:(0:Int) < ((n+1:Nat):Int):=by omega
    unfold plV at kD;generalize cs[n].isZ=bz at *;generalize cs[n]=cn at *;clear bF aV ah;go_wp2_with fail;clear a0 a1 a2 a3;refine kD.out.mono ?_;rintro e w2 ⟨rfl,x2⟩;have X2:=hid (HX.out.trans x2);clear x2 kD;cases bz
    · have HS:=hid (aaj.out rfl);have aX:=HZ.out.ext X2.out (by omega);cases n with
      | zero =>
        have HT:Hid (uaa l cs=cs[0]):=hid (by
         rw [wba (show 0+1<=cs.length by omega) HS.out,if_neg (by omega),dif_pos ⟨rfl,af⟩])
        obtain ⟨ad',D0,i0,h0,D1,i1,h1,e4,ah,bF,aV⟩:=jd.kid HH.out 0 af;injection e4 with e4
        subst e4;have Hm:=aB.out.trans X2.out;obtain ⟨a0,a1,a2,a3⟩:=bF.ext Hm (by rw [ja]; exact ah);have HF:Hid (zg q (uaa l cs) w (.returned (plV cs[0] (.slice D0 i0 h0) (.slice D1 i1 h1))) ((((w2.setCell ⟨w.heap.size,0,none⟩ (.int .i64 cs[0].lv)).setCell ⟨w.heap.size,1,none⟩ (.bool cs[0].neg)).setCell ⟨w.heap.size,2,none⟩ (.slice D0 i0 h0)).setCell ⟨w.heap.size,3,none⟩ (.slice D1 i1 h1))):=by
         rw [HT.out];exact jg Hm (Nat.le_refl _) aX (aV.ext Hm) (fun b _ hb=>⟨by omega,hb.1⟩)
        rw [show ad.add (0 * 4)=ad by simp [Addr.add]] at a0 a1 a2 a3;have cO:=ah;obtain ⟨⟨z0,z1,z2,z3⟩,zf⟩:=aX;clear bF aV hn VU;generalize cs[0]=c0' at *;go_wp2_with fail;exact bodyPost_ret (v:=plV c0' (.slice D0 i0 h0) (.slice D1 i1 h1)) (by simp [results,Tryz.results63,go_sem,z0,z1,z2,z3,plV]) rfl HF.out
      | succ n =>
        have HT:Hid (uaa l cs=.mk l false [] (cs.take (n+2))):=hid (by
         rw [wba (show n+2<=cs.length by omega) HS.out,if_neg (by omega),dif_neg (by omega)])
        have iV:(cs.take (n+2)).length=n+2:=by rw [List.length_take]; omega
        have HF:Hid (zg q (uaa l cs) w (.returned (plV (.mk l false [] (cs.take (n+2))) (.slice none 0 0) (.slice (some ad) (n+2) (n+2)))) ((((w2.setCell ⟨w.heap.size,0,none⟩ (.int .i64 l)).setCell ⟨w.heap.size,1,none⟩ (.bool false)).setCell ⟨w.heap.size,2,none⟩ (.slice none 0 0)).setCell ⟨w.heap.size,3,none⟩ (.slice (some ad) (n+2) (n+2)))):=by
         rw [HT.out];have h1:=PlV.mk (t:=.mk l false [] (cs.take (n+2))) (c:=n+2) (jb.nil w2) (by simp only [Pl.cs]; omega) (by omega) ((HH.out.take (n+2)).ext (aB.out.trans X2.out));rw [show (Pl.mk l false [] (cs.take (n+2))).cs.length=n+2 from iV] at h1;exact jg (p:=.mk l false [] (cs.take (n+2))) (aB.out.trans X2.out) (Nat.le_refl _) aX h1 (fun b _ hb=>⟨by omega,hb.1⟩)
        obtain ⟨⟨z0,z1,z2,z3⟩,zf⟩:=aX;have sH:((((n+1+1:Nat):Int)) == 0)=false:=by simp; omega
        have Ip:((((n+1+1:Nat):Int)) == 1)=false:=by simp; omega
        clear VU;go_wp2_with fail;exact bodyPost_ret (v:=plV (.mk l false [] (cs.take (n+2))) (.slice none 0 0) (.slice (some ad) (n+2) (n+2))) (by simp [results,Tryz.results63,go_sem,z0,z1,z2,z3,plV,Pl.lv,Pl.neg]) rfl HF.out
    · have HS:=hid (aai.out rfl);go_wp2_with fail
      go_roundw
      case rel=>exact ⟨n,by omega,by go_num,⟨HS.out,X2.out⟩⟩
      case measure=>simp [intOf]
end Go.Proofs.YtcepajijiabkmaaGreat
