/- Reference 38: Normal: a matrix in normal form. -/
import Derived.Test.YtaedbimbbeploaaGreatMz39
import Derived.Test.YtaedbimbbeploaaGreatMz42
import Derived.Test.YtaedbimbbeploaaGreatMz37
import Derived.Deep.RegionLaw
import Derived.Test.YtaedbimbbeploaaGreatMz38
set_option linter.unusedSimpArgs false
set_option linter.unusedVariables false

namespace Go.Proofs.YtaedbimbbeploaaGreat
open Go.RowKit
theorem Mx.kid_le (t:Mx) (k:Nat) (hk:k < t.ks.length):t.ks[k].sz < t.sz:=by
 cases t with
 | mk kd r p ks=>have:=jb8 (l:=ks) (List.getElem_mem hk); simp only [Mx.sz,Mx.ks] at *; omega
theorem Mx.ks_small {t:Mx} (h:t.small):qag t.ks:=by
 cases t with
 | mk kd r p ks=>simp only [Mx.small,Mx.ks] at *; exact h.2
theorem Mx.p_small {t:Mx} (h:t.small):t.p.sz<=40/\t.p.dm<=4:=by
 cases t with
 | mk kd r p ks=>simp only [Mx.small,Mx.p] at *; exact h.1
theorem Mx.ks_len (t:Mx):t.ks.length < t.sz:=by
 cases t with
 | mk kd r p ks=>have:=vb8 ks; simp only [Mx.sz,Mx.ks] at *; omega
end Go.Proofs.YtaedbimbbeploaaGreat

/- Rows of polynomials that grow. -/
namespace Go.Proofs.YtaedbimbbeploaaGreat
open Go.RowKit
theorem xb7 : qay 27 29 4 64 (.agg #[.int .i64 0, .bool false, .slice none 0 0, .slice none 0 0]) where
 und:=Tryz.underlying27
 info:=wa9
 cells:=rfl
 pos:=by omega
 nodig:=by
  intro u hu;simp only [Value.cells] at hu;simp only [List.mem_cons,List.not_mem_nil,or_false] at hu;rcases hu with rfl | rfl | rfl | rfl <;> rfl
def plC (r:Pl × Value × Value):List Value:=[.int .i64 r.1.lv,.bool r.1.neg,r.2.1,r.2.2]
def kal (rs:List (Pl × Value × Value)):List Value:=rs.flatMap plC
theorem gbh (a b:List (Pl × Value × Value)):kal (a ++ b)=kal a ++ kal b:=by simp [kal]
theorem vaw (a:List (Pl × Value × Value)):(kal a).length=a.length * 4:=by
 induction a with
 | nil=>rfl
 | cons r rs ih=>simp only [kal,List.flatMap_cons,List.length_append,List.length_cons] at *; rw [ih]; simp [plC]; omega
theorem xba (rs:List (Pl × Value × Value)) (k:Nat) (hk:k < rs.length) (j:Nat) (hj:j < 4):(kal rs)[k * 4+j]?=(plC rs[k])[j]?:=by
 induction rs generalizing k with
 | nil=>simp at hk
 | cons r rs ih =>
   have hl:(plC r).length=4:=rfl;simp only [kal,List.flatMap_cons];cases k with
   | zero=>simp only [Nat.zero_mul,Nat.zero_add,List.getElem_cons_zero]; rw [List.getElem?_append_left (by omega)]
   | succ k =>
     rw [List.getElem?_append_right (by omega),hl,show (k+1) * 4+j - 4=k * 4+j by omega];exact ih k (by simpa using hk)
def xac (base:Nat) (q:Nat->Prop) (W:World) (v:Value) (l:List Pl):Prop:=
 ∃ rs:List (Pl × Value × Value),rs.map (fun r=>r.1)=l/\xu 29 4 base W v rs.length (kal rs)/\∀ r ∈ rs,(∃ A0 n0 c0 A1 n1 c1,r.2=(.slice A0 n0 c0,.slice A1 n1 c1))/\PlV W (fun b=>v.ownBlock ≠ some b/\q b) r.1 (plV r.1 r.2.1 r.2.2)
section
variable {base:Nat} {q:Nat->Prop} {W W':World} {v:Value} {l:List Pl}
theorem xac.nil (base:Nat) (q:Nat->Prop) (W:World):xac base q W (.slice none 0 0) []:=⟨[],rfl,xu.nil _ _ _ _,by simp⟩
theorem xac.own (h:xac base q W v l) {R:Nat} (hR:v.ownBlock=some R):base<=R/\R < W.heap.size:=by
 obtain ⟨rs,-,h2,-⟩:=h;exact h2.own hR
theorem xac.len (h:xac base q W v l):∃ A c,v=.slice A l.length c/\l.length<=c/\c<=9223372036854775807:=by
 obtain ⟨rs,rfl,h2,-⟩:=h;rw [List.length_map];exact h2.len
theorem xac.ext (h:xac base q W v l) (hx:Ext W W'):xac base q W' v l:=by
 obtain ⟨rs,e,h2,h3⟩:=h;exact ⟨rs,e,h2.ext hx,fun r hr=>⟨(h3 r hr).1,(h3 r hr).2.ext hx⟩⟩
theorem xac.less {base':Nat} (h:xac base q W v l) (hb:base'<=base):xac base' q W v l:=by
 obtain ⟨rs,e,h2,h3⟩:=h;exact ⟨rs,e,h2.less hb,h3⟩
theorem xac.at_ {A:Option Addr} {n c:Nat} (h:xac base q W (.slice A n c) l):jg W (fun b=>base<=b\/q b) l A 0:=by
 obtain ⟨rs,rfl,h2,h3⟩:=h;refine jg.of _ _ 0 fun i hi=>?_
 rw [List.length_map] at hi;obtain ⟨g,c',e',-,-,hbg,hlt,-⟩:=h2.pos (by omega);injection e' with e1 e2 e3
 subst e1 e2 e3;have hcell:∀ j,j < 4->W.cell? ⟨g,i * 4+j,none⟩=(plC rs[i])[j]?:=by
  intro j hj;rw [h2.cell (i * 4+j) (by omega)];exact xba rs i hi j hj
 refine ⟨⟨g,0,none⟩,rs[i].2.1,rs[i].2.2,rfl,hlt,.inl hbg,?_,?_⟩
 · rw [zu,Nat.zero_add,Nat.zero_add,List.getElem_map];exact ⟨hcell 0 (by omega),hcell 1 (by omega),hcell 2 (by omega),hcell 3 (by omega)⟩
 · rw [List.getElem_map]; exact (h3 rs[i] (List.getElem_mem hi)).2.mono fun b hb=>.inr hb.2
end
theorem gbr (a:Addr) (n:Nat):(a.add n).off=a.off+n:=by unfold Addr.add; split <;> simp_all
theorem gck (a:Addr) (n:Nat) (h:0 < n):a.add n=⟨a.block,a.off+n,none⟩:=by unfold Addr.add; rw [if_neg (by omega)]
theorem jai.cells {W:World} {ad:Addr} {r:Pl × Value × Value} {i:Nat} (h:jai W (ad.add (i * 4)) r.1 r.2.1 r.2.2) (j:Nat) (hj:j < 4) (u:Value) (hu:(plC r)[j]?=some u):W.cell? (ad.add (i * 4+j))=some u:=by
 obtain ⟨h0,h1,h2,h3⟩:=h;rw [jb,gbr] at h1 h2 h3;rcases (show j=0\/j=1\/j=2\/j=3 by omega) with rfl | rfl | rfl | rfl
 · simp only [plC,List.getElem?_cons_zero,Option.some.injEq] at hu;subst hu; exact h0
 all_goals
  rw [gck _ _ (by omega)];simp only [plC,List.getElem?_cons_zero,List.getElem?_cons_succ,Option.some.injEq] at hu;subst hu
  first | exact h1 | exact h2 | exact h3
theorem xac.append_ {base:Nat} {q:Nat->Prop} {W:World} {ov:Value} {l:List Pl} {ad:Addr} (h:xac base q W ov l) (hbase:base<=W.heap.size) (rs2:List (Pl × Value × Value)) (e2:∀ r ∈ rs2,(∃ A0 n0 c0 A1 n1 c1,r.2=(.slice A0 n0 c0,.slice A1 n1 c1))/\PlV W (fun b=>ov.ownBlock ≠ some b/\q b) r.1 (plV r.1 r.2.1 r.2.2)) (e3:∀ i (hi:i < rs2.length),jai W (ad.add (i * 4)) rs2[i].1 rs2[i].2.1 rs2[i].2.2) (hpos:0 < rs2.length) (hlen:l.length+rs2.length<=1000000000) (c:Nat) (ty:TypeId) :
 ∃ v4 w4,(Builtin.append_ #[27,27] ty #[ov,.slice (some ad) rs2.length c]).run Tryz.prog W=.ok v4 w4/\W.grownBy w4 ov.ownBlock/\(∀ v ds,ja W v ds->ja w4 v ds)/\xac base q w4 v4 (l ++ rs2.map (fun r=>r.1))/\(v4.ownBlock=ov.ownBlock\/v4.ownBlock=some W.heap.size):=by
 obtain ⟨rs,rfl,h2,h3⟩:=h;rw [List.length_map] at hlen;obtain ⟨v4,w4,hrun,r1,r2,r3,r4⟩:=h2.append xb7 hbase ad rs2.length c (kal rs2) (vaw rs2) (by
  intro j u hu;have hj:j < rs2.length * 4:=by rw [<- vaw]; exact (List.getElem?_eq_some_iff.1 hu).1
  have hd:j / 4 * 4+j % 4=j:=by omega
  have hm:=e3 (j / 4) (by omega);have hg:=xba rs2 (j / 4) (by omega) (j % 4) (by omega);rw [hd,hu] at hg;have:=hm.cells (j % 4) (by omega) u hg.symm
  rwa [hd] at this) (by
  intro u hu;simp only [kal,List.mem_flatMap] at hu;obtain ⟨r,hr,hu⟩:=hu;obtain ⟨⟨A0,n0,c0,A1,n1,c1,er⟩,-⟩:=e2 r hr;simp only [plC,er,List.mem_cons,List.not_mem_nil,or_false] at hu
  rcases hu with rfl | rfl | rfl | rfl <;> exact ⟨rfl,rfl⟩) hpos (by omega) (by omega) ty
 refine ⟨v4,w4,hrun,r2,r3,⟨rs ++ rs2,by simp,?_,fun r hr=>?_⟩,r4⟩
 · rw [gbh,List.length_append]; exact r1
 · have hv4:∀ b,b < W.heap.size->ov.ownBlock ≠ some b->v4.ownBlock ≠ some b:=by
    intro b hb hne e;rcases r4 with r4 | r4
    · exact hne (by rw [<- r4]; exact e)
    · rw [r4] at e; injection e with e; omega
   have hblk:∀ b,b < W.heap.size->ov.ownBlock ≠ some b->w4.heap[b]?=W.heap[b]?:=fun b hb hne=>World.grownBy.block r2 b hb (fun e=>hne e.symm)
   rcases List.mem_append.1 hr with hr | hr
   · exact ⟨(h3 r hr).1,PlV.turn_ r2.size r3 (fun b hb hp=>⟨⟨hv4 b hb hp.1,hp.2⟩,hblk b hb hp.1⟩) (h3 r hr).2⟩
   · exact ⟨(e2 r hr).1,PlV.turn_ r2.size r3 (fun b hb hp=>⟨⟨hv4 b hb hp.1,hp.2⟩,hblk b hb hp.1⟩) (e2 r hr).2⟩
theorem xac.push {base:Nat} {q:Nat->Prop} {W:World} {ov:Value} {l:List Pl} (h:xac base q W ov l) (hbase:base<=W.heap.size) {x:Pl} {A0 A1:Option Addr} {n0 c0 n1 c1:Nat} (hx:PlV W (fun b=>ov.ownBlock ≠ some b/\q b) x (plV x (.slice A0 n0 c0) (.slice A1 n1 c1))) (hlen:l.length+1<=1000000000) (ty:TypeId) :
 ∃ v4 w4,(Builtin.append_ #[27,27] ty #[ov,.slice (some ⟨W.heap.size,0,none⟩) 1 1]).run Tryz.prog (W.alloc (.cells #[.int .i64 x.lv,.bool x.neg,.slice A0 n0 c0,.slice A1 n1 c1] 29))=.ok v4 w4/\W.grownBy w4 ov.ownBlock/\(∀ v ds,ja W v ds->ja w4 v ds)/\xac base q w4 v4 (l ++ [x])/\(v4.ownBlock=ov.ownBlock\/v4.ownBlock=some (W.heap.size+1)):=by
 have hxa:Ext W (W.alloc (.cells #[.int .i64 x.lv,.bool x.neg,.slice A0 n0 c0,.slice A1 n1 c1] 29)):=(Ext.refl W).alloc _;obtain ⟨v4,w4,hrun,h2,h3,h4,h5⟩:=(h.ext hxa).append_ (ad:=⟨W.heap.size,0,none⟩) (by have:=hxa.size; omega) [(x,.slice A0 n0 c0,.slice A1 n1 c1)] (by
  intro r hr;obtain rfl:=List.mem_singleton.1 hr;exact ⟨⟨_,_,_,_,_,_,rfl⟩,hx.ext hxa⟩) (by
  intro i hi;obtain rfl:i=0:=by simpa using hi
  rw [Nat.zero_mul,zu,Nat.zero_add]
  refine ⟨?_,?_,?_,?_⟩ <;> simp [go_sem]) (by simp) (by simpa using hlen) 1 ty
 refine ⟨v4,w4,hrun,⟨h2.os.trans hxa.below.os,h2.tape.trans hxa.below.tape,h2.output.trans hxa.below.output,Nat.le_trans hxa.size h2.size,fun i hi hne=>(World.grownBy.block h2 i (Nat.lt_of_lt_of_le hi hxa.size) hne).trans (hxa.below.block i hi)⟩,fun v ds hv=>h3 v ds (hv.ext hxa),h4,?_⟩
 rwa [World.size_alloc] at h5
end Go.Proofs.YtaedbimbbeploaaGreat
