/- Matrices that a call makes: rows of them that grow, results. -/
import Derived.Test.YtaedbimbbeploaaGreatDoorMb18
set_option linter.unusedSimpArgs false
set_option linter.unusedVariables false

namespace Go.Proofs.YtaedbimbbeploaaGreatDoor
open Go.RowKit
def yae (q:Nat->Prop) (m:Mx) (w:World) (e:Ending) (w':World):Prop:=∃ v,e=.returned v/\MxV w' q m v/\Ext w w'
def qy (w:World) (g:Nat):Prop:=um w g (.mk 0 0 Pl.zero []) (.slice none 0 0) (.slice none 0 0) (.slice none 0 0)/\∀ i,w.frozen? ⟨g,i,none⟩=false
theorem qy.ext {w w':World} {g:Nat} (h:qy w g) (hx:Ext w w') (hg:g < w.heap.size):qy w' g:=⟨h.1.ext hx hg,fun i=>(hx.frozen (p:=⟨g,i,none⟩) hg).trans (h.2 i)⟩
theorem qy.new (w:World) (T:TypeId):qy (w.alloc (.cells #[.int .i64 0,.int .i64 0,.int .i64 0,.bool false,.slice none 0 0,.slice none 0 0,.slice none 0 0] T)) w.heap.size:=
 ⟨um.new w (.mk 0 0 Pl.zero []) _ _ _ T,fun i=>by simp [go_sem]⟩
theorem vay {W:World} {g:Nat} {m m':Mx} {A0 A1 K0 B0 B1 K1:Option Addr} {n0 c0 n1 c1 n2 c2 m0 d0 m1 d1 m2 d2:Nat} (h:um W g m (.slice A0 n0 c0) (.slice A1 n1 c1) (.slice K0 n2 c2)) :
 (∀ v ds,jb W v ds->jb (((((((W.setCell ⟨g,0,none⟩ (.int .i64 m'.kind)).setCell ⟨g,1,none⟩ (.int .i64 m'.rel)).setCell ⟨g,2,none⟩ (.int .i64 m'.p.lv)).setCell ⟨g,3,none⟩ (.bool m'.p.neg)).setCell ⟨g,4,none⟩ (.slice B0 m0 d0)).setCell ⟨g,5,none⟩ (.slice B1 m1 d1)).setCell ⟨g,6,none⟩ (.slice K1 m2 d2)) v ds) /\
 (∀ b,b ≠ g->(((((((W.setCell ⟨g,0,none⟩ (.int .i64 m'.kind)).setCell ⟨g,1,none⟩ (.int .i64 m'.rel)).setCell ⟨g,2,none⟩ (.int .i64 m'.p.lv)).setCell ⟨g,3,none⟩ (.bool m'.p.neg)).setCell ⟨g,4,none⟩ (.slice B0 m0 d0)).setCell ⟨g,5,none⟩ (.slice B1 m1 d1)).setCell ⟨g,6,none⟩ (.slice K1 m2 d2)).heap[b]?=W.heap[b]?):=by
 obtain ⟨h0,h1,h2,h3,h4,h5,h6⟩:=h;refine ⟨fun v ds hv=>?_,fun b hb=>?_⟩
 · refine ((((((hv.box h0 rfl _).box (u:=.int .i64 m.rel) ?_ rfl _).box (u:=.int .i64 m.p.lv) ?_ rfl _).box (u:=.bool m.p.neg) ?_ rfl _).box (u:=.slice A0 n0 c0) ?_ rfl _).box (u:=.slice A1 n1 c1) ?_ rfl _).box (u:=.slice K0 n2 c2) ?_ rfl _
   all_goals
    repeat rw [World.cell?_setCell_other _ _ _ _ (by simp)]
    first | exact h1 | exact h2 | exact h3 | exact h4 | exact h5 | exact h6
 · have hb':b ≠ (⟨g,0,none⟩:Addr).block:=hb
   repeat rw [Below.heap_setCell _ _ _ b (by exact hb)]
theorem xaj {w W:World} {g:Nat} {m:Mx} {q q':Nat->Prop} {A0 A1 K:Option Addr} {n0 c0 n1 c1 n2 c2:Nat} (hx:Ext w W) (hg:w.heap.size<=g) (hz:qy W g) (hp:MxV W q m (mxV m (.slice A0 n0 c0) (.slice A1 n1 c1) (.slice K n2 c2))) (hq:∀ b,b < W.heap.size->q b->b ≠ g/\q' b) :
 yae q' m w (.returned (mxV m (.slice A0 n0 c0) (.slice A1 n1 c1) (.slice K n2 c2))) (((((((W.setCell ⟨g,0,none⟩ (.int .i64 m.kind)).setCell ⟨g,1,none⟩ (.int .i64 m.rel)).setCell ⟨g,2,none⟩ (.int .i64 m.p.lv)).setCell ⟨g,3,none⟩ (.bool m.p.neg)).setCell ⟨g,4,none⟩ (.slice A0 n0 c0)).setCell ⟨g,5,none⟩ (.slice A1 n1 c1)).setCell ⟨g,6,none⟩ (.slice K n2 c2)):=by
 obtain ⟨hn,hb⟩:=vay (m':=m) (B0:=A0) (m0:=n0) (d0:=c0) (B1:=A1) (m1:=n1) (d1:=c1) (K1:=K) (m2:=n2) (d2:=c2) hz.1;refine ⟨_,rfl,MxV.turn_ (by simp [World.setCell]) hn (fun b hlt hqb=>⟨(hq b hlt hqb).2,hb b (hq b hlt hqb).1⟩) hp,((((((hx.setCell hg _).setCell hg _).setCell hg _).setCell hg _).setCell hg _).setCell hg _).setCell hg _⟩
theorem ybv:(Tryz.prog.info? 45).map (fun i=>(i.zero,i.size,i.bytes))=some (some (.agg #[.int .i64 0,.int .i64 0,.int .i64 0,.bool false,.slice none 0 0,.slice none 0 0,.slice none 0 0]),7,104):=by kernel_rfl
theorem vb2 : vap 43 45 7 104 (.agg #[.int .i64 0, .int .i64 0, .int .i64 0, .bool false, .slice none 0 0, .slice none 0 0, .slice none 0 0]) where
 und:=Tryz.underlying43
 info:=ybv
 cells:=rfl
 pos:=by omega
 nodig:=by
  intro u hu;simp only [Value.cells] at hu;simp only [List.mem_cons,List.not_mem_nil,or_false] at hu;rcases hu with rfl | rfl | rfl | rfl | rfl | rfl | rfl <;> rfl
def mxC (r:Mx × Value × Value × Value):List Value:=[.int .i64 r.1.kind,.int .i64 r.1.rel,.int .i64 r.1.p.lv,.bool r.1.p.neg,r.2.1,r.2.2.1,r.2.2.2]
def qay (rs:List (Mx × Value × Value × Value)):List Value:=rs.flatMap mxC
theorem wbq (a b:List (Mx × Value × Value × Value)):qay (a ++ b)=qay a ++ qay b:=by simp [qay]
theorem gcb (rs:List (Mx × Value × Value × Value)) (k:Nat) (hk:k < rs.length) (j:Nat) (hj:j < 7):(qay rs)[k * 7+j]?=(mxC rs[k])[j]?:=by
 induction rs generalizing k with
 | nil=>simp at hk
 | cons r rs ih =>
   have hl:(mxC r).length=7:=rfl;simp only [qay,List.flatMap_cons];cases k with
   | zero=>simp only [Nat.zero_mul,Nat.zero_add,List.getElem_cons_zero]; rw [List.getElem?_append_left (by omega)]
   | succ k =>
     rw [List.getElem?_append_right (by omega),hl,show (k+1) * 7+j - 7=k * 7+j by omega];exact ih k (by simpa using hk)
def kak (base:Nat) (W:World) (v:Value) (l:List Mx):Prop:=
 ∃ rs:List (Mx × Value × Value × Value),rs.map (fun r=>r.1)=l/\zh 45 7 base W v rs.length (qay rs)/\∀ r ∈ rs,MxV W (fun b=>v.ownBlock ≠ some b/\base<=b) r.1 (mxV r.1 r.2.1 r.2.2.1 r.2.2.2)
section
variable {base:Nat} {W W':World} {v:Value} {l:List Mx}
theorem kak.nil (base:Nat) (W:World):kak base W (.slice none 0 0) []:=⟨[],rfl,zh.nil _ _ _ _,by simp⟩
theorem kak.own (h:kak base W v l) {R:Nat} (hR:v.ownBlock=some R):base<=R/\R < W.heap.size:=by
 obtain ⟨rs,-,h2,-⟩:=h;exact h2.own hR
theorem kak.len (h:kak base W v l):∃ A c,v=.slice A l.length c/\l.length<=c/\c<=9223372036854775807:=by
 obtain ⟨rs,rfl,h2,-⟩:=h;rw [List.length_map];exact h2.len
theorem kak.turn (h:kak base W v l) (hs:W.heap.size<=W'.heap.size) (hb:∀ b,base<=b->b < W.heap.size->W'.heap[b]?=W.heap[b]?) (hn:∀ v ds,jb W v ds->jb W' v ds):kak base W' v l:=by
 have hown:∀ R,v.ownBlock=some R->base<=R/\R < W.heap.size:=fun R hR=>h.own hR
 obtain ⟨rs,e,h2,h3⟩:=h;exact ⟨rs,e,h2.turn (fun R hR=>hb R (hown R hR).1 (hown R hR).2),fun r hr=>MxV.turn_ hs hn (fun b hlt hp=>⟨hp,hb b hp.2 hlt⟩) (h3 r hr)⟩
theorem kak.at_ {A:Option Addr} {n c:Nat} (h:kak base W (.slice A n c) l):jg W (fun b=>base<=b) l A 0:=by
 obtain ⟨rs,rfl,h2,h3⟩:=h;refine jg.of _ _ 0 fun i hi=>?_
 rw [List.length_map] at hi;obtain ⟨g,c',e',-,-,hbg,hlt,-⟩:=h2.pos (by omega);injection e' with e1 e2 e3
 subst e1 e2 e3;have hcell:∀ j,j < 7->W.cell? ⟨g,i * 7+j,none⟩=(mxC rs[i])[j]?:=by
  intro j hj;rw [h2.cell (i * 7+j) (by omega)];exact gcb rs i hi j hj
 refine ⟨⟨g,0,none⟩,rs[i].2.1,rs[i].2.2.1,rs[i].2.2.2,rfl,hlt,hbg,?_,?_⟩
 · rw [gp,Nat.zero_add,Nat.zero_add,List.getElem_map];exact ⟨hcell 0 (by omega),hcell 1 (by omega),hcell 2 (by omega),hcell 3 (by omega),hcell 4 (by omega),hcell 5 (by omega),hcell 6 (by omega)⟩
 · rw [List.getElem_map]; exact (h3 rs[i] (List.getElem_mem hi)).mono fun b hb=>hb.2
end
theorem kak.step {base:Nat} {wr w3:World} {ov:Value} {l:List Mx} {x:Mx} {A0 A1 K:Option Addr} {n0 c0 n1 c1 n2 c2:Nat} (h:kak base wr ov l) (hx:Ext wr w3) (hbase:base<=wr.heap.size) (ht:MxV w3 (fun b=>wr.heap.size<=b) x (mxV x (.slice A0 n0 c0) (.slice A1 n1 c1) (.slice K n2 c2))) (hlen:l.length<=1000000) (ty:TypeId) :
 ∃ v4 w4,(Builtin.append_ #[43,43] ty #[ov,.slice (some ⟨w3.heap.size,0,none⟩) 1 1]).run Tryz.prog (w3.alloc (.cells #[.int .i64 x.kind,.int .i64 x.rel,.int .i64 x.p.lv,.bool x.p.neg,.slice A0 n0 c0,.slice A1 n1 c1,.slice K n2 c2] 45))=.ok v4 w4/\w3.grownBy w4 ov.ownBlock/\(∀ v ds,jb w3 v ds->jb w4 v ds)/\kak base w4 v4 (l ++ [x]):=by
 have hown:∀ R,ov.ownBlock=some R->base<=R/\R < wr.heap.size:=fun R hR=>h.own hR
 have hw3:=hx.size;obtain ⟨rs,rfl,h2,h3⟩:=h;rw [List.length_map] at hlen;obtain ⟨v4,w4,e,r1,r2,r3,r4⟩:=(h2.ext hx).push vb2 (by omega) (mxC (x,.slice A0 n0 c0,.slice A1 n1 c1,.slice K n2 c2)) rfl (by
  intro u hu;simp only [mxC,List.mem_cons,List.not_mem_nil,or_false] at hu
  rcases hu with rfl | rfl | rfl | rfl | rfl | rfl | rfl <;> exact ⟨rfl,rfl⟩) (by omega) (by omega) ty
 refine ⟨v4,w4,e,r2,r3,rs ++ [(x,.slice A0 n0 c0,.slice A1 n1 c1,.slice K n2 c2)],by simp,?_,fun r hr=>?_⟩
 · rw [wbq,List.length_append]; exact r1
 · have hv4:∀ b,b < w3.heap.size->ov.ownBlock ≠ some b->v4.ownBlock ≠ some b:=by
    intro b hb hne e;rcases r4 with r4 | r4
    · exact hne (by rw [<- r4]; exact e)
    · rw [r4] at e; injection e with e; omega
   have hblk:∀ b,b < w3.heap.size->ov.ownBlock ≠ some b->w4.heap[b]?=w3.heap[b]?:=fun b hb hne=>World.grownBy.block r2 b hb (fun e=>hne e.symm)
   have hs4:=r2.size;rcases List.mem_append.1 hr with hr | hr
   · exact MxV.turn_ (by omega) (fun v ds hv=>r3 v ds (hv.ext hx)) (fun b hb hp=>⟨⟨hv4 b (by omega) hp.1,hp.2⟩,(hblk b (by omega) hp.1).trans (hx.below.block b hb)⟩) (h3 r hr)
   · obtain rfl:r=(x,.slice A0 n0 c0,.slice A1 n1 c1,.slice K n2 c2):=by simpa using hr
     exact MxV.turn_ (by omega) r3 (fun b hb hp=>⟨⟨hv4 b hb (fun e=>by have:=hown b e; omega),by omega⟩,hblk b hb (fun e=>by have:=hown b e; omega)⟩) ht
end Go.Proofs.YtaedbimbbeploaaGreatDoor
