/- Layer 38: growing rows of matrices whose parts may lie in what came in; a matrix in the making out of them. -/
import Derived.Test.YtbanhcaahabboaaGreatDoorMn45
set_option linter.unusedSimpArgs false
set_option linter.unusedVariables false

namespace Go.Proofs.YtbanhcaahabboaaGreatDoor
open Go.RowKit

/-- A growing row of matrices of the call's own, from block base on; what they consist of lies from base on, outside this row. -/
def MRowP (low base : Nat) (W : World) (v : Value) (l : List Mx) : Prop :=
  ∃ rs : List (Mx × Value × Value × Value), rs.map (fun r => r.1) = l ∧ GRow 34 7 base W v rs.length (flatM rs) ∧ ∀ r ∈ rs, MxV W (fun b => v.ownBlock ≠ some b ∧ (b < low ∨ base ≤ b)) r.1 (mxV r.1 r.2.1 r.2.2.1 r.2.2.2)
section
variable {low base : Nat} {W W' : World} {v : Value} {l : List Mx}
theorem MRowP.nil (low base : Nat) (W : World) : MRowP low base W (.slice none 0 0) [] := ⟨[], rfl, GRow.nil _ _ _ _, by simp⟩
theorem MRowP.own (h : MRowP low base W v l) {R : Nat} (hR : v.ownBlock = some R) : base ≤ R ∧ R < W.heap.size := by
  obtain ⟨rs, -, h2, -⟩ := h
  exact h2.own hR
theorem MRowP.len (h : MRowP low base W v l) : ∃ A c, v = .slice A l.length c ∧ l.length ≤ c ∧ c ≤ 9223372036854775807 := by
  obtain ⟨rs, rfl, h2, -⟩ := h
  rw [List.length_map]
  exact h2.len
theorem MRowP.turn (h : MRowP low base W v l) (hs : W.heap.size ≤ W'.heap.size) (hb : ∀ b, (b < low ∨ base ≤ b) → b < W.heap.size → W'.heap[b]? = W.heap[b]?) (hn : ∀ v ds, NatV W v ds → NatV W' v ds) : MRowP low base W' v l := by
  have hown : ∀ R, v.ownBlock = some R → base ≤ R ∧ R < W.heap.size := fun R hR => h.own hR
  obtain ⟨rs, e, h2, h3⟩ := h
  exact ⟨rs, e, h2.turn (fun R hR => hb R (.inr (hown R hR).1) (hown R hR).2), fun r hr => MxV.turn_ hs hn (fun b hlt hp => ⟨hp, hb b hp.2 hlt⟩) (h3 r hr)⟩
/-- Read as the parts of a matrix. -/
theorem MRowP.at_ {A : Option Addr} {n c : Nat} (h : MRowP low base W (.slice A n c) l) : MxsAt W (fun b => b < low ∨ base ≤ b) l A 0 := by
  obtain ⟨rs, rfl, h2, h3⟩ := h
  refine MxsAt.of _ _ 0 fun i hi => ?_
  rw [List.length_map] at hi
  obtain ⟨g, c', e', -, -, hbg, hlt, -⟩ := h2.pos (by omega)
  injection e' with e1 e2 e3
  subst e1 e2 e3
  have hcell : ∀ j, j < 7 → W.cell? ⟨g, i * 7 + j, none⟩ = (mxC rs[i])[j]? := by
    intro j hj
    rw [h2.cell (i * 7 + j) (by omega)]
    exact flatM_get rs i hi j hj
  refine ⟨⟨g, 0, none⟩, rs[i].2.1, rs[i].2.2.1, rs[i].2.2.2, rfl, hlt, .inr hbg, ?_, ?_⟩
  · rw [add_mk, Nat.zero_add, Nat.zero_add, List.getElem_map]
    exact ⟨hcell 0 (by omega), hcell 1 (by omega), hcell 2 (by omega), hcell 3 (by omega), hcell 4 (by omega), hcell 5 (by omega), hcell 6 (by omega)⟩
  · rw [List.getElem_map]; exact (h3 rs[i] (List.getElem_mem hi)).mono fun b hb => hb.2
end
/-- One matrix more. -/
theorem MRowP.step {low base : Nat} {wr w3 : World} {ov : Value} {l : List Mx} {x : Mx} {A0 A1 K : Option Addr} {n0 c0 n1 c1 n2 c2 : Nat} (h : MRowP low base wr ov l) (hx : Ext wr w3) (hlow : low ≤ base) (hbase : base ≤ wr.heap.size) (ht : MxV w3 (fun b => b < low ∨ wr.heap.size ≤ b) x (mxV x (.slice A0 n0 c0) (.slice A1 n1 c1) (.slice K n2 c2))) (hlen : l.length ≤ 1000000) (ty : TypeId) :
    ∃ v4 w4, (Builtin.append_ #[32, 32] ty #[ov, .slice (some ⟨w3.heap.size, 0, none⟩) 1 1]).run Tryz.prog (w3.alloc (.cells #[.int .i64 x.kind, .int .i64 x.rel, .int .i64 x.p.lv, .bool x.p.neg, .slice A0 n0 c0, .slice A1 n1 c1, .slice K n2 c2] 34)) = .ok v4 w4 ∧ w3.grownBy w4 ov.ownBlock ∧ (∀ v ds, NatV w3 v ds → NatV w4 v ds) ∧ MRowP low base w4 v4 (l ++ [x]) := by
  have hown : ∀ R, ov.ownBlock = some R → base ≤ R ∧ R < wr.heap.size := fun R hR => h.own hR
  have hw3 := hx.size
  obtain ⟨rs, rfl, h2, h3⟩ := h
  rw [List.length_map] at hlen
  obtain ⟨v4, w4, e, r1, r2, r3, r4⟩ := (h2.ext hx).push matrix_row (by omega) (mxC (x, .slice A0 n0 c0, .slice A1 n1 c1, .slice K n2 c2)) rfl (by
    intro u hu
    simp only [mxC, List.mem_cons, List.not_mem_nil, or_false] at hu
    rcases hu with rfl | rfl | rfl | rfl | rfl | rfl | rfl <;> exact ⟨rfl, rfl⟩) (by omega) (by omega) ty
  refine ⟨v4, w4, e, r2, r3, rs ++ [(x, .slice A0 n0 c0, .slice A1 n1 c1, .slice K n2 c2)], by simp, ?_, fun r hr => ?_⟩
  · rw [flatM_append, List.length_append]; exact r1
  · have hv4 : ∀ b, b < w3.heap.size → ov.ownBlock ≠ some b → v4.ownBlock ≠ some b := by
      intro b hb hne e
      rcases r4 with r4 | r4
      · exact hne (by rw [← r4]; exact e)
      · rw [r4] at e; injection e with e; omega
    have hblk : ∀ b, b < w3.heap.size → ov.ownBlock ≠ some b → w4.heap[b]? = w3.heap[b]? := fun b hb hne => World.grownBy.block r2 b hb (fun e => hne e.symm)
    have hs4 := r2.size
    rcases List.mem_append.1 hr with hr | hr
    · exact MxV.turn_ (by omega) (fun v ds hv => r3 v ds (hv.ext hx)) (fun b hb hp => ⟨⟨hv4 b (by omega) hp.1, hp.2⟩, (hblk b (by omega) hp.1).trans (hx.below.block b hb)⟩) (h3 r hr)
    · obtain rfl : r = (x, .slice A0 n0 c0, .slice A1 n1 c1, .slice K n2 c2) := by simpa using hr
      exact MxV.turn_ (by omega) r3 (fun b hb hp => ⟨⟨hv4 b hb (fun e => by have := hown b e; omega), by omega⟩, hblk b hb (fun e => by have := hown b e; omega)⟩) ht
/-- A matrix of these parts is in the making. -/
def GrowP (low : Nat) (w : World) (o : Nat) (m : Mx) (s A K : Value) (mo : Mx) (so Ao : Value) (l : List Mx) (wr : World) : Prop :=
  Ext w wr ∧ ((low ≤ w.heap.size ∧ w.heap.size + 1 < o) ∧ o + 1 ≤ wr.heap.size) ∧ Box7 wr w.heap.size m s A K ∧ Zero7 wr (w.heap.size + 1) ∧ ∃ ov, (Box7 wr (o) mo so Ao ov ∧ ∀ i, wr.frozen? ⟨o, i, none⟩ = false) ∧ MRowP low (o + 1) wr ov l
theorem GrowP.step {low : Nat} {w : World} {o : Nat} {m : Mx} {s A K : Value} {mo : Mx} {so Ao : Value} {l : List Mx} {wr : World} (h : GrowP low w o m s A K mo so Ao l wr) (hlen : l.length ≤ 1000000) : ∃ AV cv, wr.cell? ⟨o, 6, none⟩ = some (.slice AV l.length cv) ∧ l.length ≤ cv ∧ cv ≤ 9223372036854775807 ∧
    ∀ (w3 : World) (x : Mx) (A0 A1 K1 : Option Addr) (n0 c0 n1 c1 n2 c2 : Nat) (ty : TypeId), Ext wr w3 → MxV w3 (fun b => b < low ∨ wr.heap.size ≤ b) x (mxV x (.slice A0 n0 c0) (.slice A1 n1 c1) (.slice K1 n2 c2)) → ∃ AV' cv' w4,
      (Builtin.append_ #[32, 32] ty #[.slice AV l.length cv, .slice (some ⟨w3.heap.size, 0, none⟩) 1 1]).run Tryz.prog (w3.alloc (.cells #[.int .i64 x.kind, .int .i64 x.rel, .int .i64 x.p.lv, .bool x.p.neg, .slice A0 n0 c0, .slice A1 n1 c1, .slice K1 n2 c2] 34)) = .ok (.slice AV' (l.length + 1) cv') w4 ∧
      w4.cell? ⟨o, 6, none⟩ = some (.slice AV l.length cv) ∧ w4.frozen? ⟨o, 6, none⟩ = false ∧ GrowP low w o m s A K mo so Ao (l ++ [x]) (w4.setCell ⟨o, 6, none⟩ (.slice AV' (l.length + 1) cv')) := by
  obtain ⟨hx, ⟨⟨hlow, ho⟩, hb⟩, hbx, hz, ov, ⟨hO, hf⟩, hk⟩ := h
  obtain ⟨AV, cv, rfl, hc1, hc2⟩ := hk.len
  refine ⟨AV, cv, hO.2.2.2.2.2.2, hc1, hc2, ?_⟩
  intro w3 x A0 A1 K1 n0 c0 n1 c1 n2 c2 ty h3 ht
  have hs3 := h3.size
  have hown : ∀ R, (Value.slice AV l.length cv).ownBlock = some R → o + 1 ≤ R ∧ R < wr.heap.size := fun R hR => hk.own hR
  obtain ⟨v4, w4, hrun, hgb, hnat, hk4⟩ := hk.step h3 (by omega) hb ht hlen ty
  obtain ⟨AV', cv', rfl, hc1', hc2'⟩ := hk4.len
  have el : (l ++ [x]).length = l.length + 1 := by simp
  rw [el] at hrun hk4
  have hblk : ∀ i, i < o + 1 → w4.heap[i]? = wr.heap[i]? := fun i hi => (World.grownBy.block hgb i (by omega) (fun e => by have := hown i e.symm; omega)).trans (h3.below.block i (by omega))
  have hO4 : Box7 w4 (o) mo so Ao (.slice AV l.length cv) := hO.turn (hblk _ (by omega))
  have hf4 : ∀ i, w4.frozen? ⟨o, i, none⟩ = false := fun i => (World.frozen?_of_block (a := ⟨o, i, none⟩) (hblk (o) (by omega))).trans (hf i)
  have hs4 := hgb.size
  have hx4 : Ext w w4 := Below.grown (hx.trans h3).below hgb (by omega) (fun b e => by have := hown b e; omega)
  have oo : ∀ i, i ≠ 6 → (w4.setCell ⟨o, 6, none⟩ (.slice AV' (l.length + 1) cv')).cell? ⟨o, i, none⟩ = w4.cell? ⟨o, i, none⟩ := fun i hi => World.cell?_setCell_other _ _ _ _ (by intro e; injection e; omega)
  have far : ∀ i, i ≠ o → (w4.setCell ⟨o, 6, none⟩ (.slice AV' (l.length + 1) cv')).heap[i]? = w4.heap[i]? := fun i hi => Below.heap_setCell w4 _ _ i hi
  obtain ⟨p0, p1, p2, p3, p4, p5, p6⟩ := hO4
  refine ⟨AV', cv', w4, hrun, p6, hf4 6, ?_, ⟨⟨hlow, ho⟩, ?_⟩, ?_, ⟨?_, fun i => ?_⟩, _, ⟨⟨(oo 0 (by omega)).trans p0, (oo 1 (by omega)).trans p1, (oo 2 (by omega)).trans p2, (oo 3 (by omega)).trans p3, (oo 4 (by omega)).trans p4, (oo 5 (by omega)).trans p5, World.cell?_setCell_same _ _ _ p6⟩, fun i => by simpa [go_sem] using hf4 i⟩, ?_⟩
  · exact hx4.setCell (by show w.heap.size ≤ o; omega) _
  · simp; omega
  · exact hbx.turn ((far _ (by omega)).trans (hblk _ (by omega)))
  · exact hz.1.turn ((far _ (by omega)).trans (hblk _ (by omega)))
  · exact (World.frozen?_of_block (a := ⟨w.heap.size + 1, i, none⟩) ((far (w.heap.size + 1) (by omega)).trans (hblk (w.heap.size + 1) (by omega)))).trans (hz.2 i)
  · exact hk4.turn (by simp) (fun b hb' hlt => far b (by omega)) (fun v ds hv => hv.box p6 rfl _)
/-- The matrix is made: it is read out of its cells. -/
theorem GrowP.fin {low : Nat} {w : World} {o : Nat} {m : Mx} {s A K : Value} {mo : Mx} {so Ao : Value} {l : List Mx} {wr : World} (h : GrowP low w o m s A K mo so Ao l wr) {q : Nat → Prop} (hp : PlV wr q mo.p (plV mo.p so Ao)) (hq : ∀ b, (b < low ∨ o + 1 ≤ b) → q b) : ∃ AV cv, Box7 wr (o) mo so Ao (.slice AV l.length cv) ∧ Zero7 wr (w.heap.size + 1) ∧ MxV wr q (.mk mo.kind mo.rel mo.p l) (mxV (.mk mo.kind mo.rel mo.p l) so Ao (.slice AV l.length cv)) := by
  obtain ⟨hx, ⟨⟨hlow, ho⟩, hb⟩, hbx, hz, ov, ⟨hO, hf⟩, hk⟩ := h
  obtain ⟨AV, cv, rfl, hc1, hc2⟩ := hk.len
  exact ⟨AV, cv, hO, hz, MxV.mk (t := .mk mo.kind mo.rel mo.p l) hp hc1 hc2 (MxsAt.turn (Nat.le_refl _) (fun _ _ h => h) (fun b _ h => ⟨hq b h, rfl⟩) l AV 0 hk.at_)⟩
end Go.Proofs.YtbanhcaahabboaaGreatDoor
