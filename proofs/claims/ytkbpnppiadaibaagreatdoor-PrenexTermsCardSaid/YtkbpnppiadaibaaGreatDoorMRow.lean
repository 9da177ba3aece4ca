/- Matrices that a call makes: rows of them that grow, results. -/
import Derived.Test.YtkbpnppiadaibaaGreatDoorMt19
set_option linter.unusedSimpArgs false
set_option linter.unusedVariables false

namespace Go.Proofs.YtkbpnppiadaibaaGreatDoor
open Go.RowKit
def RetMx (q : Nat → Prop) (m : Mx) (w : World) (e : Ending) (w' : World) : Prop := ∃ v, e = .returned v ∧ MxV w' q m v ∧ Ext w w'
def Zero7 (w : World) (g : Nat) : Prop := Box7 w g (.mk 0 0 Pl.zero []) (.slice none 0 0) (.slice none 0 0) (.slice none 0 0) ∧ ∀ i, w.frozen? ⟨g, i, none⟩ = false
theorem Zero7.ext {w w' : World} {g : Nat} (h : Zero7 w g) (hx : Ext w w') (hg : g < w.heap.size) : Zero7 w' g := ⟨h.1.ext hx hg, fun i => (hx.frozen (p := ⟨g, i, none⟩) hg).trans (h.2 i)⟩
theorem Zero7.new (w : World) (T : TypeId) : Zero7 (w.alloc (.cells #[.int .i64 0, .int .i64 0, .int .i64 0, .bool false, .slice none 0 0, .slice none 0 0, .slice none 0 0] T)) w.heap.size :=
 ⟨Box7.new w (.mk 0 0 Pl.zero []) _ _ _ T, fun i => by simp [go_sem]⟩
theorem box7_store {W : World} {g : Nat} {m m' : Mx} {A0 A1 K0 B0 B1 K1 : Option Addr} {n0 c0 n1 c1 n2 c2 m0 d0 m1 d1 m2 d2 : Nat} (h : Box7 W g m (.slice A0 n0 c0) (.slice A1 n1 c1) (.slice K0 n2 c2)) :
 (∀ v ds, NatV W v ds → NatV (((((((W.setCell ⟨g, 0, none⟩ (.int .i64 m'.kind)).setCell ⟨g, 1, none⟩ (.int .i64 m'.rel)).setCell ⟨g, 2, none⟩ (.int .i64 m'.p.lv)).setCell ⟨g, 3, none⟩ (.bool m'.p.neg)).setCell ⟨g, 4, none⟩ (.slice B0 m0 d0)).setCell ⟨g, 5, none⟩ (.slice B1 m1 d1)).setCell ⟨g, 6, none⟩ (.slice K1 m2 d2)) v ds) ∧
 (∀ b, b ≠ g → (((((((W.setCell ⟨g, 0, none⟩ (.int .i64 m'.kind)).setCell ⟨g, 1, none⟩ (.int .i64 m'.rel)).setCell ⟨g, 2, none⟩ (.int .i64 m'.p.lv)).setCell ⟨g, 3, none⟩ (.bool m'.p.neg)).setCell ⟨g, 4, none⟩ (.slice B0 m0 d0)).setCell ⟨g, 5, none⟩ (.slice B1 m1 d1)).setCell ⟨g, 6, none⟩ (.slice K1 m2 d2)).heap[b]? = W.heap[b]?) := by
 obtain ⟨h0, h1, h2, h3, h4, h5, h6⟩ := h
 refine ⟨fun v ds hv => ?_, fun b hb => ?_⟩
 · refine ((((((hv.box h0 rfl _).box (u := .int .i64 m.rel) ?_ rfl _).box (u := .int .i64 m.p.lv) ?_ rfl _).box (u := .bool m.p.neg) ?_ rfl _).box (u := .slice A0 n0 c0) ?_ rfl _).box (u := .slice A1 n1 c1) ?_ rfl _).box (u := .slice K0 n2 c2) ?_ rfl _
   all_goals
    repeat rw [World.cell?_setCell_other _ _ _ _ (by simp)]
    first | exact h1 | exact h2 | exact h3 | exact h4 | exact h5 | exact h6
 · have hb' : b ≠ (⟨g, 0, none⟩ : Addr).block := hb
   repeat rw [Below.heap_setCell _ _ _ b (by exact hb)]
theorem close_mx {w W : World} {g : Nat} {m : Mx} {q q' : Nat → Prop} {A0 A1 K : Option Addr} {n0 c0 n1 c1 n2 c2 : Nat} (hx : Ext w W) (hg : w.heap.size ≤ g) (hz : Zero7 W g) (hp : MxV W q m (mxV m (.slice A0 n0 c0) (.slice A1 n1 c1) (.slice K n2 c2))) (hq : ∀ b, b < W.heap.size → q b → b ≠ g ∧ q' b) :
 RetMx q' m w (.returned (mxV m (.slice A0 n0 c0) (.slice A1 n1 c1) (.slice K n2 c2))) (((((((W.setCell ⟨g, 0, none⟩ (.int .i64 m.kind)).setCell ⟨g, 1, none⟩ (.int .i64 m.rel)).setCell ⟨g, 2, none⟩ (.int .i64 m.p.lv)).setCell ⟨g, 3, none⟩ (.bool m.p.neg)).setCell ⟨g, 4, none⟩ (.slice A0 n0 c0)).setCell ⟨g, 5, none⟩ (.slice A1 n1 c1)).setCell ⟨g, 6, none⟩ (.slice K n2 c2)) := by
 obtain ⟨hn, hb⟩ := box7_store (m' := m) (B0 := A0) (m0 := n0) (d0 := c0) (B1 := A1) (m1 := n1) (d1 := c1) (K1 := K) (m2 := n2) (d2 := c2) hz.1
 refine ⟨_, rfl, MxV.turn_ (by simp [World.setCell]) hn (fun b hlt hqb => ⟨(hq b hlt hqb).2, hb b (hq b hlt hqb).1⟩) hp, ((((((hx.setCell hg _).setCell hg _).setCell hg _).setCell hg _).setCell hg _).setCell hg _).setCell hg _⟩
section
variable {base : Nat} {W W' : World} {v : Value} {l : List Mx}
end
end Go.Proofs.YtkbpnppiadaibaaGreatDoor
