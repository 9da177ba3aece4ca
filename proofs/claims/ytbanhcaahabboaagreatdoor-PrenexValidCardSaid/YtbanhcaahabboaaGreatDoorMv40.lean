/- Layer 22: recpoly.Add, Sub at canonical polynomials. -/
import Derived.Test.YtbanhcaahabboaaGreatDoorMv23
import Derived.Test.YtbanhcaahabboaaGreatDoorMulC
import Derived.Test.YtbanhcaahabboaaGreatDoorMv24
import Derived.Test.YtbanhcaahabboaaGreatDoorMatB
set_option linter.unusedSimpArgs false
set_option linter.unusedVariables false

namespace Go.Proofs.YtbanhcaahabboaaGreatDoor
open Go.RowKit

theorem Fit.copy {p : Pl} {E D : Nat} (h : Fit p E D) (hE : E ≤ 1000) : p.sz ≤ 1099511627776 := Nat.le_trans h.sz (Nat.le_trans (Nat.pow_le_pow_left (show E + 2 ≤ 1002 by omega) 4) (by decide))
/-- Two polynomials in a row that is made for them. -/
theorem pls_two {w : World} {qa qb : Nat → Prop} {p q : Pl} {A0 A1 B0 B1 : Option Addr} {n0 c0 c1 m0 d0 d1 : Nat} (hp : PlV w qa p (plV p (.slice A0 n0 c0) (.slice A1 p.cs.length c1))) (hq : PlV w qb q (plV q (.slice B0 m0 d0) (.slice B1 q.cs.length d1))) (T : TypeId) :
    PlsAt (w.alloc (.cells #[.int .i64 p.lv, .bool p.neg, .slice A0 n0 c0, .slice A1 p.cs.length c1, .int .i64 q.lv, .bool q.neg, .slice B0 m0 d0, .slice B1 q.cs.length d1] T)) (fun _ => True) [p, q] (some ⟨w.heap.size, 0, none⟩) 0 := by
  refine ⟨⟨⟨w.heap.size, 0, none⟩, _, _, rfl, by simp, trivial, ?_, (hp.ext ((Ext.refl w).alloc _)).mono fun _ _ => trivial⟩, ⟨⟨w.heap.size, 0, none⟩, _, _, rfl, by simp, trivial, ?_, (hq.ext ((Ext.refl w).alloc _)).mono fun _ _ => trivial⟩, trivial⟩
  · refine ⟨?_, ?_, ?_, ?_⟩ <;> simp [go_sem, add_mk]
  · refine ⟨?_, ?_, ?_, ?_⟩ <;> simp [go_sem, add_mk]
theorem add_two {w : World} {qa : Nat → Prop} {p q : Pl} {A : Option Addr} {c E D : Nat} (hp : Fit p E D) (hq : Fit q E D) (hE : E ≤ 1000000) (hD : D + 1 ≤ 17592186044000) (hc1 : 2 ≤ c) (hc2 : c ≤ 9223372036854775807) (h : PlsAt w qa [p, q] A 0) :
    Calls Tryz.prog 177 #[.slice A 2 c] w (RetPl (fun b => w.heap.size ≤ b) (p.add q) w) := by
  have h1 := add_pls (E := E) (D := D + 1) [p, q] A c hE hD (fun x hx => by
    simp only [List.mem_cons, List.not_mem_nil, or_false] at hx
    rcases hx with rfl | rfl
    · exact ⟨hp.can, hp.ex⟩
    · exact ⟨hq.can, hq.ex⟩) (by
    have := hp.nr; have := hq.nr
    rw [lnr, lnr, lnr, Nat.pow_succ]
    have : 2 ≤ B32 := by decide
    have := Nat.mul_le_mul_left (B32 ^ D) this
    omega) (by simp) hc1 hc2 h
  rw [addL_two] at h1
  exact h1
set_option maxRecDepth 100000 in
set_option maxHeartbeats 2000000 in
theorem cAdd_any {w : World} {p q : Pl} {E D : Nat} {q0 : Nat → Prop} (v0 : Value) {q1 : Nat → Prop} (v1 : Value) (h0 : PlV w q0 p v0) (h1 : PlV w q1 q v1) (hp : Fit p E D) (hq : Fit q E D) (hE : E ≤ 500) (hD : D + 2 ≤ 8796093022000) : Calls Tryz.prog 132 #[v0, v1] w (RetPl (fun b => w.heap.size ≤ b) (p.add q) w) := by
  have H0 := Lib.hid h0
  obtain ⟨A0, n0, c0, B0, d0, rfl, -, -, -, -⟩ := h0.open_
  clear h0
  have H1 := Lib.hid h1
  obtain ⟨A1, n1, c1, B1, d1, rfl, -, -, -, -⟩ := h1.open_
  clear h1
  obtain ⟨W, hW⟩ : ∃ W, ((w.alloc (.cells #[.int .i64 (p).lv, .bool (p).neg, .slice A0 n0 c0, .slice B0 (p).cs.length d0] 31)).alloc (.cells #[.int .i64 (q).lv, .bool (q).neg, .slice A1 n1 c1, .slice B1 (q).cs.length d1] 31)).alloc (.cells #[.int .i64 0, .bool false, .slice none 0 0, .slice none 0 0] 31) = W := ⟨_, rfl⟩
  have hWx : Ext w W := by rw [← hW]; exact (((Ext.refl w).alloc _).alloc _).alloc _
  have hWs : W.heap.size = w.heap.size + 1 + 1 + 1 := by rw [← hW]; simp
  have HX0 := Lib.hid hWx
  have HS : Hid (∀ W', Ext W W' → (Ext w W' ∧ W'.cell? ⟨w.heap.size, 0, none⟩ = some (.int .i64 (p).lv) ∧ W'.cell? ⟨w.heap.size, 1, none⟩ = some (.bool (p).neg) ∧ W'.cell? ⟨w.heap.size, 2, none⟩ = some (.slice A0 n0 c0) ∧ W'.cell? ⟨w.heap.size, 3, none⟩ = some (.slice B0 (p).cs.length d0) ∧ W'.cell? ⟨w.heap.size + 1, 0, none⟩ = some (.int .i64 (q).lv) ∧ W'.cell? ⟨w.heap.size + 1, 1, none⟩ = some (.bool (q).neg) ∧ W'.cell? ⟨w.heap.size + 1, 2, none⟩ = some (.slice A1 n1 c1) ∧ W'.cell? ⟨w.heap.size + 1, 3, none⟩ = some (.slice B1 (q).cs.length d1))) := by
    have : ∀ W', Ext W W' → (Ext w W' ∧ W'.cell? ⟨w.heap.size, 0, none⟩ = some (.int .i64 (p).lv) ∧ W'.cell? ⟨w.heap.size, 1, none⟩ = some (.bool (p).neg) ∧ W'.cell? ⟨w.heap.size, 2, none⟩ = some (.slice A0 n0 c0) ∧ W'.cell? ⟨w.heap.size, 3, none⟩ = some (.slice B0 (p).cs.length d0) ∧ W'.cell? ⟨w.heap.size + 1, 0, none⟩ = some (.int .i64 (q).lv) ∧ W'.cell? ⟨w.heap.size + 1, 1, none⟩ = some (.bool (q).neg) ∧ W'.cell? ⟨w.heap.size + 1, 2, none⟩ = some (.slice A1 n1 c1) ∧ W'.cell? ⟨w.heap.size + 1, 3, none⟩ = some (.slice B1 (q).cs.length d1)) := fun W' hx => by
      obtain ⟨hc, hf⟩ := hx.cells
      refine ⟨hWx.trans hx, ?_, ?_, ?_, ?_, ?_, ?_, ?_, ?_⟩ <;> (rw [hc _ _ (by omega), ← hW]; simp [go_sem])
    exact this
  have HZ : Hid (Zero4 W (w.heap.size + 1 + 1)) := by
    have : Zero4 W (w.heap.size + 1 + 1) := by
      rw [← hW]
      refine ⟨⟨?_, ?_, ?_, ?_⟩, fun i => ?_⟩ <;> simp [go_sem]
    exact this
  have HS2 : Hid (∀ W'' u0 u1 u2 u3, Ext W W'' → ∀ W', W' = (((W''.setCell ⟨w.heap.size + 1 + 1, 0, none⟩ u0).setCell ⟨w.heap.size + 1 + 1, 1, none⟩ u1).setCell ⟨w.heap.size + 1 + 1, 2, none⟩ u2).setCell ⟨w.heap.size + 1 + 1, 3, none⟩ u3 → (Ext w W' ∧ W'.cell? ⟨w.heap.size, 0, none⟩ = some (.int .i64 (p).lv) ∧ W'.cell? ⟨w.heap.size, 1, none⟩ = some (.bool (p).neg) ∧ W'.cell? ⟨w.heap.size, 2, none⟩ = some (.slice A0 n0 c0) ∧ W'.cell? ⟨w.heap.size, 3, none⟩ = some (.slice B0 (p).cs.length d0) ∧ W'.cell? ⟨w.heap.size + 1, 0, none⟩ = some (.int .i64 (q).lv) ∧ W'.cell? ⟨w.heap.size + 1, 1, none⟩ = some (.bool (q).neg) ∧ W'.cell? ⟨w.heap.size + 1, 2, none⟩ = some (.slice A1 n1 c1) ∧ W'.cell? ⟨w.heap.size + 1, 3, none⟩ = some (.slice B1 (q).cs.length d1))) := by
    have : ∀ W'' u0 u1 u2 u3, Ext W W'' → ∀ W', W' = (((W''.setCell ⟨w.heap.size + 1 + 1, 0, none⟩ u0).setCell ⟨w.heap.size + 1 + 1, 1, none⟩ u1).setCell ⟨w.heap.size + 1 + 1, 2, none⟩ u2).setCell ⟨w.heap.size + 1 + 1, 3, none⟩ u3 → (Ext w W' ∧ W'.cell? ⟨w.heap.size, 0, none⟩ = some (.int .i64 (p).lv) ∧ W'.cell? ⟨w.heap.size, 1, none⟩ = some (.bool (p).neg) ∧ W'.cell? ⟨w.heap.size, 2, none⟩ = some (.slice A0 n0 c0) ∧ W'.cell? ⟨w.heap.size, 3, none⟩ = some (.slice B0 (p).cs.length d0) ∧ W'.cell? ⟨w.heap.size + 1, 0, none⟩ = some (.int .i64 (q).lv) ∧ W'.cell? ⟨w.heap.size + 1, 1, none⟩ = some (.bool (q).neg) ∧ W'.cell? ⟨w.heap.size + 1, 2, none⟩ = some (.slice A1 n1 c1) ∧ W'.cell? ⟨w.heap.size + 1, 3, none⟩ = some (.slice B1 (q).cs.length d1)) := fun W'' u0 u1 u2 u3 hx W' hW' => by
      obtain ⟨s1, k0, k1, k2, k3, k4, k5, k6, k7⟩ := HS.out W'' hx
      rw [hW']
      refine ⟨(((s1.setCell (by simp; try omega) _).setCell (by simp; try omega) _).setCell (by simp; try omega) _).setCell (by simp; try omega) _, ?_, ?_, ?_, ?_, ?_, ?_, ?_, ?_⟩ <;> rw [World.cell?_setCell_other _ _ _ _ (by simp; try omega), World.cell?_setCell_other _ _ _ _ (by simp; try omega), World.cell?_setCell_other _ _ _ _ (by simp; try omega), World.cell?_setCell_other _ _ _ _ (by simp; try omega)] <;> assumption
    exact this
  have HFP := Lib.hid hp
  have HFQ := Lib.hid hq
  clear hp hq
  have HSZ : Hid ((p.add q).sz ≤ 1099511627776) := Lib.hid (((HFP.out.add HFQ.out)).copy (by omega))
  have HDM : Hid ((p.add q).dm ≤ 35184372088832) := Lib.hid (Nat.le_trans ((HFP.out.add HFQ.out)).dm (by omega))
  have HFR := Lib.hid ((HFP.out.add HFQ.out))
  obtain ⟨-, b0, b1, b2, b3, b4, b5, b6, b7⟩ := HS.out W (Ext.refl W)
  clear hWx
  unfold plV at *
  go_enter Tryz.func132, Tryz.ntmps132
  go_wp2_with fail
  clear hW b0 b1 b2 b3 b4 b5 b6 b7
  have yy0 : Ext W W.drew := (Ext.refl W).drew
  have Y0 := Lib.hid yy0
  clear yy0
  go_region_held3 (fun W' => Ext w W' ∧ W'.cell? ⟨w.heap.size, 0, none⟩ = some (.int .i64 (p).lv) ∧ W'.cell? ⟨w.heap.size, 1, none⟩ = some (.bool (p).neg) ∧ W'.cell? ⟨w.heap.size, 2, none⟩ = some (.slice A0 n0 c0) ∧ W'.cell? ⟨w.heap.size, 3, none⟩ = some (.slice B0 (p).cs.length d0) ∧ W'.cell? ⟨w.heap.size + 1, 0, none⟩ = some (.int .i64 (q).lv) ∧ W'.cell? ⟨w.heap.size + 1, 1, none⟩ = some (.bool (q).neg) ∧ W'.cell? ⟨w.heap.size + 1, 2, none⟩ = some (.slice A1 n1 c1) ∧ W'.cell? ⟨w.heap.size + 1, 3, none⟩ = some (.slice B1 (q).cs.length d1))
    (first | with_reducible exact HS.out _ Y0.out | with_reducible exact HS.out _ yy1 | with_reducible exact HS.out _ yy2 | with_reducible exact HS.out _ yy3 | with_reducible exact HS.out _ yy4 | with_reducible exact HS.out _ (yy2.alloc _) | exact HS2.out _ _ _ _ _ yy4 _ rfl)
    (first
      | (go_at_call 119
         (fail_if_success have _ := yy1)
         refine (canonical_can _ (H0.out.ext (HX0.out.trans Y0.out)) HFP.out.can).mono ?_
         rintro e w1 ⟨z1, rfl, m1, x1⟩
         obtain ⟨C1, i1, j1, D1, k1, rfl, -⟩ := id m1.open_
         have yy1 : Ext W w1 := Ext.trans Y0.out x1
         unfold plV)
      | (go_at_call 119
         refine (canonical_can _ (H1.out.ext (HX0.out.trans yy1)) HFQ.out.can).mono ?_
         rintro e w2 ⟨z2, rfl, m2, x2⟩
         obtain ⟨C2, i2, j2, D2, k2, rfl, -⟩ := id m2.open_
         have yy2 : Ext W w2 := Ext.trans yy1 x2
         replace m1 := m1.ext x2
         unfold plV)
      | (go_at_call 177
         refine (add_two HFP.out HFQ.out (by omega) (by omega) (Nat.le_refl 2) (by decide) (pls_two m1 m2 _)).mono ?_
         rintro e w3 ⟨z3, rfl, m3, x3⟩
         obtain ⟨C3, i3, j3, D3, k3, rfl, -⟩ := id m3.open_
         have yy3 : Ext W w3 := Ext.trans (yy2.alloc _) x3
         replace m1 := m1.ext (((Ext.refl _).alloc _).trans x3)
         replace m2 := m2.ext (((Ext.refl _).alloc _).trans x3)
         unfold plV)
      | (go_at_call 90
         refine (copy_any _ _ (Pl.add_can _ _) HSZ.out HDM.out m3).mono ?_
         rintro e w4 ⟨z4, rfl, m4, x4⟩
         obtain ⟨C4, i4, j4, D4, k4, rfl, -⟩ := id m4.open_
         have yy4 : Ext W w4 := Ext.trans yy3 x4
         replace m1 := m1.ext x4
         replace m2 := m2.ext x4
         replace m3 := m3.ext x4
         obtain ⟨⟨r0, r1, r2, r3⟩, rf⟩ := HZ.out.ext yy4 (by omega)
         unfold plV))
  have hzn := HZ.out.ext yy4 (by omega)
  have hsn := (yy4 : Ext W _).size
  have hsp := (yy3 : Ext W _).size
  have HF := Lib.hid (close_pl (q' := fun b => w.heap.size ≤ b) (HX0.out.trans yy4) (by omega) hzn m4 (fun b _ hb => ⟨by omega, by omega⟩))
  clear m4 x4 m3 x3 m2 x2 m1 x1 yy4 yy3 yy2 yy1 HS2 HS HZ
  try unfold plV
  go_wp2_with fail
  exact bodyPost_ret (by simp [results, Tryz.results132, go_sem, r0, r1, r2, r3, plV]) rfl HF.out
set_option maxRecDepth 100000 in
set_option maxHeartbeats 2000000 in
theorem cSub_any {w : World} {p q : Pl} {E D : Nat} {q0 : Nat → Prop} (v0 : Value) {q1 : Nat → Prop} (v1 : Value) (h0 : PlV w q0 p v0) (h1 : PlV w q1 q v1) (hp : Fit p E D) (hq : Fit q E D) (hE : E ≤ 500) (hD : D + 2 ≤ 8796093022000) : Calls Tryz.prog 124 #[v0, v1] w (RetPl (fun b => w.heap.size ≤ b) (p.add q.opp) w) := by
  have H0 := Lib.hid h0
  obtain ⟨A0, n0, c0, B0, d0, rfl, -, -, -, -⟩ := h0.open_
  clear h0
  have H1 := Lib.hid h1
  obtain ⟨A1, n1, c1, B1, d1, rfl, -, -, -, -⟩ := h1.open_
  clear h1
  obtain ⟨W, hW⟩ : ∃ W, ((w.alloc (.cells #[.int .i64 (p).lv, .bool (p).neg, .slice A0 n0 c0, .slice B0 (p).cs.length d0] 31)).alloc (.cells #[.int .i64 (q).lv, .bool (q).neg, .slice A1 n1 c1, .slice B1 (q).cs.length d1] 31)).alloc (.cells #[.int .i64 0, .bool false, .slice none 0 0, .slice none 0 0] 31) = W := ⟨_, rfl⟩
  have hWx : Ext w W := by rw [← hW]; exact (((Ext.refl w).alloc _).alloc _).alloc _
  have hWs : W.heap.size = w.heap.size + 1 + 1 + 1 := by rw [← hW]; simp
  have HX0 := Lib.hid hWx
  have HS : Hid (∀ W', Ext W W' → (Ext w W' ∧ W'.cell? ⟨w.heap.size, 0, none⟩ = some (.int .i64 (p).lv) ∧ W'.cell? ⟨w.heap.size, 1, none⟩ = some (.bool (p).neg) ∧ W'.cell? ⟨w.heap.size, 2, none⟩ = some (.slice A0 n0 c0) ∧ W'.cell? ⟨w.heap.size, 3, none⟩ = some (.slice B0 (p).cs.length d0) ∧ W'.cell? ⟨w.heap.size + 1, 0, none⟩ = some (.int .i64 (q).lv) ∧ W'.cell? ⟨w.heap.size + 1, 1, none⟩ = some (.bool (q).neg) ∧ W'.cell? ⟨w.heap.size + 1, 2, none⟩ = some (.slice A1 n1 c1) ∧ W'.cell? ⟨w.heap.size + 1, 3, none⟩ = some (.slice B1 (q).cs.length d1))) := by
    have : ∀ W', Ext W W' → (Ext w W' ∧ W'.cell? ⟨w.heap.size, 0, none⟩ = some (.int .i64 (p).lv) ∧ W'.cell? ⟨w.heap.size, 1, none⟩ = some (.bool (p).neg) ∧ W'.cell? ⟨w.heap.size, 2, none⟩ = some (.slice A0 n0 c0) ∧ W'.cell? ⟨w.heap.size, 3, none⟩ = some (.slice B0 (p).cs.length d0) ∧ W'.cell? ⟨w.heap.size + 1, 0, none⟩ = some (.int .i64 (q).lv) ∧ W'.cell? ⟨w.heap.size + 1, 1, none⟩ = some (.bool (q).neg) ∧ W'.cell? ⟨w.heap.size + 1, 2, none⟩ = some (.slice A1 n1 c1) ∧ W'.cell? ⟨w.heap.size + 1, 3, none⟩ = some (.slice B1 (q).cs.length d1)) := fun W' hx => by
      obtain ⟨hc, hf⟩ := hx.cells
      refine ⟨hWx.trans hx, ?_, ?_, ?_, ?_, ?_, ?_, ?_, ?_⟩ <;> (rw [hc _ _ (by omega), ← hW]; simp [go_sem])
    exact this
  have HZ : Hid (Zero4 W (w.heap.size + 1 + 1)) := by
    have : Zero4 W (w.heap.size + 1 + 1) := by
      rw [← hW]
      refine ⟨⟨?_, ?_, ?_, ?_⟩, fun i => ?_⟩ <;> simp [go_sem]
    exact this
  have HS2 : Hid (∀ W'' u0 u1 u2 u3, Ext W W'' → ∀ W', W' = (((W''.setCell ⟨w.heap.size + 1 + 1, 0, none⟩ u0).setCell ⟨w.heap.size + 1 + 1, 1, none⟩ u1).setCell ⟨w.heap.size + 1 + 1, 2, none⟩ u2).setCell ⟨w.heap.size + 1 + 1, 3, none⟩ u3 → (Ext w W' ∧ W'.cell? ⟨w.heap.size, 0, none⟩ = some (.int .i64 (p).lv) ∧ W'.cell? ⟨w.heap.size, 1, none⟩ = some (.bool (p).neg) ∧ W'.cell? ⟨w.heap.size, 2, none⟩ = some (.slice A0 n0 c0) ∧ W'.cell? ⟨w.heap.size, 3, none⟩ = some (.slice B0 (p).cs.length d0) ∧ W'.cell? ⟨w.heap.size + 1, 0, none⟩ = some (.int .i64 (q).lv) ∧ W'.cell? ⟨w.heap.size + 1, 1, none⟩ = some (.bool (q).neg) ∧ W'.cell? ⟨w.heap.size + 1, 2, none⟩ = some (.slice A1 n1 c1) ∧ W'.cell? ⟨w.heap.size + 1, 3, none⟩ = some (.slice B1 (q).cs.length d1))) := by
    have : ∀ W'' u0 u1 u2 u3, Ext W W'' → ∀ W', W' = (((W''.setCell ⟨w.heap.size + 1 + 1, 0, none⟩ u0).setCell ⟨w.heap.size + 1 + 1, 1, none⟩ u1).setCell ⟨w.heap.size + 1 + 1, 2, none⟩ u2).setCell ⟨w.heap.size + 1 + 1, 3, none⟩ u3 → (Ext w W' ∧ W'.cell? ⟨w.heap.size, 0, none⟩ = some (.int .i64 (p).lv) ∧ W'.cell? ⟨w.heap.size, 1, none⟩ = some (.bool (p).neg) ∧ W'.cell? ⟨w.heap.size, 2, none⟩ = some (.slice A0 n0 c0) ∧ W'.cell? ⟨w.heap.size, 3, none⟩ = some (.slice B0 (p).cs.length d0) ∧ W'.cell? ⟨w.heap.size + 1, 0, none⟩ = some (.int .i64 (q).lv) ∧ W'.cell? ⟨w.heap.size + 1, 1, none⟩ = some (.bool (q).neg) ∧ W'.cell? ⟨w.heap.size + 1, 2, none⟩ = some (.slice A1 n1 c1) ∧ W'.cell? ⟨w.heap.size + 1, 3, none⟩ = some (.slice B1 (q).cs.length d1)) := fun W'' u0 u1 u2 u3 hx W' hW' => by
      obtain ⟨s1, k0, k1, k2, k3, k4, k5, k6, k7⟩ := HS.out W'' hx
      rw [hW']
      refine ⟨(((s1.setCell (by simp; try omega) _).setCell (by simp; try omega) _).setCell (by simp; try omega) _).setCell (by simp; try omega) _, ?_, ?_, ?_, ?_, ?_, ?_, ?_, ?_⟩ <;> rw [World.cell?_setCell_other _ _ _ _ (by simp; try omega), World.cell?_setCell_other _ _ _ _ (by simp; try omega), World.cell?_setCell_other _ _ _ _ (by simp; try omega), World.cell?_setCell_other _ _ _ _ (by simp; try omega)] <;> assumption
    exact this
  have HFP := Lib.hid hp
  have HFQ := Lib.hid hq
  clear hp hq
  have HM1 : Hid ((dg (-1 : Int).natAbs).length ≤ 1) := Lib.hid (by rw [show (-1 : Int).natAbs = 1 from rfl, dg_small (by decide) (by decide)]; exact Nat.le_refl 1)
  have HFO : Hid (Fit (q.mul (Pl.const (-1))) E (D + 1)) := Lib.hid HFQ.out.opp
  have HSZ : Hid ((p.add (q.mul (Pl.const (-1)))).sz ≤ 1099511627776) := Lib.hid ((((HFP.out.mono (Nat.le_refl _) (Nat.le_succ _)).add HFO.out)).copy (by omega))
  have HDM : Hid ((p.add (q.mul (Pl.const (-1)))).dm ≤ 35184372088832) := Lib.hid (Nat.le_trans (((HFP.out.mono (Nat.le_refl _) (Nat.le_succ _)).add HFO.out)).dm (by omega))
  have HFR := Lib.hid (((HFP.out.mono (Nat.le_refl _) (Nat.le_succ _)).add HFO.out))
  obtain ⟨-, b0, b1, b2, b3, b4, b5, b6, b7⟩ := HS.out W (Ext.refl W)
  clear hWx
  unfold plV at *
  go_enter Tryz.func124, Tryz.ntmps124
  go_wp2_with fail
  clear hW b0 b1 b2 b3 b4 b5 b6 b7
  have yy0 : Ext W W.drew := (Ext.refl W).drew
  have Y0 := Lib.hid yy0
  clear yy0
  go_region_held3 (fun W' => Ext w W' ∧ W'.cell? ⟨w.heap.size, 0, none⟩ = some (.int .i64 (p).lv) ∧ W'.cell? ⟨w.heap.size, 1, none⟩ = some (.bool (p).neg) ∧ W'.cell? ⟨w.heap.size, 2, none⟩ = some (.slice A0 n0 c0) ∧ W'.cell? ⟨w.heap.size, 3, none⟩ = some (.slice B0 (p).cs.length d0) ∧ W'.cell? ⟨w.heap.size + 1, 0, none⟩ = some (.int .i64 (q).lv) ∧ W'.cell? ⟨w.heap.size + 1, 1, none⟩ = some (.bool (q).neg) ∧ W'.cell? ⟨w.heap.size + 1, 2, none⟩ = some (.slice A1 n1 c1) ∧ W'.cell? ⟨w.heap.size + 1, 3, none⟩ = some (.slice B1 (q).cs.length d1))
    (first | with_reducible exact HS.out _ Y0.out | with_reducible exact HS.out _ yy1 | with_reducible exact HS.out _ yy2 | with_reducible exact HS.out _ yy3 | with_reducible exact HS.out _ yy4 | with_reducible exact HS.out _ yy5 | with_reducible exact HS.out _ yy6 | with_reducible exact HS.out _ (yy4.alloc _) | exact HS2.out _ _ _ _ _ yy6 _ rfl)
    (first
      | (go_at_call 119
         (fail_if_success have _ := yy1)
         refine (canonical_can _ (H0.out.ext (HX0.out.trans Y0.out)) HFP.out.can).mono ?_
         rintro e w1 ⟨z1, rfl, m1, x1⟩
         obtain ⟨C1, i1, j1, D1, k1, rfl, -⟩ := id m1.open_
         have yy1 : Ext W w1 := Ext.trans Y0.out x1
         unfold plV)
      | (go_at_call 119
         refine (canonical_can _ (H1.out.ext (HX0.out.trans yy1)) HFQ.out.can).mono ?_
         rintro e w2 ⟨z2, rfl, m2, x2⟩
         obtain ⟨C2, i2, j2, D2, k2, rfl, -⟩ := id m2.open_
         have yy2 : Ext W w2 := Ext.trans yy1 x2
         replace m1 := m1.ext x2
         unfold plV)
      | (go_at_call 116
         refine (of_int (-1) _ (by omega) (by omega)).mono ?_
         rintro e w3 ⟨z3, rfl, ⟨y3, rfl, m3⟩, x3⟩
         obtain ⟨C3, k3, rfl, -⟩ := id m3
         have yy3 : Ext W w3 := Ext.trans yy2 x3
         replace m1 := m1.ext x3
         replace m2 := m2.ext x3)
      | (go_at_call 178
         refine (scale_any _ _ m2 (intR_of m3 HM1.out) HFQ.out (by omega) (by omega)).mono ?_
         rintro e w4 ⟨z4, rfl, m4, x4⟩
         obtain ⟨C4, i4, j4, D4, k4, rfl, -⟩ := id m4.open_
         have yy4 : Ext W w4 := Ext.trans yy3 x4
         replace m1 := m1.ext x4
         replace m2 := m2.ext x4
         replace m3 := m3.ext x4
         unfold plV)
      | (go_at_call 177
         refine (add_two (HFP.out.mono (Nat.le_refl _) (Nat.le_succ _)) HFO.out (by omega) (by omega) (Nat.le_refl 2) (by decide) (pls_two m1 m4 _)).mono ?_
         rintro e w5 ⟨z5, rfl, m5, x5⟩
         obtain ⟨C5, i5, j5, D5, k5, rfl, -⟩ := id m5.open_
         have yy5 : Ext W w5 := Ext.trans (yy4.alloc _) x5
         replace m1 := m1.ext (((Ext.refl _).alloc _).trans x5)
         replace m2 := m2.ext (((Ext.refl _).alloc _).trans x5)
         replace m3 := m3.ext (((Ext.refl _).alloc _).trans x5)
         replace m4 := m4.ext (((Ext.refl _).alloc _).trans x5)
         unfold plV)
      | (go_at_call 90
         refine (copy_any _ _ (Pl.add_can _ _) HSZ.out HDM.out m5).mono ?_
         rintro e w6 ⟨z6, rfl, m6, x6⟩
         obtain ⟨C6, i6, j6, D6, k6, rfl, -⟩ := id m6.open_
         have yy6 : Ext W w6 := Ext.trans yy5 x6
         replace m1 := m1.ext x6
         replace m2 := m2.ext x6
         replace m3 := m3.ext x6
         replace m4 := m4.ext x6
         replace m5 := m5.ext x6
         obtain ⟨⟨r0, r1, r2, r3⟩, rf⟩ := HZ.out.ext yy6 (by omega)
         unfold plV))
  have hzn := HZ.out.ext yy6 (by omega)
  have hsn := (yy6 : Ext W _).size
  have hsp := (yy5 : Ext W _).size
  have HF := Lib.hid (close_pl (q' := fun b => w.heap.size ≤ b) (HX0.out.trans yy6) (by omega) hzn m6 (fun b _ hb => ⟨by omega, by omega⟩))
  clear m6 x6 m5 x5 m4 x4 m3 x3 m2 x2 m1 x1 yy6 yy5 yy4 yy3 yy2 yy1 HS2 HS HZ
  try unfold plV
  go_wp2_with fail
  exact bodyPost_ret (by simp [results, Tryz.results124, go_sem, r0, r1, r2, r3, plV]) rfl HF.out
end Go.Proofs.YtbanhcaahabboaaGreatDoor

/- Layer 38: builder.matrix at any formula without equivalences. -/
namespace Go.Proofs.YtbanhcaahabboaaGreatDoor
open Go.RowKit
attribute [local go_sem] as_Num as_Name as_Add as_Sub as_Mul as_Neg as_Pow as_Truth as_Atom as_Not as_And as_Or as_Implies as_Iff as_Quant
section
variable {w0 : World} {L base gb bl bt : Nat}

set_option maxRecDepth 100000 in
set_option maxHeartbeats 2000000 in
theorem mat_atom {l k : Tm} {r : Int} (hpl : ∀ g, PolyIH w0 L gb bl g l) (hpk : ∀ g, PolyIH w0 L gb bl g k) : MatIH w0 L base gb bl bt (.atom l r k) := by
  intro v W own s tk pos hx0 hf hp hl hn ha hb
  obtain ⟨x, y, rfl, hx, hy⟩ := hf
  have hwl : l.wt ≤ 320 := hl.1
  have hwk : k.wt ≤ 320 := hl.2
  obtain ⟨W1, hW⟩ : ∃ W1, (W.alloc (.cells #[.int .i64 0, .int .i64 0, .int .i64 0, .bool false, .slice none 0 0, .slice none 0 0, .slice none 0 0] 34)).alloc (.cells #[x, .int .i64 r, y] 97) = W1 := ⟨_, rfl⟩
  have hWx : Ext W W1 := by rw [← hW]; exact ((Ext.refl W).alloc _).alloc _
  have hWs : W.heap.size + 1 < W1.heap.size := by rw [← hW]; simp
  have hz : Zero7 W1 W.heap.size := by rw [← hW]; exact (Zero7.new W _).ext ((Ext.refl _).alloc _) (by simp)
  have hb1 := hb.ext hWx
  have HA := Lib.hid (fun W' (hx' : Ext W1 W') => hpl s.lev x W' ((hx0.trans hWx).trans hx') hx ((hb1.ext hx').pbld) (by omega))
  have HC := Lib.hid (fun W' (hx' : Ext W1 W') => hpk s.lev y W' ((hx0.trans hWx).trans hx') hy ((hb1.ext hx').pbld) (by omega))
  have HFA := Lib.hid ((polF_bd s.lev l (by omega)).fit400 (by omega))
  have HFC := Lib.hid ((polF_bd s.lev k (by omega)).fit400 (by omega))
  obtain ⟨Tf, x, rfl⟩ := hx.iface
  obtain ⟨Tg, y, rfl⟩ := hy.iface
  have d1 : W1.cell? ⟨W.heap.size + 1, 1, none⟩ = some (.int .i64 r) := by rw [← hW]; simp [go_sem]
  have HS : Hid (∀ W', Ext W1 W' → (Ext W W' ∧ W'.cell? ⟨W.heap.size + 1, 0, none⟩ = some (.iface Tf x) ∧ W'.cell? ⟨W.heap.size + 1, 2, none⟩ = some (.iface Tg y))) := by
    intro W' hx'
    obtain ⟨hc, hf⟩ := hx'.cells
    refine ⟨hWx.trans hx', ?_, ?_⟩ <;> (rw [hc _ _ (by omega), ← hW]; simp [go_sem])
  have HS2 : Hid (∀ W'' u0 u1 u2 u3 u4 u5 u6, Ext W1 W'' → ∀ W', W' = ((((((W''.setCell ⟨W.heap.size, 0, none⟩ u0).setCell ⟨W.heap.size, 1, none⟩ u1).setCell ⟨W.heap.size, 2, none⟩ u2).setCell ⟨W.heap.size, 3, none⟩ u3).setCell ⟨W.heap.size, 4, none⟩ u4).setCell ⟨W.heap.size, 5, none⟩ u5).setCell ⟨W.heap.size, 6, none⟩ u6 → (Ext W W' ∧ W'.cell? ⟨W.heap.size + 1, 0, none⟩ = some (.iface Tf x) ∧ W'.cell? ⟨W.heap.size + 1, 2, none⟩ = some (.iface Tg y))) := by
    intro W'' u0 u1 u2 u3 u4 u5 u6 hx' W' hW'
    obtain ⟨s1, k0, k1⟩ := HS.out W'' hx'
    rw [hW']
    refine ⟨((((((s1.setCell (by simp) _).setCell (by simp) _).setCell (by simp) _).setCell (by simp) _).setCell (by simp) _).setCell (by simp) _).setCell (by simp) _, ?_, ?_⟩ <;> rw [World.cell?_setCell_other _ _ _ _ (by simp; try omega), World.cell?_setCell_other _ _ _ _ (by simp; try omega), World.cell?_setCell_other _ _ _ _ (by simp; try omega), World.cell?_setCell_other _ _ _ _ (by simp; try omega), World.cell?_setCell_other _ _ _ _ (by simp; try omega), World.cell?_setCell_other _ _ _ _ (by simp; try omega), World.cell?_setCell_other _ _ _ _ (by simp; try omega)] <;> assumption
  have HB := Lib.hid hb
  have HX := Lib.hid hWx
  have HZ := Lib.hid hz
  have HRE : Hid (∃ rr, rr = if pos then relM r else cmpl (relM r)) := Lib.hid ⟨_, rfl⟩
  obtain ⟨rr, hrr⟩ := HRE.out
  clear hb hb1 hx0 hWx hz hp hl hn ha hx hy hwl hwk HRE hpl hpk
  rw [show matF (.atom l r k) pos s = (mxAt (if pos then relM r else cmpl (relM r)) ((polF s.lev l).add (polF s.lev k).opp), s) from rfl, ← hrr]
  have HRR := Lib.hid hrr
  clear hrr
  generalize polF s.lev l = p at *
  generalize polF s.lev k = q at *
  go_enter Tryz.func72, Tryz.ntmps72
  go_wp2_with fail
  clear hW
  refine (relation_any r W1).mono ?_
  rintro e w1 ⟨rfl, rfl⟩
  clear d1
  generalize relM r = rm at *
  have HR1 : Hid (pos = false → cmpl rm = rr) := Lib.hid (fun e => by rw [HRR.out, e]; rfl)
  have HR2 : Hid (pos = true → rm = rr) := Lib.hid (fun e => by rw [HRR.out, e]; rfl)
  clear HRR
  cases pos
  all_goals
    go_wp2_with fail
    first
      | (refine (compl_any rm w1).mono ?_
         rintro e w0' ⟨rfl, hw⟩
         have hw2 := hw.symm
         subst hw2
         rw [HR1.out (by first | rfl | trivial)]
         go_wp2_with fail)
      | (rw [HR2.out (by first | rfl | trivial)])
    have yy0 : Ext w1 w1.drew := (Ext.refl w1).drew
    have Y0 := Lib.hid yy0
    clear yy0 HR1 HR2
    go_region_held3 (fun W' => Ext W W' ∧ W'.cell? ⟨W.heap.size + 1, 0, none⟩ = some (.iface Tf x) ∧ W'.cell? ⟨W.heap.size + 1, 2, none⟩ = some (.iface Tg y))
      (first | with_reducible exact HS.out _ Y0.out | with_reducible exact HS.out _ yy1 | with_reducible exact HS.out _ yy2 | with_reducible exact HS.out _ yy3 | with_reducible exact HS2.out _ _ _ _ _ _ _ _ yy3 _ rfl)
      (first
        | (go_at_call 80
           (fail_if_success have _ := yy1)
           refine (HA.out _ Y0.out).mono ?_
           rintro e w1' ⟨z1, rfl, m1, x1⟩
           obtain ⟨C1, i1, j1, D1, k1, rfl, -⟩ := id m1.open_
           have yy1 : Ext w1 w1' := Ext.trans Y0.out x1
           unfold plV)
        | (go_at_call 80
           refine (HC.out _ yy1).mono ?_
           rintro e w2 ⟨z2, rfl, m2, x2⟩
           obtain ⟨C2, i2, j2, D2, k2, rfl, -⟩ := id m2.open_
           have yy2 : Ext w1 w2 := Ext.trans yy1 x2
           replace m1 := m1.ext x2
           unfold plV)
        | (go_at_call 124
           refine (cSub_any _ _ m1 m2 HFA.out HFC.out (by omega) (by omega)).mono ?_
           rintro e w3 ⟨z3, rfl, m3, x3⟩
           obtain ⟨C3, i3, j3, D3, k3, rfl, -⟩ := id m3.open_
           have yy3 : Ext w1 w3 := Ext.trans yy2 x3
           obtain ⟨⟨r0, r1, r2, r3, r4, r5, r6⟩, rf⟩ := HZ.out.ext yy3 (by omega)
           unfold plV))
    all_goals
      have hzn := HZ.out.ext yy3 (by omega)
      have hsn := (yy2 : Ext w1 _).size
      have HF := Lib.hid (close_mat (BMut.of_ext (HX.out.trans yy3)) (Nat.le_refl _) (fun ho => by have := (HB.out.own_ ho).1; omega) hzn (HB.out.ext (HX.out.trans yy3)) (MxV.mk (t := .mk 2 rr (p.add q.opp) []) (K := none) (c := 0) m3 (by simp [Mx.ks]) (by omega) (by unfold Mx.ks MxsAt; trivial)) (fun b _ hb => ⟨by omega, by omega, fun ho => by have := (HB.out.own_ ho).1; omega⟩))
      clear m1 m2 m3 x1 x2 x3 yy1 yy2 yy3 HS HS2 HZ HB HX HA HC hzn
      simp only [Mx.kind, Mx.rel, Mx.p, Pl.zero, Pl.lv, Pl.neg] at r0 r1 r2 r3
      try unfold plV
      generalize p.add q.opp = P at *
      go_wp2_with fail
      exact bodyPost_ret (v := mxV (.mk 2 rr P []) (.slice C3 i3 j3) (.slice D3 P.cs.length k3) (.slice none 0 0)) (by simp [results, Tryz.results72, go_sem, r0, r1, r2, r3, r4, r5, r6, mxV, Mx.kind, Mx.rel, Mx.p]) rfl HF.out

/-- All terms are of P. -/
def Fm.terms (P : Tm → Prop) : Fm → Prop
  | .truth _ => True
  | .atom l _ k => P l ∧ P k
  | .not f => f.terms P
  | .and f g => f.terms P ∧ g.terms P
  | .or f g => f.terms P ∧ g.terms P
  | .imp f g => f.terms P ∧ g.terms P
  | .iff f g => f.terms P ∧ g.terms P
  | .quant _ _ f => f.terms P
/-- builder.matrix at a formula without equivalences. -/
theorem matrix_any {P : Tm → Prop} (HP : ∀ t, P t → ∀ g, PolyIH w0 L gb bl g t) (hlo : w0.heap.size ≤ gb ∧ w0.heap.size ≤ bl ∧ w0.heap.size ≤ bt ∧ w0.heap.size ≤ base) (f : Fm) (hf : f.terms P) : MatIH w0 L base gb bl bt f := by
  induction f with
  | truth b => exact mat_truth
  | atom l r k => exact mat_atom (HP l hf.1) (HP k hf.2)
  | not f ih => exact mat_not (ih hf)
  | and f g ihf ihg => exact mat_and hlo (ihf hf.1) (ihg hf.2)
  | or f g ihf ihg => exact mat_or hlo (ihf hf.1) (ihg hf.2)
  | imp f g ihf ihg => exact mat_imp hlo (ihf hf.1) (ihg hf.2)
  | iff f g _ _ => intro v W own s tk pos _ _ hp; cases hp
  | quant a nm f ih => exact mat_quant hlo (ih hf)
end
end Go.Proofs.YtbanhcaahabboaaGreatDoor
