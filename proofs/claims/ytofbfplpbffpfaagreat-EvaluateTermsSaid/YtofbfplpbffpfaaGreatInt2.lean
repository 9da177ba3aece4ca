/- Layer 2 (integer): sign, comparison, sums, products. -/
import Derived.Test.YtofbfplpbffpfaaGreatInt

namespace Go.Proofs.YtofbfplpbffpfaaGreat
open Go.RowKit

/-- -1, 0 or 1. -/
def sgI (z : Int) : Int := cmpI z 0

set_option maxHeartbeats 400000 in
theorem sign_int (x : Value) (z : Int) (L : Nat) (w : World) (h : IntR w x z L) : Calls Tryz.prog 101 #[x] w fun e w' => e = .returned (.int .i64 (sgI z)) ∧ Ext w w' := by
  obtain ⟨neg, v, ds, rfl, ⟨A, c, rfl, h1, h2, h3⟩, hz, hl⟩ := h
  have HX0 : Hid (Ext w (w.alloc (Obj.cells #[.bool neg, .slice A ds.length c] 25))) := (Ext.refl w).alloc _
  have H3 := Lib.hid h3
  have HZ := Lib.hid hz
  clear h3 hz
  go_enter Tryz.func101, Tryz.ntmps101
  go_wp2_with fail
  refine (isZero_nat _ _ _ ⟨A, c, rfl, h1, h2, H3.out.ext HX0.out⟩).mono ?_
  rintro e w2 ⟨rfl, rfl⟩
  by_cases h0 : val ds = 0
  · have hb : (val ds == 0) = true := by simp [h0]
    have H0 := Lib.hid h0
    clear h0
    go_wp2_with fail
    go_ret
    exact ⟨ret_int (by rw [HZ.out, H0.out]; cases neg <;> rfl), HX0.out⟩
  · have hb : (val ds == 0) = false := by simp [h0]
    cases neg
    · go_wp2_with fail
      go_ret
      exact ⟨ret_int (by rw [HZ.out]; exact (cmpI_gt (by simp [sgn]; omega)).symm), HX0.out⟩
    · go_wp2_with fail
      go_ret
      exact ⟨ret_int (by rw [HZ.out]; exact (cmpI_lt (by simp [sgn]; omega)).symm), HX0.out⟩

set_option maxHeartbeats 400000 in
theorem of_int (z : Int) (w : World) (h0 : -9223372036854775808 ≤ z) (h1 : z ≤ 9223372036854775807) : Calls Tryz.prog 57 #[.int .i64 z] w (RetInt z w) := by
  have HX0 : Hid (Ext w (w.alloc (Obj.cells #[.bool false, .slice none 0 0] 25))) := (Ext.refl w).alloc _
  by_cases hn : z < 0
  · go_enter Tryz.func57, Tryz.ntmps57
    go_wp2_with fail
    have e1 : IntKind.u64.wrap (-IntKind.u64.wrap z) = ((z.natAbs : Nat) : Int) := by
      rw [IntKind.wrap_u64, IntKind.wrap_u64]; omega
    rw [e1]
    refine (natOf_nat _ _ (by omega)).mono ?_
    rintro e w2 ⟨v, rfl, ⟨A2, c2, rfl, q1, q2, q3⟩, hx2⟩
    obtain ⟨hc, hf⟩ := hx2.cells
    have hz := hx2.size
    have HF := Lib.hid (close_int (g := w.heap.size) (z := z) (u0 := .bool false) (u1 := .slice none 0 0) (HX0.out.trans hx2) (by omega) (by rw [hc _ _ (by simp)]; simp [World.cell?_alloc_new]) (by rw [hc _ _ (by simp)]; simp [World.cell?_alloc_new]) rfl rfl ⟨_, by rw [decide_eq_true hn], A2, c2, rfl, q1, q2, q3⟩)
    clear hx2 q3 e1
    rw [World.size_alloc] at hz
    go_wp2_with fail
    exact bodyPost_ret (v := .agg #[.bool true, .slice A2 (dg z.natAbs).length c2]) (by simp [results, Tryz.results57, go_sem, hc]) rfl HF.out
  · obtain ⟨n, rfl⟩ := Int.eq_ofNat_of_zero_le (show 0 ≤ z by omega)
    go_enter Tryz.func57, Tryz.ntmps57
    go_wp2_with fail
    refine (natOf_nat _ _ (by omega)).mono ?_
    rintro e w2 ⟨v, rfl, ⟨A2, c2, rfl, q1, q2, q3⟩, hx2⟩
    obtain ⟨hc, hf⟩ := hx2.cells
    have hz := hx2.size
    have HF := Lib.hid (close_int (g := w.heap.size) (z := (n : Int)) (b := .bool false) (u0 := .bool false) (u1 := .slice none 0 0) (HX0.out.trans hx2) (by omega) (by rw [hc _ _ (by simp)]; simp [World.cell?_alloc_new]) (by rw [hc _ _ (by simp)]; simp [World.cell?_alloc_new]) rfl rfl ⟨_, by rw [decide_eq_false (by omega)], A2, c2, rfl, q1, q2, q3⟩)
    clear hx2 q3
    rw [World.size_alloc] at hz
    go_wp2_with fail
    exact bodyPost_ret (v := .agg #[.bool false, .slice A2 (dg n).length c2]) (by simp [results, Tryz.results57, go_sem, hc]) rfl HF.out

set_option maxHeartbeats 1000000 in
theorem mul_int (x y : Value) (a b : Int) (L M : Nat) (w : World) (h : IntR w x a L) (k : IntR w y b M) (hs : L + M ≤ 35184372088000) :
    Calls Tryz.prog 82 #[x, y] w (RetInt (a * b) w) := by
  obtain ⟨neg, v, ds, rfl, ⟨A, c, rfl, h1, h2, h3⟩, hz, hl⟩ := h
  obtain ⟨neg', v', ds', rfl, ⟨A', c', rfl, h1', h2', h3'⟩, hz', hl'⟩ := k
  have hab : a * b = sgn (!neg == neg') (val ds * val ds') := by
    rw [hz, hz']; cases neg <;> cases neg' <;> simp [sgn, Int.neg_mul, Int.mul_neg]
  rw [hab]
  have H3 := Lib.hid h3
  have H3' := Lib.hid h3'
  clear h3 h3' hz hz' hab
  go_enter Tryz.func82, Tryz.ntmps82
  go_wp2_with fail
  generalize hW : ((w.alloc (Obj.cells #[.bool neg, .slice A ds.length c] 25)).alloc (Obj.cells #[.bool neg', .slice A' ds'.length c'] 25)).alloc (Obj.cells #[.bool false, .slice none 0 0] 25) = W
  have HX0 : Hid (Ext w W) := by
    have : Ext w W := by rw [← hW]; exact (((Ext.refl w).alloc _).alloc _).alloc _
    exact this
  have HS : Hid (∀ W', Ext W W' → (Ext w W' ∧ W'.cell? ⟨w.heap.size, 0, none⟩ = some (.bool neg) ∧ W'.cell? ⟨w.heap.size, 1, none⟩ = some (.slice A ds.length c) ∧ W'.cell? ⟨w.heap.size + 1, 0, none⟩ = some (.bool neg') ∧ W'.cell? ⟨w.heap.size + 1, 1, none⟩ = some (.slice A' ds'.length c'))) := by
    intro W' hx
    obtain ⟨hc, hf⟩ := hx.cells
    have hsz : W.heap.size = w.heap.size + 1 + 1 + 1 := by rw [← hW]; simp
    refine ⟨HX0.out.trans hx, ?_, ?_, ?_, ?_⟩ <;> (rw [hc _ _ (by omega), ← hW]; simp [go_sem])
  have HR : Hid (∀ W', Ext W W' → (W'.cell? ⟨w.heap.size + 1 + 1, 0, none⟩ = some (.bool false) ∧ W'.cell? ⟨w.heap.size + 1 + 1, 1, none⟩ = some (.slice none 0 0) ∧ W'.frozen? ⟨w.heap.size + 1 + 1, 0, none⟩ = false ∧ W'.frozen? ⟨w.heap.size + 1 + 1, 1, none⟩ = false)) := by
    intro W' hx
    obtain ⟨hc, hf⟩ := hx.cells
    have hsz : W.heap.size = w.heap.size + 1 + 1 + 1 := by rw [← hW]; simp
    refine ⟨?_, ?_, ?_, ?_⟩ <;> first | (rw [hc _ _ (by omega), ← hW]; simp [go_sem]; done) | (rw [hf _ _ (by omega), ← hW]; simp [go_sem]; done)
  have HS2 : Hid (∀ W'' u v, Ext W W'' → ∀ W', W' = (W''.setCell ⟨w.heap.size + 1 + 1, 0, none⟩ u).setCell ⟨w.heap.size + 1 + 1, 1, none⟩ v → (Ext w W' ∧ W'.cell? ⟨w.heap.size, 0, none⟩ = some (.bool neg) ∧ W'.cell? ⟨w.heap.size, 1, none⟩ = some (.slice A ds.length c) ∧ W'.cell? ⟨w.heap.size + 1, 0, none⟩ = some (.bool neg') ∧ W'.cell? ⟨w.heap.size + 1, 1, none⟩ = some (.slice A' ds'.length c'))) := by
    intro W'' u v hx W' hW'
    obtain ⟨s1, s2, s3, s4, s5⟩ := HS.out W'' hx
    rw [hW']
    refine ⟨(s1.setCell (by simp; omega) _).setCell (by simp; omega) _, ?_, ?_, ?_, ?_⟩ <;> rw [World.cell?_setCell_other _ _ _ _ (by simp), World.cell?_setCell_other _ _ _ _ (by simp)] <;> assumption
  clear hW
  go_region_held3 (fun W' => Ext w W' ∧ W'.cell? ⟨w.heap.size, 0, none⟩ = some (.bool neg) ∧ W'.cell? ⟨w.heap.size, 1, none⟩ = some (.slice A ds.length c) ∧ W'.cell? ⟨w.heap.size + 1, 0, none⟩ = some (.bool neg') ∧ W'.cell? ⟨w.heap.size + 1, 1, none⟩ = some (.slice A' ds'.length c'))
    (first | exact HS.out _ ((Ext.refl W).drew) | exact HS.out _ (by assumption) | exact HS2.out _ _ _ (by assumption) _ rfl)
    (first
      | (go_at_call 103
         have hxx := (‹Ext w _ ∧ _›).1
         refine (mul_nat _ _ ds ds' _ ⟨A, c, rfl, h1, h2, H3.out.ext hxx⟩ ⟨A', c', rfl, h1', h2', H3'.out.ext hxx⟩ (by omega)).mono ?_
         rintro e w2 ⟨v2, rfl, nv2, x2⟩
         have y2 : Ext W w2 := Ext.trans ((Ext.refl W).drew) x2)
      | (go_at_call 94
         refine (signed_int _ _ _ _ nv2).mono ?_
         rintro e w3 ⟨v3, rfl, ⟨v4, rfl, A2, c2, rfl, q1, q2, q3⟩, x3⟩
         have y3 : Ext W w3 := Ext.trans y2 x3
         obtain ⟨r1, r2, r3, r4⟩ := HR.out w3 y3))
  have HF := Lib.hid (close_int (g := w.heap.size + 1 + 1) (z := sgn (!neg == neg') (val ds * val ds')) (u0 := .bool false) (u1 := .slice none 0 0) (HX0.out.trans y3) (by omega) r1 r2 rfl rfl ⟨_, rfl, A2, c2, rfl, q1, q2, q3⟩)
  clear HS HS2 HR y3 y2 x2 x3 q3 nv2
  go_wp2_with fail
  exact bodyPost_ret (v := .agg #[.bool (decide (sgn (!neg == neg') (val ds * val ds') < 0)), .slice A2 (dg (sgn (!neg == neg') (val ds * val ds')).natAbs).length c2]) (by simp [results, Tryz.results82, go_sem, r1, r2]) rfl HF.out
end Go.Proofs.YtofbfplpbffpfaaGreat
