/- Layer 40: awake: x < 3 at x = 2. -/
import Derived.Test.YtofbfplpbffpfaaGreatEval

namespace Go.Proofs.YtofbfplpbffpfaaGreat
open Go.RowKit

def xx : ByteArray := ⟨#[120]⟩
def f3 : Fm := .atom (.name xx) 1 (.num 3)
theorem f3_free : f3.free = [xx] := by simp [f3, Fm.free, Fm.fold, Tm.fold, freeStep, has]
theorem f3_cover : coverB (vget [(xx, 2)]) f3.free = true := by rw [f3_free]; simp [coverB, vget]
theorem f3_bad : f3.pre.any Fm.bad = false := by
  have h : ndig 3 = 1 := ndig_lt (by decide)
  simp [f3, Fm.pre, Fm.bad, Tm.large, Tm.deg, Tm.wt, h, capI]
theorem f3_tv : f3.tv (vget [(xx, 2)]) = true := by
  simp [f3, Fm.tv, Tm.val, vget, holdsI, cmpQ]
  decide
theorem f3_eval : evalF f3 [(xx, 2)] = (true, 0) := by
  unfold evalF
  rw [if_neg (by simp [f3, Fm.bound]), if_neg (by rw [f3_cover]; simp), if_neg (by rw [f3_bad]; simp), f3_tv]

theorem rlen_two : rlen (2 : Rat) ≤ 1 := by
  have h : (dg 2).length = 1 := by rw [dg_small (by decide) (by decide)]; rfl
  have := rlen_int 2 (L := 1) (by show (dg 2).length ≤ 1; omega) (by omega)
  simpa using this
theorem f3_formula {W : World} {v : Value} {b1 : Bool} {A1 B1 : Option Addr} {n1 c1 k1 d1 : Nat} (m1 : RatN W (.agg #[.bool b1, .slice A1 n1 c1, .slice B1 k1 d1]) ((2 : Int) : Rat)) (hf : FmV W 1 f3 v) :
    Calls Tryz.prog 10 #[v, .slice (some ⟨W.heap.size, 0, none⟩) 1 1] (W.alloc (.cells #[.string ⟨#[120]⟩, .bool b1, .slice A1 n1 c1, .slice B1 k1 d1] 68)) (RetBE (true, 0) (W.alloc (.cells #[.string ⟨#[120]⟩, .bool b1, .slice A1 n1 c1, .slice B1 k1 d1] 68))) := by
  rw [← f3_eval]
  have hx : Ext W (W.alloc (.cells #[.string ⟨#[120]⟩, .bool b1, .slice A1 n1 c1, .slice B1 k1 d1] 68)) := (Ext.refl W).alloc _
  refine evalFormula_any (L := 1) (vals := [(xx, 2)]) (by omega) (by omega) f3 (hf.ext hx) ?_ rfl (by simp [f3, Fm.sz, Tm.sz]) (fun _ _ _ => ?_)
  · refine ⟨_, 1, rfl, by simp, by simp, fun j hj => ?_⟩
    have : j = 0 := by simp at hj; omega
    subst this
    refine ⟨_, b1, A1, n1, c1, B1, k1, d1, rfl, by simp, ?_, ?_⟩
    · rw [add_mk]
      refine ⟨?_, ?_, ?_, ?_⟩ <;> simp [go_sem, xx]
    · have h2 : (((2 : Int) : Rat)) = 2 := by rfl
      rw [h2] at m1
      exact (m1.raw.mono rlen_two).ext hx
  · refine ⟨⟨?_, ?_⟩, ⟨trivial, ?_⟩⟩
    · simp [Tm.covered, vget]
    · simp [Tm.bt]
    · simp [Tm.bt]

set_option maxRecDepth 100000 in
set_option maxHeartbeats 1000000 in
theorem awake_any (w : World) : Calls Tryz.prog 7 #[] w (RetB true w) := by
  go_enter Tryz.func7, Tryz.ntmps7
  go_wp2_with fail
  obtain ⟨W, hW⟩ : ∃ W, (w.alloc (.cells #[.int .u32 3] 61)).alloc (.cells #[.iface 60 (.agg #[.string ⟨#[120]⟩]), .int .i64 1, .iface 63 (.agg #[.bool false, .slice (some ⟨w.heap.size, 0, none⟩) 1 1])] 65) = W := ⟨_, rfl⟩
  have hWx : Ext w W := by rw [← hW]; exact ((Ext.refl w).alloc _).alloc _
  have hWs : W.heap.size = w.heap.size + 1 + 1 := by rw [← hW]; simp
  have hd : W.cell? ⟨w.heap.size, 0, none⟩ = some (.int .u32 3) := by rw [← hW]; simp [go_sem]
  have HB : Hid (∀ W', Ext W W' → (Ext W W' ∧ W'.cell? ⟨w.heap.size + 1, 0, none⟩ = some (.iface 60 (.agg #[.string ⟨#[120]⟩])) ∧ W'.cell? ⟨w.heap.size + 1, 1, none⟩ = some (.int .i64 1) ∧ W'.cell? ⟨w.heap.size + 1, 2, none⟩ = some (.iface 63 (.agg #[.bool false, .slice (some ⟨w.heap.size, 0, none⟩) 1 1])))) := by
    intro W' hx
    obtain ⟨hc, hf⟩ := hx.cells
    refine ⟨hx, ?_, ?_, ?_⟩ <;> (rw [hc _ _ (by omega), ← hW]; simp [go_sem])
  have HFV : Hid (FmV W 1 f3 (.iface 65 (.agg #[.iface 60 (.agg #[.string ⟨#[120]⟩]), .int .i64 1, .iface 63 (.agg #[.bool false, .slice (some ⟨w.heap.size, 0, none⟩) 1 1])]))) := by
    refine ⟨_, _, rfl, rfl, ⟨_, rfl, false, _, [3], rfl, ⟨some ⟨w.heap.size, 0, none⟩, 1, rfl, by simp, by simp, ?_, ?_⟩, ?_, by simp⟩⟩
    · exact Digs.cons (by decide) Digs.nil
    · intro _
      refine ⟨_, rfl, by show w.heap.size < _; omega, fun j hj => ?_⟩
      have : j = 0 := by simp at hj; omega
      subst this
      rw [add_mk]; exact hd
    · simp [sgn, val]
  have HWX := Lib.hid hWx
  rw [hW]
  clear hW hd hWx hWs
  have y0 : Ext W W.drew := (Ext.refl W).drew
  have Y0 := Lib.hid y0
  clear y0
  go_region_held3 (fun W' => Ext W W' ∧ W'.cell? ⟨w.heap.size + 1, 0, none⟩ = some (.iface 60 (.agg #[.string ⟨#[120]⟩])) ∧ W'.cell? ⟨w.heap.size + 1, 1, none⟩ = some (.int .i64 1) ∧ W'.cell? ⟨w.heap.size + 1, 2, none⟩ = some (.iface 63 (.agg #[.bool false, .slice (some ⟨w.heap.size, 0, none⟩) 1 1])))
    (first | with_reducible exact HB.out _ Y0.out | with_reducible exact HB.out _ y1 | with_reducible exact HB.out _ (y1.alloc _) | with_reducible exact HB.out _ y2)
    (first
      | (go_at_call 22
         refine (of_rat 2 _ (by omega) (by omega)).mono ?_
         rintro e v1 ⟨z1, rfl, m1, x1⟩
         obtain ⟨b1, A1, n1, c1, B1, k1, d1, rfl⟩ := m1.unpack
         have y1 : Ext W v1 := Ext.trans Y0.out x1)
      | (go_at_call 10
         refine (f3_formula m1 (HFV.out.ext y1)).mono ?_
         rintro e v2 ⟨rfl, x2⟩
         have y2 : Ext W v2 := Ext.trans (y1.alloc _) x2))
  all_goals
    have X2 := Lib.hid (HWX.out.trans y2)
    clear y1 y2 x1 x2 m1 HB HWX Y0 HFV
    go_wp2_with fail
    refine (Holds_any 1 (-5) _).mono ?_
    rintro e w3 ⟨rfl, rfl⟩
    go_wp2_with fail
    go_ret
    exact ⟨rfl, X2.out⟩

/-- The statement's own walk. -/
theorem lawHolds_any (r s : Int) (w : World) : Calls Tryz.prog 4 #[.int .i64 r, .int .i64 s] w (RetB true w) := by
  go_enter Tryz.func4, Tryz.ntmps4
  go_wp2_with fail
  refine (awake_any _).mono ?_
  rintro e w1 ⟨rfl, x1⟩
  have X1 := Lib.hid x1
  clear x1
  go_wp2_with fail
  refine (Holds_any r s _).mono ?_
  rintro e w2 ⟨rfl, rfl⟩
  go_wp2_with fail
  refine (Holds_ref r s _).mono ?_
  rintro e w3 ⟨rfl, rfl⟩
  go_wp2_with fail
  go_ret
  exact ⟨by simp, X1.out⟩
end Go.Proofs.YtofbfplpbffpfaaGreat
