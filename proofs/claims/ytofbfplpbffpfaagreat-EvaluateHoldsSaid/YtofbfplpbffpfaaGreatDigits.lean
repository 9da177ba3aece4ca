/- Layer 4 (decimal): Format and Digits. -/
import Derived.Test.YtofbfplpbffpfaaGreatFmt
namespace Go.Proofs.YtofbfplpbffpfaaGreat
open Go.RowKit

theorem Format_len (x : Value) (z : Int) (L : Nat) (w : World) (h : IntR w x z L) (hs : L ≤ 1000000000000) (hz0 : 0 ≤ z) :
    Calls Tryz.prog 107 #[x] w fun e w' => (∃ s : ByteArray, s.size = ndig z.natAbs ∧ e = .returned (.string s)) ∧ Ext w w' := by
  have H := Lib.hid h
  obtain ⟨neg, v, ds, rfl, ⟨A, c, rfl, h1, h2, h3⟩, hz, hl⟩ := h
  clear h3 hz
  go_enter Tryz.func107, Tryz.ntmps107
  go_wp2_with fail
  generalize hW : w.alloc (Obj.cells #[.bool neg, .slice A ds.length c] 25) = W
  have HX0 : Hid (Ext w W) := by
    have : Ext w W := by rw [← hW]; exact (Ext.refl w).alloc _
    exact this
  have HWS : Hid (W.heap.size = w.heap.size + 1) := by
    have : W.heap.size = w.heap.size + 1 := by rw [← hW]; simp
    exact this
  have HS : Hid (∀ W', Ext W W' → (Ext w W' ∧ W'.cell? ⟨w.heap.size, 0, none⟩ = some (.bool neg) ∧ W'.cell? ⟨w.heap.size, 1, none⟩ = some (.slice A ds.length c))) := by
    intro W' hx
    obtain ⟨hc, hf⟩ := hx.cells
    have hsz := HWS.out
    refine ⟨HX0.out.trans hx, ?_, ?_⟩ <;> (rw [hc _ _ (by omega), ← hW]; simp [go_sem])
  clear hW
  obtain ⟨e0, b0, b1⟩ := HS.out W (Ext.refl W)
  refine (format_len _ z L _ (H.out.ext e0) hs hz0).mono ?_
  rintro e w2 ⟨⟨s, hs1, rfl⟩, y2⟩
  have HS1 := Lib.hid hs1
  clear e0 b0 b1 hs1
  go_wp2_with fail
  go_ret
  exact ⟨⟨s, HS1.out, rfl⟩, HX0.out.trans y2⟩

theorem Digits_int (x : Value) (z : Int) (L : Nat) (w : World) (h : IntR w x z L) (hs : L ≤ 1000000000000) :
    Calls Tryz.prog 91 #[x] w fun e w' => e = .returned (.int .i64 (ndig z.natAbs : Nat)) ∧ Ext w w' := by
  have H := Lib.hid h
  obtain ⟨neg, v, ds, rfl, ⟨A, c, rfl, h1, h2, h3⟩, hz, hl⟩ := h
  have HL : Hid ((dg z.natAbs).length ≤ L) := H.out.len
  clear h3 hz
  go_enter Tryz.func91, Tryz.ntmps91
  go_wp2_with fail
  generalize hW : w.alloc (Obj.cells #[.bool neg, .slice A ds.length c] 25) = W
  have HX0 : Hid (Ext w W) := by
    have : Ext w W := by rw [← hW]; exact (Ext.refl w).alloc _
    exact this
  have HWS : Hid (W.heap.size = w.heap.size + 1) := by
    have : W.heap.size = w.heap.size + 1 := by rw [← hW]; simp
    exact this
  have HS : Hid (∀ W', Ext W W' → (Ext w W' ∧ W'.cell? ⟨w.heap.size, 0, none⟩ = some (.bool neg) ∧ W'.cell? ⟨w.heap.size, 1, none⟩ = some (.slice A ds.length c))) := by
    intro W' hx
    obtain ⟨hc, hf⟩ := hx.cells
    have hsz := HWS.out
    refine ⟨HX0.out.trans hx, ?_, ?_⟩ <;> (rw [hc _ _ (by omega), ← hW]; simp [go_sem])
  clear hW
  obtain ⟨e0, b0, b1⟩ := HS.out W (Ext.refl W)
  refine (abs_int _ z L _ (H.out.ext e0) (by omega)).mono ?_
  rintro e w1 ⟨x1, rfl, n1, y1⟩
  have Y1 := Lib.hid y1
  have N1 := Lib.hid n1
  clear e0 b0 b1 y1 n1
  go_wp2_with fail
  refine (Format_len _ (z.natAbs : Int) L _ (N1.out.raw.mono HL.out) hs (by omega)).mono ?_
  rw [Int.natAbs_natCast]
  rintro e w2 ⟨⟨s, hs1, rfl⟩, y2⟩
  go_wp2_with fail
  go_ret
  exact ⟨rfl, HX0.out.trans (Y1.out.trans y2)⟩
end Go.Proofs.YtofbfplpbffpfaaGreat
