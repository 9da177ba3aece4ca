/- Layer 40: Holds, and the reference's Holds. -/
import Derived.Test.YtdcapcpchcnidaaGreatBase
import Derived.Test.YtdcapcpchcnidaaGreatVal

namespace Go.Proofs.YtdcapcpchcnidaaGreat
open Go.RowKit

def holdsI (r s : Int) : Bool := if r = 1 then decide (s < 0) else if r = 2 then decide (s ≤ 0) else if r = 4 then s != 0 else if r = 5 then decide (0 ≤ s) else if r = 6 then decide (0 < s) else s == 0

theorem Holds_any (r s : Int) (w : World) : Calls Tryz.prog 22 #[.int .i64 r, .int .i64 s] w fun e w' => e = .returned (.bool (holdsI r s)) ∧ w' = w := by
  by_cases h1 : r = 1
  · have hv : holdsI r s = (decide (s < 0)) := by subst h1; rfl
    have b1 : (r == 1) = true := by simpa using h1
    rw [hv]
    clear hv h1
    go_enter Tryz.func22, Tryz.ntmps22
    go_wp2_with fail
    go_ret
    exact ⟨rfl, rfl⟩
  by_cases h2 : r = 2
  · have hv : holdsI r s = (decide (s ≤ 0)) := by subst h2; rfl
    have b1 : (r == 1) = false := by simpa using h1
    have b2 : (r == 2) = true := by simpa using h2
    rw [hv]
    clear hv h1 h2
    go_enter Tryz.func22, Tryz.ntmps22
    go_wp2_with fail
    go_ret
    exact ⟨rfl, rfl⟩
  by_cases h4 : r = 4
  · have hv : holdsI r s = (s != 0) := by subst h4; rfl
    have b1 : (r == 1) = false := by simpa using h1
    have b2 : (r == 2) = false := by simpa using h2
    have b4 : (r == 4) = true := by simpa using h4
    rw [hv]
    clear hv h1 h2 h4
    go_enter Tryz.func22, Tryz.ntmps22
    go_wp2_with fail
    go_ret
    exact ⟨rfl, rfl⟩
  by_cases h5 : r = 5
  · have hv : holdsI r s = (decide (0 ≤ s)) := by subst h5; rfl
    have b1 : (r == 1) = false := by simpa using h1
    have b2 : (r == 2) = false := by simpa using h2
    have b4 : (r == 4) = false := by simpa using h4
    have b5 : (r == 5) = true := by simpa using h5
    rw [hv]
    clear hv h1 h2 h4 h5
    go_enter Tryz.func22, Tryz.ntmps22
    go_wp2_with fail
    go_ret
    exact ⟨rfl, rfl⟩
  by_cases h6 : r = 6
  · have hv : holdsI r s = (decide (0 < s)) := by subst h6; rfl
    have b1 : (r == 1) = false := by simpa using h1
    have b2 : (r == 2) = false := by simpa using h2
    have b4 : (r == 4) = false := by simpa using h4
    have b5 : (r == 5) = false := by simpa using h5
    have b6 : (r == 6) = true := by simpa using h6
    rw [hv]
    clear hv h1 h2 h4 h5 h6
    go_enter Tryz.func22, Tryz.ntmps22
    go_wp2_with fail
    go_ret
    exact ⟨rfl, rfl⟩
  have hv : holdsI r s = (s == 0) := by simp [holdsI, h1, h2, h4, h5, h6]
  have b1 : (r == 1) = false := by simpa using h1
  have b2 : (r == 2) = false := by simpa using h2
  have b4 : (r == 4) = false := by simpa using h4
  have b5 : (r == 5) = false := by simpa using h5
  have b6 : (r == 6) = false := by simpa using h6
  rw [hv]
  clear hv h1 h2 h4 h5 h6
  go_enter Tryz.func22, Tryz.ntmps22
  go_wp2_with fail
  go_ret
  exact ⟨rfl, rfl⟩

theorem Holds_ref (r s : Int) (w : World) : Calls Tryz.prog 31 #[.int .i64 r, .int .i64 s] w fun e w' => e = .returned (.bool (holdsI r s)) ∧ w' = w := by
  by_cases h1 : r = 1
  · have hv : holdsI r s = (decide (s < 0)) := by subst h1; rfl
    have b1 : (r == 1) = true := by simpa using h1
    rw [hv]
    clear hv h1
    go_enter Tryz.func31, Tryz.ntmps31
    go_wp2_with fail
    go_ret
    exact ⟨rfl, rfl⟩
  by_cases h2 : r = 2
  · have hv : holdsI r s = (decide (s ≤ 0)) := by subst h2; rfl
    have b1 : (r == 1) = false := by simpa using h1
    have b2 : (r == 2) = true := by simpa using h2
    rw [hv]
    clear hv h1 h2
    go_enter Tryz.func31, Tryz.ntmps31
    go_wp2_with fail
    go_ret
    exact ⟨rfl, rfl⟩
  by_cases h4 : r = 4
  · have hv : holdsI r s = (s != 0) := by subst h4; rfl
    have b1 : (r == 1) = false := by simpa using h1
    have b2 : (r == 2) = false := by simpa using h2
    have b4 : (r == 4) = true := by simpa using h4
    rw [hv]
    clear hv h1 h2 h4
    go_enter Tryz.func31, Tryz.ntmps31
    go_wp2_with fail
    go_ret
    exact ⟨rfl, rfl⟩
  by_cases h5 : r = 5
  · have hv : holdsI r s = (decide (0 ≤ s)) := by subst h5; rfl
    have b1 : (r == 1) = false := by simpa using h1
    have b2 : (r == 2) = false := by simpa using h2
    have b4 : (r == 4) = false := by simpa using h4
    have b5 : (r == 5) = true := by simpa using h5
    rw [hv]
    clear hv h1 h2 h4 h5
    go_enter Tryz.func31, Tryz.ntmps31
    go_wp2_with fail
    go_ret
    exact ⟨rfl, rfl⟩
  by_cases h6 : r = 6
  · have hv : holdsI r s = (decide (0 < s)) := by subst h6; rfl
    have b1 : (r == 1) = false := by simpa using h1
    have b2 : (r == 2) = false := by simpa using h2
    have b4 : (r == 4) = false := by simpa using h4
    have b5 : (r == 5) = false := by simpa using h5
    have b6 : (r == 6) = true := by simpa using h6
    rw [hv]
    clear hv h1 h2 h4 h5 h6
    go_enter Tryz.func31, Tryz.ntmps31
    go_wp2_with fail
    go_ret
    exact ⟨rfl, rfl⟩
  have hv : holdsI r s = (s == 0) := by simp [holdsI, h1, h2, h4, h5, h6]
  have b1 : (r == 1) = false := by simpa using h1
  have b2 : (r == 2) = false := by simpa using h2
  have b4 : (r == 4) = false := by simpa using h4
  have b5 : (r == 5) = false := by simpa using h5
  have b6 : (r == 6) = false := by simpa using h6
  rw [hv]
  clear hv h1 h2 h4 h5 h6
  go_enter Tryz.func31, Tryz.ntmps31
  go_wp2_with fail
  go_ret
  exact ⟨rfl, rfl⟩

end Go.Proofs.YtdcapcpchcnidaaGreat

/- Layer 40: the truth of a formula. -/
namespace Go.Proofs.YtdcapcpchcnidaaGreat
open Go.RowKit
attribute [local go_sem] as_Num as_Name as_Add as_Sub as_Mul as_Neg as_Pow as_Truth as_Atom as_Not as_And as_Or as_Implies as_Iff as_Quant

/-- The truth of a formula without quantifiers. -/
def Fm.tv (g : ByteArray → Option Rat) : Fm → Bool
  | .truth b => b
  | .atom l r k => holdsI r (cmpQ (l.val g) (k.val g))
  | .not f => !f.tv g
  | .and f h => f.tv g && h.tv g
  | .or f h => f.tv g || h.tv g
  | .imp f h => !f.tv g || h.tv g
  | .iff f h => f.tv g == h.tv g
  | .quant _ _ _ => false
/-- All names have values, and the values of terms have at most 10^12 digits. -/
def Fm.fine (g : ByteArray → Option Rat) (L : Nat) : Fm → Prop
  | .truth _ => True
  | .atom l _ k => (l.covered g ∧ l.bt L ≤ 1000000000000) ∧ (k.covered g ∧ k.bt L ≤ 1000000000000)
  | .not f => f.fine g L
  | .and f h => f.fine g L ∧ h.fine g L
  | .or f h => f.fine g L ∧ h.fine g L
  | .imp f h => f.fine g L ∧ h.fine g L
  | .iff f h => f.fine g L ∧ h.fine g L
  | .quant _ _ _ => True

def RetB (t : Bool) (w : World) (e : Ending) (w' : World) : Prop := e = .returned (.bool t) ∧ Ext w w'
def FmIH (w0 : World) (L b : Nat) (g : ByteArray → Option Rat) (f : Fm) : Prop := ∀ (v : Value) (w : World), Ext w0 w → FmV w0 L f v → Calls Tryz.prog 49 #[.map (some b), v] w (RetB (f.tv g) w)

section
variable {w0 w : World} {L b : Nat} {g : ByteArray → Option Rat}

set_option maxRecDepth 100000 in
theorem tv_truth {t : Bool} {v : Value} (h : FmV w0 L (.truth t) v) : Calls Tryz.prog 49 #[.map (some b), v] w (RetB t w) := by
  obtain rfl := h
  go_enter Tryz.func49, Tryz.ntmps49
  go_wp2_with fail
  go_ret
  exact ⟨rfl, (Ext.refl w).alloc _⟩
set_option maxRecDepth 100000 in
theorem tv_quant {al : Bool} {s : ByteArray} {f : Fm} {v : Value} (h : FmV w0 L (.quant al s f) v) : Calls Tryz.prog 49 #[.map (some b), v] w (RetB false w) := by
  obtain ⟨x, rfl, -⟩ := h
  go_enter Tryz.func49, Tryz.ntmps49
  go_wp2_with fail
  go_ret
  exact ⟨rfl, Ext.refl w⟩
set_option maxRecDepth 100000 in
theorem tv_not {f : Fm} {v : Value} (h : FmV w0 L (.not f) v) (hx0 : Ext w0 w) (ihf : FmIH w0 L b g f) : Calls Tryz.prog 49 #[.map (some b), v] w (RetB (!f.tv g) w) := by
  obtain ⟨x, rfl, hx⟩ := h
  have HX := Lib.hid hx
  have IHF := Lib.hid ihf
  obtain ⟨T, x, rfl⟩ := hx.iface
  clear hx ihf
  go_enter Tryz.func49, Tryz.ntmps49
  go_wp2_with fail
  refine (IHF.out _ _ (hx0.trans ((Ext.refl w).alloc _)) HX.out).mono ?_
  rintro e w1 ⟨rfl, x1⟩
  have X1 := Lib.hid (((Ext.refl w).alloc _).trans x1)
  clear x1
  go_wp2_with fail
  go_ret
  exact ⟨rfl, X1.out⟩

set_option maxRecDepth 100000 in
set_option maxHeartbeats 1000000 in
theorem tv_and {f h : Fm} {v : Value} (hv : FmV w0 L (.and f h) v) (hx0 : Ext w0 w) (ihf : FmIH w0 L b g f) (ihh : FmIH w0 L b g h) : Calls Tryz.prog 49 #[.map (some b), v] w (RetB (f.tv g && h.tv g) w) := by
  obtain ⟨x, y, rfl, hx, hy⟩ := hv
  have HX := Lib.hid hx
  have HY := Lib.hid hy
  obtain ⟨T, x, rfl⟩ := hx.iface
  obtain ⟨U, y, rfl⟩ := hy.iface
  obtain ⟨W, hW⟩ : ∃ W, w.alloc (.cells #[.iface T x, .iface U y] 130) = W := ⟨_, rfl⟩
  have hWx : Ext w W := by rw [← hW]; exact (Ext.refl w).alloc _
  have d0 : W.cell? ⟨w.heap.size, 0, none⟩ = some (.iface T x) := by rw [← hW]; simp [go_sem]
  have D1 : Hid (W.cell? ⟨w.heap.size, 1, none⟩ = some (.iface U y)) := by
    have : W.cell? ⟨w.heap.size, 1, none⟩ = some (.iface U y) := by rw [← hW]; simp [go_sem]
    exact this
  have hws : w.heap.size < W.heap.size := by rw [← hW]; simp
  have HF := Lib.hid (ihf _ W (hx0.trans hWx) hx)
  have HH := Lib.hid ihh
  have HWX := Lib.hid hWx
  have HX0 := Lib.hid hx0
  clear hx hy ihf ihh hWx hx0
  by_cases ht : f.tv g = false
  · rw [ht] at HF ⊢
    show Calls _ _ _ _ (RetB false w)
    go_enter Tryz.func49, Tryz.ntmps49
    go_wp2_with fail
    refine HF.out.mono ?_
    rintro e w1 ⟨rfl, x1⟩
    have X1 := Lib.hid (HWX.out.trans x1)
    clear x1 d0 hW
    go_wp2_with fail
    go_ret
    exact ⟨rfl, X1.out⟩
  · have ht' : f.tv g = true := by simpa using ht
    rw [ht'] at HF ⊢
    clear ht ht'
    show Calls _ _ _ _ (RetB (h.tv g) w)
    go_enter Tryz.func49, Tryz.ntmps49
    go_wp2_with fail
    refine HF.out.mono ?_
    rintro e w1 ⟨rfl, x1⟩
    have d1 : w1.cell? ⟨w.heap.size, 1, none⟩ = some (.iface U y) := (x1.cell (p := ⟨w.heap.size, 1, none⟩) hws).trans D1.out
    have X1 := Lib.hid (HWX.out.trans x1)
    clear x1 d0 hW
    go_wp2_with fail
    clear d1
    refine (HH.out _ _ (HX0.out.trans X1.out) HY.out).mono ?_
    rintro e w2 ⟨rfl, x2⟩
    have X2 := Lib.hid (X1.out.trans x2)
    clear x2
    go_wp2_with fail
    go_ret
    exact ⟨rfl, X2.out⟩

set_option maxRecDepth 100000 in
set_option maxHeartbeats 1000000 in
theorem tv_or {f h : Fm} {v : Value} (hv : FmV w0 L (.or f h) v) (hx0 : Ext w0 w) (ihf : FmIH w0 L b g f) (ihh : FmIH w0 L b g h) : Calls Tryz.prog 49 #[.map (some b), v] w (RetB (f.tv g || h.tv g) w) := by
  obtain ⟨x, y, rfl, hx, hy⟩ := hv
  have HX := Lib.hid hx
  have HY := Lib.hid hy
  obtain ⟨T, x, rfl⟩ := hx.iface
  obtain ⟨U, y, rfl⟩ := hy.iface
  obtain ⟨W, hW⟩ : ∃ W, w.alloc (.cells #[.iface T x, .iface U y] 131) = W := ⟨_, rfl⟩
  have hWx : Ext w W := by rw [← hW]; exact (Ext.refl w).alloc _
  have d0 : W.cell? ⟨w.heap.size, 0, none⟩ = some (.iface T x) := by rw [← hW]; simp [go_sem]
  have D1 : Hid (W.cell? ⟨w.heap.size, 1, none⟩ = some (.iface U y)) := by
    have : W.cell? ⟨w.heap.size, 1, none⟩ = some (.iface U y) := by rw [← hW]; simp [go_sem]
    exact this
  have hws : w.heap.size < W.heap.size := by rw [← hW]; simp
  have HF := Lib.hid (ihf _ W (hx0.trans hWx) hx)
  have HH := Lib.hid ihh
  have HWX := Lib.hid hWx
  have HX0 := Lib.hid hx0
  clear hx hy ihf ihh hWx hx0
  by_cases ht : f.tv g = true
  · rw [ht] at HF ⊢
    show Calls _ _ _ _ (RetB true w)
    go_enter Tryz.func49, Tryz.ntmps49
    go_wp2_with fail
    refine HF.out.mono ?_
    rintro e w1 ⟨rfl, x1⟩
    have X1 := Lib.hid (HWX.out.trans x1)
    clear x1 d0 hW
    go_wp2_with fail
    go_ret
    exact ⟨rfl, X1.out⟩
  · have ht' : f.tv g = false := by simpa using ht
    rw [ht'] at HF ⊢
    clear ht ht'
    show Calls _ _ _ _ (RetB (h.tv g) w)
    go_enter Tryz.func49, Tryz.ntmps49
    go_wp2_with fail
    refine HF.out.mono ?_
    rintro e w1 ⟨rfl, x1⟩
    have d1 : w1.cell? ⟨w.heap.size, 1, none⟩ = some (.iface U y) := (x1.cell (p := ⟨w.heap.size, 1, none⟩) hws).trans D1.out
    have X1 := Lib.hid (HWX.out.trans x1)
    clear x1 d0 hW
    go_wp2_with fail
    clear d1
    refine (HH.out _ _ (HX0.out.trans X1.out) HY.out).mono ?_
    rintro e w2 ⟨rfl, x2⟩
    have X2 := Lib.hid (X1.out.trans x2)
    clear x2
    go_wp2_with fail
    go_ret
    exact ⟨rfl, X2.out⟩

set_option maxRecDepth 100000 in
set_option maxHeartbeats 1000000 in
theorem tv_imp {f h : Fm} {v : Value} (hv : FmV w0 L (.imp f h) v) (hx0 : Ext w0 w) (ihf : FmIH w0 L b g f) (ihh : FmIH w0 L b g h) : Calls Tryz.prog 49 #[.map (some b), v] w (RetB (!f.tv g || h.tv g) w) := by
  obtain ⟨x, y, rfl, hx, hy⟩ := hv
  have HX := Lib.hid hx
  have HY := Lib.hid hy
  obtain ⟨T, x, rfl⟩ := hx.iface
  obtain ⟨U, y, rfl⟩ := hy.iface
  obtain ⟨W, hW⟩ : ∃ W, w.alloc (.cells #[.iface T x, .iface U y] 132) = W := ⟨_, rfl⟩
  have hWx : Ext w W := by rw [← hW]; exact (Ext.refl w).alloc _
  have d0 : W.cell? ⟨w.heap.size, 0, none⟩ = some (.iface T x) := by rw [← hW]; simp [go_sem]
  have D1 : Hid (W.cell? ⟨w.heap.size, 1, none⟩ = some (.iface U y)) := by
    have : W.cell? ⟨w.heap.size, 1, none⟩ = some (.iface U y) := by rw [← hW]; simp [go_sem]
    exact this
  have hws : w.heap.size < W.heap.size := by rw [← hW]; simp
  have HF := Lib.hid (ihf _ W (hx0.trans hWx) hx)
  have HH := Lib.hid ihh
  have HWX := Lib.hid hWx
  have HX0 := Lib.hid hx0
  clear hx hy ihf ihh hWx hx0
  by_cases ht : f.tv g = false
  · rw [ht] at HF ⊢
    show Calls _ _ _ _ (RetB true w)
    go_enter Tryz.func49, Tryz.ntmps49
    go_wp2_with fail
    refine HF.out.mono ?_
    rintro e w1 ⟨rfl, x1⟩
    have X1 := Lib.hid (HWX.out.trans x1)
    clear x1 d0 hW
    go_wp2_with fail
    go_ret
    exact ⟨rfl, X1.out⟩
  · have ht' : f.tv g = true := by simpa using ht
    rw [ht'] at HF ⊢
    clear ht ht'
    show Calls _ _ _ _ (RetB (h.tv g) w)
    go_enter Tryz.func49, Tryz.ntmps49
    go_wp2_with fail
    refine HF.out.mono ?_
    rintro e w1 ⟨rfl, x1⟩
    have d1 : w1.cell? ⟨w.heap.size, 1, none⟩ = some (.iface U y) := (x1.cell (p := ⟨w.heap.size, 1, none⟩) hws).trans D1.out
    have X1 := Lib.hid (HWX.out.trans x1)
    clear x1 d0 hW
    go_wp2_with fail
    clear d1
    refine (HH.out _ _ (HX0.out.trans X1.out) HY.out).mono ?_
    rintro e w2 ⟨rfl, x2⟩
    have X2 := Lib.hid (X1.out.trans x2)
    clear x2
    go_wp2_with fail
    go_ret
    exact ⟨rfl, X2.out⟩

set_option maxRecDepth 100000 in
set_option maxHeartbeats 1000000 in
theorem tv_iff {f h : Fm} {v : Value} (hv : FmV w0 L (.iff f h) v) (hx0 : Ext w0 w) (ihf : FmIH w0 L b g f) (ihh : FmIH w0 L b g h) : Calls Tryz.prog 49 #[.map (some b), v] w (RetB (f.tv g == h.tv g) w) := by
  obtain ⟨x, y, rfl, hx, hy⟩ := hv
  have HX := Lib.hid hx
  have HY := Lib.hid hy
  obtain ⟨T, x, rfl⟩ := hx.iface
  obtain ⟨U, y, rfl⟩ := hy.iface
  have IHF := Lib.hid ihf
  have IHH := Lib.hid ihh
  have HX0 := Lib.hid hx0
  clear hx hy ihf ihh hx0
  go_enter Tryz.func49, Tryz.ntmps49
  go_wp2_with fail
  obtain ⟨W, hW⟩ : ∃ W, w.alloc (.cells #[.iface T x, .iface U y] 133) = W := ⟨_, rfl⟩
  have HB : Hid (∀ W', Ext W W' → (Ext W W' ∧ W'.cell? ⟨w.heap.size, 0, none⟩ = some (.iface T x) ∧ W'.cell? ⟨w.heap.size, 1, none⟩ = some (.iface U y))) := by
    intro W' hx
    obtain ⟨hc, hf⟩ := hx.cells
    refine ⟨hx, ?_, ?_⟩ <;> (rw [hc _ _ (by rw [← hW]; simp), ← hW]; simp [go_sem])
  have HWX : Hid (Ext w W) := by
    have : Ext w W := by rw [← hW]; exact (Ext.refl w).alloc _
    exact this
  rw [hW]
  clear hW
  have y0 : Ext W W.drew := (Ext.refl W).drew
  have Y0 := Lib.hid y0
  clear y0
  go_region_held3 (fun W' => Ext W W' ∧ W'.cell? ⟨w.heap.size, 0, none⟩ = some (.iface T x) ∧ W'.cell? ⟨w.heap.size, 1, none⟩ = some (.iface U y))
    (first | with_reducible exact HB.out _ Y0.out | with_reducible exact HB.out _ y1 | with_reducible exact HB.out _ y2)
    (first
      | (go_at_call_of 49 (Value.iface T x)
         refine (IHF.out _ _ (HX0.out.trans (HWX.out.trans Y0.out)) HX.out).mono ?_
         rintro e v1 ⟨rfl, x1⟩
         have y1 : Ext W v1 := Ext.trans Y0.out x1)
      | (go_at_call_of 49 (Value.iface U y)
         refine (IHH.out _ _ (HX0.out.trans (HWX.out.trans y1)) HY.out).mono ?_
         rintro e v2 ⟨rfl, x2⟩
         have y2 : Ext W v2 := Ext.trans y1 x2))
  have X2 := Lib.hid (HWX.out.trans y2)
  clear y1 y2 x1 x2 HB HWX Y0
  go_wp2_with fail
  go_ret
  exact ⟨rfl, X2.out⟩

set_option maxRecDepth 100000 in
set_option maxHeartbeats 1000000 in
theorem tv_atom {l k : Tm} {r : Int} {v : Value} (hm : VMap w0 L b g) (hL : 1 ≤ L) (hgl : ∀ s q, g s = some q → rlen q ≤ L) (hv : FmV w0 L (.atom l r k) v) (hx0 : Ext w0 w) (hf : (Fm.atom l r k).fine g L) : Calls Tryz.prog 49 #[.map (some b), v] w (RetB (holdsI r (cmpQ (l.val g) (k.val g))) w) := by
  have IHL := Lib.hid (term_any hm hL hgl l hf.1.1 hf.1.2)
  have IHK := Lib.hid (term_any hm hL hgl k hf.2.1 hf.2.2)
  obtain ⟨x, y, rfl, hx, hy⟩ := hv
  have h1 := Nat.le_trans (val_len hL hgl hx hf.1.1) hf.1.2
  have h2 := Nat.le_trans (val_len hL hgl hy hf.2.1) hf.2.2
  have hp1 := rlen_pos (l.val g)
  have hp2 := rlen_pos (k.val g)
  have HX := Lib.hid hx
  have HY := Lib.hid hy
  obtain ⟨T, x, rfl⟩ := hx.iface
  obtain ⟨U, y, rfl⟩ := hy.iface
  have HX0 := Lib.hid hx0
  clear hx hy hx0 hm hgl hf
  go_enter Tryz.func49, Tryz.ntmps49
  go_wp2_with fail
  obtain ⟨W, hW⟩ : ∃ W, w.alloc (.cells #[.iface T x, .int .i64 r, .iface U y] 63) = W := ⟨_, rfl⟩
  have HB : Hid (∀ W', Ext W W' → (Ext W W' ∧ W'.cell? ⟨w.heap.size, 0, none⟩ = some (.iface T x) ∧ W'.cell? ⟨w.heap.size, 1, none⟩ = some (.int .i64 r) ∧ W'.cell? ⟨w.heap.size, 2, none⟩ = some (.iface U y))) := by
    intro W' hx
    obtain ⟨hc, hf⟩ := hx.cells
    refine ⟨hx, ?_, ?_, ?_⟩ <;> (rw [hc _ _ (by rw [← hW]; simp), ← hW]; simp [go_sem])
  have HWX : Hid (Ext w W) := by
    have : Ext w W := by rw [← hW]; exact (Ext.refl w).alloc _
    exact this
  rw [hW]
  clear hW
  have y0 : Ext W W.drew := (Ext.refl W).drew
  have Y0 := Lib.hid y0
  clear y0
  go_region_held3 (fun W' => Ext W W' ∧ W'.cell? ⟨w.heap.size, 0, none⟩ = some (.iface T x) ∧ W'.cell? ⟨w.heap.size, 1, none⟩ = some (.int .i64 r) ∧ W'.cell? ⟨w.heap.size, 2, none⟩ = some (.iface U y))
    (first | with_reducible exact HB.out _ Y0.out | with_reducible exact HB.out _ y1 | with_reducible exact HB.out _ y2 | with_reducible exact HB.out _ y3)
    (first
      | (go_at_call_of 75 (Value.iface T x)
         refine (IHL.out _ _ (HX0.out.trans (HWX.out.trans Y0.out)) HX.out).mono ?_
         rintro e v1 ⟨z1, rfl, m1, x1⟩
         obtain ⟨b1, A1, n1, c1, B1, k1, d1, rfl⟩ := m1.unpack
         have y1 : Ext W v1 := Ext.trans Y0.out x1)
      | (go_at_call_of 75 (Value.iface U y)
         refine (IHK.out _ _ (HX0.out.trans (HWX.out.trans y1)) HY.out).mono ?_
         rintro e v2 ⟨z2, rfl, m2, x2⟩
         obtain ⟨b2, A2, n2, c2, B2, k2, d2, rfl⟩ := m2.unpack
         have y2 : Ext W v2 := Ext.trans y1 x2)
      | (go_at_call 36
         refine (cmp_rat _ _ (l.val g) (k.val g) (rlen (l.val g)) (rlen (k.val g)) _ (m1.raw.ext x2) m2.raw hp1 hp2 (by omega)).mono ?_
         rintro e v3 ⟨rfl, x3⟩
         have y3 : Ext W v3 := Ext.trans y2 x3)
      | (go_at_call 22
         refine (Holds_any _ _ _).mono ?_
         rintro e v4 ⟨rfl, rfl⟩))
  all_goals
    have X3 := Lib.hid (HWX.out.trans y3)
    clear y1 y2 y3 x1 x2 x3 m1 m2 HB HWX Y0
    go_wp2_with fail
    go_ret
    exact ⟨rfl, X3.out⟩

theorem formula_any (hm : VMap w0 L b g) (hL : 1 ≤ L) (hgl : ∀ s q, g s = some q → rlen q ≤ L) (f : Fm) (hf : f.fine g L) : FmIH w0 L b g f := by
  induction f with
  | truth t => exact fun v w hx h => tv_truth h
  | atom l r k => exact fun v w hx h => tv_atom hm hL hgl h hx hf
  | not f ihf => exact fun v w hx h => tv_not h hx (ihf hf)
  | and f h ihf ihh => exact fun v w hx hv => tv_and hv hx (ihf hf.1) (ihh hf.2)
  | or f h ihf ihh => exact fun v w hx hv => tv_or hv hx (ihf hf.1) (ihh hf.2)
  | imp f h ihf ihh => exact fun v w hx hv => tv_imp hv hx (ihf hf.1) (ihh hf.2)
  | iff f h ihf ihh => exact fun v w hx hv => tv_iff hv hx (ihf hf.1) (ihh hf.2)
  | quant a s f ihf => exact fun v w hx h => tv_quant h
end
end Go.Proofs.YtdcapcpchcnidaaGreat
