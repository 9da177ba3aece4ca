/- Law 38: PrenexNegates answers true. -/
import Derived.Test.YtkbpnppiadaibaaGreatDoorMg35
import Derived.Test.YtkbpnppiadaibaaGreatDoorMg36
import Derived.Test.YtkbpnppiadaibaaGreatDoorMg40
import Derived.Test.YtkbpnppiadaibaaGreatDoorMg45
import Derived.Test.YtkbpnppiadaibaaGreatDoorMg49
import Derived.Test.YtkbpnppiadaibaaGreatDoorMg50
set_option linter.unusedSimpArgs false
set_option linter.unusedVariables false

namespace Go.Proofs.YtkbpnppiadaibaaGreatDoor
open Go.RowKit

/-- A tree without equivalences. -/
theorem iffs_plain (L : Nat) (f : Fm) : ∀ t, IsFm L f t → t.iffs = 0 → f.noIff = true := by
  have nil : ∀ {l : List Tr} {t : Tr}, t.list = t :: l → t.iffs = 0 → (l.filter fun x => x.d.kind == 14) = [] := by
    intro l t e h
    unfold Tr.iffs at h
    rw [e] at h
    have := List.eq_nil_of_length_eq_zero h
    rw [List.filter_cons] at this
    split at this
    · cases this
    · exact this
  have one : ∀ {x : Tr}, (x.list.filter fun x => x.d.kind == 14) = [] → x.iffs = 0 := fun h => by unfold Tr.iffs; rw [h]; rfl
  have both : ∀ {x y t : Tr}, t.list = t :: (x.list ++ y.list) → t.iffs = 0 → x.iffs = 0 ∧ y.iffs = 0 := by
    intro x y t e h
    have := nil e h
    rw [List.filter_append, List.append_eq_nil_iff] at this
    exact ⟨one this.1, one this.2⟩
  refine fm_ind L (fun f t => t.iffs = 0 → f.noIff = true) ?_ ?_ ?_ ?_ ?_ ?_ ?_ ?_ f
  · intro b t _ _ _ _; rfl
  · intro l r k t x y _ _ _ _ _ _ _ _; rfl
  · intro f t x _ e ih h; exact ih (one (nil e h))
  · intro f g t x y _ e ih1 ih2 h; simp only [Fm.noIff, Bool.and_eq_true]; exact ⟨ih1 (both e h).1, ih2 (both e h).2⟩
  · intro f g t x y _ e ih1 ih2 h; simp only [Fm.noIff, Bool.and_eq_true]; exact ⟨ih1 (both e h).1, ih2 (both e h).2⟩
  · intro f g t x y _ e ih1 ih2 h; simp only [Fm.noIff, Bool.and_eq_true]; exact ⟨ih1 (both e h).1, ih2 (both e h).2⟩
  · intro f g t x y hk e _ _ h
    exfalso
    unfold Tr.iffs at h
    rw [e, List.filter_cons, if_pos (by rw [hk]; rfl)] at h
    simp at h
  · intro f t x _ e ih h; exact ih (one (nil e h))
theorem Fm.terms_true (f : Fm) : f.terms (fun _ => True) := by
  induction f <;> simp_all [Fm.terms]
theorem pof_any {w0 w : World} {L : Nat} (hs : L ≤ 1000000000000) (f : Fm) {v : Value} (hx0 : Ext w0 w) (h : FmV w0 L f v) (hl : f.sz ≤ 400) (hpl : f.noIff = true) (hok : f.nmE = 0) :
    Calls Tryz.prog 13 #[v] w fun e w' => ∃ u, e = .returned (.tuple #[u, .int .i64 0]) ∧ Ext w w' ∧ PxV w' (fun b => w.heap.size ≤ b) f.free.length (matF f true f.st).2.all (matF f true f.st).2.names (matF f true f.st).1 u :=
  of_any (P := fun _ => True) hs f hx0 h (by omega) hpl hok (f.chk_light hok) (by
    have h1 := f.bound_len
    have h2 := f.free_len (fun _ => 0) []
    have h3 : f.free.length = (f.fold freeStep (fun _ => 0) []).length := rfl
    simp only [List.length_nil] at h2
    omega) (fun w gb bl t _ g => bpoly_any hs t) f.terms_true

set_option maxRecDepth 100000 in
set_option maxHeartbeats 8000000 in
theorem lawNegates_any {w : World} {p : Nat → Prop} (t : Tr) (v : Value) (h : TrV w p t v) : Calls Tryz.prog 3 #[v] w (RetB true w) := by
  have HT := Lib.hid h
  obtain ⟨A0, n0, c0, A, c, rfl, -, hl1, hl2, h4⟩ := h.open_
  clear h h4
  unfold ndV
  unfold ndV at HT
  obtain ⟨W, hW⟩ : ∃ W, w.alloc (.cells #[.int .i64 t.d.kind, .bool t.d.neg, .slice A0 n0 c0, .string t.d.name, .int .i64 t.d.exp, .int .i64 t.d.rel, .bool t.d.truth, .bool t.d.all, .slice A t.ks.length c] 29) = W := ⟨_, rfl⟩
  have hWx : Ext w W := by rw [← hW]; exact (Ext.refl w).alloc _
  have hWs : W.heap.size = w.heap.size + 1 := by rw [← hW]; simp
  have hbx : Box9 W w.heap.size t.d (.slice A0 n0 c0) (.slice A t.ks.length c) := by rw [← hW]; exact Box9.new w t.d _ _ _
  have HBX := Lib.hid hbx
  have HWX := Lib.hid hWx
  have HRI := Lib.hid (fun W' (hx : Ext w W') => right38_any t _ (HT.out.ext hx))
  have HSM := Lib.hid (fun W' (hx : Ext w W') => smallT_any t _ (HT.out.ext hx) 120 0 (by omega))
  have HFO := Lib.hid (fun (h1 : (t.few 120 && decide (t.iffs ≤ 4) && t.is false) = true) (h2 : (t.few 120 && decide (t.iffs ≤ 0)) = true) => by
    simp only [Bool.and_eq_true, decide_eq_true_eq] at h1 h2
    obtain ⟨f, hm, hz⟩ := is_fm t h1.2 (few_list h1.1.1).2
    exact (⟨f, hm, by have := (few_list h1.1.1).1; omega, iffs_plain 20 f t hm (by omega)⟩ : ∃ f, IsFm 20 f t ∧ f.sz ≤ 120 ∧ f.noIff = true))
  clear hWx hbx
  generalize (t.few 120 && decide (t.iffs ≤ 4) && t.is false) = r1 at *
  generalize (t.few 120 && decide (t.iffs ≤ 0)) = r2 at *
  go_enter Tryz.func3, Tryz.ntmps3
  go_wp2_with fail
  clear hW
  refine (awake38_any _).mono ?_
  rintro e w1 ⟨rfl, x1⟩
  have hx1 := HWX.out.trans x1
  have hz1 := x1.size
  obtain ⟨b0, b1, b2, b3, b4, b5, b6, b7, b8⟩ := HBX.out.ext x1 (by omega)
  have HB1 := Lib.hid (HBX.out.ext x1 (by omega))
  have X1 := Lib.hid hx1
  clear x1 hx1
  go_wp2_with fail
  clear b0 b1 b2 b3 b4 b5 b6 b7 b8
  refine (HRI.out _ X1.out).mono ?_
  rintro e w2 ⟨rfl, x2⟩
  have hx2 := X1.out.trans x2
  have hz2 := x2.size
  obtain ⟨b0, b1, b2, b3, b4, b5, b6, b7, b8⟩ := HB1.out.ext x2 (by omega)
  have HB2 := Lib.hid (HB1.out.ext x2 (by omega))
  have X2 := Lib.hid hx2
  clear x2 hx2 HRI
  cases r1
  case false =>
    clear b0 b1 b2 b3 b4 b5 b6 b7 b8
    go_wp2_with fail
    refine (awake38_any _).mono ?_
    rintro e w3 ⟨rfl, x3⟩
    have X3 := Lib.hid (X2.out.trans x3)
    clear x3
    go_wp2_with fail
    go_ret
    exact ⟨rfl, X3.out⟩
  go_wp2_with fail
  clear b0 b1 b2 b3 b4 b5 b6 b7 b8
  refine (HSM.out _ X2.out).mono ?_
  rintro e w3 ⟨rfl, x3⟩
  have hx3 := X2.out.trans x3
  have hz3 := x3.size
  obtain ⟨b0, b1, b2, b3, b4, b5, b6, b7, b8⟩ := HB2.out.ext x3 (by omega)
  have X3 := Lib.hid hx3
  clear x3 hx3 HSM
  cases r2
  case false =>
    clear b0 b1 b2 b3 b4 b5 b6 b7 b8
    go_wp2_with fail
    refine (awake38_any _).mono ?_
    rintro e w4 ⟨rfl, x4⟩
    have X4 := Lib.hid (X3.out.trans x4)
    clear x4
    go_wp2_with fail
    go_ret
    exact ⟨rfl, X4.out⟩
  obtain ⟨f, hm, hsz, hpl⟩ := HFO.out (by simp) (by simp)
  have HOF := Lib.hid (fof_any (L := 20) (by omega) f t hm _ w3 (HT.out.ext X3.out))
  have HPL := Lib.hid hpl
  have hne := f.nmE_not (by omega)
  have HNE := Lib.hid hne
  clear hm hpl hne HFO
  go_wp2_with fail
  clear b0 b1 b2 b3 b4 b5 b6 b7 b8
  refine HOF.out.mono ?_
  rintro e wf ⟨v3, rfl, ht3, xf⟩
  have HT3 := Lib.hid ht3
  obtain ⟨T3, y3, rfl⟩ := ht3.iface
  have XF := Lib.hid (X3.out.trans xf)
  clear ht3 xf HOF HT
  by_cases hok : f.nmE = 0
  case neg =>
    have HE1 := Lib.hid (of_err (w0 := wf) (by omega) f (Ext.refl wf) HT3.out (by omega) hok)
    have HE2 : Hid (∀ W', Ext wf W' → Calls Tryz.prog 13 #[.iface 51 (.agg #[.iface T3 y3])] W' fun e w' => e = .returned (.tuple #[noPx, .int .i64 f.nmE]) ∧ Ext W' w') := Lib.hid (fun W' hx => by
      have := of_err (w0 := wf) (L := 20) (by omega) (.not f) hx (show FmV wf 20 (.not f) (.iface 51 (.agg #[.iface T3 y3])) from ⟨_, rfl, HT3.out⟩) (by simp only [Fm.sz]; omega) (by rw [HNE.out]; exact hok)
      rw [HNE.out] at this
      exact this)
    have hd : (f.nmE != 0) = true := by simpa using hok
    unfold noPx at HE1 HE2
    clear hok HNE
    generalize f.nmE = ne at *
    go_wp2_with fail
    refine HE1.out.mono ?_
    rintro e w4 ⟨rfl, x4⟩
    clear HE1
    go_wp2_with fail
    obtain ⟨V4, hV4⟩ : ∃ V4, (w4.alloc (.cells #[.int .i64 0, .slice none 0 0, .slice none 0 0, .int .i64 0, .int .i64 0, .int .i64 0, .bool false, .slice none 0 0, .slice none 0 0, .slice none 0 0] 47)) = V4 := ⟨_, rfl⟩
    obtain ⟨hVx, hVs, -⟩ := box10 w4 _ _ _ _ _ _ _ _ _ _ _ V4 hV4
    have X4 := Lib.hid (x4.trans hVx)
    clear x4 hVx hVs
    rw [hV4]
    clear hV4
    refine (HE2.out _ X4.out).mono ?_
    rintro e w5 ⟨rfl, x5⟩
    clear HE2
    go_wp2_with fail
    obtain ⟨V5, hV5⟩ : ∃ V5, (w5.alloc (.cells #[.int .i64 0, .slice none 0 0, .slice none 0 0, .int .i64 0, .int .i64 0, .int .i64 0, .bool false, .slice none 0 0, .slice none 0 0, .slice none 0 0] 47)) = V5 := ⟨_, rfl⟩
    obtain ⟨hVx, hVs, -⟩ := box10 w5 _ _ _ _ _ _ _ _ _ _ _ V5 hV5
    have X5 := Lib.hid (X4.out.trans (x5.trans hVx))
    rw [hV5]
    clear x5 hVx hVs hV5
    go_ret
    exact ⟨by simp, XF.out.trans X5.out⟩
  have hok2 : (Fm.not f).nmE = 0 := by rw [HNE.out]; exact hok
  have HP1 := Lib.hid (pof_any (w0 := wf) (by omega) f (Ext.refl wf) HT3.out (by omega) HPL.out hok)
  have HP2 : Hid (∀ W', Ext wf W' → Calls Tryz.prog 13 #[.iface 51 (.agg #[.iface T3 y3])] W' fun e w' => ∃ u, e = .returned (.tuple #[u, .int .i64 0]) ∧ Ext W' w' ∧ PxV w' (fun b => W'.heap.size ≤ b) f.free.length (matF f false f.st).2.all (matF f false f.st).2.names (matF f false f.st).1 u) := Lib.hid (fun W' hx =>
    pof_any (w0 := wf) (L := 20) (by omega) (.not f) hx (show FmV wf 20 (.not f) (.iface 51 (.agg #[.iface T3 y3])) from ⟨_, rfl, HT3.out⟩) (by simp only [Fm.sz]; omega) HPL.out hok2)
  obtain ⟨hlN, hlA⟩ := matF_len f true f.st HPL.out
  have hsm := matF_sz f true f.st
  have hbg := matF_big f zero_big true f.st (f.chk_light hok)
  have hbg2 := matF_big f zero_big false f.st (f.chk_light hok)
  have hsm2 := matF_sz f false f.st
  obtain ⟨e1, e2, e3⟩ := neg_form f HPL.out
  obtain ⟨e4, e5, -⟩ := neg_form2 f HPL.out
  rw [e1] at e4 hbg2 hsm2
  rw [e2] at e5
  rw [e1, e2, e3] at HP2
  have hfl : f.free.length ≤ 400 ∧ f.bound.length ≤ 400 := by
    have h1 := f.bound_len
    have h2 := f.free_len (fun _ => 0) []
    have h3 : f.free.length = (f.fold freeStep (fun _ => 0) []).length := rfl
    simp only [List.length_nil] at h2
    omega
  have hal : (matF f true f.st).2.all.length ≤ 1000 := by
    rw [hlA]
    show 0 + _ ≤ _
    omega
  have hnl : (matF f true f.st).2.names.length ≤ 1000 := by
    rw [hlN]
    show f.free.length + _ ≤ _
    omega
  clear e1 e2 e3 hlN hlA hfl hok hok2 HNE HPL
  generalize (matF f true f.st).1 = m at *
  generalize (matF f true f.st).2.all = al at *
  generalize (matF f true f.st).2.names = nms at *
  generalize (f.free.length : Int) = fr at *
  have E4 := Lib.hid e4
  have E5 := Lib.hid e5
  have HBG := Lib.hid hbg
  have HBG2 := Lib.hid hbg2
  clear e4 e5 hbg hbg2
  go_wp2_with fail
  refine HP1.out.mono ?_
  rintro e w4 ⟨u4, rfl, x4, hp4⟩
  have HPX4 := Lib.hid hp4
  obtain ⟨A1, c1, A2, c2, A0, n0, c0, B, n1, c3, K, n2, c4, rfl, -⟩ := hp4
  unfold pxC at HPX4
  unfold pxC
  obtain ⟨V4, hV4⟩ : ∃ V4, (w4.alloc (.cells #[.int .i64 fr, .slice A1 al.length c1, .slice A2 nms.length c2, .int .i64 m.kind, .int .i64 m.rel, .int .i64 m.p.lv, .bool m.p.neg, .slice A0 n0 c0, .slice B n1 c3, .slice K n2 c4] 47)) = V4 := ⟨_, rfl⟩
  obtain ⟨hVx4, hVs4, a0, a1, a2, a3, a4, a5, a6, a7, a8, a9⟩ := box10 w4 _ _ _ _ _ _ _ _ _ _ _ V4 hV4
  have HA : Hid (∀ wr, Ext V4 wr → wr.cell? ⟨w4.heap.size, 0, none⟩ = some (.int .i64 fr) ∧ wr.cell? ⟨w4.heap.size, 1, none⟩ = some (.slice A1 al.length c1) ∧ wr.cell? ⟨w4.heap.size, 2, none⟩ = some (.slice A2 nms.length c2) ∧ wr.cell? ⟨w4.heap.size, 3, none⟩ = some (.int .i64 m.kind) ∧ wr.cell? ⟨w4.heap.size, 4, none⟩ = some (.int .i64 m.rel) ∧ wr.cell? ⟨w4.heap.size, 5, none⟩ = some (.int .i64 m.p.lv) ∧ wr.cell? ⟨w4.heap.size, 6, none⟩ = some (.bool m.p.neg) ∧ wr.cell? ⟨w4.heap.size, 7, none⟩ = some (.slice A0 n0 c0) ∧ wr.cell? ⟨w4.heap.size, 8, none⟩ = some (.slice B n1 c3) ∧ wr.cell? ⟨w4.heap.size, 9, none⟩ = some (.slice K n2 c4)) := Lib.hid (by
    intro wr hxx
    have k : ∀ j, wr.cell? ⟨w4.heap.size, j, none⟩ = V4.cell? ⟨w4.heap.size, j, none⟩ := fun j => hxx.cell (p := ⟨w4.heap.size, j, none⟩) (by show w4.heap.size < _; omega)
    exact ⟨(k 0).trans a0, (k 1).trans a1, (k 2).trans a2, (k 3).trans a3, (k 4).trans a4, (k 5).trans a5, (k 6).trans a6, (k 7).trans a7, (k 8).trans a8, (k 9).trans a9⟩)
  have X4 := Lib.hid (x4.trans hVx4)
  have HQ4 := Lib.hid (HPX4.out.ext hVx4)
  clear x4 hVx4 hVs4 a0 a1 a2 a3 a4 a5 a6 a7 a8 a9 HP1 HPX4
  go_wp2_with fail
  clear hV4
  refine (HP2.out _ X4.out).mono ?_
  rintro e w5 ⟨u5, rfl, x5, hp5⟩
  have HPX5 := Lib.hid hp5
  obtain ⟨S1, d1, S2, d2, P0, l0, h0, P, l1, h1, R, l2, h2, rfl, -⟩ := hp5
  unfold pxC at HPX5
  unfold pxC
  rw [List.length_map] at HPX5
  rw [List.length_map]
  obtain ⟨V, hV⟩ : ∃ V, (w5.alloc (.cells #[.int .i64 fr, .slice S1 al.length d1, .slice S2 nms.length d2, .int .i64 m.not.kind, .int .i64 m.not.rel, .int .i64 m.not.p.lv, .bool m.not.p.neg, .slice P0 l0 h0, .slice P l1 h1, .slice R l2 h2] 47)) = V := ⟨_, rfl⟩
  obtain ⟨hVx, hVs, a0, a1, a2, a3, a4, a5, a6, a7, a8, a9⟩ := box10 w5 _ _ _ _ _ _ _ _ _ _ _ V hV
  have HB : Hid (∀ wr, Ext V wr → wr.cell? ⟨w5.heap.size, 0, none⟩ = some (.int .i64 fr) ∧ wr.cell? ⟨w5.heap.size, 1, none⟩ = some (.slice S1 al.length d1) ∧ wr.cell? ⟨w5.heap.size, 2, none⟩ = some (.slice S2 nms.length d2) ∧ wr.cell? ⟨w5.heap.size, 3, none⟩ = some (.int .i64 m.not.kind) ∧ wr.cell? ⟨w5.heap.size, 4, none⟩ = some (.int .i64 m.not.rel) ∧ wr.cell? ⟨w5.heap.size, 5, none⟩ = some (.int .i64 m.not.p.lv) ∧ wr.cell? ⟨w5.heap.size, 6, none⟩ = some (.bool m.not.p.neg) ∧ wr.cell? ⟨w5.heap.size, 7, none⟩ = some (.slice P0 l0 h0) ∧ wr.cell? ⟨w5.heap.size, 8, none⟩ = some (.slice P l1 h1) ∧ wr.cell? ⟨w5.heap.size, 9, none⟩ = some (.slice R l2 h2)) := Lib.hid (by
    intro wr hxx
    have k : ∀ j, wr.cell? ⟨w5.heap.size, j, none⟩ = V.cell? ⟨w5.heap.size, j, none⟩ := fun j => hxx.cell (p := ⟨w5.heap.size, j, none⟩) (by show w5.heap.size < _; omega)
    exact ⟨(k 0).trans a0, (k 1).trans a1, (k 2).trans a2, (k 3).trans a3, (k 4).trans a4, (k 5).trans a5, (k 6).trans a6, (k 7).trans a7, (k 8).trans a8, (k 9).trans a9⟩)
  have HQ1 := Lib.hid (HQ4.out.ext (x5.trans hVx))
  have HQ2 := Lib.hid (HPX5.out.ext hVx)
  have HSS : Hid (∀ W2, Ext V W2 → (Ext V W2 ∧ W2.cell? ⟨w4.heap.size, 0, none⟩ = some (.int .i64 fr) ∧ W2.cell? ⟨w4.heap.size, 1, none⟩ = some (.slice A1 al.length c1) ∧ W2.cell? ⟨w4.heap.size, 2, none⟩ = some (.slice A2 nms.length c2) ∧ W2.cell? ⟨w4.heap.size, 3, none⟩ = some (.int .i64 m.kind) ∧ W2.cell? ⟨w4.heap.size, 4, none⟩ = some (.int .i64 m.rel) ∧ W2.cell? ⟨w4.heap.size, 5, none⟩ = some (.int .i64 m.p.lv) ∧ W2.cell? ⟨w4.heap.size, 6, none⟩ = some (.bool m.p.neg) ∧ W2.cell? ⟨w4.heap.size, 7, none⟩ = some (.slice A0 n0 c0) ∧ W2.cell? ⟨w4.heap.size, 8, none⟩ = some (.slice B n1 c3) ∧ W2.cell? ⟨w4.heap.size, 9, none⟩ = some (.slice K n2 c4) ∧ W2.cell? ⟨w5.heap.size, 0, none⟩ = some (.int .i64 fr) ∧ W2.cell? ⟨w5.heap.size, 1, none⟩ = some (.slice S1 al.length d1) ∧ W2.cell? ⟨w5.heap.size, 2, none⟩ = some (.slice S2 nms.length d2) ∧ W2.cell? ⟨w5.heap.size, 3, none⟩ = some (.int .i64 m.not.kind) ∧ W2.cell? ⟨w5.heap.size, 4, none⟩ = some (.int .i64 m.not.rel) ∧ W2.cell? ⟨w5.heap.size, 5, none⟩ = some (.int .i64 m.not.p.lv) ∧ W2.cell? ⟨w5.heap.size, 6, none⟩ = some (.bool m.not.p.neg) ∧ W2.cell? ⟨w5.heap.size, 7, none⟩ = some (.slice P0 l0 h0) ∧ W2.cell? ⟨w5.heap.size, 8, none⟩ = some (.slice P l1 h1) ∧ W2.cell? ⟨w5.heap.size, 9, none⟩ = some (.slice R l2 h2))) := Lib.hid (by
    have : ∀ W2, Ext V W2 → (Ext V W2 ∧ W2.cell? ⟨w4.heap.size, 0, none⟩ = some (.int .i64 fr) ∧ W2.cell? ⟨w4.heap.size, 1, none⟩ = some (.slice A1 al.length c1) ∧ W2.cell? ⟨w4.heap.size, 2, none⟩ = some (.slice A2 nms.length c2) ∧ W2.cell? ⟨w4.heap.size, 3, none⟩ = some (.int .i64 m.kind) ∧ W2.cell? ⟨w4.heap.size, 4, none⟩ = some (.int .i64 m.rel) ∧ W2.cell? ⟨w4.heap.size, 5, none⟩ = some (.int .i64 m.p.lv) ∧ W2.cell? ⟨w4.heap.size, 6, none⟩ = some (.bool m.p.neg) ∧ W2.cell? ⟨w4.heap.size, 7, none⟩ = some (.slice A0 n0 c0) ∧ W2.cell? ⟨w4.heap.size, 8, none⟩ = some (.slice B n1 c3) ∧ W2.cell? ⟨w4.heap.size, 9, none⟩ = some (.slice K n2 c4) ∧ W2.cell? ⟨w5.heap.size, 0, none⟩ = some (.int .i64 fr) ∧ W2.cell? ⟨w5.heap.size, 1, none⟩ = some (.slice S1 al.length d1) ∧ W2.cell? ⟨w5.heap.size, 2, none⟩ = some (.slice S2 nms.length d2) ∧ W2.cell? ⟨w5.heap.size, 3, none⟩ = some (.int .i64 m.not.kind) ∧ W2.cell? ⟨w5.heap.size, 4, none⟩ = some (.int .i64 m.not.rel) ∧ W2.cell? ⟨w5.heap.size, 5, none⟩ = some (.int .i64 m.not.p.lv) ∧ W2.cell? ⟨w5.heap.size, 6, none⟩ = some (.bool m.not.p.neg) ∧ W2.cell? ⟨w5.heap.size, 7, none⟩ = some (.slice P0 l0 h0) ∧ W2.cell? ⟨w5.heap.size, 8, none⟩ = some (.slice P l1 h1) ∧ W2.cell? ⟨w5.heap.size, 9, none⟩ = some (.slice R l2 h2)) := by
      intro W2 hx2
      exact ⟨hx2, (HA.out W2 ((x5.trans hVx).trans hx2)).1, (HA.out W2 ((x5.trans hVx).trans hx2)).2.1, (HA.out W2 ((x5.trans hVx).trans hx2)).2.2.1, (HA.out W2 ((x5.trans hVx).trans hx2)).2.2.2.1, (HA.out W2 ((x5.trans hVx).trans hx2)).2.2.2.2.1, (HA.out W2 ((x5.trans hVx).trans hx2)).2.2.2.2.2.1, (HA.out W2 ((x5.trans hVx).trans hx2)).2.2.2.2.2.2.1, (HA.out W2 ((x5.trans hVx).trans hx2)).2.2.2.2.2.2.2.1, (HA.out W2 ((x5.trans hVx).trans hx2)).2.2.2.2.2.2.2.2.1, (HA.out W2 ((x5.trans hVx).trans hx2)).2.2.2.2.2.2.2.2.2, (HB.out W2 hx2)⟩
    exact this)
  have XV := Lib.hid ((XF.out.trans X4.out).trans (x5.trans hVx))
  have HN1 : Hid (∀ W', Ext V W' → Calls Tryz.prog 15 #[.agg #[.int .i64 fr, .slice A1 al.length c1, .slice A2 nms.length c2, .int .i64 m.kind, .int .i64 m.rel, .int .i64 m.p.lv, .bool m.p.neg, .slice A0 n0 c0, .slice B n1 c3, .slice K n2 c4]] W' fun e w'' => ∃ v', e = .returned v' ∧ PxV w'' (fun b => W'.heap.size ≤ b) fr (al.map not) nms m.not v' ∧ Ext W' w'') := Lib.hid (fun W' hx =>
    negate_can (by omega) HBG.out hal hnl (HQ1.out.ext hx))
  have HN2 : Hid (∀ W', Ext V W' → Calls Tryz.prog 15 #[.agg #[.int .i64 fr, .slice S1 al.length d1, .slice S2 nms.length d2, .int .i64 m.not.kind, .int .i64 m.not.rel, .int .i64 m.not.p.lv, .bool m.not.p.neg, .slice P0 l0 h0, .slice P l1 h1, .slice R l2 h2]] W' fun e w'' => ∃ v', e = .returned v' ∧ PxV w'' (fun b => W'.heap.size ≤ b) fr al nms m v' ∧ Ext W' w'') := Lib.hid (fun W' hx => by
    have h1 := negate_can (by omega) HBG2.out (by rw [List.length_map]; exact hal) hnl (HQ2.out.ext hx)
    rw [← E4.out, ← E5.out] at h1
    exact h1)
  have HE1 : Hid (∀ W', Ext V W' → ∀ q v'', PxV W' q fr (al.map not) nms m.not v'' → Calls Tryz.prog 14 #[v'', .agg #[.int .i64 fr, .slice S1 al.length d1, .slice S2 nms.length d2, .int .i64 m.not.kind, .int .i64 m.not.rel, .int .i64 m.not.p.lv, .bool m.not.p.neg, .slice P0 l0 h0, .slice P l1 h1, .slice R l2 h2]] W' (RetB true W')) := Lib.hid (fun W' hx q v'' hv =>
    eqForms_any (by omega) (Mx.each_mono (fun p hp => hp.2.1) _ HBG2.out) hv (HQ2.out.ext hx))
  have HE2 : Hid (∀ W', Ext V W' → ∀ q v'', PxV W' q fr al nms m v'' → Calls Tryz.prog 14 #[v'', .agg #[.int .i64 fr, .slice A1 al.length c1, .slice A2 nms.length c2, .int .i64 m.kind, .int .i64 m.rel, .int .i64 m.p.lv, .bool m.p.neg, .slice A0 n0 c0, .slice B n1 c3, .slice K n2 c4]] W' (RetB true W')) := Lib.hid (fun W' hx q v'' hv =>
    eqForms_any (by omega) (Mx.each_mono (fun p hp => hp.2.1) _ HBG.out) hv (HQ1.out.ext hx))
  have y0 : Ext V V.drew := (Ext.refl V).drew
  have Y0 := Lib.hid y0
  clear y0 x5 hVx hVs a0 a1 a2 a3 a4 a5 a6 a7 a8 a9 HP2 HPX5 HQ4 HQ1 HQ2 HA HB HBG HBG2 E4 E5 hal hnl hsm hsm2 X4 XF X1 X2 X3 HT3
  go_wp2_with fail
  clear hV
  go_region_held3 (fun W2 => Ext V W2 ∧ W2.cell? ⟨w4.heap.size, 0, none⟩ = some (.int .i64 fr) ∧ W2.cell? ⟨w4.heap.size, 1, none⟩ = some (.slice A1 al.length c1) ∧ W2.cell? ⟨w4.heap.size, 2, none⟩ = some (.slice A2 nms.length c2) ∧ W2.cell? ⟨w4.heap.size, 3, none⟩ = some (.int .i64 m.kind) ∧ W2.cell? ⟨w4.heap.size, 4, none⟩ = some (.int .i64 m.rel) ∧ W2.cell? ⟨w4.heap.size, 5, none⟩ = some (.int .i64 m.p.lv) ∧ W2.cell? ⟨w4.heap.size, 6, none⟩ = some (.bool m.p.neg) ∧ W2.cell? ⟨w4.heap.size, 7, none⟩ = some (.slice A0 n0 c0) ∧ W2.cell? ⟨w4.heap.size, 8, none⟩ = some (.slice B n1 c3) ∧ W2.cell? ⟨w4.heap.size, 9, none⟩ = some (.slice K n2 c4) ∧ W2.cell? ⟨w5.heap.size, 0, none⟩ = some (.int .i64 fr) ∧ W2.cell? ⟨w5.heap.size, 1, none⟩ = some (.slice S1 al.length d1) ∧ W2.cell? ⟨w5.heap.size, 2, none⟩ = some (.slice S2 nms.length d2) ∧ W2.cell? ⟨w5.heap.size, 3, none⟩ = some (.int .i64 m.not.kind) ∧ W2.cell? ⟨w5.heap.size, 4, none⟩ = some (.int .i64 m.not.rel) ∧ W2.cell? ⟨w5.heap.size, 5, none⟩ = some (.int .i64 m.not.p.lv) ∧ W2.cell? ⟨w5.heap.size, 6, none⟩ = some (.bool m.not.p.neg) ∧ W2.cell? ⟨w5.heap.size, 7, none⟩ = some (.slice P0 l0 h0) ∧ W2.cell? ⟨w5.heap.size, 8, none⟩ = some (.slice P l1 h1) ∧ W2.cell? ⟨w5.heap.size, 9, none⟩ = some (.slice R l2 h2))
    (first | with_reducible exact HSS.out _ Y0.out | with_reducible exact HSS.out _ z1 | with_reducible exact HSS.out _ z2 | with_reducible exact HSS.out _ z3 | with_reducible exact HSS.out _ z4)
    (first
      | (go_at_call 15
         (fail_if_success have _ := z1)
         refine (HN1.out _ Y0.out).mono ?_
         rintro e v1 ⟨nv1, rfl, r1, x1⟩
         have z1 : Ext V v1 := Ext.trans Y0.out x1)
      | (go_at_call 14
         (fail_if_success have _ := z2)
         refine (HE1.out _ z1 _ _ r1).mono ?_
         rintro e v2 ⟨rfl, x2⟩
         have z2 : Ext V v2 := Ext.trans z1 x2)
      | (go_at_call 15
         refine (HN2.out _ z2).mono ?_
         rintro e v3 ⟨nv3, rfl, r3, x3⟩
         have z3 : Ext V v3 := Ext.trans z2 x3)
      | (go_at_call 14
         refine (HE2.out _ z3 _ _ r3).mono ?_
         rintro e v4 ⟨rfl, x4⟩
         have z4 : Ext V v4 := Ext.trans z3 x4))
  all_goals
    have Z4 := Lib.hid z4
    clear z1 z2 z3 z4 x1 x2 x3 x4 r1 r3 HSS Y0 HN1 HN2 HE1 HE2
    go_wp2_with fail
    go_ret
    exact ⟨rfl, XV.out.trans Z4.out⟩
end Go.Proofs.YtkbpnppiadaibaaGreatDoor
