/- Layer 38: prenex.To. -/
import Derived.Test.YtbanhcaahabboaaGreatDoorBodyF
import Derived.Test.YtbanhcaahabboaaGreatDoorVPx
import Derived.Test.YtbanhcaahabboaaGreatDoorMv49
set_option linter.unusedSimpArgs false
set_option linter.unusedVariables false

namespace Go.Proofs.YtbanhcaahabboaaGreatDoor
open Go.RowKit

/-- A formula with the last j quantifiers. -/
def toF (fr : Nat) (all : List Bool) (nms : List ByteArray) (f : Fm) : Nat → Fm
  | 0 => f
  | j + 1 => .quant (all.getD (all.length - 1 - j) false) (nms.getD (fr + (all.length - 1 - j)) ByteArray.empty) (toF fr all nms f j)
theorem validPx_of {fr : Int} {all : List Bool} {nms : List ByteArray} {m : Mx} (h : validPx fr all nms m = true) (hfr : fr ≤ 9223372036854775807) (hal : all.length ≤ 1000000) : (∃ f0 : Nat, fr = f0 ∧ f0 + all.length = nms.length) ∧ m.lvl ≤ (nms.length : Int) ∧ nms.length ≤ 4 := by
  unfold validPx at h
  simp only [Bool.and_eq_true, decide_eq_true_eq] at h
  obtain ⟨hn, h0, hs, hl⟩ := h
  have h4 : nms.length ≤ 4 := by
    unfold namesB at hn
    exact (of_decide_eq_true hn).1
  rw [IntKind.wrap_i64] at hs
  refine ⟨⟨fr.toNat, by omega, ?_⟩, hl, h4⟩
  omega

/-- What prenex.To returns. -/
def RetTo (L : Nat) (fr : Int) (all : List Bool) (nms : List ByteArray) (m : Mx) (w : World) (e : Ending) (w' : World) : Prop :=
  (validPx fr all nms m = true ∧ ∃ v, e = .returned (.tuple #[v, .int .i64 0]) ∧ FmV w' L (toF fr.toNat all nms (m.bodyF nms) all.length) v ∧ Ext w w') ∨ (validPx fr all nms m = false ∧ e = .returned (.tuple #[.nilIface, .int .i64 9]) ∧ Ext w w')

set_option maxRecDepth 100000 in
set_option maxHeartbeats 4000000 in
theorem pto_any {L : Nat} (hL : 5 ≤ L) {w : World} {q : Nat → Prop} {fr : Int} {all : List Bool} {nms : List ByteArray} {m : Mx} {v : Value} (hbig : m.sz ≤ 1000000) (hsm : m.small) (hfr : fr ≤ 9223372036854775807) (hal : all.length ≤ 1000000) (h : PxV w q fr all nms m v) : Calls Tryz.prog 40 #[v] w (RetTo L fr all nms m w) := by
  have HPX := Lib.hid h
  obtain ⟨A1, c1, A2, c2, A0, n0, c0, B, n1, c3, K, n2, c4, rfl, hb1, hs1, hm1⟩ := h
  have HBO := Lib.hid hb1
  have HST := Lib.hid hs1
  have HT := Lib.hid hm1
  obtain ⟨A', c', e', l3, l4, -⟩ := id hs1
  injection e' with e1 e2 e3
  subst e1 e3
  obtain ⟨A', c', e', l5, l6, -⟩ := id hb1
  injection e' with e1 e2' e3
  subst e1 e3
  clear e2 e2' hs1 hb1 hm1
  unfold mxV at HT
  unfold pxC at HPX
  unfold pxC
  obtain ⟨W, hW⟩ : ∃ W, (w.alloc (.cells #[.int .i64 fr, .slice A1 all.length c1, .slice A2 nms.length c2, .int .i64 m.kind, .int .i64 m.rel, .int .i64 m.p.lv, .bool m.p.neg, .slice A0 n0 c0, .slice B n1 c3, .slice K n2 c4] 36)) = W := ⟨_, rfl⟩
  obtain ⟨hWx, hWs, a0, a1, a2, a3, a4, a5, a6, a7, a8, a9⟩ := box10 w _ _ _ _ _ _ _ _ _ _ _ W hW
  have HWX := Lib.hid hWx
  have HB : Hid (∀ wr, Ext W wr → wr.cell? ⟨w.heap.size, 0, none⟩ = some (.int .i64 fr) ∧ wr.cell? ⟨w.heap.size, 1, none⟩ = some (.slice A1 all.length c1) ∧ wr.cell? ⟨w.heap.size, 2, none⟩ = some (.slice A2 nms.length c2) ∧ wr.cell? ⟨w.heap.size, 3, none⟩ = some (.int .i64 m.kind) ∧ wr.cell? ⟨w.heap.size, 4, none⟩ = some (.int .i64 m.rel) ∧ wr.cell? ⟨w.heap.size, 5, none⟩ = some (.int .i64 m.p.lv) ∧ wr.cell? ⟨w.heap.size, 6, none⟩ = some (.bool m.p.neg) ∧ wr.cell? ⟨w.heap.size, 7, none⟩ = some (.slice A0 n0 c0) ∧ wr.cell? ⟨w.heap.size, 8, none⟩ = some (.slice B n1 c3) ∧ wr.cell? ⟨w.heap.size, 9, none⟩ = some (.slice K n2 c4)) := Lib.hid (by
    intro wr hxx
    have k : ∀ j, wr.cell? ⟨w.heap.size, j, none⟩ = W.cell? ⟨w.heap.size, j, none⟩ := fun j => hxx.cell (p := ⟨w.heap.size, j, none⟩) (by show w.heap.size < _; omega)
    exact ⟨(k 0).trans a0, (k 1).trans a1, (k 2).trans a2, (k 3).trans a3, (k 4).trans a4, (k 5).trans a5, (k 6).trans a6, (k 7).trans a7, (k 8).trans a8, (k 9).trans a9⟩)
  have HV := Lib.hid (vpx_any hbig hsm (HPX.out.ext hWx))
  clear hWx hWs
  go_enter Tryz.func40, Tryz.ntmps40
  go_wp2_with fail
  clear hW a0 a1 a2 a3 a4 a5 a6 a7 a8 a9
  refine HV.out.mono ?_
  rintro e w1 ⟨rfl, x1⟩
  have X1 := Lib.hid x1
  clear x1 HV
  by_cases hv : validPx fr all nms m = true
  case neg =>
    have hv' : validPx fr all nms m = false := by simpa using hv
    have HR : Hid (RetTo L fr all nms m w (.returned (.tuple #[.nilIface, .int .i64 9])) w1) := Lib.hid (.inr ⟨hv', rfl, HWX.out.trans X1.out⟩)
    rw [hv']
    clear hv hv'
    go_wp2_with fail
    exact bodyPost_ret (v := .tuple #[.nilIface, .int .i64 9]) (by simp [results, Tryz.results40, go_sem]) rfl HR.out
  have HVT := Lib.hid hv
  rw [hv]
  obtain ⟨⟨f0, rfl, hfn⟩, hlv, hn4⟩ := validPx_of hv hfr hal
  have HBD := Lib.hid (fun W' (hx : Ext W W') => body_any hL m _ _ W' hbig hsm hlv (HT.out.ext (HWX.out.trans hx)) (SlR.ext HST.out (fun _ _ h => h) (HWX.out.trans hx)))
  unfold mxV at HBD
  obtain ⟨a0, a1, a2, a3, a4, a5, a6, a7, a8, a9⟩ := HB.out w1 X1.out
  clear hv hlv hsm hfr
  go_wp2_with fail
  clear a0 a1 a2 a3 a4 a5 a6 a7 a8 a9
  refine (HBD.out _ X1.out).mono ?_
  rintro e w2 ⟨v2, rfl, f2, x2⟩
  obtain ⟨T2, u2, rfl⟩ := f2.iface
  have F2 := Lib.hid f2
  have X2 := Lib.hid (X1.out.trans x2)
  obtain ⟨a0, a1, a2, a3, a4, a5, a6, a7, a8, a9⟩ := HB.out w2 X2.out
  clear f2 x2 HBD
  go_wp2_with fail
  clear a0 a1 a2 a3 a4 a5 a6 a7 a8 a9
  go_loopw [4, 5] (fun u4 iv wr => ∃ k : Nat, k ≤ all.length ∧ iv = .int .i64 ((k : Int) - 1) ∧ Hid (FmV wr L (toF f0 all nms (m.bodyF nms) (all.length - k)) u4 ∧ Ext W wr)) (fun _ iv _ => (intOf iv + 1).toNat)
  case atStart => exact ⟨all.length, Nat.le_refl _, by first | rfl | go_num, Lib.hid ⟨by rw [Nat.sub_self]; exact F2.out, X2.out⟩⟩
  case round =>
    obtain ⟨k, hk, rfl, HG⟩ := hrel
    obtain ⟨T4, y4, rfl⟩ := FmV.iface HG.out.1
    cases k with
    | succ i =>
      have e1 : ((i + 1 : Nat) : Int) - 1 = (i : Int) := by omega
      rw [e1]
      have hi : i < all.length := by omega
      obtain ⟨r, hr⟩ : ∃ r, f0 + i = r := ⟨_, rfl⟩
      have hrn : r < nms.length := by omega
      have hwrap : IntKind.i64.wrap ((f0 : Int) + (i : Int)) = (r : Int) := by rw [IntKind.wrap_i64]; omega
      obtain ⟨ad, x, hA, hadb, hcx, hxx⟩ := slr_at HBO.out i hi
      obtain ⟨ad', x', hA', hadb', hcx', hxx'⟩ := slr_at HST.out r hrn
      subst hA hA' hxx hxx'
      have HN : Hid (∀ W', FmV W' L (toF f0 all nms (m.bodyF nms) (all.length - (i + 1))) (.iface T4 y4) → FmV W' L (toF f0 all nms (m.bodyF nms) (all.length - i)) (.iface 99 (.agg #[.bool all[i], .string nms[r], .iface T4 y4]))) := Lib.hid (fun W' hf => by
        rw [show all.length - i = (all.length - (i + 1)) + 1 by omega]
        simp only [toF]
        rw [show all.length - 1 - (all.length - (i + 1)) = i by omega, hr, List.getD_eq_getElem?_getD, List.getD_eq_getElem?_getD, List.getElem?_eq_getElem hi, List.getElem?_eq_getElem hrn]
        exact ⟨_, rfl, hf⟩)
      have HS4 : Hid (∀ W2, Ext wr W2 → (Ext wr W2 ∧ W2.cell? ⟨w.heap.size, 0, none⟩ = some (.int .i64 f0) ∧ W2.cell? ⟨w.heap.size, 1, none⟩ = some (.slice (some ad) all.length c1) ∧ W2.cell? ⟨w.heap.size, 2, none⟩ = some (.slice (some ad') nms.length c2) ∧ W2.cell? (ad.add i) = some (.bool all[i]) ∧ W2.cell? (ad'.add r) = some (.string nms[r]))) := Lib.hid (fun W2 hx2 => by
        have hx := HG.out.2.trans hx2
        obtain ⟨a0, a1, a2, -⟩ := HB.out W2 hx
        exact ⟨hx2, a0, a1, a2, ((HWX.out.trans hx).cell (p := ad.add i) (by rw [block_of_add]; exact hadb)).trans hcx, ((HWX.out.trans hx).cell (p := ad'.add r) (by rw [block_of_add]; exact hadb')).trans hcx'⟩)
      have hil : (i : Int) < (all.length : Int) := by omega
      have hrl : (r : Int) < (nms.length : Int) := by omega
      have HX := Lib.hid (HG.out.2.drew)
      have HGF := Lib.hid (FmV.ext (Ext.refl wr).drew HG.out.1)
      clear hcx hcx' hadb hadb' e1 hr
      generalize all[i] = b at *
      generalize nms[r] = s at *
      go_upto_region 7 with fail
      have hq := HS4.out _ ((Ext.refl wr).drew)
      go_region_held3 (fun W2 => Ext wr W2 ∧ W2.cell? ⟨w.heap.size, 0, none⟩ = some (.int .i64 f0) ∧ W2.cell? ⟨w.heap.size, 1, none⟩ = some (.slice (some ad) all.length c1) ∧ W2.cell? ⟨w.heap.size, 2, none⟩ = some (.slice (some ad') nms.length c2) ∧ W2.cell? (ad.add i) = some (.bool b) ∧ W2.cell? (ad'.add r) = some (.string s))
        (first | with_reducible exact hq)
        (fail)
      all_goals
        have HF := Lib.hid (HN.out _ HGF.out)
        clear hq HS4 HN HGF
        go_wp2_with fail
        go_roundw
        case rel => exact ⟨i, by omega, by first | rfl | go_num, Lib.hid ⟨HF.out, HX.out⟩⟩
        case measure => simp [intOf]
    | zero =>
      have e1 : ((0 : Nat) : Int) - 1 = -1 := by omega
      rw [e1]
      have HR : Hid (RetTo L (f0 : Int) all nms m w (.returned (.tuple #[.iface T4 y4, .int .i64 0])) wr) := Lib.hid (.inl ⟨HVT.out, _, rfl, HG.out.1, HWX.out.trans HG.out.2⟩)
      clear e1
      go_wp2_with fail
      exact bodyPost_ret (v := .tuple #[.iface T4 y4, .int .i64 0]) (by simp [results, Tryz.results40, go_sem]) rfl HR.out
end Go.Proofs.YtbanhcaahabboaaGreatDoor

/- Law 38: PrenexValid answers true. -/
namespace Go.Proofs.YtbanhcaahabboaaGreatDoor
open Go.RowKit

set_option maxRecDepth 100000 in
set_option maxHeartbeats 4000000 in
theorem lawValid_any {w : World} {q : Nat → Prop} {fr : Int} {all : List Bool} {nms : List ByteArray} {m : Mx} {v : Value} (h : PxV w q fr all nms m v) (hfr : fr ≤ 9223372036854775807) : Calls Tryz.prog 7 #[v] w (RetB true w) := by
  have HPX := Lib.hid h
  obtain ⟨A1, c1, A2, c2, A0, n0, c0, B, n1, c3, K, n2, c4, rfl, hb1, hs1, hm1⟩ := h
  clear hb1 hs1 hm1
  unfold pxC at HPX
  unfold pxC
  obtain ⟨W, hW⟩ : ∃ W, (w.alloc (.cells #[.int .i64 fr, .slice A1 all.length c1, .slice A2 nms.length c2, .int .i64 m.kind, .int .i64 m.rel, .int .i64 m.p.lv, .bool m.p.neg, .slice A0 n0 c0, .slice B n1 c3, .slice K n2 c4] 36)) = W := ⟨_, rfl⟩
  obtain ⟨hWx, hWs, a0, a1, a2, a3, a4, a5, a6, a7, a8, a9⟩ := box10 w _ _ _ _ _ _ _ _ _ _ _ W hW
  have HWX := Lib.hid hWx
  have HB : Hid (∀ wr, Ext W wr → wr.cell? ⟨w.heap.size, 0, none⟩ = some (.int .i64 fr) ∧ wr.cell? ⟨w.heap.size, 1, none⟩ = some (.slice A1 all.length c1) ∧ wr.cell? ⟨w.heap.size, 2, none⟩ = some (.slice A2 nms.length c2) ∧ wr.cell? ⟨w.heap.size, 3, none⟩ = some (.int .i64 m.kind) ∧ wr.cell? ⟨w.heap.size, 4, none⟩ = some (.int .i64 m.rel) ∧ wr.cell? ⟨w.heap.size, 5, none⟩ = some (.int .i64 m.p.lv) ∧ wr.cell? ⟨w.heap.size, 6, none⟩ = some (.bool m.p.neg) ∧ wr.cell? ⟨w.heap.size, 7, none⟩ = some (.slice A0 n0 c0) ∧ wr.cell? ⟨w.heap.size, 8, none⟩ = some (.slice B n1 c3) ∧ wr.cell? ⟨w.heap.size, 9, none⟩ = some (.slice K n2 c4)) := Lib.hid (by
    intro wr hxx
    have k : ∀ j, wr.cell? ⟨w.heap.size, j, none⟩ = W.cell? ⟨w.heap.size, j, none⟩ := fun j => hxx.cell (p := ⟨w.heap.size, j, none⟩) (by show w.heap.size < _; omega)
    exact ⟨(k 0).trans a0, (k 1).trans a1, (k 2).trans a2, (k 3).trans a3, (k 4).trans a4, (k 5).trans a5, (k 6).trans a6, (k 7).trans a7, (k 8).trans a8, (k 9).trans a9⟩)
  clear hWx hWs a0 a1 a2 a3 a4 a5 a6 a7 a8 a9
  go_enter Tryz.func7, Tryz.ntmps7
  go_wp2_with fail
  clear hW
  refine (awake38_any _).mono ?_
  rintro e w1 ⟨rfl, x1⟩
  have X1 := Lib.hid x1
  have HFE := Lib.hid (fewF_any 60 (by omega) (HPX.out.ext (HWX.out.trans x1)))
  obtain ⟨a0, a1, a2, a3, a4, a5, a6, a7, a8, a9⟩ := HB.out w1 x1
  clear x1
  go_wp2_with fail
  clear a0 a1 a2 a3 a4 a5 a6 a7 a8 a9
  refine HFE.out.mono ?_
  rintro e w2 ⟨rfl, x2⟩
  have X2 := Lib.hid (X1.out.trans x2)
  clear x2 HFE
  by_cases hf : fewF all nms m 60 = true
  case neg =>
    have hf' : fewF all nms m 60 = false := by simpa using hf
    rw [hf']
    clear hf hf'
    go_wp2_with fail
    refine (awake38_any _).mono ?_
    rintro e w3 ⟨rfl, x3⟩
    have X3 := Lib.hid ((HWX.out.trans X2.out).trans x3)
    clear x3
    go_wp2_with fail
    go_ret
    exact ⟨rfl, X3.out⟩
  rw [hf]
  have hff : (nms.length ≤ 8 ∧ all.length ≤ 8) ∧ m.few 60 = true := by
    unfold fewF at hf
    simp only [Bool.and_eq_true, decide_eq_true_eq] at hf
    exact ⟨⟨hf.1.1, hf.2.1⟩, hf.2.2⟩
  obtain ⟨⟨hnl, hal⟩, hfm⟩ := hff
  obtain ⟨hsz, hsm⟩ := Mx.few_le hfm
  have HTO := Lib.hid (pto_any (L := 5) (by omega) (by omega) hsm hfr (by omega) (HPX.out.ext (HWX.out.trans X2.out)))
  have HRV := Lib.hid (fun W' (hx : Ext W W') => rvpx_any (by omega) hsm (HPX.out.ext (HWX.out.trans hx)))
  have HPV := Lib.hid (fun W' (hx : Ext W W') => vpx_any (by omega) hsm (HPX.out.ext (HWX.out.trans hx)))
  obtain ⟨a0, a1, a2, a3, a4, a5, a6, a7, a8, a9⟩ := HB.out w2 X2.out
  clear hf hfm hsm hfr
  go_wp2_with fail
  clear a0 a1 a2 a3 a4 a5 a6 a7 a8 a9
  refine HTO.out.mono ?_
  rintro e w3 (⟨hv, fv, rfl, hf, x3⟩ | ⟨hv, rfl, x3⟩)
  case' inl =>
    obtain ⟨FT, fx, rfl⟩ := hf.iface
    clear hf
  all_goals
    rw [hv] at HRV HPV
    have X3 := Lib.hid (X2.out.trans x3)
    obtain ⟨a0, a1, a2, a3, a4, a5, a6, a7, a8, a9⟩ := HB.out w3 X3.out
    clear hv x3 HTO
    go_wp2_with fail
    clear a0 a1 a2 a3 a4 a5 a6 a7 a8 a9
    refine (HRV.out _ X3.out).mono ?_
    rintro e w4 ⟨rfl, x4⟩
    have X4 := Lib.hid (X3.out.trans x4)
    obtain ⟨a0, a1, a2, a3, a4, a5, a6, a7, a8, a9⟩ := HB.out w4 X4.out
    clear x4 HRV
    go_wp2_with fail
    clear a0 a1 a2 a3 a4 a5 a6 a7 a8 a9
    refine (HPV.out _ X4.out).mono ?_
    rintro e w5 ⟨rfl, x5⟩
    have XF := Lib.hid (HWX.out.trans (X4.out.trans x5))
    clear x5 HPV
    go_wp2_with fail
    go_ret
    exact ⟨rfl, XF.out⟩
end Go.Proofs.YtbanhcaahabboaaGreatDoor
