/- Law 38: PrenexNot answers true. -/
import Derived.Test.YtbanhcaahabboaaGreatDoorMn46
import Derived.Test.YtbanhcaahabboaaGreatDoorRNot
import Derived.Test.YtbanhcaahabboaaGreatDoorMn31
import Derived.Test.YtbanhcaahabboaaGreatDoorMn49
import Derived.Test.YtbanhcaahabboaaGreatDoorMn43
import Derived.Test.YtbanhcaahabboaaGreatDoorMn0
import Derived.WalkKit
import Derived.ProofKit
import Derived.OpenShut
import Derived.Below
import Derived.ChangeSame
set_option linter.unusedSimpArgs false
set_option linter.unusedVariables false

namespace Go.Proofs.YtbanhcaahabboaaGreatDoor
open Go.RowKit

theorem slr_elem {α : Type} {P : α → Value → Prop} {w : World} {A : Option Addr} {n c : Nat} {l : List α} (h : SlR (fun _ => P) w (.slice A n c) l) (k : Nat) (hk : k < l.length) : ∃ ad x, A = some ad ∧ ad.block < w.heap.size ∧ w.cell? (ad.add k) = some x ∧ P l[k] x := by
  obtain ⟨A', c', e, -, -, h3⟩ := h
  injection e with e1
  obtain ⟨ad, x, e4, hb, a0, hp⟩ := h3 k hk
  exact ⟨ad, x, e1.trans e4, hb, a0, hp⟩

set_option maxRecDepth 100000 in
set_option maxHeartbeats 8000000 in
theorem lawNot_any {w : World} {q : Nat → Prop} {fr : Int} {all : List Bool} {nms : List ByteArray} {m : Mx} {v : Value} (h : PxV w q fr all nms m v) : Calls Tryz.prog 3 #[v] w (RetB true w) := by
  have HPX := Lib.hid h
  obtain ⟨A1, c1, A2, c2, A0, n0, c0, B, n1, c3, K, n2, c4, rfl, hb1, hs1, hm1⟩ := h
  have HBO := Lib.hid hb1
  have HST := Lib.hid hs1
  have HT := Lib.hid hm1
  obtain ⟨A', c', e', l3, l4, -⟩ := id hs1
  injection e' with e1 e2 e3
  subst e1 e3
  obtain ⟨A', c', e', l5, l6, -⟩ := id hb1
  injection e' with e1 e2' e3
  subst e1 e3
  clear e2 e2' hs1 hb1 hm1
  unfold mxV at HT
  unfold pxC at HPX
  unfold pxC
  obtain ⟨W, hW⟩ : ∃ W, (w.alloc (.cells #[.int .i64 fr, .slice A1 all.length c1, .slice A2 nms.length c2, .int .i64 m.kind, .int .i64 m.rel, .int .i64 m.p.lv, .bool m.p.neg, .slice A0 n0 c0, .slice B n1 c3, .slice K n2 c4] 36)) = W := ⟨_, rfl⟩
  obtain ⟨hWx, hWs, a0, a1, a2, a3, a4, a5, a6, a7, a8, a9⟩ := box10 w _ _ _ _ _ _ _ _ _ _ _ W hW
  have HWX := Lib.hid hWx
  have HWS := Lib.hid hWs
  have HB : Hid (∀ wr, Ext W wr → wr.cell? ⟨w.heap.size, 0, none⟩ = some (.int .i64 fr) ∧ wr.cell? ⟨w.heap.size, 1, none⟩ = some (.slice A1 all.length c1) ∧ wr.cell? ⟨w.heap.size, 2, none⟩ = some (.slice A2 nms.length c2) ∧ wr.cell? ⟨w.heap.size, 3, none⟩ = some (.int .i64 m.kind) ∧ wr.cell? ⟨w.heap.size, 4, none⟩ = some (.int .i64 m.rel) ∧ wr.cell? ⟨w.heap.size, 5, none⟩ = some (.int .i64 m.p.lv) ∧ wr.cell? ⟨w.heap.size, 6, none⟩ = some (.bool m.p.neg) ∧ wr.cell? ⟨w.heap.size, 7, none⟩ = some (.slice A0 n0 c0) ∧ wr.cell? ⟨w.heap.size, 8, none⟩ = some (.slice B n1 c3) ∧ wr.cell? ⟨w.heap.size, 9, none⟩ = some (.slice K n2 c4)) := Lib.hid (by
    intro wr hxx
    have k : ∀ j, wr.cell? ⟨w.heap.size, j, none⟩ = W.cell? ⟨w.heap.size, j, none⟩ := fun j => hxx.cell (p := ⟨w.heap.size, j, none⟩) (by show w.heap.size < _; omega)
    exact ⟨(k 0).trans a0, (k 1).trans a1, (k 2).trans a2, (k 3).trans a3, (k 4).trans a4, (k 5).trans a5, (k 6).trans a6, (k 7).trans a7, (k 8).trans a8, (k 9).trans a9⟩)
  clear hWx hWs a0 a1 a2 a3 a4 a5 a6 a7 a8 a9
  go_enter Tryz.func3, Tryz.ntmps3
  go_wp2_with fail
  clear hW
  refine (awake38_any _).mono ?_
  rintro e w1 ⟨rfl, x1⟩
  have X1 := Lib.hid x1
  have HFE := Lib.hid (fewF_any 80 (by omega) (HPX.out.ext (HWX.out.trans x1)))
  obtain ⟨a0, a1, a2, a3, a4, a5, a6, a7, a8, a9⟩ := HB.out w1 x1
  clear x1
  go_wp2_with fail
  clear a0 a1 a2 a3 a4 a5 a6 a7 a8 a9
  refine HFE.out.mono ?_
  rintro e w2 ⟨rfl, x2⟩
  have X2 := Lib.hid (X1.out.trans x2)
  clear x2 HFE
  by_cases hf : fewF all nms m 80 = true
  case neg =>
    have hf' : fewF all nms m 80 = false := by simpa using hf
    rw [hf']
    clear hf hf'
    go_wp2_with fail
    refine (awake38_any _).mono ?_
    rintro e w3 ⟨rfl, x3⟩
    have X3 := Lib.hid ((HWX.out.trans X2.out).trans x3)
    clear x3
    go_wp2_with fail
    go_ret
    exact ⟨rfl, X3.out⟩
  rw [hf]
  have hff : (nms.length ≤ 8 ∧ all.length ≤ 8) ∧ m.few 80 = true := by
    unfold fewF at hf
    simp only [Bool.and_eq_true, decide_eq_true_eq] at hf
    exact ⟨⟨hf.1.1, hf.2.1⟩, hf.2.2⟩
  obtain ⟨⟨hnl, hal⟩, hfm⟩ := hff
  obtain ⟨hsz, hsm⟩ := Mx.few_le hfm
  have hdig := HPX.out
  obtain ⟨_, _, _, _, _, _, _, _, _, _, _, _, _, -, -, -, hmm⟩ := hdig
  have hdig := hmm.dig
  have hnsz := m.nrm_sz
  have hosz := m.not_sz
  have HSM := Lib.hid hsm
  have HNS : Hid (m.nrm.each (fun p => p.sz ≤ 1099511627776)) := Lib.hid (Mx.each_mono (fun p hp => by have := hp.1; omega) _ (Mx.nrm_bigN hsm hdig))
  have HOB : Hid (m.not.each BigN) := Lib.hid (Mx.not_bigN hsm hdig)
  have HOS : Hid (m.not.each (fun p => p.sz ≤ 1099511627776)) := Lib.hid (Mx.each_mono (fun p hp => by have := hp.1; omega) _ HOB.out)
  have HNM := Lib.hid (mnorm_any m _ w2 (by omega) hsm (HT.out.ext (HWX.out.trans X2.out)))
  obtain ⟨a0, a1, a2, a3, a4, a5, a6, a7, a8, a9⟩ := HB.out w2 X2.out
  clear hf hfm hdig hmm hsm
  go_wp2_with fail
  clear a0 a1 a2 a3 a4 a5 a6 a7 a8 a9
  -- the normal matrix
  refine HNM.out.mono ?_
  rintro e w4 ⟨nv, rfl, hnv, x4⟩
  have HN0 := Lib.hid hnv
  obtain ⟨E0, i0, f0, E, i1, f1, J, f, rfl, -⟩ := hnv.open_
  obtain ⟨V3, hV3⟩ : ∃ V3, (w4.alloc (.cells #[.int .i64 m.nrm.kind, .int .i64 m.nrm.rel, .int .i64 m.nrm.p.lv, .bool m.nrm.p.neg, .slice E0 i0 f0, .slice E i1 f1, .slice J m.nrm.ks.length f] 34)) = V3 := ⟨_, rfl⟩
  have hVx : Ext w4 V3 := by rw [← hV3]; exact (Ext.refl _).alloc _
  have hVs : w4.heap.size < V3.heap.size := by rw [← hV3]; simp
  have hb3 : Box7 V3 w4.heap.size m.nrm (.slice E0 i0 f0) (.slice E i1 f1) (.slice J m.nrm.ks.length f) := by rw [← hV3]; exact Box7.new w4 m.nrm _ _ _ _
  have HB3 := Lib.hid hb3
  have HVS3 := Lib.hid hVs
  have X3 := Lib.hid (X2.out.trans (x4.trans hVx))
  have HNV := Lib.hid (HN0.out.ext hVx)
  have HPN0 := Lib.hid (pnot_any m _ V3 (by omega) HSM.out (HT.out.ext (HWX.out.trans X3.out)))
  obtain ⟨a0, a1, a2, a3, a4, a5, a6, a7, a8, a9⟩ := HB.out V3 X3.out
  clear hnv x4 hVx hVs hb3 HNM HN0
  unfold mxV
  go_wp2_with fail
  clear hV3 a0 a1 a2 a3 a4 a5 a6 a7 a8 a9
  -- the negation
  refine HPN0.out.mono ?_
  rintro e w5 ⟨ov, rfl, hov, x5⟩
  have HO0 := Lib.hid hov
  obtain ⟨F0, k0, g0, F, k1, g1, L, g, rfl, -⟩ := hov.open_
  obtain ⟨V4, hV4⟩ : ∃ V4, (w5.alloc (.cells #[.int .i64 m.not.kind, .int .i64 m.not.rel, .int .i64 m.not.p.lv, .bool m.not.p.neg, .slice F0 k0 g0, .slice F k1 g1, .slice L m.not.ks.length g] 34)) = V4 := ⟨_, rfl⟩
  have hVx : Ext w5 V4 := by rw [← hV4]; exact (Ext.refl _).alloc _
  have hVs : w5.heap.size < V4.heap.size := by rw [← hV4]; simp
  have hb4 : Box7 V4 w5.heap.size m.not (.slice F0 k0 g0) (.slice F k1 g1) (.slice L m.not.ks.length g) := by rw [← hV4]; exact Box7.new w5 m.not _ _ _ _
  have HB4 := Lib.hid hb4
  have HVS4 := Lib.hid hVs
  have Y4 := Lib.hid (x5.trans hVx)
  have X4 := Lib.hid (X3.out.trans Y4.out)
  have HOV := Lib.hid (HO0.out.ext hVx)
  have HNG := Lib.hid (negate_any (by omega) HSM.out hal hnl (HPX.out.ext (HWX.out.trans X4.out)))
  obtain ⟨a0, a1, a2, a3, a4, a5, a6, a7, a8, a9⟩ := HB.out V4 X4.out
  clear hov x5 hVx hVs hb4 HPN0 HO0
  unfold mxV
  go_wp2_with fail
  clear hV4 a0 a1 a2 a3 a4 a5 a6 a7 a8 a9
  -- the negated form
  refine HNG.out.mono ?_
  rintro e w6 ⟨qv, rfl, hqv, x6⟩
  obtain ⟨S1, d1, S2, d2, P0, l0, h0, P, l1, h1, R, l2, h2, rfl, hqb, hqs, hqm⟩ := hqv
  rw [List.length_map] at hqb
  rw [List.length_map]
  obtain ⟨V, hV⟩ : ∃ V, (w6.alloc (.cells #[.int .i64 fr, .slice S1 all.length d1, .slice S2 nms.length d2, .int .i64 m.not.kind, .int .i64 m.not.rel, .int .i64 m.not.p.lv, .bool m.not.p.neg, .slice P0 l0 h0, .slice P l1 h1, .slice R l2 h2] 36)) = V := ⟨_, rfl⟩
  obtain ⟨hVx, hVs, a0, a1, a2, a3, a4, a5, a6, a7, a8, a9⟩ := box10 w6 _ _ _ _ _ _ _ _ _ _ _ V hV
  have HB5 : Hid (∀ wr, Ext V wr → wr.cell? ⟨w6.heap.size, 0, none⟩ = some (.int .i64 fr) ∧ wr.cell? ⟨w6.heap.size, 1, none⟩ = some (.slice S1 all.length d1) ∧ wr.cell? ⟨w6.heap.size, 2, none⟩ = some (.slice S2 nms.length d2) ∧ wr.cell? ⟨w6.heap.size, 3, none⟩ = some (.int .i64 m.not.kind) ∧ wr.cell? ⟨w6.heap.size, 4, none⟩ = some (.int .i64 m.not.rel) ∧ wr.cell? ⟨w6.heap.size, 5, none⟩ = some (.int .i64 m.not.p.lv) ∧ wr.cell? ⟨w6.heap.size, 6, none⟩ = some (.bool m.not.p.neg) ∧ wr.cell? ⟨w6.heap.size, 7, none⟩ = some (.slice P0 l0 h0) ∧ wr.cell? ⟨w6.heap.size, 8, none⟩ = some (.slice P l1 h1) ∧ wr.cell? ⟨w6.heap.size, 9, none⟩ = some (.slice R l2 h2)) := Lib.hid (by
    intro wr hxx
    have k : ∀ j, wr.cell? ⟨w6.heap.size, j, none⟩ = V.cell? ⟨w6.heap.size, j, none⟩ := fun j => hxx.cell (p := ⟨w6.heap.size, j, none⟩) (by show w6.heap.size < _; omega)
    exact ⟨(k 0).trans a0, (k 1).trans a1, (k 2).trans a2, (k 3).trans a3, (k 4).trans a4, (k 5).trans a5, (k 6).trans a6, (k 7).trans a7, (k 8).trans a8, (k 9).trans a9⟩)
  have Y5 := Lib.hid (x6.trans hVx)
  have X5 := Lib.hid (X4.out.trans Y5.out)
  have HQB := Lib.hid (hqb.ext hVx)
  have HQS := Lib.hid (hqs.ext hVx)
  have HQM := Lib.hid (hqm.ext hVx)
  have HNV5 := Lib.hid (HNV.out.ext (Y4.out.trans Y5.out))
  have HOV5 := Lib.hid (HOV.out.ext Y5.out)
  unfold mxV at HQM HNV5 HOV5
  have HSS : Hid (∀ W2, Ext V W2 → (Ext V W2 ∧ (W2.cell? ⟨w4.heap.size, 0, none⟩ = some (.int .i64 m.nrm.kind) ∧ W2.cell? ⟨w4.heap.size, 1, none⟩ = some (.int .i64 m.nrm.rel) ∧ W2.cell? ⟨w4.heap.size, 2, none⟩ = some (.int .i64 m.nrm.p.lv) ∧ W2.cell? ⟨w4.heap.size, 3, none⟩ = some (.bool m.nrm.p.neg) ∧ W2.cell? ⟨w4.heap.size, 4, none⟩ = some (.slice E0 i0 f0) ∧ W2.cell? ⟨w4.heap.size, 5, none⟩ = some (.slice E i1 f1) ∧ W2.cell? ⟨w4.heap.size, 6, none⟩ = some (.slice J m.nrm.ks.length f)) ∧ (W2.cell? ⟨w5.heap.size, 0, none⟩ = some (.int .i64 m.not.kind) ∧ W2.cell? ⟨w5.heap.size, 1, none⟩ = some (.int .i64 m.not.rel) ∧ W2.cell? ⟨w5.heap.size, 2, none⟩ = some (.int .i64 m.not.p.lv) ∧ W2.cell? ⟨w5.heap.size, 3, none⟩ = some (.bool m.not.p.neg) ∧ W2.cell? ⟨w5.heap.size, 4, none⟩ = some (.slice F0 k0 g0) ∧ W2.cell? ⟨w5.heap.size, 5, none⟩ = some (.slice F k1 g1) ∧ W2.cell? ⟨w5.heap.size, 6, none⟩ = some (.slice L m.not.ks.length g)) ∧ W2.cell? ⟨w6.heap.size, 3, none⟩ = some (.int .i64 m.not.kind) ∧ W2.cell? ⟨w6.heap.size, 4, none⟩ = some (.int .i64 m.not.rel) ∧ W2.cell? ⟨w6.heap.size, 5, none⟩ = some (.int .i64 m.not.p.lv) ∧ W2.cell? ⟨w6.heap.size, 6, none⟩ = some (.bool m.not.p.neg) ∧ W2.cell? ⟨w6.heap.size, 7, none⟩ = some (.slice P0 l0 h0) ∧ W2.cell? ⟨w6.heap.size, 8, none⟩ = some (.slice P l1 h1) ∧ W2.cell? ⟨w6.heap.size, 9, none⟩ = some (.slice R l2 h2))) := by
    have : ∀ W2, Ext V W2 → (Ext V W2 ∧ (W2.cell? ⟨w4.heap.size, 0, none⟩ = some (.int .i64 m.nrm.kind) ∧ W2.cell? ⟨w4.heap.size, 1, none⟩ = some (.int .i64 m.nrm.rel) ∧ W2.cell? ⟨w4.heap.size, 2, none⟩ = some (.int .i64 m.nrm.p.lv) ∧ W2.cell? ⟨w4.heap.size, 3, none⟩ = some (.bool m.nrm.p.neg) ∧ W2.cell? ⟨w4.heap.size, 4, none⟩ = some (.slice E0 i0 f0) ∧ W2.cell? ⟨w4.heap.size, 5, none⟩ = some (.slice E i1 f1) ∧ W2.cell? ⟨w4.heap.size, 6, none⟩ = some (.slice J m.nrm.ks.length f)) ∧ (W2.cell? ⟨w5.heap.size, 0, none⟩ = some (.int .i64 m.not.kind) ∧ W2.cell? ⟨w5.heap.size, 1, none⟩ = some (.int .i64 m.not.rel) ∧ W2.cell? ⟨w5.heap.size, 2, none⟩ = some (.int .i64 m.not.p.lv) ∧ W2.cell? ⟨w5.heap.size, 3, none⟩ = some (.bool m.not.p.neg) ∧ W2.cell? ⟨w5.heap.size, 4, none⟩ = some (.slice F0 k0 g0) ∧ W2.cell? ⟨w5.heap.size, 5, none⟩ = some (.slice F k1 g1) ∧ W2.cell? ⟨w5.heap.size, 6, none⟩ = some (.slice L m.not.ks.length g)) ∧ W2.cell? ⟨w6.heap.size, 3, none⟩ = some (.int .i64 m.not.kind) ∧ W2.cell? ⟨w6.heap.size, 4, none⟩ = some (.int .i64 m.not.rel) ∧ W2.cell? ⟨w6.heap.size, 5, none⟩ = some (.int .i64 m.not.p.lv) ∧ W2.cell? ⟨w6.heap.size, 6, none⟩ = some (.bool m.not.p.neg) ∧ W2.cell? ⟨w6.heap.size, 7, none⟩ = some (.slice P0 l0 h0) ∧ W2.cell? ⟨w6.heap.size, 8, none⟩ = some (.slice P l1 h1) ∧ W2.cell? ⟨w6.heap.size, 9, none⟩ = some (.slice R l2 h2)) := fun W2 hx2 => by
      obtain ⟨b0, b1, b2, b3, b4, b5, b6⟩ := HB3.out.ext ((Y4.out.trans Y5.out).trans hx2) HVS3.out
      obtain ⟨e0, e1, e2, e3, e4, e5, e6⟩ := HB4.out.ext (Y5.out.trans hx2) HVS4.out
      obtain ⟨-, -, -, u3, u4, u5, u6, u7, u8, u9⟩ := HB5.out W2 hx2
      exact ⟨hx2, ⟨b0, b1, b2, b3, b4, b5, b6⟩, ⟨e0, e1, e2, e3, e4, e5, e6⟩, u3, u4, u5, u6, u7, u8, u9⟩
    exact this
  have HRN : Hid (∀ W', Ext V W' → Calls Tryz.prog 18 #[.agg #[.int .i64 m.nrm.kind, .int .i64 m.nrm.rel, .int .i64 m.nrm.p.lv, .bool m.nrm.p.neg, .slice E0 i0 f0, .slice E i1 f1, .slice J m.nrm.ks.length f]] W' (RetMx (fun _ => True) m.not W')) := Lib.hid (fun W' hx => by
    have h1 := rnot_any m.nrm _ W' (by omega) (HNV5.out.ext hx)
    rw [m.rnot_nrm] at h1
    exact h1)
  have HE1 : Hid (∀ W', Ext V W' → ∀ q v'', MxV W' q m.not v'' → Calls Tryz.prog 17 #[.agg #[.int .i64 m.not.kind, .int .i64 m.not.rel, .int .i64 m.not.p.lv, .bool m.not.p.neg, .slice F0 k0 g0, .slice F k1 g1, .slice L m.not.ks.length g], v''] W' (RetB true W')) := Lib.hid (fun W' hx q v'' hv => by
    have h1 := meq_any m.not m.not _ v'' (by omega) HOS.out (HOV5.out.ext hx) hv
    rw [eqB_eq rfl] at h1
    exact h1)
  have HPN : Hid (∀ W', Ext V W' → Calls Tryz.prog 15 #[.agg #[.int .i64 m.not.kind, .int .i64 m.not.rel, .int .i64 m.not.p.lv, .bool m.not.p.neg, .slice F0 k0 g0, .slice F k1 g1, .slice L m.not.ks.length g]] W' (RetMx (fun b => W'.heap.size ≤ b) m.nrm W')) := Lib.hid (fun W' hx => by
    have h1 := pnot_big m.not _ W' (by omega) HOB.out (HOV5.out.ext hx)
    rw [m.not_not] at h1
    exact h1)
  have HE2 : Hid (∀ W', Ext V W' → ∀ q v'', MxV W' q m.nrm v'' → Calls Tryz.prog 17 #[v'', .agg #[.int .i64 m.nrm.kind, .int .i64 m.nrm.rel, .int .i64 m.nrm.p.lv, .bool m.nrm.p.neg, .slice E0 i0 f0, .slice E i1 f1, .slice J m.nrm.ks.length f]] W' (RetB true W')) := Lib.hid (fun W' hx q v'' hv => by
    have h1 := meq_any m.nrm m.nrm v'' _ (by omega) HNS.out hv (HNV5.out.ext hx)
    rw [eqB_eq rfl] at h1
    exact h1)
  have HE3 : Hid (∀ W', Ext V W' → Calls Tryz.prog 17 #[.agg #[.int .i64 m.not.kind, .int .i64 m.not.rel, .int .i64 m.not.p.lv, .bool m.not.p.neg, .slice P0 l0 h0, .slice P l1 h1, .slice R l2 h2], .agg #[.int .i64 m.not.kind, .int .i64 m.not.rel, .int .i64 m.not.p.lv, .bool m.not.p.neg, .slice F0 k0 g0, .slice F k1 g1, .slice L m.not.ks.length g]] W' (RetB true W')) := Lib.hid (fun W' hx => by
    have h1 := meq_any m.not m.not _ _ (by omega) HOS.out (HQM.out.ext hx) (HOV5.out.ext hx)
    rw [eqB_eq rfl] at h1
    exact h1)
  have HB1 : Hid (∀ wr, Ext V wr → wr.cell? ⟨w.heap.size, 0, none⟩ = some (.int .i64 fr) ∧ wr.cell? ⟨w.heap.size, 1, none⟩ = some (.slice A1 all.length c1) ∧ wr.cell? ⟨w.heap.size, 2, none⟩ = some (.slice A2 nms.length c2) ∧ wr.cell? ⟨w.heap.size, 3, none⟩ = some (.int .i64 m.kind) ∧ wr.cell? ⟨w.heap.size, 4, none⟩ = some (.int .i64 m.rel) ∧ wr.cell? ⟨w.heap.size, 5, none⟩ = some (.int .i64 m.p.lv) ∧ wr.cell? ⟨w.heap.size, 6, none⟩ = some (.bool m.p.neg) ∧ wr.cell? ⟨w.heap.size, 7, none⟩ = some (.slice A0 n0 c0) ∧ wr.cell? ⟨w.heap.size, 8, none⟩ = some (.slice B n1 c3) ∧ wr.cell? ⟨w.heap.size, 9, none⟩ = some (.slice K n2 c4)) := Lib.hid (fun wr hx => HB.out wr (X5.out.trans hx))
  have HBO5 : Hid (Bools V (.slice A1 all.length c1) all) := Lib.hid (HBO.out.ext (HWX.out.trans X5.out))
  have HST5 : Hid (Strs V (.slice A2 nms.length c2) nms) := Lib.hid (HST.out.ext (HWX.out.trans X5.out))
  have HXV : Hid (Ext w V) := Lib.hid (HWX.out.trans X5.out)
  have y0 : Ext V V.drew := (Ext.refl V).drew
  have Y0 := Lib.hid y0
  clear y0 hqb hqs hqm x6 hVx hVs HNG HNV HOV HQM HNV5 HOV5 HSM HNS HOB HOS HPX HBO HST HT HWX HWS HB HB3 HB4 HVS3 HVS4 Y4 Y5 X1 X2 X3 X4 X5 a0 a1 a2 a3 a4 a5 a6 a7 a8 a9
  unfold pxC
  go_wp2_with fail
  clear hV
  go_region_held3 (fun W2 => Ext V W2 ∧ (W2.cell? ⟨w4.heap.size, 0, none⟩ = some (.int .i64 m.nrm.kind) ∧ W2.cell? ⟨w4.heap.size, 1, none⟩ = some (.int .i64 m.nrm.rel) ∧ W2.cell? ⟨w4.heap.size, 2, none⟩ = some (.int .i64 m.nrm.p.lv) ∧ W2.cell? ⟨w4.heap.size, 3, none⟩ = some (.bool m.nrm.p.neg) ∧ W2.cell? ⟨w4.heap.size, 4, none⟩ = some (.slice E0 i0 f0) ∧ W2.cell? ⟨w4.heap.size, 5, none⟩ = some (.slice E i1 f1) ∧ W2.cell? ⟨w4.heap.size, 6, none⟩ = some (.slice J m.nrm.ks.length f)) ∧ (W2.cell? ⟨w5.heap.size, 0, none⟩ = some (.int .i64 m.not.kind) ∧ W2.cell? ⟨w5.heap.size, 1, none⟩ = some (.int .i64 m.not.rel) ∧ W2.cell? ⟨w5.heap.size, 2, none⟩ = some (.int .i64 m.not.p.lv) ∧ W2.cell? ⟨w5.heap.size, 3, none⟩ = some (.bool m.not.p.neg) ∧ W2.cell? ⟨w5.heap.size, 4, none⟩ = some (.slice F0 k0 g0) ∧ W2.cell? ⟨w5.heap.size, 5, none⟩ = some (.slice F k1 g1) ∧ W2.cell? ⟨w5.heap.size, 6, none⟩ = some (.slice L m.not.ks.length g)) ∧ W2.cell? ⟨w6.heap.size, 3, none⟩ = some (.int .i64 m.not.kind) ∧ W2.cell? ⟨w6.heap.size, 4, none⟩ = some (.int .i64 m.not.rel) ∧ W2.cell? ⟨w6.heap.size, 5, none⟩ = some (.int .i64 m.not.p.lv) ∧ W2.cell? ⟨w6.heap.size, 6, none⟩ = some (.bool m.not.p.neg) ∧ W2.cell? ⟨w6.heap.size, 7, none⟩ = some (.slice P0 l0 h0) ∧ W2.cell? ⟨w6.heap.size, 8, none⟩ = some (.slice P l1 h1) ∧ W2.cell? ⟨w6.heap.size, 9, none⟩ = some (.slice R l2 h2))
    (first | with_reducible exact HSS.out _ Y0.out | with_reducible exact HSS.out _ z1 | with_reducible exact HSS.out _ z2 | with_reducible exact HSS.out _ z3 | with_reducible exact HSS.out _ z4 | with_reducible exact HSS.out _ z5)
    (first
      | (go_at_call 18
         refine (HRN.out _ Y0.out).mono ?_
         rintro e v1 ⟨rv, rfl, r1, x1⟩
         obtain ⟨G0, o0, p0, G, o1, p1, GL, p2, rfl, -⟩ := id r1.open_
         have z1 : Ext V v1 := Ext.trans Y0.out x1
         unfold mxV)
      | (go_at_call 17
         (fail_if_success have _ := z2)
         refine (HE1.out _ z1 _ _ r1).mono ?_
         rintro e v2 ⟨rfl, x2⟩
         have z2 : Ext V v2 := Ext.trans z1 x2)
      | (go_at_call 15
         refine (HPN.out _ z2).mono ?_
         rintro e v3 ⟨sv, rfl, r3, x3⟩
         obtain ⟨H0, o0, p0, H, o1, p1, HL, p2, rfl, -⟩ := id r3.open_
         have z3 : Ext V v3 := Ext.trans z2 x3
         unfold mxV)
      | (go_at_call 17
         (fail_if_success have _ := z4)
         refine (HE2.out _ z3 _ _ r3).mono ?_
         rintro e v4 ⟨rfl, x4⟩
         have z4 : Ext V v4 := Ext.trans z3 x4)
      | (go_at_call 17
         refine (HE3.out _ z4).mono ?_
         rintro e v5 ⟨rfl, x5⟩
         have z5 : Ext V v5 := Ext.trans z4 x5))
  all_goals
    have Z5 := Lib.hid z5
    obtain ⟨a0, a1, a2, -⟩ := HB1.out _ z5
    obtain ⟨u0, u1, u2, -⟩ := HB5.out _ z5
    clear z1 z2 z3 z4 z5 x1 x2 x3 x4 x5 r1 r3 HSS Y0 HRN HE1 HPN HE2 HE3
    go_wp2_with fail
    clear a0 a1 a2 u0 u1 u2
    go_loopw [69] (fun iv wr => ∃ k : Nat, k ≤ all.length ∧ iv = .int .i64 k ∧ Hid (Ext V wr)) (fun iv _ => all.length - (intOf iv).toNat)
    case atStart => exact ⟨0, Nat.zero_le _, rfl, Z5⟩
    case round =>
      obtain ⟨k, hk, rfl, HX⟩ := hrel
      by_cases hlt : k < all.length
      · obtain ⟨ad, x, hA, hadb, hcx, hxx⟩ := slr_elem HBO5.out k hlt
        obtain ⟨ad', x', hA', hadb', hcx', hxx'⟩ := slr_elem HQB.out k (by rw [List.length_map]; exact hlt)
        rw [List.getElem_map] at hxx'
        subst hA hA' hxx hxx'
        have HS4 : Hid (∀ W2, Ext wr W2 → (Ext wr W2 ∧ W2.cell? ⟨w.heap.size, 1, none⟩ = some (.slice (some ad) all.length c1) ∧ W2.cell? ⟨w6.heap.size, 1, none⟩ = some (.slice (some ad') all.length d1) ∧ W2.cell? (ad.add k) = some (.bool all[k]) ∧ W2.cell? (ad'.add k) = some (.bool (!all[k])))) := by
          have : ∀ W2, Ext wr W2 → (Ext wr W2 ∧ W2.cell? ⟨w.heap.size, 1, none⟩ = some (.slice (some ad) all.length c1) ∧ W2.cell? ⟨w6.heap.size, 1, none⟩ = some (.slice (some ad') all.length d1) ∧ W2.cell? (ad.add k) = some (.bool all[k]) ∧ W2.cell? (ad'.add k) = some (.bool (!all[k]))) := fun W2 hx2 =>
            ⟨hx2, (HB1.out W2 (HX.out.trans hx2)).2.1, (HB5.out W2 (HX.out.trans hx2)).2.1, ((HX.out.trans hx2).cell (p := ad.add k) (by rw [block_of_add]; exact hadb)).trans hcx, ((HX.out.trans hx2).cell (p := ad'.add k) (by rw [block_of_add]; exact hadb')).trans hcx'⟩
          exact this
        have hhl : (k : Int) < (all.length : Int) := by omega
        clear hcx hcx' hadb hadb'
        generalize all[k] = b at *
        have XN := Lib.hid (HX.out.drew)
        go_upto_region 13 with fail
        have hq := HS4.out _ ((Ext.refl wr).drew)
        go_region_held3 (fun W2 => Ext wr W2 ∧ W2.cell? ⟨w.heap.size, 1, none⟩ = some (.slice (some ad) all.length c1) ∧ W2.cell? ⟨w6.heap.size, 1, none⟩ = some (.slice (some ad') all.length d1) ∧ W2.cell? (ad.add k) = some (.bool b) ∧ W2.cell? (ad'.add k) = some (.bool (!b)))
          (first | with_reducible exact hq)
          (fail)
        all_goals
          clear hq HS4
          cases b
          all_goals
            go_wp2_with fail
            go_roundw
            case rel => exact ⟨k + 1, by omega, by go_num, XN⟩
            case measure => simp [intOf]; omega
      · obtain ⟨w8, rfl⟩ : ∃ w8, w8 = wr := ⟨wr, rfl⟩
        obtain ⟨a0, a1, a2, -⟩ := HB1.out _ HX.out
        clear HBO5 HQB
        go_wp2_with fail
        clear a0 a1 a2
        go_loopw [87] (fun iv wr => ∃ k : Nat, k ≤ nms.length ∧ iv = .int .i64 k ∧ Hid (Ext V wr)) (fun iv _ => nms.length - (intOf iv).toNat)
        case atStart => exact ⟨0, Nat.zero_le _, rfl, HX⟩
        case round =>
          obtain ⟨k, hk, rfl, HX⟩ := hrel
          by_cases hlt : k < nms.length
          · obtain ⟨ad, x, hA, hadb, hcx, hxx⟩ := slr_elem HST5.out k hlt
            obtain ⟨ad', x', hA', hadb', hcx', hxx'⟩ := slr_elem HQS.out k hlt
            subst hA hA' hxx hxx'
            have HS4 : Hid (∀ W2, Ext wr W2 → (Ext wr W2 ∧ W2.cell? ⟨w.heap.size, 2, none⟩ = some (.slice (some ad) nms.length c2) ∧ W2.cell? ⟨w6.heap.size, 2, none⟩ = some (.slice (some ad') nms.length d2) ∧ W2.cell? (ad.add k) = some (.string nms[k]) ∧ W2.cell? (ad'.add k) = some (.string nms[k]))) := by
              have : ∀ W2, Ext wr W2 → (Ext wr W2 ∧ W2.cell? ⟨w.heap.size, 2, none⟩ = some (.slice (some ad) nms.length c2) ∧ W2.cell? ⟨w6.heap.size, 2, none⟩ = some (.slice (some ad') nms.length d2) ∧ W2.cell? (ad.add k) = some (.string nms[k]) ∧ W2.cell? (ad'.add k) = some (.string nms[k])) := fun W2 hx2 =>
                ⟨hx2, (HB1.out W2 (HX.out.trans hx2)).2.2.1, (HB5.out W2 (HX.out.trans hx2)).2.2.1, ((HX.out.trans hx2).cell (p := ad.add k) (by rw [block_of_add]; exact hadb)).trans hcx, ((HX.out.trans hx2).cell (p := ad'.add k) (by rw [block_of_add]; exact hadb')).trans hcx'⟩
              exact this
            have hhl : (k : Int) < (nms.length : Int) := by omega
            clear hcx hcx' hadb hadb'
            generalize nms[k] = s at *
            have XN := Lib.hid (HX.out.drew)
            go_upto_region 19 with fail
            have hq := HS4.out _ ((Ext.refl wr).drew)
            go_region_held3 (fun W2 => Ext wr W2 ∧ W2.cell? ⟨w.heap.size, 2, none⟩ = some (.slice (some ad) nms.length c2) ∧ W2.cell? ⟨w6.heap.size, 2, none⟩ = some (.slice (some ad') nms.length d2) ∧ W2.cell? (ad.add k) = some (.string s) ∧ W2.cell? (ad'.add k) = some (.string s))
              (first | with_reducible exact hq)
              (fail)
            all_goals
              go_wp2_with fail
              go_roundw
              case rel => exact ⟨k + 1, by omega, by go_num, XN⟩
              case measure => simp [intOf]; omega
          · have XF := Lib.hid (HXV.out.trans HX.out)
            go_wp2_with fail
            go_ret
            exact ⟨rfl, XF.out⟩
end Go.Proofs.YtbanhcaahabboaaGreatDoor

/- Reading the arguments: a prenex form that came in. -/
namespace Go.Proofs.YtbanhcaahabboaaGreatDoor
open Go.ChangeShapes Go.WideShapes Go.RowKit
section
variable {H : Type} {enc : TypeId × Value → H} {w : World} {sp : Nat → Bool} {held : Bool}
/-- A slice whose elements are one cell each. -/
theorem slr_of_trod {α : Type} {P : α → Value → Prop} {S T : TypeId} (dflt : α) (hS : Tryz.prog.underlying S = some (.slice T)) (hk : Tryz.prog.cellsOf T = 1)
    (hel : ∀ (fuel : Nat) (cs : List Value) (x : DataW H × List MemPlace), DataW.trod enc Tryz.prog w 0 sp held fuel T cs = some x → ∃ a v, cs = [v] ∧ P a v)
    {fuel : Nat} {cs : List Value} {x : DataW H × List MemPlace} (h : DataW.trod enc Tryz.prog w 0 sp held fuel S cs = some x) : ∃ (l : List α) (A : Option Addr) (c : Nat), cs = [.slice A l.length c] ∧ SlR (fun _ => P) w (.slice A l.length c) l := by
  rcases DataW.trod_slice hS h with ⟨e8, -⟩ | ⟨a, len, cap, elems, rest, n', hfu, e8, -, -, hlc, hcm, hel', hat, -⟩
  · exact ⟨[], none, 0, e8, none, 0, rfl, by simp, by omega, fun j hj => absurd hj (by simp)⟩
  · rw [hk] at hat
    have each : ∀ i : Nat, ∃ t : α, i < len → ∃ v, w.cell? (a.add i) = some v ∧ a.block < w.heap.size ∧ P t v := by
      intro i
      by_cases hi : i < len
      · have h1 := hat i hi
        rw [List.getElem?_eq_getElem (by omega), Nat.mul_one] at h1
        obtain ⟨cs', hc, ht⟩ := Option.bind_eq_some_iff.1 h1
        obtain ⟨t, v, rfl, hp⟩ := hel n' cs' _ ht
        have c0 := (World.cells?_some hc).2.2 0 (by omega)
        rw [add_zero_] at c0
        have h3 := cell_lt c0
        rw [block_of_add] at h3
        exact ⟨t, fun _ => ⟨v, c0, h3, hp⟩⟩
      · exact ⟨dflt, fun h => absurd h hi⟩
    refine ⟨(List.range len).map (fun i => Classical.choose (each i)), some a, cap, by simpa using e8, some a, cap, rfl, by simpa using hlc, by unfold maxLen at hcm; omega, fun j hj => ?_⟩
    simp only [List.length_map, List.length_range] at hj
    obtain ⟨v, h1, h2, h3⟩ := Classical.choose_spec (each j) hj
    simp only [List.getElem_map, List.getElem_range]
    exact ⟨a, v, rfl, h2, h1, h3⟩
theorem len10 {α : Type} {l : List α} (h : l.length = 10) : ∃ a b c d e f g i j k, l = [a, b, c, d, e, f, g, i, j, k] := by
  cases l with
  | nil => simp at h
  | cons x r =>
    obtain ⟨a, b, c, d, e, f, g, i, j, rfl⟩ := len9 (l := r) (by simpa using h)
    exact ⟨x, a, b, c, d, e, f, g, i, j, rfl⟩
set_option maxRecDepth 100000 in
/-- The prenex form that came in. -/
theorem open_prenex {r : Reach} {b0 : Nat} {v : Value} {d : DataW H} {ps : List MemPlace} (hval : Value.okWide Tryz.prog w r b0 36 v) (h : DataW.Trod enc Tryz.prog w 0 sp held 36 v d ps) : ∃ fr all nms m, PxV w (fun _ => True) fr all nms m v := by
  obtain ⟨fuel, h⟩ := h
  simp only [Value.okWide, Tryz.underlying36] at hval
  obtain ⟨cs, rfl, -⟩ := hval
  obtain ⟨xs, n, rfl, -, hl, hx, hf⟩ := DataW.trod_struct Tryz.underlying36 h
  have hk : Tryz.prog.cellsOf 36 = 10 := by kernel_rfl
  have hx2 : xs.length = 4 := hx
  obtain ⟨x0, x1, x2, x3, rfl⟩ := len4 hx2
  have hl2 : cs.toList.length = 10 := hl.trans hk
  obtain ⟨c0, c1, c2, c3, c4, c5, c6, c7, c8, c9, hcs⟩ := len10 hl2
  obtain rfl : cs = #[c0, c1, c2, c3, c4, c5, c6, c7, c8, c9] := Array.toList_inj.1 hcs
  have f0 : DataW.trod enc Tryz.prog w 0 sp held n 3 ((List.drop 0 [c0, c1, c2, c3, c4, c5, c6, c7, c8, c9]).take (Tryz.prog.cellsOf 3)) = some x0 := hf 0 _ rfl
  have f1 : DataW.trod enc Tryz.prog w 0 sp held n 22 ((List.drop 1 [c0, c1, c2, c3, c4, c5, c6, c7, c8, c9]).take (Tryz.prog.cellsOf 22)) = some x1 := hf 1 _ rfl
  have f2 : DataW.trod enc Tryz.prog w 0 sp held n 23 ((List.drop 2 [c0, c1, c2, c3, c4, c5, c6, c7, c8, c9]).take (Tryz.prog.cellsOf 23)) = some x2 := hf 2 _ rfl
  have f3 : DataW.trod enc Tryz.prog w 0 sp held n 34 ((List.drop 3 [c0, c1, c2, c3, c4, c5, c6, c7, c8, c9]).take (Tryz.prog.cellsOf 34)) = some x3 := hf 3 _ rfl
  rw [show Tryz.prog.cellsOf 3 = 1 by kernel_rfl] at f0
  rw [show Tryz.prog.cellsOf 22 = 1 by kernel_rfl] at f1
  rw [show Tryz.prog.cellsOf 23 = 1 by kernel_rfl] at f2
  rw [show Tryz.prog.cellsOf 34 = 7 by kernel_rfl] at f3
  simp only [List.drop_zero, List.drop_succ_cons, List.take_succ_cons, List.take_zero, List.getElem?_cons_zero, List.getElem?_cons_succ] at f0 f1 f2 f3
  obtain ⟨fr, e0, -⟩ := DataW.trod_int Tryz.underlying3 f0
  obtain ⟨all, A1, k1, e1, h1⟩ := slr_of_trod (P := fun (s : Bool) x => x = .bool s) false Tryz.underlying22 (by kernel_rfl) (fun fuel cs x h => by
    obtain ⟨b, e, -⟩ := DataW.trod_bool Tryz.underlying4 h
    exact ⟨b, _, e, rfl⟩) f1
  obtain ⟨nms, A2, k2, e2, h2⟩ := slr_of_trod (P := fun (s : ByteArray) x => x = .string s) ByteArray.empty Tryz.underlying23 (by kernel_rfl) (fun fuel cs x h => by
    obtain ⟨b, e, -⟩ := DataW.trod_string Tryz.underlying9 h
    exact ⟨b, _, e, rfl⟩) f2
  obtain ⟨⟨m, s, A, K⟩, e3, hm⟩ := trod_matrix n _ _ f3
  simp only [mxC, List.cons.injEq, and_true] at e0 e1 e2 e3
  obtain ⟨e3, e4, e5, e6, e7, e8, e9⟩ := e3
  subst e0 e1 e2 e3 e4 e5 e6 e7 e8 e9
  obtain ⟨B0, n0, d0, B1, n1, d1, B2, d2, ee, -⟩ := hm.open_
  simp only [mxV, Value.agg.injEq, Array.mk.injEq, List.cons.injEq, and_true, true_and] at ee
  obtain ⟨rfl, rfl, rfl⟩ := ee
  exact ⟨fr, all, nms, m, A1, k1, A2, k2, B0, n0, d0, B1, n1, d1, B2, m.ks.length, d2, rfl, h1, h2, hm⟩
end
end Go.Proofs.YtbanhcaahabboaaGreatDoor

/- The last step of every law that leaves its arguments alone. -/
namespace Go.Proofs.YtbanhcaahabboaaGreatDoor
open Go.ChangeShapes Go.WideShapes Go.ChangeAt Go.RowKit

/-- A law whose call only makes new blocks: what the row asks behind the call. -/
theorem post_law {H : Type} {enc : TypeId × Value → H} {P : Program} {f : Func} {s : ChangeSpec} {apart fresh handsOn again : Bool} {W W' : World} {args : Array Value} {v : Value} {ds gs : List (DataW H)} {before pa pv : List MemPlace}
    (hW : DataW.Whole enc P f.params.toList s.vars apart W args.toList ds gs before) (hx : Ext W W')
    (hres : ∀ (b : Nat) (sp : Nat → Bool) (hd : Bool), DataW.TrodAll enc P W' b sp hd f.resultTypes.toList (v.resultList f.resultTypes.size) (s.fn H (ds ++ gs)).results [])
    (hargs : ∀ sp : Nat → Bool, (∀ p ∈ before, sp p.block = true) → DataW.TrodAll enc P W' 0 sp true f.params.toList args.toList (s.fn H (ds ++ gs)).args pa)
    (hvars : ∀ sp : Nat → Bool, (∀ p ∈ before, sp p.block = true) → DataW.TrodVars enc P W' sp s.vars (s.fn H (ds ++ gs)).vars pv) (hps : before = pa ++ pv)
    (hok : ∀ (j : Nat) (t : TypeId) (r : Value), f.resultTypes[j]? = some t → (v.resultList f.resultTypes.size)[j]? = some r → Value.okWide P W' .any 0 t r) :
    s.post enc P f apart fresh handsOn again W args v W' := by
  have low : ∀ p ∈ before, p.block < W.heap.size := fun p hp => hW.lt p hp
  have old : ∀ p ∈ before, (fun b => decide (b < W.heap.size)) p.block = true := fun p hp => by simpa using low p hp
  refine ⟨ds, gs, before, [], pa, pv, hW, hres _ _ _, hargs _ old, hvars _ old, World.keptBut_mono (fun p hp => ⟨hp, ?_⟩) (Below.frame hx (· ∈ before)), fun _ => ?_⟩
  · exact .inr (List.mem_append.1 (hps ▸ hp))
  · obtain ⟨_, _, _, _, _, hz, hn⟩ := hW
    refine ⟨hok, _, _, ([] ++ pa) ++ pv, ⟨[] ++ pa, pv, trodAll_append (hargs _ (fun _ _ => rfl)) (hres _ _ _), hvars _ (fun _ _ => rfl), rfl, fun b off hp => ?_, fun ha => ?_⟩, ?_⟩
    · have hin : MemPlace.cell b off ∈ before := by rw [hps]; simpa using hp
      rw [hx.frozen (low _ hin)]
      exact hz b off hin
    · have h := hn ha
      rw [hps] at h
      simpa using h
    · exact fun p hp _ => by rw [hps]; simpa using hp

theorem own_knob : ownKnob Tryz.prog.godebug = none := by kernel_rfl
theorem laid_out : laidOutB Tryz.prog = true := by kernel_rfl
/-- An argument reads behind the call as it did. -/
theorem arg_stays {H : Type} {enc : TypeId × Value → H} {W W' : World} {t : TypeId} (hr : Tryz.prog.readableRec t = true) (hrow : t < Tryz.prog.types.size) {v : Value} {d : DataW H} {ps : List MemPlace} (h : DataW.Trod enc Tryz.prog W 0 (fun _ => true) true t v d ps) (hx : Ext W W') (hlt : ∀ x ∈ ps, x.block < W.heap.size) {sp : Nat → Bool} (hs : ∀ x ∈ ps, sp x.block = true) : DataW.Trod enc Tryz.prog W' 0 sp true t v d ps :=
  WideElems.Trod_stays laid_out hr hrow h (fun x hx' => Below.same hx (hlt x hx')) hs
end Go.Proofs.YtbanhcaahabboaaGreatDoor
