/- Layer 38: prenex.Same. -/
import Derived.Test.YtbanhcaahabboaaGreatDoorMp35
set_option linter.unusedSimpArgs false
set_option linter.unusedVariables false

namespace Go.Proofs.YtbanhcaahabboaaGreatDoor
open Go.RowKit

theorem Mx.nrm_by (t : Mx) : (kindN t.kind = 1 → t.nrm = .mk 1 0 Pl.zero []) ∧ (kindN t.kind = 2 → t.nrm = .mk 2 (relM t.rel) t.p.nf []) ∧ (kindN t.kind = 3 → t.nrm = .mk 3 0 Pl.zero (t.ks.map Mx.nrm)) ∧ (kindN t.kind = 4 → t.nrm = .mk 4 0 Pl.zero (t.ks.map Mx.nrm)) ∧ (kindN t.kind ≠ 1 → kindN t.kind ≠ 2 → kindN t.kind ≠ 3 → kindN t.kind ≠ 4 → t.nrm = .mk 0 0 Pl.zero [] ∧ kindN t.kind = 0) := by
  rw [Mx.nrm_eq]
  unfold kindN
  generalize t.kind = k
  refine ⟨fun h => ?_, fun h => ?_, fun h => ?_, fun h => ?_, fun h1 h2 h3 h4 => ?_⟩
  · have : k = 1 := by split at h <;> omega
    rw [if_pos this]
  · have : k = 2 := by split at h <;> omega
    rw [if_neg (by omega), if_pos this]
  · have : k = 3 := by split at h <;> omega
    rw [if_neg (by omega), if_neg (by omega), if_pos (by omega), this]
  · have : k = 4 := by split at h <;> omega
    rw [if_neg (by omega), if_neg (by omega), if_pos (by omega), this]
  · by_cases hk : k < 0 ∨ 4 < k
    · rw [if_neg (by omega), if_neg (by omega), if_neg (by omega), if_pos hk]
      exact ⟨rfl, rfl⟩
    · rw [if_neg hk] at h1 h2 h3 h4
      rw [if_neg (by omega), if_neg (by omega), if_neg (by omega), if_neg hk]
      exact ⟨rfl, by omega⟩
theorem Mx.nrm_kind (t : Mx) : t.nrm.kind = kindN t.kind := by
  obtain ⟨h1, h2, h3, h4, h5⟩ := t.nrm_by
  by_cases e1 : kindN t.kind = 1
  · rw [h1 e1, e1]; rfl
  · by_cases e2 : kindN t.kind = 2
    · rw [h2 e2, e2]; rfl
    · by_cases e3 : kindN t.kind = 3
      · rw [h3 e3, e3]; rfl
      · by_cases e4 : kindN t.kind = 4
        · rw [h4 e4, e4]; rfl
        · rw [(h5 e1 e2 e3 e4).1, (h5 e1 e2 e3 e4).2]; rfl
theorem mx_atom {r r' : Int} {p p' : Pl} : ((Mx.mk 2 r p []) = .mk 2 r' p' []) ↔ (r = r' ∧ p = p') := by simp
theorem mx_join {k : Int} {l l' : List Mx} : ((Mx.mk k 0 Pl.zero l) = .mk k 0 Pl.zero l') ↔ l = l' := by simp
theorem small_nf {p : Pl} (hs : p.sz ≤ 40 ∧ p.dm ≤ 4) (hd : p.dig) : Fit p.nf 40 5 := Fit.of_raw hd hs.1 hs.2 (by decide)

set_option maxRecDepth 100000 in
set_option maxHeartbeats 4000000 in
theorem msame_ih (w0 : World) (n : Nat) : msameIH w0 n := by
  induction n with
  | zero => intro p q v u w h; omega
  | succ n ih =>
  intro p q v u w hn hsz hsq hsm hsm' h h' hx0
  have hdp := h.dig
  have hdq := h'.dig
  have hkl : p.ks.length ≤ 1000000 := by have := p.ks_len; omega
  obtain ⟨A0, n0, c0, A, n1, c1, K, c, rfl, hp, hl1, hl2, h4⟩ := h.open_
  obtain ⟨B0, m0, d0, B, m1, d1, K', d, rfl, hp', hl1', hl2', h4'⟩ := h'.open_
  have hpp := Mx.p_small hsm
  have hqq : q.p.sz ≤ 1073741824 ∧ q.p.dm ≤ 1099511627776 := Mx.each_p hsm'
  have HX0 := Lib.hid hx0
  have HEQ := Lib.hid (fun (w' : World) (hx : Ext w w') => eqf_any ih p.ks q.ks K K' c d w' (fun t ht => ⟨by
    obtain ⟨k, hk, rfl⟩ := List.getElem_of_mem ht
    have := p.kid_le k hk; omega, by
    obtain ⟨k, hk, rfl⟩ := List.getElem_of_mem ht
    have := p.kid_le k hk; omega, mxSmall_mem (Mx.ks_small hsm) ht⟩) (fun t ht => ⟨by
    obtain ⟨k, hk, rfl⟩ := List.getElem_of_mem ht
    have := q.kid_le k hk; omega, eachM_mem (Mx.each_ks hsm') ht⟩) hkl h4 h4' (hx0.trans hx))
  have HRS : Hid (∀ w', Ext w w' → Calls Tryz.prog 65 #[plV p.p (.slice A0 n0 c0) (.slice A n1 c1), plV q.p (.slice B0 m0 d0) (.slice B m1 d1)] w' (RetB (eqB p.p.nf q.p.nf) w')) :=
    Lib.hid (fun w' hx => rSame_any _ _ (hp.ext (hx0.trans hx)) (hp'.ext (hx0.trans hx)) (by omega) (by omega) (by omega) (by omega) (small_nf hpp (Mx.each_p hdp)) (by omega))
  have HK1 := Lib.hid (fun w' : World => kind_any (w := w') p (.slice A0 n0 c0) (.slice A n1 c1) (.slice K p.ks.length c))
  have HK2 := Lib.hid (fun w' : World => kind_any (w := w') q (.slice B0 m0 d0) (.slice B m1 d1) (.slice K' q.ks.length d))
  obtain ⟨W, hW⟩ : ∃ W, (w.alloc (.cells #[.int .i64 p.kind, .int .i64 p.rel, .int .i64 p.p.lv, .bool p.p.neg, .slice A0 n0 c0, .slice A n1 c1, .slice K p.ks.length c] 34)).alloc (.cells #[.int .i64 q.kind, .int .i64 q.rel, .int .i64 q.p.lv, .bool q.p.neg, .slice B0 m0 d0, .slice B m1 d1, .slice K' q.ks.length d] 34) = W := ⟨_, rfl⟩
  have hWx : Ext w W := by rw [← hW]; exact ((Ext.refl w).alloc _).alloc _
  have hWs : W.heap.size = w.heap.size + 1 + 1 := by rw [← hW]; simp
  have HSS : Hid (∀ W2, Ext W W2 → (Ext w W2 ∧ W2.cell? ⟨w.heap.size, 0, none⟩ = some (.int .i64 p.kind) ∧ W2.cell? ⟨w.heap.size, 1, none⟩ = some (.int .i64 p.rel) ∧ W2.cell? ⟨w.heap.size, 2, none⟩ = some (.int .i64 p.p.lv) ∧ W2.cell? ⟨w.heap.size, 3, none⟩ = some (.bool p.p.neg) ∧ W2.cell? ⟨w.heap.size, 4, none⟩ = some (.slice A0 n0 c0) ∧ W2.cell? ⟨w.heap.size, 5, none⟩ = some (.slice A n1 c1) ∧ W2.cell? ⟨w.heap.size, 6, none⟩ = some (.slice K p.ks.length c) ∧ W2.cell? ⟨w.heap.size + 1, 0, none⟩ = some (.int .i64 q.kind) ∧ W2.cell? ⟨w.heap.size + 1, 1, none⟩ = some (.int .i64 q.rel) ∧ W2.cell? ⟨w.heap.size + 1, 2, none⟩ = some (.int .i64 q.p.lv) ∧ W2.cell? ⟨w.heap.size + 1, 3, none⟩ = some (.bool q.p.neg) ∧ W2.cell? ⟨w.heap.size + 1, 4, none⟩ = some (.slice B0 m0 d0) ∧ W2.cell? ⟨w.heap.size + 1, 5, none⟩ = some (.slice B m1 d1) ∧ W2.cell? ⟨w.heap.size + 1, 6, none⟩ = some (.slice K' q.ks.length d))) := by
    have : ∀ W2, Ext W W2 → (Ext w W2 ∧ W2.cell? ⟨w.heap.size, 0, none⟩ = some (.int .i64 p.kind) ∧ W2.cell? ⟨w.heap.size, 1, none⟩ = some (.int .i64 p.rel) ∧ W2.cell? ⟨w.heap.size, 2, none⟩ = some (.int .i64 p.p.lv) ∧ W2.cell? ⟨w.heap.size, 3, none⟩ = some (.bool p.p.neg) ∧ W2.cell? ⟨w.heap.size, 4, none⟩ = some (.slice A0 n0 c0) ∧ W2.cell? ⟨w.heap.size, 5, none⟩ = some (.slice A n1 c1) ∧ W2.cell? ⟨w.heap.size, 6, none⟩ = some (.slice K p.ks.length c) ∧ W2.cell? ⟨w.heap.size + 1, 0, none⟩ = some (.int .i64 q.kind) ∧ W2.cell? ⟨w.heap.size + 1, 1, none⟩ = some (.int .i64 q.rel) ∧ W2.cell? ⟨w.heap.size + 1, 2, none⟩ = some (.int .i64 q.p.lv) ∧ W2.cell? ⟨w.heap.size + 1, 3, none⟩ = some (.bool q.p.neg) ∧ W2.cell? ⟨w.heap.size + 1, 4, none⟩ = some (.slice B0 m0 d0) ∧ W2.cell? ⟨w.heap.size + 1, 5, none⟩ = some (.slice B m1 d1) ∧ W2.cell? ⟨w.heap.size + 1, 6, none⟩ = some (.slice K' q.ks.length d)) := fun W2 hx2 => by
      obtain ⟨hc, hf⟩ := hx2.cells
      refine ⟨hWx.trans hx2, ?_, ?_, ?_, ?_, ?_, ?_, ?_, ?_, ?_, ?_, ?_, ?_, ?_, ?_⟩ <;> (rw [hc _ _ (by omega), ← hW]; simp [go_sem])
    exact this
  have HWX := Lib.hid hWx
  obtain ⟨res, hres⟩ : ∃ res, eqB p.nrm q.nrm = res := ⟨_, rfl⟩
  rw [hres]
  have HRES := Lib.hid hres
  clear ih h h' hp hp' h4 h4' hx0 hWx hres hdp hdq hpp hqq hsm hsm'
  unfold mxV at HK1 HK2
  unfold plV at HRS
  unfold mxV
  go_enter Tryz.func25, Tryz.ntmps25
  go_wp2_with fail
  clear hW
  have y0 : Ext W W.drew := (Ext.refl W).drew
  have Y0 := Lib.hid y0
  clear y0
  by_cases hkk : kindN p.kind = kindN q.kind
  case neg =>
    have hkk2 : (kindN p.kind != kindN q.kind) = true := by simpa using hkk
    have HF : Hid (res = false) := Lib.hid (HRES.out.symm.trans (eqB_ne fun e => hkk (by rw [← Mx.nrm_kind, ← Mx.nrm_kind, e])))
    clear hkk
    generalize kindN p.kind = kp at *
    generalize kindN q.kind = kq at *
    go_region_held3 (fun W2 => Ext w W2 ∧ W2.cell? ⟨w.heap.size, 0, none⟩ = some (.int .i64 p.kind) ∧ W2.cell? ⟨w.heap.size, 1, none⟩ = some (.int .i64 p.rel) ∧ W2.cell? ⟨w.heap.size, 2, none⟩ = some (.int .i64 p.p.lv) ∧ W2.cell? ⟨w.heap.size, 3, none⟩ = some (.bool p.p.neg) ∧ W2.cell? ⟨w.heap.size, 4, none⟩ = some (.slice A0 n0 c0) ∧ W2.cell? ⟨w.heap.size, 5, none⟩ = some (.slice A n1 c1) ∧ W2.cell? ⟨w.heap.size, 6, none⟩ = some (.slice K p.ks.length c) ∧ W2.cell? ⟨w.heap.size + 1, 0, none⟩ = some (.int .i64 q.kind) ∧ W2.cell? ⟨w.heap.size + 1, 1, none⟩ = some (.int .i64 q.rel) ∧ W2.cell? ⟨w.heap.size + 1, 2, none⟩ = some (.int .i64 q.p.lv) ∧ W2.cell? ⟨w.heap.size + 1, 3, none⟩ = some (.bool q.p.neg) ∧ W2.cell? ⟨w.heap.size + 1, 4, none⟩ = some (.slice B0 m0 d0) ∧ W2.cell? ⟨w.heap.size + 1, 5, none⟩ = some (.slice B m1 d1) ∧ W2.cell? ⟨w.heap.size + 1, 6, none⟩ = some (.slice K' q.ks.length d))
      (first | with_reducible exact HSS.out _ Y0.out | with_reducible exact HSS.out _ y1 | with_reducible exact HSS.out _ y2)
      (first
        | (go_at_call 56
           (fail_if_success have _ := y1)
           refine (HK1.out _).mono ?_
           rintro e v1 ⟨rfl, x1⟩
           have y1 : Ext W v1 := Ext.trans Y0.out x1)
        | (go_at_call 56
           refine (HK2.out _).mono ?_
           rintro e v2 ⟨rfl, x2⟩
           have y2 : Ext W v2 := Ext.trans y1 x2))
    all_goals
      have X2 := Lib.hid (HWX.out.trans y2)
      clear y1 y2 x1 x2 HSS
      go_wp2_with fail
      go_ret
      exact ⟨by rw [HF.out]; rfl, X2.out⟩
  have HKK := Lib.hid hkk
  have hkk3 : (kindN p.kind != kindN q.kind) = false := by simpa using hkk
  clear hkk
  generalize hkp : kindN p.kind = kp at *
  generalize hkq : kindN q.kind = kq at *
  have HKP := Lib.hid hkp
  have HKQ := Lib.hid hkq
  clear hkp hkq
  go_region_held3 (fun W2 => Ext w W2 ∧ W2.cell? ⟨w.heap.size, 0, none⟩ = some (.int .i64 p.kind) ∧ W2.cell? ⟨w.heap.size, 1, none⟩ = some (.int .i64 p.rel) ∧ W2.cell? ⟨w.heap.size, 2, none⟩ = some (.int .i64 p.p.lv) ∧ W2.cell? ⟨w.heap.size, 3, none⟩ = some (.bool p.p.neg) ∧ W2.cell? ⟨w.heap.size, 4, none⟩ = some (.slice A0 n0 c0) ∧ W2.cell? ⟨w.heap.size, 5, none⟩ = some (.slice A n1 c1) ∧ W2.cell? ⟨w.heap.size, 6, none⟩ = some (.slice K p.ks.length c) ∧ W2.cell? ⟨w.heap.size + 1, 0, none⟩ = some (.int .i64 q.kind) ∧ W2.cell? ⟨w.heap.size + 1, 1, none⟩ = some (.int .i64 q.rel) ∧ W2.cell? ⟨w.heap.size + 1, 2, none⟩ = some (.int .i64 q.p.lv) ∧ W2.cell? ⟨w.heap.size + 1, 3, none⟩ = some (.bool q.p.neg) ∧ W2.cell? ⟨w.heap.size + 1, 4, none⟩ = some (.slice B0 m0 d0) ∧ W2.cell? ⟨w.heap.size + 1, 5, none⟩ = some (.slice B m1 d1) ∧ W2.cell? ⟨w.heap.size + 1, 6, none⟩ = some (.slice K' q.ks.length d))
    (first | with_reducible exact HSS.out _ Y0.out | with_reducible exact HSS.out _ y1 | with_reducible exact HSS.out _ y2)
    (first
      | (go_at_call 56
         (fail_if_success have _ := y1)
         refine (HK1.out _).mono ?_
         rintro e v1 ⟨rfl, x1⟩
         have y1 : Ext W v1 := Ext.trans Y0.out x1)
      | (go_at_call 56
         refine (HK2.out _).mono ?_
         rintro e v2 ⟨rfl, x2⟩
         have y2 : Ext W v2 := Ext.trans y1 x2))
  all_goals
    obtain ⟨-, a0, a1, a2, a3, a4, a5, a6, -⟩ := HSS.out _ y2
    have Y2 := Lib.hid y2
    clear y1 y2 x1 x2 Y0
    go_wp2_with fail
    clear a0 a1 a2 a3 a4 a5 a6
    refine (HK1.out _).mono ?_
    rintro e w3 ⟨rfl, x3⟩
    have Y3 := Lib.hid (Y2.out.trans x3)
    clear x3 Y2
    rcases (show kp = 2 ∨ kp = 3 ∨ kp = 4 ∨ (kp ≠ 2 ∧ kp ≠ 3 ∧ kp ≠ 4) by omega) with h2 | h3 | h4 | ⟨h2, h3, h4⟩
    · have HN : Hid (eqB (relM p.rel, p.p.nf) (relM q.rel, q.p.nf) = res) := Lib.hid (by
        rw [← HRES.out, (p.nrm_by).2.1 (HKP.out.trans h2), (q.nrm_by).2.1 ((HKQ.out.trans HKK.out.symm).trans h2)]
        exact eqB_congr (by rw [mx_atom]; simp))
      have h2' : (kp == 2) = true := by simpa using h2
      clear h2
      have yy0 : Ext W w3.drew := Y3.out.drew
      have YY0 := Lib.hid yy0
      clear yy0
      by_cases hr : relM p.rel = relM q.rel
      · have hr2 : (relM p.rel == relM q.rel) = true := by simpa using hr
        have HF : Hid (eqB p.p.nf q.p.nf = res) := Lib.hid (by rw [← HN.out]; exact eqB_congr (by rw [hr]; simp))
        clear hr
        go_wp2_with fail
        go_region_held3 (fun W2 => Ext w W2 ∧ W2.cell? ⟨w.heap.size, 0, none⟩ = some (.int .i64 p.kind) ∧ W2.cell? ⟨w.heap.size, 1, none⟩ = some (.int .i64 p.rel) ∧ W2.cell? ⟨w.heap.size, 2, none⟩ = some (.int .i64 p.p.lv) ∧ W2.cell? ⟨w.heap.size, 3, none⟩ = some (.bool p.p.neg) ∧ W2.cell? ⟨w.heap.size, 4, none⟩ = some (.slice A0 n0 c0) ∧ W2.cell? ⟨w.heap.size, 5, none⟩ = some (.slice A n1 c1) ∧ W2.cell? ⟨w.heap.size, 6, none⟩ = some (.slice K p.ks.length c) ∧ W2.cell? ⟨w.heap.size + 1, 0, none⟩ = some (.int .i64 q.kind) ∧ W2.cell? ⟨w.heap.size + 1, 1, none⟩ = some (.int .i64 q.rel) ∧ W2.cell? ⟨w.heap.size + 1, 2, none⟩ = some (.int .i64 q.p.lv) ∧ W2.cell? ⟨w.heap.size + 1, 3, none⟩ = some (.bool q.p.neg) ∧ W2.cell? ⟨w.heap.size + 1, 4, none⟩ = some (.slice B0 m0 d0) ∧ W2.cell? ⟨w.heap.size + 1, 5, none⟩ = some (.slice B m1 d1) ∧ W2.cell? ⟨w.heap.size + 1, 6, none⟩ = some (.slice K' q.ks.length d))
          (first | with_reducible exact HSS.out _ YY0.out | with_reducible exact HSS.out _ z1 | with_reducible exact HSS.out _ z2 | with_reducible exact HSS.out _ z3)
          (first
            | (go_at_call 58
               (fail_if_success have _ := z1)
               refine (relation_any p.rel _).mono ?_
               rintro e v1 ⟨rfl, rfl⟩
               have z1 : Ext W w3.drew := YY0.out)
            | (go_at_call 58
               refine (relation_any q.rel _).mono ?_
               rintro e v2 ⟨rfl, rfl⟩
               have z2 : Ext W w3.drew := YY0.out)
            | (go_at_call 65
               refine (HRS.out _ (HWX.out.trans YY0.out)).mono ?_
               rintro e v3 ⟨rfl, x3⟩
               have z3 : Ext W v3 := Ext.trans YY0.out x3))
        all_goals
          have X3 := Lib.hid (HWX.out.trans z3)
          rw [HF.out]
          clear z1 z2 z3 x3 YY0 HSS
          go_wp2_with fail
          go_ret
          exact ⟨rfl, X3.out⟩
      · have hr2 : (relM p.rel == relM q.rel) = false := by simpa using hr
        have HF : Hid (res = false) := Lib.hid (by rw [← HN.out]; exact eqB_ne fun e => hr (by injection e))
        clear hr
        go_wp2_with fail
        refine wp_region_held_drew (S := fun W2 => Ext w W2 ∧ W2.cell? ⟨w.heap.size, 0, none⟩ = some (.int .i64 p.kind) ∧ W2.cell? ⟨w.heap.size, 1, none⟩ = some (.int .i64 p.rel) ∧ W2.cell? ⟨w.heap.size, 2, none⟩ = some (.int .i64 p.p.lv) ∧ W2.cell? ⟨w.heap.size, 3, none⟩ = some (.bool p.p.neg) ∧ W2.cell? ⟨w.heap.size, 4, none⟩ = some (.slice A0 n0 c0) ∧ W2.cell? ⟨w.heap.size, 5, none⟩ = some (.slice A n1 c1) ∧ W2.cell? ⟨w.heap.size, 6, none⟩ = some (.slice K p.ks.length c) ∧ W2.cell? ⟨w.heap.size + 1, 0, none⟩ = some (.int .i64 q.kind) ∧ W2.cell? ⟨w.heap.size + 1, 1, none⟩ = some (.int .i64 q.rel) ∧ W2.cell? ⟨w.heap.size + 1, 2, none⟩ = some (.int .i64 q.p.lv) ∧ W2.cell? ⟨w.heap.size + 1, 3, none⟩ = some (.bool q.p.neg) ∧ W2.cell? ⟨w.heap.size + 1, 4, none⟩ = some (.slice B0 m0 d0) ∧ W2.cell? ⟨w.heap.size + 1, 5, none⟩ = some (.slice B m1 d1) ∧ W2.cell? ⟨w.heap.size + 1, 6, none⟩ = some (.slice K' q.ks.length d)) (by kernel_rfl) (HSS.out _ YY0.out) (fun hHeld => ?_)
        refine wpAnyH_take (i := 0) (v := ?v0) rfl (by kernel_rfl) (by kernel_rfl) (by kernel_rfl) (fun _ _ _ h => h) (Or.inl ⟨by rfl, ?hy0⟩) (by assumption) ?rest0
        case hy0 =>
          intro w' hSw
          try dsimp only at hSw
          go_simp
          try (with_reducible rfl)
        try simp only [Act.put, List.getElem_toArray, List.getElem_cons_zero, List.getElem_cons_succ, List.setIfInBounds_toArray, List.set_cons_zero, List.set_cons_succ]
        refine wpAnyH_take (i := 3) (v := ?v3) rfl (by kernel_rfl) (by kernel_rfl) (by kernel_rfl) (fun _ _ _ h => h) (Or.inl ⟨by rfl, ?hy3⟩) (by assumption) ?rest3
        case hy3 =>
          intro w' hSw
          try dsimp only at hSw
          go_simp
          try (with_reducible rfl)
        try simp only [Act.put, List.getElem_toArray, List.getElem_cons_zero, List.getElem_cons_succ, List.setIfInBounds_toArray, List.set_cons_zero, List.set_cons_succ]
        refine wpAnyH_take (i := 1) (v := ?v1) rfl (by kernel_rfl) (by kernel_rfl) (by kernel_rfl) (fun _ _ _ h => h) (Or.inl ⟨by rfl, ?hy1⟩) (by assumption) ?rest1
        case hy1 =>
          intro w' hSw
          try dsimp only at hSw
          go_simp
          try (with_reducible rfl)
        try simp only [Act.put, List.getElem_toArray, List.getElem_cons_zero, List.getElem_cons_succ, List.setIfInBounds_toArray, List.set_cons_zero, List.set_cons_succ]
        refine wpAnyH_take (i := 4) (v := ?v4) rfl (by kernel_rfl) (by kernel_rfl) (by kernel_rfl) (fun _ _ _ h => h) (Or.inl ⟨by rfl, ?hy4⟩) (by assumption) ?rest4
        case hy4 =>
          intro w' hSw
          try dsimp only at hSw
          go_simp
          try (with_reducible rfl)
        try simp only [Act.put, List.getElem_toArray, List.getElem_cons_zero, List.getElem_cons_succ, List.setIfInBounds_toArray, List.set_cons_zero, List.set_cons_succ]
        refine wpAnyH_ready (rs := [2]) (by kernel_rfl) (by simp) ?_
        refine AllReadyH.cons rfl (fun K hK => ?_) AllReadyH.nil
        go_simp
        go_at_call 58
        refine (relation_any p.rel _).mono ?_
        rintro e v2 ⟨rfl, rfl⟩
        refine hK.out _ _ (HSS.out _ YY0.out) (fun hHeld => ?_)
        clear hK K
        try simp only [Act.put, List.getElem_toArray, List.getElem_cons_zero, List.getElem_cons_succ, List.setIfInBounds_toArray, List.set_cons_zero, List.set_cons_succ]
        refine wpAnyH_ready (rs := [5]) (by kernel_rfl) (by simp) ?_
        refine AllReadyH.cons rfl (fun K hK => ?_) AllReadyH.nil
        go_simp
        go_at_call 58
        refine (relation_any q.rel _).mono ?_
        rintro e v5 ⟨rfl, rfl⟩
        refine hK.out _ _ (HSS.out _ YY0.out) (fun hHeld => ?_)
        clear hK K
        try simp only [Act.put, List.getElem_toArray, List.getElem_cons_zero, List.getElem_cons_succ, List.setIfInBounds_toArray, List.set_cons_zero, List.set_cons_succ]
        refine wpAnyH_take (i := 6) (v := ?v6) rfl (by kernel_rfl) (by kernel_rfl) (by kernel_rfl) (fun _ _ _ h => h) (Or.inl ⟨by rfl, ?hy6⟩) (by assumption) ?rest6
        case hy6 =>
          intro w' hSw
          try dsimp only at hSw
          go_simp
          try (with_reducible rfl)
        try simp only [Act.put, List.getElem_toArray, List.getElem_cons_zero, List.getElem_cons_succ, List.setIfInBounds_toArray, List.set_cons_zero, List.set_cons_succ]
        refine wpAnyH_take (i := 7) (v := ?v7) rfl (by kernel_rfl) (by kernel_rfl) (by kernel_rfl) (fun _ _ _ h => h) (Or.inl ⟨by rfl, ?hy7⟩) (by assumption) ?rest7
        case hy7 =>
          intro w' hSw
          try dsimp only at hSw
          go_simp
          try (with_reducible rfl)
        try simp only [Act.put, List.getElem_toArray, List.getElem_cons_zero, List.getElem_cons_succ, List.setIfInBounds_toArray, List.set_cons_zero, List.set_cons_succ]
        refine wpAnyH_take (i := 8) (v := undef) rfl (by kernel_rfl) (by kernel_rfl) (by kernel_rfl) (fun _ _ _ h => h) (Or.inr ⟨by rfl, rfl⟩) (by assumption) ?_
        try simp only [Act.put, List.getElem_toArray, List.getElem_cons_zero, List.getElem_cons_succ, List.setIfInBounds_toArray, List.set_cons_zero, List.set_cons_succ]
        refine wpAnyH_take (i := 9) (v := undef) rfl (by kernel_rfl) (by kernel_rfl) (by kernel_rfl) (fun _ _ _ h => h) (Or.inr ⟨by rfl, rfl⟩) (by assumption) ?_
        try simp only [Act.put, List.getElem_toArray, List.getElem_cons_zero, List.getElem_cons_succ, List.setIfInBounds_toArray, List.set_cons_zero, List.set_cons_succ]
        refine wpAnyH_take (i := 10) (v := undef) rfl (by kernel_rfl) (by kernel_rfl) (by kernel_rfl) (fun _ _ _ h => h) (Or.inr ⟨by rfl, rfl⟩) (by assumption) ?_
        try simp only [Act.put, List.getElem_toArray, List.getElem_cons_zero, List.getElem_cons_succ, List.setIfInBounds_toArray, List.set_cons_zero, List.set_cons_succ]
        refine wpAnyH_take (i := 11) (v := undef) rfl (by kernel_rfl) (by kernel_rfl) (by kernel_rfl) (fun _ _ _ h => h) (Or.inr ⟨by rfl, rfl⟩) (by assumption) ?_
        try simp only [Act.put, List.getElem_toArray, List.getElem_cons_zero, List.getElem_cons_succ, List.setIfInBounds_toArray, List.set_cons_zero, List.set_cons_succ]
        refine wpAnyH_take (i := 12) (v := undef) rfl (by kernel_rfl) (by kernel_rfl) (by kernel_rfl) (fun _ _ _ h => h) (Or.inr ⟨by rfl, rfl⟩) (by assumption) ?_
        try simp only [Act.put, List.getElem_toArray, List.getElem_cons_zero, List.getElem_cons_succ, List.setIfInBounds_toArray, List.set_cons_zero, List.set_cons_succ]
        refine wpAnyH_take (i := 13) (v := ?v13) rfl (by kernel_rfl) (by kernel_rfl) (by kernel_rfl) (fun _ _ _ h => h) (Or.inl ⟨by rfl, ?hy13⟩) (by assumption) ?rest13
        case hy13 =>
          intro w' hSw
          try dsimp only at hSw
          go_simp
          try (with_reducible rfl)
        try simp only [Act.put, List.getElem_toArray, List.getElem_cons_zero, List.getElem_cons_succ, List.setIfInBounds_toArray, List.set_cons_zero, List.set_cons_succ]
        refine wpAnyH_take (i := 14) (v := ?v14) rfl (by kernel_rfl) (by kernel_rfl) (by kernel_rfl) (fun _ _ _ h => h) (Or.inl ⟨by rfl, ?hy14⟩) (by assumption) ?rest14
        case hy14 =>
          intro w' hSw
          try dsimp only at hSw
          go_simp
          try (with_reducible rfl)
        try simp only [Act.put, List.getElem_toArray, List.getElem_cons_zero, List.getElem_cons_succ, List.setIfInBounds_toArray, List.set_cons_zero, List.set_cons_succ]
        refine wpAnyH_done (by kernel_rfl) ?_ _
        all_goals
          have X3 := Lib.hid (HWX.out.trans YY0.out)
          clear YY0 HSS
          go_wp2_with fail
          go_ret
          exact ⟨by rw [HF.out]; rfl, X3.out⟩
    · have HF : Hid (eqB (p.ks.map Mx.nrm) (q.ks.map Mx.nrm) = res) := Lib.hid (by
        rw [← HRES.out, (p.nrm_by).2.2.1 (HKP.out.trans h3), (q.nrm_by).2.2.1 ((HKQ.out.trans HKK.out.symm).trans h3)]
        exact eqB_congr mx_join.symm)
      have h2' : (kp == 2) = false := by simp; omega
      have h3' : (kp == 3) = true := by simp; omega
      have h4' : (kp == 4) = false := by simp; omega
      clear h3
      obtain ⟨-, a0, a1, a2, a3, a4, a5, a6, b0, b1, b2, b3, b4, b5, b6⟩ := HSS.out _ Y3.out
      go_wp2_with fail
      clear a0 a1 a2 a3 a4 a5 a6 b0 b1 b2 b3 b4 b5 b6
      refine (HEQ.out _ (HWX.out.trans Y3.out)).mono ?_
      rintro e w4 ⟨rfl, x4⟩
      rw [HF.out]
      have X4 := Lib.hid ((HWX.out.trans Y3.out).trans x4)
      clear x4
      go_wp2_with fail
      go_ret
      exact ⟨rfl, X4.out⟩
    · have HF : Hid (eqB (p.ks.map Mx.nrm) (q.ks.map Mx.nrm) = res) := Lib.hid (by
        rw [← HRES.out, (p.nrm_by).2.2.2.1 (HKP.out.trans h4), (q.nrm_by).2.2.2.1 ((HKQ.out.trans HKK.out.symm).trans h4)]
        exact eqB_congr mx_join.symm)
      have h2' : (kp == 2) = false := by simp; omega
      have h3' : (kp == 3) = false := by simp; omega
      have h4' : (kp == 4) = true := by simp; omega
      clear h4
      obtain ⟨-, a0, a1, a2, a3, a4, a5, a6, b0, b1, b2, b3, b4, b5, b6⟩ := HSS.out _ Y3.out
      go_wp2_with fail
      clear a0 a1 a2 a3 a4 a5 a6 b0 b1 b2 b3 b4 b5 b6
      refine (HEQ.out _ (HWX.out.trans Y3.out)).mono ?_
      rintro e w4 ⟨rfl, x4⟩
      rw [HF.out]
      have X4 := Lib.hid ((HWX.out.trans Y3.out).trans x4)
      clear x4
      go_wp2_with fail
      go_ret
      exact ⟨rfl, X4.out⟩
    · have h2' : (kp == 2) = false := by simpa using h2
      have h3' : (kp == 3) = false := by simpa using h3
      have h4' : (kp == 4) = false := by simpa using h4
      have HF : Hid (res = true) := Lib.hid (HRES.out.symm.trans (eqB_eq (by
        by_cases h1 : kp = 1
        · rw [(p.nrm_by).1 (HKP.out.trans h1), (q.nrm_by).1 ((HKQ.out.trans HKK.out.symm).trans h1)]
        · have e1 := HKP.out
          have e2 := HKQ.out.trans HKK.out.symm
          rw [((p.nrm_by).2.2.2.2 (by omega) (by omega) (by omega) (by omega)).1, ((q.nrm_by).2.2.2.2 (by omega) (by omega) (by omega) (by omega)).1])))
      clear h2 h3 h4
      go_wp2_with fail
      go_ret
      exact ⟨by rw [HF.out]; rfl, HWX.out.trans Y3.out⟩

theorem msame_any {w : World} {q1 q2 : Nat → Prop} (p q : Mx) (v u : Value) (hsz : p.sz ≤ 1000000) (hsq : q.sz ≤ 1000000) (hsm : p.small) (hsm' : q.each BigP) (h : MxV w q1 p v) (k : MxV w q2 q u) : Calls Tryz.prog 25 #[v, u] w (RetB (eqB p.nrm q.nrm) w) :=
  msame_ih w (p.sz + 1) p q v u w (Nat.lt_succ_self _) hsz hsq hsm hsm' (h.mono fun _ _ => trivial) (k.mono fun _ _ => trivial) (Ext.refl w)
end Go.Proofs.YtbanhcaahabboaaGreatDoor
