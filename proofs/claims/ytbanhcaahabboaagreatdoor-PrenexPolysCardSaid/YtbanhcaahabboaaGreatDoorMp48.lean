/- The plain law of matrices: levels and polynomials of a matrix and of its normal form. -/
import Derived.Test.YtbanhcaahabboaaGreatDoorMp47
import Derived.Test.YtbanhcaahabboaaGreatDoorMp34
import Derived.Test.YtbanhcaahabboaaGreatDoorMp31
import Derived.Test.YtbanhcaahabboaaGreatDoorMSame2
import Derived.Test.YtbanhcaahabboaaGreatDoorMp46
import Derived.Test.YtbanhcaahabboaaGreatDoorMp0
import Derived.WalkKit
import Derived.ProofKit
import Derived.OpenShut
import Derived.Below
import Derived.ChangeSame
set_option linter.unusedSimpArgs false
set_option linter.unusedVariables false

namespace Go.Proofs.YtbanhcaahabboaaGreatDoor
open Go.RowKit
mutual
theorem Mx.pols_of {P : Pl → Prop} : ∀ t : Mx, t.each P → ∀ p ∈ t.pols, ∃ p0, P p0 ∧ p = p0.nf
  | .mk k r p ks, h, x, hx => by
    rw [Mx.each] at h
    rw [Mx.pols] at hx
    split at hx
    · exact ⟨p, h.1, by simpa using hx⟩
    · split at hx
      · exact polsM_of ks h.2 x hx
      · simp at hx
theorem polsM_of {P : Pl → Prop} : ∀ l : List Mx, eachM P l → ∀ p ∈ polsM l, ∃ p0, P p0 ∧ p = p0.nf
  | [], _, x, hx => by rw [polsM] at hx; simp at hx
  | t :: r, h, x, hx => by
    rw [eachM] at h
    rw [polsM] at hx
    rcases List.mem_append.1 hx with hx | hx
    · exact t.pols_of h.1 x hx
    · exact polsM_of r h.2 x hx
end
mutual
theorem Mx.nrm_raw : ∀ t : Mx, t.nrm.raw = t.pols
  | .mk k r p ks => by
    rw [Mx.nrm, Mx.pols]
    by_cases h1 : k = 1
    · rw [if_pos h1, if_neg (by omega), if_neg (by omega), Mx.raw, if_neg (by omega), rawM]
    · rw [if_neg h1]
      by_cases h2 : k = 2
      · rw [if_pos h2, if_pos h2, Mx.raw, if_pos rfl]
      · rw [if_neg h2, if_neg h2]
        by_cases h3 : k = 3 ∨ k = 4
        · rw [if_pos h3, if_pos h3, Mx.raw, if_neg h2, nrmM_raw ks]
        · rw [if_neg h3, if_neg h3, Mx.raw, if_neg (by omega), rawM]
theorem nrmM_raw : ∀ l : List Mx, rawM (nrmM l) = polsM l
  | [] => by rw [nrmM, rawM, polsM]
  | t :: r => by rw [nrmM, rawM, polsM, t.nrm_raw, nrmM_raw r]
end
mutual
theorem Mx.lvl_pols : ∀ (t : Mx) (a : Int), 0 ≤ a → t.each (fun p => 0 ≤ p.nf.lv) → lvR a t.pols = max a t.lvl ∧ 0 ≤ t.lvl
  | .mk k r p ks, a, ha, h => by
    rw [Mx.each] at h
    rw [Mx.pols, Mx.lvl]
    by_cases h2 : k = 2
    · rw [if_pos h2, if_pos h2]
      exact ⟨rfl, h.1⟩
    · rw [if_neg h2, if_neg h2]
      by_cases h3 : k = 3 ∨ k = 4
      · rw [if_pos h3, if_pos h3]
        have h0 := lvlM_pols ks 0 (by omega) h.2
        have h1 := lvlM_pols ks a ha h.2
        have hm := lvlM_max ks a ha h.2
        omega
      · rw [if_neg h3, if_neg h3, lvR]
        omega
theorem lvlM_pols : ∀ (l : List Mx) (a : Int), 0 ≤ a → eachM (fun p => 0 ≤ p.nf.lv) l → lvR a (polsM l) = lvlM a l ∧ 0 ≤ lvlM a l
  | [], a, ha, _ => by rw [polsM, lvR, lvlM]; exact ⟨rfl, ha⟩
  | t :: r, a, ha, h => by
    rw [eachM] at h
    rw [polsM, lvlM, lvR_append]
    have h1 := t.lvl_pols a ha h.1
    rw [h1.1]
    exact lvlM_pols r (max a t.lvl) (by omega) h.2
theorem lvlM_max : ∀ (l : List Mx) (a : Int), 0 ≤ a → eachM (fun p => 0 ≤ p.nf.lv) l → lvlM a l = max a (lvlM 0 l)
  | [], a, ha, _ => by rw [lvlM, lvlM]; omega
  | t :: r, a, ha, h => by
    rw [eachM] at h
    rw [lvlM, lvlM]
    have h0 := t.lvl_pols a ha h.1
    have h1 := lvlM_max r (max a t.lvl) (by omega) h.2
    have h2 := lvlM_max r (max 0 t.lvl) (by omega) h.2
    omega
end
mutual
theorem Mx.nrm_lv (n : Int) (hn : 0 ≤ n) : ∀ t : Mx, t.lvl ≤ n → t.nrm.each (fun p => p.lv ≤ n)
  | .mk k r p ks, h => by
    rw [Mx.lvl] at h
    rw [Mx.nrm]
    by_cases h1 : k = 1
    · rw [if_pos h1, Mx.each, eachM]; exact ⟨hn, trivial⟩
    · rw [if_neg h1]
      by_cases h2 : k = 2
      · rw [if_pos h2] at h ⊢
        rw [Mx.each, eachM]; exact ⟨h, trivial⟩
      · rw [if_neg h2] at h ⊢
        by_cases h3 : k = 3 ∨ k = 4
        · rw [if_pos h3] at h ⊢
          rw [Mx.each]; exact ⟨hn, nrmM_lv n hn ks 0 (by omega) h⟩
        · rw [if_neg h3, Mx.each, eachM]; exact ⟨hn, trivial⟩
theorem nrmM_lv (n : Int) (hn : 0 ≤ n) : ∀ (l : List Mx) (a : Int), 0 ≤ a → lvlM a l ≤ n → eachM (fun p => p.lv ≤ n) (nrmM l)
  | [], _, _, _ => by rw [nrmM, eachM]; trivial
  | t :: r, a, ha, h => by
    rw [lvlM] at h
    have hm := lvlM_max r (max a t.lvl) (by omega) (eachM_all (fun p => p.nf_can.lv_nonneg.1) r)
    rw [nrmM, eachM]
    exact ⟨t.nrm_lv n hn (by omega), nrmM_lv n hn r (max a t.lvl) (by omega) h⟩
end
/-- The level of a matrix is that of its normal form's polynomials. -/
theorem Mx.lvl_nrm (t : Mx) : lvR 0 t.nrm.raw = t.lvl := by
  have h := t.lvl_pols 0 (by omega) (t.each_all fun p => p.nf_can.lv_nonneg.1)
  rw [t.nrm_raw, h.1]; omega
mutual
theorem Mx.small_each : ∀ t : Mx, t.small → t.each (fun p => p.sz ≤ 40 ∧ p.dm ≤ 4)
  | .mk _ _ p ks, h => by rw [Mx.small] at h; rw [Mx.each]; exact ⟨h.1, mxSmall_each ks h.2⟩
theorem mxSmall_each : ∀ l : List Mx, mxSmall l → eachM (fun p => p.sz ≤ 40 ∧ p.dm ≤ 4) l
  | [], _ => by rw [eachM]; trivial
  | t :: r, h => by rw [mxSmall] at h; rw [eachM]; exact ⟨t.small_each h.1, mxSmall_each r h.2⟩
end
/-- What is known of a small matrix's polynomials in normal form. -/
theorem Mx.pols_small {t : Mx} (hs : t.small) (hd : t.each Pl.dig) : ∀ p ∈ t.pols, p.Can ∧ p.sz ≤ 3111696 ∧ p.dm ≤ 5 := by
  intro p hp
  obtain ⟨p0, ⟨⟨hsz, hdm⟩, hdg⟩, rfl⟩ := t.pols_of (t.each_and (t.small_each hs) hd) p hp
  have e1 := Pl.nf_sz p0
  have e2 := Pl.nf_dm p0 hdg (by omega)
  have e3 : (p0.sz + 2) ^ 4 ≤ 42 ^ 4 := Nat.pow_le_pow_left (by omega) 4
  have e4 : (42 : Nat) ^ 4 = 3111696 := by decide
  exact ⟨p0.nf_can, by omega, by omega⟩
theorem Mx.nrm_small {t : Mx} (hs : t.small) (hd : t.each Pl.dig) : t.nrm.each (fun p => p.sz ≤ 3111696 ∧ p.dm ≤ 5) := by
  refine t.nrm_each ⟨by decide, by decide⟩ (Mx.each_mono (fun p hp => ?_) t (t.each_and (t.small_each hs) hd))
  obtain ⟨⟨hsz, hdm⟩, hdg⟩ := hp
  have e1 := Pl.nf_sz p
  have e2 := Pl.nf_dm p hdg (by omega)
  have e3 : (p.sz + 2) ^ 4 ≤ 42 ^ 4 := Nat.pow_le_pow_left (by omega) 4
  have e4 : (42 : Nat) ^ 4 = 3111696 := by decide
  exact ⟨by omega, by omega⟩
end Go.Proofs.YtbanhcaahabboaaGreatDoor

/- Law 38: PrenexPolys answers true. -/
namespace Go.Proofs.YtbanhcaahabboaaGreatDoor
open Go.RowKit

theorem rpol_any {q : Nat → Prop} (t : Mx) (v : Value) (w : World) (hbig : t.sz ≤ 1000000) (h : MxV w q t v) : Calls Tryz.prog 21 #[v] w (RetAt w t.raw w) := rpol_ih w q (t.sz + 1) t v w (Nat.lt_succ_self _) hbig h (Ext.refl w)

set_option maxRecDepth 100000 in
set_option maxHeartbeats 8000000 in
theorem lawPolys_any {w : World} {q1 q2 : Nat → Prop} (t u : Mx) (v v' : Value) (h : MxV w q1 t v) (h' : MxV w q2 u v') : Calls Tryz.prog 4 #[v, v'] w (RetB true w) := by
  have HT := Lib.hid h
  have HU := Lib.hid h'
  obtain ⟨A0, n0, c0, A, n1, c1, K, c, rfl, -⟩ := h.open_
  obtain ⟨B0, m0, d0, B, m1, d1, K', d, rfl, -⟩ := h'.open_
  clear h h'
  unfold mxV
  unfold mxV at HT HU
  obtain ⟨W, hW⟩ : ∃ W, (w.alloc (.cells #[.int .i64 t.kind, .int .i64 t.rel, .int .i64 t.p.lv, .bool t.p.neg, .slice A0 n0 c0, .slice A n1 c1, .slice K t.ks.length c] 34)).alloc (.cells #[.int .i64 u.kind, .int .i64 u.rel, .int .i64 u.p.lv, .bool u.p.neg, .slice B0 m0 d0, .slice B m1 d1, .slice K' u.ks.length d] 34) = W := ⟨_, rfl⟩
  have hWx : Ext w W := by rw [← hW]; exact ((Ext.refl w).alloc _).alloc _
  have hWs : w.heap.size + 1 < W.heap.size := by rw [← hW]; simp
  have hbx : Box7 W w.heap.size t (.slice A0 n0 c0) (.slice A n1 c1) (.slice K t.ks.length c) := by rw [← hW]; exact (Box7.new w t _ _ _ _).ext ((Ext.refl _).alloc _) (by simp)
  have hby : Box7 W (w.heap.size + 1) u (.slice B0 m0 d0) (.slice B m1 d1) (.slice K' u.ks.length d) := by
    rw [← hW]
    have h1 := Box7.new (w.alloc (.cells #[.int .i64 t.kind, .int .i64 t.rel, .int .i64 t.p.lv, .bool t.p.neg, .slice A0 n0 c0, .slice A n1 c1, .slice K t.ks.length c] 34)) u (.slice B0 m0 d0) (.slice B m1 d1) (.slice K' u.ks.length d) 34
    simpa using h1
  have HBX := Lib.hid hbx
  have HBY := Lib.hid hby
  have HWX := Lib.hid hWx
  clear hWx hbx hby
  go_enter Tryz.func4, Tryz.ntmps4
  go_wp2_with fail
  clear hW
  refine (awake38_any _).mono ?_
  rintro e w1 ⟨rfl, x1⟩
  have hz1 := x1.size
  obtain ⟨a0, a1, a2, a3, a4, a5, a6⟩ := HBX.out.ext x1 (by omega)
  have X1 := Lib.hid (HWX.out.trans x1)
  have Y1 := Lib.hid x1
  have HFE := Lib.hid (fewMx_any 80 (by omega) t _ w1 (HT.out.ext (HWX.out.trans x1)))
  clear x1
  go_wp2_with fail
  clear a0 a1 a2 a3 a4 a5 a6
  refine HFE.out.mono ?_
  rintro e w2 ⟨rfl, x2⟩
  have hz2 := x2.size
  have X2 := Lib.hid (X1.out.trans x2)
  have Y2 := Lib.hid (Y1.out.trans x2)
  clear x2 HFE
  by_cases hf : t.few 80 = true
  case neg =>
    have hf' : t.few 80 = false := by simpa using hf
    rw [hf']
    clear hf hf'
    go_wp2_with fail
    refine (awake38_any _).mono ?_
    rintro e w3 ⟨rfl, x3⟩
    have X3 := Lib.hid (X2.out.trans x3)
    clear x3
    go_wp2_with fail
    go_ret
    exact ⟨rfl, X3.out⟩
  rw [hf]
  obtain ⟨b0, b1, b2, b3, b4, b5, b6⟩ := HBY.out.ext Y2.out (by omega)
  have HFU := Lib.hid (fewMx_any 80 (by omega) u _ w2 (HU.out.ext X2.out))
  have HFF := Lib.hid hf
  clear hf
  go_wp2_with fail
  clear b0 b1 b2 b3 b4 b5 b6
  refine HFU.out.mono ?_
  rintro e w3 ⟨rfl, x3⟩
  have hz3 := x3.size
  have X3 := Lib.hid (X2.out.trans x3)
  have Y3 := Lib.hid (Y2.out.trans x3)
  clear x3 HFU
  by_cases hg : u.few 80 = true
  case neg =>
    have hg' : u.few 80 = false := by simpa using hg
    rw [hg']
    clear hg hg'
    go_wp2_with fail
    refine (awake38_any _).mono ?_
    rintro e w4 ⟨rfl, x4⟩
    have X4 := Lib.hid (X3.out.trans x4)
    clear x4
    go_wp2_with fail
    go_ret
    exact ⟨rfl, X4.out⟩
  rw [hg]
  obtain ⟨hsz, hsm⟩ := Mx.few_le HFF.out
  obtain ⟨hszu, hsmu⟩ := Mx.few_le hg
  have hdig := HT.out.dig
  have hdigu := HU.out.dig
  have HSM := Lib.hid hsm
  have HSMU := Lib.hid hsmu
  have HDG := Lib.hid hdig
  have HDU := Lib.hid hdigu
  have HNB : Hid (t.nrm.each BigP) := Lib.hid (Mx.each_mono (fun p hp => ⟨by have := hp.1; omega, by have := hp.2; omega⟩) _ (Mx.nrm_small hsm hdig))
  have HUB : Hid (u.each BigP) := Lib.hid (Mx.each_mono (fun p hp => ⟨by have := hp.1; omega, by have := hp.2; omega⟩) _ (u.small_each hsmu))
  have HNS : Hid (t.nrm.each (fun p => p.sz ≤ 1099511627776)) := Lib.hid (Mx.each_mono (fun p hp => by have := hp.1; omega) _ (Mx.nrm_small hsm hdig))
  have HPF := Lib.hid (Mx.pols_small hsm hdig)
  have hpl : t.pols.length ≤ 80 := Nat.le_trans t.pols_len hsz
  have hnsz := t.nrm_sz
  have HNM := Lib.hid (mnorm_any t _ w3 (by omega) hsm (HT.out.ext X3.out))
  obtain ⟨a0, a1, a2, a3, a4, a5, a6⟩ := HBX.out.ext Y3.out (by omega)
  clear hg hdig hdigu hsm hsmu HFF
  go_wp2_with fail
  clear a0 a1 a2 a3 a4 a5 a6
  refine HNM.out.mono ?_
  rintro e w4 ⟨nv, rfl, hnv, x4⟩
  have HN0 := Lib.hid hnv
  obtain ⟨E0, i0, f0, E, i1, f1, J, f, rfl, -⟩ := hnv.open_
  have hz4 := x4.size
  obtain ⟨V, hV⟩ : ∃ V, w4.alloc (.cells #[.int .i64 t.nrm.kind, .int .i64 t.nrm.rel, .int .i64 t.nrm.p.lv, .bool t.nrm.p.neg, .slice E0 i0 f0, .slice E i1 f1, .slice J t.nrm.ks.length f] 34) = V := ⟨_, rfl⟩
  have hVx : Ext w4 V := by rw [← hV]; exact (Ext.refl _).alloc _
  have hVs : w4.heap.size < V.heap.size := by rw [← hV]; simp
  have hbn : Box7 V w4.heap.size t.nrm (.slice E0 i0 f0) (.slice E i1 f1) (.slice J t.nrm.ks.length f) := by rw [← hV]; exact Box7.new w4 t.nrm _ _ _ _
  have X4 := Lib.hid (X3.out.trans (x4.trans hVx))
  have Y4 := Lib.hid (Y3.out.trans (x4.trans hVx))
  have HNV := Lib.hid (HN0.out.ext hVx)
  unfold mxV at HNV
  have HSS : Hid (∀ W2, Ext V W2 → (Ext V W2 ∧ W2.cell? ⟨w.heap.size, 0, none⟩ = some (.int .i64 t.kind) ∧ W2.cell? ⟨w.heap.size, 1, none⟩ = some (.int .i64 t.rel) ∧ W2.cell? ⟨w.heap.size, 2, none⟩ = some (.int .i64 t.p.lv) ∧ W2.cell? ⟨w.heap.size, 3, none⟩ = some (.bool t.p.neg) ∧ W2.cell? ⟨w.heap.size, 4, none⟩ = some (.slice A0 n0 c0) ∧ W2.cell? ⟨w.heap.size, 5, none⟩ = some (.slice A n1 c1) ∧ W2.cell? ⟨w.heap.size, 6, none⟩ = some (.slice K t.ks.length c) ∧ W2.cell? ⟨w.heap.size + 1, 0, none⟩ = some (.int .i64 u.kind) ∧ W2.cell? ⟨w.heap.size + 1, 1, none⟩ = some (.int .i64 u.rel) ∧ W2.cell? ⟨w.heap.size + 1, 2, none⟩ = some (.int .i64 u.p.lv) ∧ W2.cell? ⟨w.heap.size + 1, 3, none⟩ = some (.bool u.p.neg) ∧ W2.cell? ⟨w.heap.size + 1, 4, none⟩ = some (.slice B0 m0 d0) ∧ W2.cell? ⟨w.heap.size + 1, 5, none⟩ = some (.slice B m1 d1) ∧ W2.cell? ⟨w.heap.size + 1, 6, none⟩ = some (.slice K' u.ks.length d) ∧ W2.cell? ⟨w4.heap.size, 0, none⟩ = some (.int .i64 t.nrm.kind) ∧ W2.cell? ⟨w4.heap.size, 1, none⟩ = some (.int .i64 t.nrm.rel) ∧ W2.cell? ⟨w4.heap.size, 2, none⟩ = some (.int .i64 t.nrm.p.lv) ∧ W2.cell? ⟨w4.heap.size, 3, none⟩ = some (.bool t.nrm.p.neg) ∧ W2.cell? ⟨w4.heap.size, 4, none⟩ = some (.slice E0 i0 f0) ∧ W2.cell? ⟨w4.heap.size, 5, none⟩ = some (.slice E i1 f1) ∧ W2.cell? ⟨w4.heap.size, 6, none⟩ = some (.slice J t.nrm.ks.length f))) := by
    have : ∀ W2, Ext V W2 → (Ext V W2 ∧ W2.cell? ⟨w.heap.size, 0, none⟩ = some (.int .i64 t.kind) ∧ W2.cell? ⟨w.heap.size, 1, none⟩ = some (.int .i64 t.rel) ∧ W2.cell? ⟨w.heap.size, 2, none⟩ = some (.int .i64 t.p.lv) ∧ W2.cell? ⟨w.heap.size, 3, none⟩ = some (.bool t.p.neg) ∧ W2.cell? ⟨w.heap.size, 4, none⟩ = some (.slice A0 n0 c0) ∧ W2.cell? ⟨w.heap.size, 5, none⟩ = some (.slice A n1 c1) ∧ W2.cell? ⟨w.heap.size, 6, none⟩ = some (.slice K t.ks.length c) ∧ W2.cell? ⟨w.heap.size + 1, 0, none⟩ = some (.int .i64 u.kind) ∧ W2.cell? ⟨w.heap.size + 1, 1, none⟩ = some (.int .i64 u.rel) ∧ W2.cell? ⟨w.heap.size + 1, 2, none⟩ = some (.int .i64 u.p.lv) ∧ W2.cell? ⟨w.heap.size + 1, 3, none⟩ = some (.bool u.p.neg) ∧ W2.cell? ⟨w.heap.size + 1, 4, none⟩ = some (.slice B0 m0 d0) ∧ W2.cell? ⟨w.heap.size + 1, 5, none⟩ = some (.slice B m1 d1) ∧ W2.cell? ⟨w.heap.size + 1, 6, none⟩ = some (.slice K' u.ks.length d) ∧ W2.cell? ⟨w4.heap.size, 0, none⟩ = some (.int .i64 t.nrm.kind) ∧ W2.cell? ⟨w4.heap.size, 1, none⟩ = some (.int .i64 t.nrm.rel) ∧ W2.cell? ⟨w4.heap.size, 2, none⟩ = some (.int .i64 t.nrm.p.lv) ∧ W2.cell? ⟨w4.heap.size, 3, none⟩ = some (.bool t.nrm.p.neg) ∧ W2.cell? ⟨w4.heap.size, 4, none⟩ = some (.slice E0 i0 f0) ∧ W2.cell? ⟨w4.heap.size, 5, none⟩ = some (.slice E i1 f1) ∧ W2.cell? ⟨w4.heap.size, 6, none⟩ = some (.slice J t.nrm.ks.length f)) := fun W2 hx2 => by
      obtain ⟨a0, a1, a2, a3, a4, a5, a6⟩ := HBX.out.ext (Y4.out.trans hx2) (by omega)
      obtain ⟨b0, b1, b2, b3, b4, b5, b6⟩ := HBY.out.ext (Y4.out.trans hx2) (by omega)
      obtain ⟨e0, e1, e2, e3, e4, e5, e6⟩ := hbn.ext hx2 (by omega)
      exact ⟨hx2, a0, a1, a2, a3, a4, a5, a6, b0, b1, b2, b3, b4, b5, b6, e0, e1, e2, e3, e4, e5, e6⟩
    exact this
  have HPO := Lib.hid (fun W' (hx : Ext V W') => pols_any t _ W' (by omega) HSM.out (HT.out.ext (X4.out.trans hx)))
  have HRP := Lib.hid (fun W' (hx : Ext V W') => rpol_any t.nrm _ W' (by omega) (HNV.out.ext hx))
  have HLE := Lib.hid (fun W' (hx : Ext V W') => mlvl_any t _ W' (by omega) HSM.out (HT.out.ext (X4.out.trans hx)))
  have HRL : Hid (∀ W', Ext V W' → Calls Tryz.prog 23 #[.agg #[.int .i64 t.nrm.kind, .int .i64 t.nrm.rel, .int .i64 t.nrm.p.lv, .bool t.nrm.p.neg, .slice E0 i0 f0, .slice E i1 f1, .slice J t.nrm.ks.length f]] W' (RetI t.lvl W')) := Lib.hid (fun W' (hx : Ext V W') => by
    have h1 := refLev_any t.nrm _ W' (by omega) (HNV.out.ext hx)
    rw [t.lvl_nrm] at h1
    exact h1)
  have HSA := Lib.hid (fun W' (hx : Ext V W') => msame_any t u _ _ (by omega) (by omega) HSM.out HUB.out (HT.out.ext (X4.out.trans hx)) (HU.out.ext (X4.out.trans hx)))
  have HSN : Hid (∀ W', Ext V W' → Calls Tryz.prog 25 #[.agg #[.int .i64 t.kind, .int .i64 t.rel, .int .i64 t.p.lv, .bool t.p.neg, .slice A0 n0 c0, .slice A n1 c1, .slice K t.ks.length c], .agg #[.int .i64 t.nrm.kind, .int .i64 t.nrm.rel, .int .i64 t.nrm.p.lv, .bool t.nrm.p.neg, .slice E0 i0 f0, .slice E i1 f1, .slice J t.nrm.ks.length f]] W' (RetB true W')) := Lib.hid (fun W' (hx : Ext V W') => by
    have h1 := msame_any t t.nrm _ _ (by omega) (by omega) HSM.out HNB.out (HT.out.ext (X4.out.trans hx)) (HNV.out.ext hx)
    rw [t.nrm_nrm, eqB_eq rfl] at h1
    exact h1)
  have HSU : Hid (∀ W', Ext V W' → Calls Tryz.prog 25 #[.agg #[.int .i64 u.kind, .int .i64 u.rel, .int .i64 u.p.lv, .bool u.p.neg, .slice B0 m0 d0, .slice B m1 d1, .slice K' u.ks.length d], .agg #[.int .i64 u.kind, .int .i64 u.rel, .int .i64 u.p.lv, .bool u.p.neg, .slice B0 m0 d0, .slice B m1 d1, .slice K' u.ks.length d]] W' (RetB true W')) := Lib.hid (fun W' (hx : Ext V W') => by
    have h1 := msame_any u u _ _ (by omega) (by omega) HSMU.out HUB.out (HU.out.ext (X4.out.trans hx)) (HU.out.ext (X4.out.trans hx))
    rw [eqB_eq rfl] at h1
    exact h1)
  have HNU := Lib.hid (fun W' (hx : Ext V W') => mnorm_any u _ W' (by omega) HSMU.out (HU.out.ext (X4.out.trans hx)))
  have HEQ := Lib.hid (fun W' (hx : Ext V W') q v'' (hv : MxV W' q u.nrm v'') => meq_any t.nrm u.nrm _ v'' (by omega) HNS.out (HNV.out.ext hx) hv)
  rw [t.nrm_raw] at HRP
  clear hnv x4 hVx HNM HN0 hbn
  have y0 : Ext V V.drew := (Ext.refl V).drew
  have Y0 := Lib.hid y0
  clear y0
  unfold mxV
  go_wp2_with fail
  clear hV
  clear HBX HBY HT HU HNV HSM HSMU HDG HDU HNB HUB HNS Y1 Y2 Y3 Y4
  have HPFF : Hid (∀ p ∈ t.pols, p.Can ∧ p.sz ≤ 3111696 ∧ p.dm ≤ 5) := HPF
  clear HPF
  generalize t.pols = ps at *
  generalize t.lvl = lv at *
  go_region_held3 (fun W2 => Ext V W2 ∧ W2.cell? ⟨w.heap.size, 0, none⟩ = some (.int .i64 t.kind) ∧ W2.cell? ⟨w.heap.size, 1, none⟩ = some (.int .i64 t.rel) ∧ W2.cell? ⟨w.heap.size, 2, none⟩ = some (.int .i64 t.p.lv) ∧ W2.cell? ⟨w.heap.size, 3, none⟩ = some (.bool t.p.neg) ∧ W2.cell? ⟨w.heap.size, 4, none⟩ = some (.slice A0 n0 c0) ∧ W2.cell? ⟨w.heap.size, 5, none⟩ = some (.slice A n1 c1) ∧ W2.cell? ⟨w.heap.size, 6, none⟩ = some (.slice K t.ks.length c) ∧ W2.cell? ⟨w.heap.size + 1, 0, none⟩ = some (.int .i64 u.kind) ∧ W2.cell? ⟨w.heap.size + 1, 1, none⟩ = some (.int .i64 u.rel) ∧ W2.cell? ⟨w.heap.size + 1, 2, none⟩ = some (.int .i64 u.p.lv) ∧ W2.cell? ⟨w.heap.size + 1, 3, none⟩ = some (.bool u.p.neg) ∧ W2.cell? ⟨w.heap.size + 1, 4, none⟩ = some (.slice B0 m0 d0) ∧ W2.cell? ⟨w.heap.size + 1, 5, none⟩ = some (.slice B m1 d1) ∧ W2.cell? ⟨w.heap.size + 1, 6, none⟩ = some (.slice K' u.ks.length d) ∧ W2.cell? ⟨w4.heap.size, 0, none⟩ = some (.int .i64 t.nrm.kind) ∧ W2.cell? ⟨w4.heap.size, 1, none⟩ = some (.int .i64 t.nrm.rel) ∧ W2.cell? ⟨w4.heap.size, 2, none⟩ = some (.int .i64 t.nrm.p.lv) ∧ W2.cell? ⟨w4.heap.size, 3, none⟩ = some (.bool t.nrm.p.neg) ∧ W2.cell? ⟨w4.heap.size, 4, none⟩ = some (.slice E0 i0 f0) ∧ W2.cell? ⟨w4.heap.size, 5, none⟩ = some (.slice E i1 f1) ∧ W2.cell? ⟨w4.heap.size, 6, none⟩ = some (.slice J t.nrm.ks.length f))
    (first | with_reducible exact HSS.out _ Y0.out | with_reducible exact HSS.out _ y1 | with_reducible exact HSS.out _ y2)
    (first
      | (go_at_call 20
         refine (HPO.out _ Y0.out).mono ?_
         rintro e v1 ⟨tv, rfl, hq1, x1⟩
         obtain ⟨PA, pc, rfl, -⟩ := hq1.len
         have y1 : Ext V v1 := Ext.trans Y0.out x1)
      | (go_at_call 21
         refine (HRP.out _ y1).mono ?_
         rintro e v2 ⟨QA, qc, rfl, hq2, x2⟩
         have y2 : Ext V v2 := Ext.trans y1 x2))
  all_goals
    have Q1 := Lib.hid (hq1.at_.ext x2)
    have Q2 := Lib.hid hq2
    have Y2 := Lib.hid y2
    obtain ⟨w5, hw5⟩ : ∃ w5, w5 = v2 := ⟨v2, rfl⟩
    subst hw5
    clear hq1 hq2 y1 y2 x1 x2 Y0 HPO HRP
    go_wp2_with fail
    have yy0 : Ext V w5.drew := Y2.out.drew
    have YY0 := Lib.hid yy0
    clear yy0
    go_region_held3 (fun W2 => Ext V W2 ∧ W2.cell? ⟨w.heap.size, 0, none⟩ = some (.int .i64 t.kind) ∧ W2.cell? ⟨w.heap.size, 1, none⟩ = some (.int .i64 t.rel) ∧ W2.cell? ⟨w.heap.size, 2, none⟩ = some (.int .i64 t.p.lv) ∧ W2.cell? ⟨w.heap.size, 3, none⟩ = some (.bool t.p.neg) ∧ W2.cell? ⟨w.heap.size, 4, none⟩ = some (.slice A0 n0 c0) ∧ W2.cell? ⟨w.heap.size, 5, none⟩ = some (.slice A n1 c1) ∧ W2.cell? ⟨w.heap.size, 6, none⟩ = some (.slice K t.ks.length c) ∧ W2.cell? ⟨w.heap.size + 1, 0, none⟩ = some (.int .i64 u.kind) ∧ W2.cell? ⟨w.heap.size + 1, 1, none⟩ = some (.int .i64 u.rel) ∧ W2.cell? ⟨w.heap.size + 1, 2, none⟩ = some (.int .i64 u.p.lv) ∧ W2.cell? ⟨w.heap.size + 1, 3, none⟩ = some (.bool u.p.neg) ∧ W2.cell? ⟨w.heap.size + 1, 4, none⟩ = some (.slice B0 m0 d0) ∧ W2.cell? ⟨w.heap.size + 1, 5, none⟩ = some (.slice B m1 d1) ∧ W2.cell? ⟨w.heap.size + 1, 6, none⟩ = some (.slice K' u.ks.length d) ∧ W2.cell? ⟨w4.heap.size, 0, none⟩ = some (.int .i64 t.nrm.kind) ∧ W2.cell? ⟨w4.heap.size, 1, none⟩ = some (.int .i64 t.nrm.rel) ∧ W2.cell? ⟨w4.heap.size, 2, none⟩ = some (.int .i64 t.nrm.p.lv) ∧ W2.cell? ⟨w4.heap.size, 3, none⟩ = some (.bool t.nrm.p.neg) ∧ W2.cell? ⟨w4.heap.size, 4, none⟩ = some (.slice E0 i0 f0) ∧ W2.cell? ⟨w4.heap.size, 5, none⟩ = some (.slice E i1 f1) ∧ W2.cell? ⟨w4.heap.size, 6, none⟩ = some (.slice J t.nrm.ks.length f))
      (first | with_reducible exact HSS.out _ YY0.out | with_reducible exact HSS.out _ z1 | with_reducible exact HSS.out _ z2)
      (first
        | (go_at_call 22
           refine (HLE.out _ YY0.out).mono ?_
           rintro e v1 ⟨rfl, x1⟩
           have z1 : Ext V v1 := Ext.trans YY0.out x1)
        | (go_at_call 23
           refine (HRL.out _ z1).mono ?_
           rintro e v2 ⟨rfl, x2⟩
           have z2 : Ext V v2 := Ext.trans z1 x2))
    all_goals
      have xx : Ext w5 v2 := Ext.trans (Ext.trans ((Ext.refl w5).drew) x1) x2
      have Z2 := Lib.hid z2
      have R1 := Lib.hid (Q1.out.ext xx)
      have R2 := Lib.hid (Q2.out.ext xx)
      obtain ⟨w6, hw6⟩ : ∃ w6, w6 = v2 := ⟨v2, rfl⟩
      subst hw6
      clear z1 z2 x1 x2 xx YY0 HLE HRL Q1 Q2 Y2
      go_wp2_with fail
      go_loopw [42] (fun iv wr => ∃ k : Nat, k ≤ ps.length ∧ iv = .int .i64 k ∧ Hid (Ext w6 wr)) (fun iv _ => ps.length - (intOf iv).toNat)
      case atStart => exact ⟨0, Nat.zero_le _, rfl, Lib.hid (Ext.refl _)⟩
      case round =>
        obtain ⟨k, hk, rfl, HX⟩ := hrel
        by_cases hlt : k < ps.length
        · obtain ⟨ad, C0, j0, f0, C1, j1, f1, rfl, hadb, hnd, hkt⟩ := PlsAt.kid R1.out k hlt
          obtain ⟨ad', D0, k0, g0, D1, k1, g1, rfl, hadb', hnd', hkt'⟩ := PlsAt.kid R2.out k hlt
          have HNA := Lib.hid (hnd.ext HX.out (by rw [block_of_add]; exact hadb))
          have HNB := Lib.hid (hnd'.ext HX.out (by rw [block_of_add]; exact hadb'))
          have hb1 : ad.block < wr.heap.size := Nat.lt_of_lt_of_le hadb HX.out.size
          have hb2 : ad'.block < wr.heap.size := Nat.lt_of_lt_of_le hadb' HX.out.size
          have hps := (HPFF.out _ (List.getElem_mem hlt)).2.1
          have hsp : ∀ W', Ext wr W' → Calls Tryz.prog 24 #[plV ps[k] (.slice C0 j0 f0) (.slice C1 j1 f1), plV ps[k] (.slice D0 k0 g0) (.slice D1 k1 g1)] W' (RetB true W') := fun W' hx => by
            have h1 := sp_any ps[k] ps[k] _ _ (by omega) (hkt.ext (HX.out.trans hx)) (hkt'.ext (HX.out.trans hx))
            rw [eqB_eq rfl] at h1
            exact h1
          unfold plV at hsp
          have HSP := Lib.hid hsp
          clear hsp hps hkt hkt' hnd hnd'
          generalize ps[k] = pk at *
          have HS4 : Hid (∀ W2, Ext wr W2 → (Ext wr W2 ∧ W2.cell? (Addr.add ad (k * 4)) = some (.int .i64 pk.lv) ∧ W2.cell? ⟨(Addr.add ad (k * 4)).block, (Addr.add ad (k * 4)).off + 1, none⟩ = some (.bool pk.neg) ∧ W2.cell? ⟨(Addr.add ad (k * 4)).block, (Addr.add ad (k * 4)).off + 2, none⟩ = some (.slice C0 j0 f0) ∧ W2.cell? ⟨(Addr.add ad (k * 4)).block, (Addr.add ad (k * 4)).off + 3, none⟩ = some (.slice C1 j1 f1) ∧ W2.cell? (Addr.add ad' (k * 4)) = some (.int .i64 pk.lv) ∧ W2.cell? ⟨(Addr.add ad' (k * 4)).block, (Addr.add ad' (k * 4)).off + 1, none⟩ = some (.bool pk.neg) ∧ W2.cell? ⟨(Addr.add ad' (k * 4)).block, (Addr.add ad' (k * 4)).off + 2, none⟩ = some (.slice D0 k0 g0) ∧ W2.cell? ⟨(Addr.add ad' (k * 4)).block, (Addr.add ad' (k * 4)).off + 3, none⟩ = some (.slice D1 k1 g1))) := by
            have : ∀ W2, Ext wr W2 → (Ext wr W2 ∧ W2.cell? (Addr.add ad (k * 4)) = some (.int .i64 pk.lv) ∧ W2.cell? ⟨(Addr.add ad (k * 4)).block, (Addr.add ad (k * 4)).off + 1, none⟩ = some (.bool pk.neg) ∧ W2.cell? ⟨(Addr.add ad (k * 4)).block, (Addr.add ad (k * 4)).off + 2, none⟩ = some (.slice C0 j0 f0) ∧ W2.cell? ⟨(Addr.add ad (k * 4)).block, (Addr.add ad (k * 4)).off + 3, none⟩ = some (.slice C1 j1 f1) ∧ W2.cell? (Addr.add ad' (k * 4)) = some (.int .i64 pk.lv) ∧ W2.cell? ⟨(Addr.add ad' (k * 4)).block, (Addr.add ad' (k * 4)).off + 1, none⟩ = some (.bool pk.neg) ∧ W2.cell? ⟨(Addr.add ad' (k * 4)).block, (Addr.add ad' (k * 4)).off + 2, none⟩ = some (.slice D0 k0 g0) ∧ W2.cell? ⟨(Addr.add ad' (k * 4)).block, (Addr.add ad' (k * 4)).off + 3, none⟩ = some (.slice D1 k1 g1)) := fun W2 hx2 => by
              obtain ⟨a0, a1, a2, a3⟩ := HNA.out.ext hx2 (by rw [block_of_add]; exact hb1)
              obtain ⟨a0', a1', a2', a3'⟩ := HNB.out.ext hx2 (by rw [block_of_add]; exact hb2)
              exact ⟨hx2, a0, a1, a2, a3, a0', a1', a2', a3'⟩
            exact this
          have yw : Ext wr wr.drew := (Ext.refl wr).drew
          have YW := Lib.hid yw
          clear yw hadb hadb'
          go_upto_region 10 with fail
          go_region_held3 (fun W2 => Ext wr W2 ∧ W2.cell? (Addr.add ad (k * 4)) = some (.int .i64 pk.lv) ∧ W2.cell? ⟨(Addr.add ad (k * 4)).block, (Addr.add ad (k * 4)).off + 1, none⟩ = some (.bool pk.neg) ∧ W2.cell? ⟨(Addr.add ad (k * 4)).block, (Addr.add ad (k * 4)).off + 2, none⟩ = some (.slice C0 j0 f0) ∧ W2.cell? ⟨(Addr.add ad (k * 4)).block, (Addr.add ad (k * 4)).off + 3, none⟩ = some (.slice C1 j1 f1) ∧ W2.cell? (Addr.add ad' (k * 4)) = some (.int .i64 pk.lv) ∧ W2.cell? ⟨(Addr.add ad' (k * 4)).block, (Addr.add ad' (k * 4)).off + 1, none⟩ = some (.bool pk.neg) ∧ W2.cell? ⟨(Addr.add ad' (k * 4)).block, (Addr.add ad' (k * 4)).off + 2, none⟩ = some (.slice D0 k0 g0) ∧ W2.cell? ⟨(Addr.add ad' (k * 4)).block, (Addr.add ad' (k * 4)).off + 3, none⟩ = some (.slice D1 k1 g1))
            (first | with_reducible exact HS4.out _ YW.out | with_reducible exact HS4.out _ z1)
            ((go_at_call 24
              refine (HSP.out _ YW.out).mono ?_
              rintro e v1 ⟨rfl, x1⟩
              have z1 : Ext wr v1 := Ext.trans YW.out x1))
          all_goals
            have XN := Lib.hid (HX.out.trans z1)
            clear z1 x1 HSP HS4 YW
            go_wp2_with fail
            go_roundw
            case rel => exact ⟨k + 1, by omega, by go_num, XN⟩
            case measure => simp [intOf]; omega
        · have ZR := Lib.hid (Z2.out.trans HX.out)
          have yw : Ext V wr.drew := ZR.out.drew
          have YW := Lib.hid yw
          clear yw HX R1 R2 HPFF
          generalize eqB t.nrm u.nrm = bb at *
          go_upto_region 13 with fail
          go_region_held3 (fun W2 => Ext V W2 ∧ W2.cell? ⟨w.heap.size, 0, none⟩ = some (.int .i64 t.kind) ∧ W2.cell? ⟨w.heap.size, 1, none⟩ = some (.int .i64 t.rel) ∧ W2.cell? ⟨w.heap.size, 2, none⟩ = some (.int .i64 t.p.lv) ∧ W2.cell? ⟨w.heap.size, 3, none⟩ = some (.bool t.p.neg) ∧ W2.cell? ⟨w.heap.size, 4, none⟩ = some (.slice A0 n0 c0) ∧ W2.cell? ⟨w.heap.size, 5, none⟩ = some (.slice A n1 c1) ∧ W2.cell? ⟨w.heap.size, 6, none⟩ = some (.slice K t.ks.length c) ∧ W2.cell? ⟨w.heap.size + 1, 0, none⟩ = some (.int .i64 u.kind) ∧ W2.cell? ⟨w.heap.size + 1, 1, none⟩ = some (.int .i64 u.rel) ∧ W2.cell? ⟨w.heap.size + 1, 2, none⟩ = some (.int .i64 u.p.lv) ∧ W2.cell? ⟨w.heap.size + 1, 3, none⟩ = some (.bool u.p.neg) ∧ W2.cell? ⟨w.heap.size + 1, 4, none⟩ = some (.slice B0 m0 d0) ∧ W2.cell? ⟨w.heap.size + 1, 5, none⟩ = some (.slice B m1 d1) ∧ W2.cell? ⟨w.heap.size + 1, 6, none⟩ = some (.slice K' u.ks.length d) ∧ W2.cell? ⟨w4.heap.size, 0, none⟩ = some (.int .i64 t.nrm.kind) ∧ W2.cell? ⟨w4.heap.size, 1, none⟩ = some (.int .i64 t.nrm.rel) ∧ W2.cell? ⟨w4.heap.size, 2, none⟩ = some (.int .i64 t.nrm.p.lv) ∧ W2.cell? ⟨w4.heap.size, 3, none⟩ = some (.bool t.nrm.p.neg) ∧ W2.cell? ⟨w4.heap.size, 4, none⟩ = some (.slice E0 i0 f0) ∧ W2.cell? ⟨w4.heap.size, 5, none⟩ = some (.slice E i1 f1) ∧ W2.cell? ⟨w4.heap.size, 6, none⟩ = some (.slice J t.nrm.ks.length f))
            (first | with_reducible exact HSS.out _ YW.out | with_reducible exact HSS.out _ z1 | with_reducible exact HSS.out _ z2 | with_reducible exact HSS.out _ z3 | with_reducible exact HSS.out _ z4 | with_reducible exact HSS.out _ z5)
            (first
              | (go_at_call 25
                 (fail_if_success have _ := z1)
                 refine (HSA.out _ YW.out).mono ?_
                 rintro e v1 ⟨rfl, x1⟩
                 have z1 : Ext V v1 := Ext.trans YW.out x1)
              | (go_at_call 14
                 refine (HNU.out _ z1).mono ?_
                 rintro e v2 ⟨mv, rfl, m2, x2⟩
                 obtain ⟨G0, l0, h0, G, l1, h1, L, hh, rfl, -⟩ := id m2.open_
                 have z2 : Ext V v2 := Ext.trans z1 x2
                 unfold mxV)
              | (go_at_call 17
                 refine (HEQ.out _ z2 _ _ m2).mono ?_
                 rintro e v3 ⟨rfl, x3⟩
                 have z3 : Ext V v3 := Ext.trans z2 x3)
              | (go_at_call 25
                 (fail_if_success have _ := z4)
                 refine (HSN.out _ z3).mono ?_
                 rintro e v4 ⟨rfl, x4⟩
                 have z4 : Ext V v4 := Ext.trans z3 x4)
              | (go_at_call 25
                 refine (HSU.out _ z4).mono ?_
                 rintro e v5 ⟨rfl, x5⟩
                 have z5 : Ext V v5 := Ext.trans z4 x5))
          all_goals
            have XF := Lib.hid (X4.out.trans z5)
            clear z1 z2 z3 z4 z5 x1 x2 x3 x4 x5 m2 HSS YW
            go_wp2_with fail
            go_ret
            exact ⟨rfl, XF.out⟩
end Go.Proofs.YtbanhcaahabboaaGreatDoor

/- The last step of every law that leaves its arguments alone. -/
namespace Go.Proofs.YtbanhcaahabboaaGreatDoor
open Go.ChangeShapes Go.WideShapes Go.ChangeAt Go.RowKit

/-- A law whose call only makes new blocks: what the row asks behind the call. -/
theorem post_law {H : Type} {enc : TypeId × Value → H} {P : Program} {f : Func} {s : ChangeSpec} {apart fresh handsOn again : Bool} {W W' : World} {args : Array Value} {v : Value} {ds gs : List (DataW H)} {before pa pv : List MemPlace}
    (hW : DataW.Whole enc P f.params.toList s.vars apart W args.toList ds gs before) (hx : Ext W W')
    (hres : ∀ (b : Nat) (sp : Nat → Bool) (hd : Bool), DataW.TrodAll enc P W' b sp hd f.resultTypes.toList (v.resultList f.resultTypes.size) (s.fn H (ds ++ gs)).results [])
    (hargs : ∀ sp : Nat → Bool, (∀ p ∈ before, sp p.block = true) → DataW.TrodAll enc P W' 0 sp true f.params.toList args.toList (s.fn H (ds ++ gs)).args pa)
    (hvars : ∀ sp : Nat → Bool, (∀ p ∈ before, sp p.block = true) → DataW.TrodVars enc P W' sp s.vars (s.fn H (ds ++ gs)).vars pv) (hps : before = pa ++ pv)
    (hok : ∀ (j : Nat) (t : TypeId) (r : Value), f.resultTypes[j]? = some t → (v.resultList f.resultTypes.size)[j]? = some r → Value.okWide P W' .any 0 t r) :
    s.post enc P f apart fresh handsOn again W args v W' := by
  have low : ∀ p ∈ before, p.block < W.heap.size := fun p hp => hW.lt p hp
  have old : ∀ p ∈ before, (fun b => decide (b < W.heap.size)) p.block = true := fun p hp => by simpa using low p hp
  refine ⟨ds, gs, before, [], pa, pv, hW, hres _ _ _, hargs _ old, hvars _ old, World.keptBut_mono (fun p hp => ⟨hp, ?_⟩) (Below.frame hx (· ∈ before)), fun _ => ?_⟩
  · exact .inr (List.mem_append.1 (hps ▸ hp))
  · obtain ⟨_, _, _, _, _, hz, hn⟩ := hW
    refine ⟨hok, _, _, ([] ++ pa) ++ pv, ⟨[] ++ pa, pv, trodAll_append (hargs _ (fun _ _ => rfl)) (hres _ _ _), hvars _ (fun _ _ => rfl), rfl, fun b off hp => ?_, fun ha => ?_⟩, ?_⟩
    · have hin : MemPlace.cell b off ∈ before := by rw [hps]; simpa using hp
      rw [hx.frozen (low _ hin)]
      exact hz b off hin
    · have h := hn ha
      rw [hps] at h
      simpa using h
    · exact fun p hp _ => by rw [hps]; simpa using hp

theorem own_knob : ownKnob Tryz.prog.godebug = none := by kernel_rfl
theorem laid_out : laidOutB Tryz.prog = true := by kernel_rfl
/-- An argument reads behind the call as it did. -/
theorem arg_stays {H : Type} {enc : TypeId × Value → H} {W W' : World} {t : TypeId} (hr : Tryz.prog.readableRec t = true) (hrow : t < Tryz.prog.types.size) {v : Value} {d : DataW H} {ps : List MemPlace} (h : DataW.Trod enc Tryz.prog W 0 (fun _ => true) true t v d ps) (hx : Ext W W') (hlt : ∀ x ∈ ps, x.block < W.heap.size) {sp : Nat → Bool} (hs : ∀ x ∈ ps, sp x.block = true) : DataW.Trod enc Tryz.prog W' 0 sp true t v d ps :=
  WideElems.Trod_stays laid_out hr hrow h (fun x hx' => Below.same hx (hlt x hx')) hs
end Go.Proofs.YtbanhcaahabboaaGreatDoor
