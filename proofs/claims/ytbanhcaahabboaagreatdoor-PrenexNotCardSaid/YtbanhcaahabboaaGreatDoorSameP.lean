/- Equality of integers and of polynomials: cylinderref34.SameInt, cylinderref38.SamePoly, integer.Same, recpoly.same, Same. -/
import Derived.Test.YtbanhcaahabboaaGreatDoorMn0
import Derived.Test.YtbanhcaahabboaaGreatDoorMn9
import Derived.Test.YtbanhcaahabboaaGreatDoorMn13
import Derived.Test.YtbanhcaahabboaaGreatDoorRNorm
set_option linter.unusedSimpArgs false
set_option linter.unusedVariables false

namespace Go.Proofs.YtbanhcaahabboaaGreatDoor
open Go.RowKit

/-- Whether two things are equal. -/
noncomputable def eqB {α : Type} (a b : α) : Bool := @decide (a = b) (Classical.propDecidable _)
theorem eqB_iff {α : Type} {a b : α} : eqB a b = true ↔ a = b := by unfold eqB; exact @decide_eq_true_iff _ (Classical.propDecidable _)
theorem eqB_ne {α : Type} {a b : α} (h : a ≠ b) : eqB a b = false := by
  cases hb : eqB a b
  · rfl
  · exact absurd (eqB_iff.1 hb) h
theorem eqB_eq {α : Type} {a b : α} (h : a = b) : eqB a b = true := eqB_iff.2 h
theorem eqB_congr {α β : Type} {a b : α} {c d : β} (h : a = b ↔ c = d) : eqB a b = eqB c d := by
  by_cases hh : a = b
  · rw [eqB_eq hh, eqB_eq (h.1 hh)]
  · rw [eqB_ne hh, eqB_ne fun e => hh (h.2 e)]
theorem take_next {α : Type} {l r : List α} {k : Nat} (h : l.take k = r.take k) (hl : k < l.length) (hr : k < r.length) (he : l[k] = r[k]) : l.take (k + 1) = r.take (k + 1) := by
  rw [List.take_succ_eq_append_getElem hl, List.take_succ_eq_append_getElem hr, h, he]
theorem take_all {α : Type} {l r : List α} (h : l.length = r.length) (he : l.take l.length = r.take l.length) : l = r := by
  rw [List.take_length] at he
  rw [he, h, List.take_length]

set_option maxRecDepth 100000 in
set_option maxHeartbeats 4000000 in
theorem sameInt_any {w : World} (n1 n2 : Bool) (s1 s2 : Value) (ds es : List Nat) (h1 : NatV w s1 ds) (h2 : NatV w s2 es) : Calls Tryz.prog 64 #[.agg #[.bool n1, s1], .agg #[.bool n2, s2]] w (RetB (eqB (n1, ds) (n2, es)) w) := by
  obtain ⟨A, c, rfl, a1, a2, a3⟩ := h1
  obtain ⟨B, d, rfl, b1, b2, b3⟩ := h2
  have H1 := Lib.hid a3
  have H2 := Lib.hid b3
  clear a3 b3
  obtain ⟨W, hW⟩ : ∃ W, (w.alloc (.cells #[.bool n1, .slice A ds.length c] 28)).alloc (.cells #[.bool n2, .slice B es.length d] 28) = W := ⟨_, rfl⟩
  have hWx : Ext w W := by rw [← hW]; exact ((Ext.refl w).alloc _).alloc _
  have q0 : W.cell? ⟨w.heap.size, 0, none⟩ = some (.bool n1) := by rw [← hW]; simp [go_sem]
  have q1 : W.cell? ⟨w.heap.size, 1, none⟩ = some (.slice A ds.length c) := by rw [← hW]; simp [go_sem]
  have q2 : W.cell? ⟨w.heap.size + 1, 0, none⟩ = some (.bool n2) := by rw [← hW]; simp [go_sem]
  have q3 : W.cell? ⟨w.heap.size + 1, 1, none⟩ = some (.slice B es.length d) := by rw [← hW]; simp [go_sem]
  have HWX := Lib.hid hWx
  clear hWx
  obtain ⟨res, hres⟩ : ∃ res, eqB (n1, ds) (n2, es) = res := ⟨_, rfl⟩
  rw [hres]
  have HRES := Lib.hid hres
  clear hres
  go_enter Tryz.func64, Tryz.ntmps64
  by_cases hn : n1 = n2
  case neg =>
    have HF : Hid (res = false) := Lib.hid (HRES.out.symm.trans (eqB_ne fun e => hn (by injection e)))
    have h3 : (n1 != n2) = true := by simpa using hn
    have h4 : ((!n1) == n2) = true := by cases n1 <;> cases n2 <;> simp_all
    go_wp2_with fail
    go_ret
    exact ⟨by rw [HF.out]; rfl, HWX.out⟩
  subst hn
  have hneg : (n1 != n1) = false := by simp
  have hneg2 : ((!n1) == n1) = false := by cases n1 <;> rfl
  by_cases hl : ds.length = es.length
  case neg =>
    have HF : Hid (res = false) := Lib.hid (HRES.out.symm.trans (eqB_ne fun e => hl (by injection e with _ e; rw [e])))
    go_wp2_with fail
    go_ret
    exact ⟨by rw [HF.out]; rfl, HWX.out⟩
  have HL := Lib.hid hl
  rw [← hl] at q3 hW b1
  rw [← hl]
  clear hl
  go_wp2_with fail
  clear hW
  go_loopw [23] (fun iv wr => ∃ k n : Nat, k ≤ ds.length ∧ iv = .int .i64 k ∧ wr = W.drewN n ∧ Hid (ds.take k = es.take k)) (fun iv _ => ds.length - (intOf iv).toNat)
  case atStart => exact ⟨0, 0, Nat.zero_le _, rfl, rfl, Lib.hid (by simp)⟩
  case round =>
    obtain ⟨k, n, hk, rfl, rfl, HT⟩ := hrel
    by_cases hlt : k < ds.length
    · have hlt' : k < es.length := by have := HL.out; omega
      obtain ⟨ad, rfl, hb, hcell, hd⟩ := (H1.out.ext HWX.out).at_ k hlt
      obtain ⟨ad', rfl, hb', hcell', hd'⟩ := (H2.out.ext HWX.out).at_ k hlt'
      by_cases he : ds[k] = es[k]
      · have HT2 := Lib.hid (take_next HT.out hlt hlt' he)
        rw [← he] at hcell'
        clear he hd'
        generalize ds[k] = x at *
        go_upto_region 6 with fail
        go_quiet (fail)
        go_wp2_with fail
        exact ⟨⟨k + 1, n + nq, by omega, by go_num, rfl, HT2⟩, by simp [intOf]; omega⟩
      · have HF : Hid (res = false) := Lib.hid (HRES.out.symm.trans (eqB_ne fun e => he (by injection e with _ e; subst e; rfl)))
        generalize ds[k] = x at *
        generalize es[k] = y at *
        go_upto_region 6 with fail
        go_quiet (fail)
        go_wp2_with fail
        go_ret
        exact ⟨by rw [HF.out]; rfl, (HWX.out.drewN n).drewN nq⟩
    · have HF : Hid (res = true) := Lib.hid (HRES.out.symm.trans (eqB_eq (by
        have h1 := HT.out
        rw [show k = ds.length by omega] at h1
        rw [take_all HL.out h1])))
      go_wp2_with fail
      go_ret
      exact ⟨by rw [HF.out]; rfl, HWX.out.drewN n⟩
theorem Pl.ext_ {p q : Pl} (h1 : p.lv = q.lv) (h2 : p.neg = q.neg) (h3 : p.ds = q.ds) (h4 : p.cs = q.cs) : p = q := by
  obtain ⟨l, n, d, c⟩ := p
  obtain ⟨l', n', d', c'⟩ := q
  simp only [Pl.lv, Pl.neg, Pl.ds, Pl.cs] at h1 h2 h3 h4
  rw [h1, h2, h3, h4]
theorem Pl.Can.kid_can {p : Pl} (h : p.Can) {c : Pl} (hc : c ∈ p.cs) : c.Can := by
  obtain ⟨l, n, d, cs⟩ := p
  unfold Pl.Can at h
  rcases h with h | h
  · simp only [Pl.cs, h.2.1] at hc; cases hc
  · exact (h.2.2.2.2.2.1.mem c hc).2

def spIH (w0 : World) (n : Nat) : Prop := ∀ (p q : Pl) (v u : Value) (w : World), p.sz < n → p.sz ≤ 1099511627776 → PlV w0 (fun _ => True) p v → PlV w0 (fun _ => True) q u → Ext w0 w → Calls Tryz.prog 24 #[v, u] w (RetB (eqB p q) w)

set_option maxRecDepth 100000 in
set_option maxHeartbeats 4000000 in
theorem sp_ih (w0 : World) (n : Nat) : spIH w0 n := by
  induction n with
  | zero => intro p q v u w h; omega
  | succ n ih =>
  intro p q v u w hn hsz h h' hx0
  have IH := Lib.hid ih
  have HX0 := Lib.hid hx0
  have HSZ : Hid (∀ k (hk : k < p.cs.length), p.cs[k].sz < n ∧ p.cs[k].sz ≤ 1099511627776) := by
    have : ∀ k (hk : k < p.cs.length), p.cs[k].sz < n ∧ p.cs[k].sz ≤ 1099511627776 := fun k hk => by have := Pl.sz_kid (List.getElem_mem hk); omega
    exact this
  have hszl := p.sz_len
  obtain ⟨A0, n0, c0, A, c, rfl, hnat, hl1, hl2, h4⟩ := h.open_
  obtain ⟨B0, m0, d0, B, d, rfl, hnat', hl1', hl2', h4'⟩ := h'.open_
  have H4 := Lib.hid h4
  have H4' := Lib.hid h4'
  have HN := Lib.hid hnat
  have HN' := Lib.hid hnat'
  obtain ⟨W, hW⟩ : ∃ W, (w.alloc (.cells #[.int .i64 p.lv, .bool p.neg, .slice A0 n0 c0, .slice A p.cs.length c] 31)).alloc (.cells #[.int .i64 q.lv, .bool q.neg, .slice B0 m0 d0, .slice B q.cs.length d] 31) = W := ⟨_, rfl⟩
  have hWx : Ext w W := by rw [← hW]; exact ((Ext.refl w).alloc _).alloc _
  have hWs : W.heap.size = w.heap.size + 1 + 1 := by rw [← hW]; simp
  have hbx : Box4 W w.heap.size p (.slice A0 n0 c0) (.slice A p.cs.length c) := by rw [← hW]; exact (Box4.new w p _ _ _).ext ((Ext.refl _).alloc _) (by simp)
  have hby : Box4 W (w.heap.size + 1) q (.slice B0 m0 d0) (.slice B q.cs.length d) := by
    rw [← hW]
    have h1 := Box4.new (w.alloc (.cells #[.int .i64 p.lv, .bool p.neg, .slice A0 n0 c0, .slice A p.cs.length c] 31)) q (.slice B0 m0 d0) (.slice B q.cs.length d) 31
    simpa using h1
  have HWX := Lib.hid hWx
  have HBX := Lib.hid hbx
  have HBY := Lib.hid hby
  obtain ⟨b0, b1, b2, b3⟩ := hbx
  obtain ⟨e0, e1, e2, e3⟩ := hby
  clear h h' ih h4 h4' hx0 hnat hnat' hWx 
  obtain ⟨res, hres⟩ : ∃ res, eqB p q = res := ⟨_, rfl⟩
  rw [hres]
  have HRES := Lib.hid hres
  clear hres
  unfold plV
  go_enter Tryz.func24, Tryz.ntmps24
  by_cases hlv : p.lv = q.lv
  case neg =>
    have HF : Hid (res = false) := Lib.hid (HRES.out.symm.trans (eqB_ne fun e => hlv (by rw [e])))
    have hlv2 : (p.lv != q.lv) = true := by simpa using hlv
    go_wp2_with fail
    go_ret
    exact ⟨by rw [HF.out]; rfl, HWX.out⟩
  by_cases hl : p.cs.length = q.cs.length
  case neg =>
    have HF : Hid (res = false) := Lib.hid (HRES.out.symm.trans (eqB_ne fun e => hl (by rw [e])))
    have HL := Lib.hid hlv
    rw [← hlv] at e0 hW
    clear hlv
    rw [← HL.out]
    go_wp2_with fail
    go_ret
    exact ⟨by rw [HF.out]; rfl, HWX.out⟩
  have HLV := Lib.hid hlv
  have HL := Lib.hid hl
  rw [← hlv] at e0 hW
  rw [← hl] at e3 hW hl1' HBY
  rw [← hlv, ← hl]
  clear hlv hl
  have HSI := Lib.hid (sameInt_any p.neg q.neg _ _ p.ds q.ds (HN.out.ext (HX0.out.trans HWX.out)) (HN'.out.ext (HX0.out.trans HWX.out)))
  go_wp2_with fail
  clear hW b0 b1 b2 b3 e0 e1 e2 e3
  refine HSI.out.mono ?_
  rintro e w1 ⟨rfl, x1⟩
  obtain ⟨b0, b1, b2, b3⟩ := HBX.out.ext x1 (by omega)
  obtain ⟨e0, e1, e2, e3⟩ := HBY.out.ext x1 (by omega)
  have X1 := Lib.hid (HWX.out.trans x1)
  have hws := x1.size
  have HBX1 := Lib.hid (HBX.out.ext x1 (by omega))
  have HBY1 := Lib.hid (HBY.out.ext x1 (by omega))
  clear x1 HSI HN HN'
  by_cases hsi : (p.neg, p.ds) = (q.neg, q.ds)
  case neg =>
    have HF : Hid (res = false) := Lib.hid (HRES.out.symm.trans (eqB_ne fun e => hsi (by rw [e])))
    rw [eqB_ne hsi]
    clear hsi
    go_wp2_with fail
    go_ret
    exact ⟨by rw [HF.out]; rfl, X1.out⟩
  rw [eqB_eq hsi]
  have HND := Lib.hid hsi
  clear hsi
  go_wp2_with fail
  clear b0 b1 b2 b3 e0 e1 e2 e3
  go_loopw [31] (fun iv wr => ∃ k : Nat, k ≤ p.cs.length ∧ iv = .int .i64 k ∧ Hid (p.cs.take k = q.cs.take k ∧ Ext w1 wr)) (fun iv _ => p.cs.length - (intOf iv).toNat)
  case atStart => exact ⟨0, Nat.zero_le _, rfl, ⟨by simp, Ext.refl _⟩⟩
  case round =>
    obtain ⟨k, hk, rfl, ⟨htk, hx⟩⟩ := hrel
    have HX := Lib.hid hx
    have HT := Lib.hid htk
    obtain ⟨b0, b1, b2, b3⟩ := HBX1.out.ext hx (by omega)
    obtain ⟨e0, e1, e2, e3⟩ := HBY1.out.ext hx (by omega)
    have hws2 := hx.size
    clear hx htk
    by_cases hlt : k < p.cs.length
    · have hlt' : k < q.cs.length := by have := HL.out; omega
      obtain ⟨ad, C0, j0, f0, C1, j1, f1, rfl, hadb, hnd, hkt⟩ := PlsAt.kid H4.out k hlt
      obtain ⟨ad', D0, i0, g0, D1, i1, g1, rfl, hadb', hnd', hkt'⟩ := PlsAt.kid H4'.out k hlt'
      have hxx : Ext w0 wr := (HX0.out.trans X1.out).trans HX.out
      have HNA := Lib.hid (hnd.ext hxx (by rw [block_of_add]; exact hadb))
      have HNB := Lib.hid (hnd'.ext hxx (by rw [block_of_add]; exact hadb'))
      have hb1 : ad.block < wr.heap.size := Nat.lt_of_lt_of_le hadb hxx.size
      have hb2 : ad'.block < wr.heap.size := Nat.lt_of_lt_of_le hadb' hxx.size
      have HKID := Lib.hid (fun W' (hW' : Ext wr W') => IH.out p.cs[k] q.cs[k] _ _ W' (HSZ.out k hlt).1 (HSZ.out k hlt).2 hkt hkt' (hxx.trans hW'))
      have HSTEP : Hid (p.cs[k] = q.cs[k] → p.cs.take (k + 1) = q.cs.take (k + 1)) := Lib.hid (take_next HT.out hlt hlt')
      have HNE : Hid (p.cs[k] ≠ q.cs[k] → res = false) := Lib.hid (fun hne => HRES.out.symm.trans (eqB_ne fun e => hne (by subst e; rfl)))
      unfold plV at HKID
      generalize p.cs[k] = pk at *
      generalize q.cs[k] = qk at *
      have HSS : Hid (∀ W2, Ext wr W2 → (Ext wr W2 ∧ W2.cell? ⟨w.heap.size, 3, none⟩ = some (.slice (some ad) p.cs.length c) ∧ W2.cell? ⟨w.heap.size + 1, 3, none⟩ = some (.slice (some ad') p.cs.length d) ∧ W2.cell? (Addr.add ad (k * 4)) = some (.int .i64 pk.lv) ∧ W2.cell? ⟨(Addr.add ad (k * 4)).block, (Addr.add ad (k * 4)).off + 1, none⟩ = some (.bool pk.neg) ∧ W2.cell? ⟨(Addr.add ad (k * 4)).block, (Addr.add ad (k * 4)).off + 2, none⟩ = some (.slice C0 j0 f0) ∧ W2.cell? ⟨(Addr.add ad (k * 4)).block, (Addr.add ad (k * 4)).off + 3, none⟩ = some (.slice C1 j1 f1) ∧ W2.cell? (Addr.add ad' (k * 4)) = some (.int .i64 qk.lv) ∧ W2.cell? ⟨(Addr.add ad' (k * 4)).block, (Addr.add ad' (k * 4)).off + 1, none⟩ = some (.bool qk.neg) ∧ W2.cell? ⟨(Addr.add ad' (k * 4)).block, (Addr.add ad' (k * 4)).off + 2, none⟩ = some (.slice D0 i0 g0) ∧ W2.cell? ⟨(Addr.add ad' (k * 4)).block, (Addr.add ad' (k * 4)).off + 3, none⟩ = some (.slice D1 i1 g1))) := by
        have : ∀ W2, Ext wr W2 → (Ext wr W2 ∧ W2.cell? ⟨w.heap.size, 3, none⟩ = some (.slice (some ad) p.cs.length c) ∧ W2.cell? ⟨w.heap.size + 1, 3, none⟩ = some (.slice (some ad') p.cs.length d) ∧ W2.cell? (Addr.add ad (k * 4)) = some (.int .i64 pk.lv) ∧ W2.cell? ⟨(Addr.add ad (k * 4)).block, (Addr.add ad (k * 4)).off + 1, none⟩ = some (.bool pk.neg) ∧ W2.cell? ⟨(Addr.add ad (k * 4)).block, (Addr.add ad (k * 4)).off + 2, none⟩ = some (.slice C0 j0 f0) ∧ W2.cell? ⟨(Addr.add ad (k * 4)).block, (Addr.add ad (k * 4)).off + 3, none⟩ = some (.slice C1 j1 f1) ∧ W2.cell? (Addr.add ad' (k * 4)) = some (.int .i64 qk.lv) ∧ W2.cell? ⟨(Addr.add ad' (k * 4)).block, (Addr.add ad' (k * 4)).off + 1, none⟩ = some (.bool qk.neg) ∧ W2.cell? ⟨(Addr.add ad' (k * 4)).block, (Addr.add ad' (k * 4)).off + 2, none⟩ = some (.slice D0 i0 g0) ∧ W2.cell? ⟨(Addr.add ad' (k * 4)).block, (Addr.add ad' (k * 4)).off + 3, none⟩ = some (.slice D1 i1 g1)) := fun W2 hx2 => by
          obtain ⟨a0, a1, a2, a3⟩ := HNA.out.ext hx2 (by rw [block_of_add]; exact hb1)
          obtain ⟨a0', a1', a2', a3'⟩ := HNB.out.ext hx2 (by rw [block_of_add]; exact hb2)
          exact ⟨hx2, (hx2.cell (p := ⟨w.heap.size, 3, none⟩) (by show w.heap.size < _; omega)).trans b3, (hx2.cell (p := ⟨w.heap.size + 1, 3, none⟩) (by show w.heap.size + 1 < _; omega)).trans e3, a0, a1, a2, a3, a0', a1', a2', a3'⟩
        exact this
      clear hnd hnd' hkt hkt' hxx hadb hadb'
      have y0 : Ext wr wr.drew := (Ext.refl wr).drew
      have Y0 := Lib.hid y0
      clear y0
      go_upto_region 6 with fail
      clear b0 b1 b2 b3 e0 e1 e2 e3
      go_region_held3 (fun W2 => Ext wr W2 ∧ W2.cell? ⟨w.heap.size, 3, none⟩ = some (.slice (some ad) p.cs.length c) ∧ W2.cell? ⟨w.heap.size + 1, 3, none⟩ = some (.slice (some ad') p.cs.length d) ∧ W2.cell? (Addr.add ad (k * 4)) = some (.int .i64 pk.lv) ∧ W2.cell? ⟨(Addr.add ad (k * 4)).block, (Addr.add ad (k * 4)).off + 1, none⟩ = some (.bool pk.neg) ∧ W2.cell? ⟨(Addr.add ad (k * 4)).block, (Addr.add ad (k * 4)).off + 2, none⟩ = some (.slice C0 j0 f0) ∧ W2.cell? ⟨(Addr.add ad (k * 4)).block, (Addr.add ad (k * 4)).off + 3, none⟩ = some (.slice C1 j1 f1) ∧ W2.cell? (Addr.add ad' (k * 4)) = some (.int .i64 qk.lv) ∧ W2.cell? ⟨(Addr.add ad' (k * 4)).block, (Addr.add ad' (k * 4)).off + 1, none⟩ = some (.bool qk.neg) ∧ W2.cell? ⟨(Addr.add ad' (k * 4)).block, (Addr.add ad' (k * 4)).off + 2, none⟩ = some (.slice D0 i0 g0) ∧ W2.cell? ⟨(Addr.add ad' (k * 4)).block, (Addr.add ad' (k * 4)).off + 3, none⟩ = some (.slice D1 i1 g1))
        (first | with_reducible exact HSS.out _ Y0.out | with_reducible exact HSS.out _ y1)
        ((go_at_call 24
          refine (HKID.out _ Y0.out).mono ?_
          rintro e v1 ⟨rfl, x1⟩
          have y1 : Ext wr v1 := Ext.trans Y0.out x1))
      all_goals
        have X2 := Lib.hid (HX.out.trans y1)
        clear y1 x1 HKID HSS Y0
        by_cases hpq : pk = qk
        · have HT2 := Lib.hid (HSTEP.out hpq)
          rw [eqB_eq hpq]
          clear hpq
          go_wp2_with fail
          go_roundw
          case rel => exact ⟨k + 1, by omega, by go_num, ⟨HT2.out, X2.out⟩⟩
          case measure => simp [intOf]; omega
        · have HF := Lib.hid (HNE.out hpq)
          rw [eqB_ne hpq]
          clear hpq
          go_wp2_with fail
          go_ret
          exact ⟨by rw [HF.out]; rfl, X1.out.trans X2.out⟩
    · have HF : Hid (res = true) := Lib.hid (HRES.out.symm.trans (eqB_eq (by
        have h1 := HT.out
        rw [show k = p.cs.length by omega] at h1
        have h2 := take_all HL.out h1
        have h3 := HND.out
        exact Pl.ext_ HLV.out (congrArg Prod.fst h3) (congrArg Prod.snd h3) h2)))
      clear b0 b1 b2 b3 e0 e1 e2 e3
      go_wp2_with fail
      go_ret
      exact ⟨by rw [HF.out]; rfl, X1.out.trans HX.out⟩

theorem sp_any {w : World} {q1 q2 : Nat → Prop} (p q : Pl) (v u : Value) (hsz : p.sz ≤ 1099511627776) (h : PlV w q1 p v) (k : PlV w q2 q u) : Calls Tryz.prog 24 #[v, u] w (RetB (eqB p q) w) :=
  sp_ih w (p.sz + 1) p q v u w (Nat.lt_succ_self _) hsz (h.mono fun _ _ => trivial) (k.mono fun _ _ => trivial) (Ext.refl w)

set_option maxRecDepth 100000 in
theorem isame_any (x y : Value) (a b : Int) (L M : Nat) (w : World) (h : IntR w x a L) (k : IntR w y b M) : Calls Tryz.prog 176 #[x, y] w (RetB (eqB a b) w) := by
  have H := Lib.hid h
  have K := Lib.hid k
  obtain ⟨n1, s1, ds, rfl, ⟨A1, c1, rfl, -⟩, -⟩ := h
  obtain ⟨n2, s2, es, rfl, ⟨A2, c2, rfl, -⟩, -⟩ := k
  obtain ⟨W, hW⟩ : ∃ W, (w.alloc (.cells #[.bool n1, .slice A1 ds.length c1] 28)).alloc (.cells #[.bool n2, .slice A2 es.length c2] 28) = W := ⟨_, rfl⟩
  have hWx : Ext w W := by rw [← hW]; exact ((Ext.refl w).alloc _).alloc _
  have q0 : W.cell? ⟨w.heap.size, 0, none⟩ = some (.bool n1) := by rw [← hW]; simp [go_sem]
  have q1 : W.cell? ⟨w.heap.size, 1, none⟩ = some (.slice A1 ds.length c1) := by rw [← hW]; simp [go_sem]
  have q2 : W.cell? ⟨w.heap.size + 1, 0, none⟩ = some (.bool n2) := by rw [← hW]; simp [go_sem]
  have q3 : W.cell? ⟨w.heap.size + 1, 1, none⟩ = some (.slice A2 es.length c2) := by rw [← hW]; simp [go_sem]
  have HWX := Lib.hid hWx
  have HC := Lib.hid (cmp_int _ _ a b _ _ W (H.out.ext hWx) (K.out.ext hWx))
  clear hWx
  have HE : Hid ((cmpI a b == 0) = eqB a b) := by
    have : (cmpI a b == 0) = eqB a b := by
      by_cases hab : a = b
      · rw [eqB_eq hab, hab]; simp [cmpI]
      · rw [eqB_ne hab]
        simp only [cmpI]
        split <;> (try split) <;> simp <;> omega
    exact this
  go_enter Tryz.func176, Tryz.ntmps176
  go_wp2_with fail
  clear hW q0 q1 q2 q3
  refine HC.out.mono ?_
  rintro e w1 ⟨rfl, x1⟩
  have X1 := Lib.hid (HWX.out.trans x1)
  clear x1 HC
  generalize cmpI a b = cq at *
  go_wp2_with fail
  go_ret
  exact ⟨by rw [← HE.out]; rfl, X1.out⟩

def rsameIH (w0 : World) (n : Nat) : Prop := ∀ (p q : Pl) (v u : Value) (w : World), p.sz < n → p.sz ≤ 1099511627776 → p.Can → q.Can → PlV w0 (fun _ => True) p v → PlV w0 (fun _ => True) q u → Ext w0 w → Calls Tryz.prog 121 #[v, u] w (RetB (eqB p q) w)

set_option maxRecDepth 100000 in
set_option maxHeartbeats 4000000 in
theorem rsame_ih (w0 : World) (n : Nat) : rsameIH w0 n := by
  induction n with
  | zero => intro p q v u w h; omega
  | succ n ih =>
  intro p q v u w hn hsz hp hq h h' hx0
  have IH := Lib.hid ih
  have HX0 := Lib.hid hx0
  have HSZ : Hid (∀ k (hk : k < p.cs.length), p.cs[k].sz < n ∧ p.cs[k].sz ≤ 1099511627776) := by
    have : ∀ k (hk : k < p.cs.length), p.cs[k].sz < n ∧ p.cs[k].sz ≤ 1099511627776 := fun k hk => by have := Pl.sz_kid (List.getElem_mem hk); omega
    exact this
  have hszl := p.sz_len
  have HKC : Hid ((∀ k (hk : k < p.cs.length), p.cs[k].Can) ∧ ∀ k (hk : k < q.cs.length), q.cs[k].Can) := by
    have : (∀ k (hk : k < p.cs.length), p.cs[k].Can) ∧ ∀ k (hk : k < q.cs.length), q.cs[k].Can := ⟨fun k hk => hp.kid_can (List.getElem_mem hk), fun k hk => hq.kid_can (List.getElem_mem hk)⟩
    exact this
  have HPC := Lib.hid hp
  have HQC := Lib.hid hq
  obtain ⟨A0, n0, c0, A, c, rfl, hnat, hl1, hl2, h4⟩ := h.open_
  obtain ⟨B0, m0, d0, B, d, rfl, hnat', hl1', hl2', h4'⟩ := h'.open_
  have H4 := Lib.hid h4
  have H4' := Lib.hid h4'
  have HN := Lib.hid hnat
  have HN' := Lib.hid hnat'
  obtain ⟨W, hW⟩ : ∃ W, (w.alloc (.cells #[.int .i64 p.lv, .bool p.neg, .slice A0 n0 c0, .slice A p.cs.length c] 31)).alloc (.cells #[.int .i64 q.lv, .bool q.neg, .slice B0 m0 d0, .slice B q.cs.length d] 31) = W := ⟨_, rfl⟩
  have hWx : Ext w W := by rw [← hW]; exact ((Ext.refl w).alloc _).alloc _
  have hWs : W.heap.size = w.heap.size + 1 + 1 := by rw [← hW]; simp
  have hbx : Box4 W w.heap.size p (.slice A0 n0 c0) (.slice A p.cs.length c) := by rw [← hW]; exact (Box4.new w p _ _ _).ext ((Ext.refl _).alloc _) (by simp)
  have hby : Box4 W (w.heap.size + 1) q (.slice B0 m0 d0) (.slice B q.cs.length d) := by
    rw [← hW]
    have h1 := Box4.new (w.alloc (.cells #[.int .i64 p.lv, .bool p.neg, .slice A0 n0 c0, .slice A p.cs.length c] 31)) q (.slice B0 m0 d0) (.slice B q.cs.length d) 31
    simpa using h1
  have HWX := Lib.hid hWx
  have HBX := Lib.hid hbx
  have HBY := Lib.hid hby
  obtain ⟨b0, b1, b2, b3⟩ := hbx
  obtain ⟨e0, e1, e2, e3⟩ := hby
  clear h h' ih h4 h4' hx0 hnat hnat' hWx hp hq
  obtain ⟨res, hres⟩ : ∃ res, eqB p q = res := ⟨_, rfl⟩
  rw [hres]
  have HRES := Lib.hid hres
  clear hres
  unfold plV
  go_enter Tryz.func121, Tryz.ntmps121
  by_cases hlv : p.lv = q.lv
  case neg =>
    have HF : Hid (res = false) := Lib.hid (HRES.out.symm.trans (eqB_ne fun e => hlv (by rw [e])))
    have hlv2 : (p.lv != q.lv) = true := by simpa using hlv
    go_wp2_with fail
    go_ret
    exact ⟨by rw [HF.out]; rfl, HWX.out⟩
  by_cases hl : p.cs.length = q.cs.length
  case neg =>
    have HF : Hid (res = false) := Lib.hid (HRES.out.symm.trans (eqB_ne fun e => hl (by rw [e])))
    have HL := Lib.hid hlv
    rw [← hlv] at e0 hW
    clear hlv
    rw [← HL.out]
    go_wp2_with fail
    go_ret
    exact ⟨by rw [HF.out]; rfl, HWX.out⟩
  have HLV := Lib.hid hlv
  have HL := Lib.hid hl
  rw [← hlv] at e0 hW
  rw [← hl] at e3 hW hl1' HBY
  rw [← hlv, ← hl]
  clear hlv hl
  by_cases hz : p.lv = 0
  · have hz2 : (p.lv == 0) = true := by simpa using hz
    have HZ := Lib.hid hz
    have hip : IntR W (.agg #[.bool p.neg, .slice A0 n0 c0]) p.z p.ds.length := ⟨_, _, _, rfl, HN.out.ext (HX0.out.trans HWX.out), rfl, Nat.le_refl _⟩
    have hiq : IntR W (.agg #[.bool q.neg, .slice B0 m0 d0]) q.z q.ds.length := ⟨_, _, _, rfl, HN'.out.ext (HX0.out.trans HWX.out), rfl, Nat.le_refl _⟩
    have HSI := Lib.hid (isame_any _ _ p.z q.z _ _ W hip hiq)
    clear hip hiq hz
    go_wp2_with fail
    clear hW b0 b1 b2 b3 e0 e1 e2 e3
    refine HSI.out.mono ?_
    rintro e w1 ⟨rfl, x1⟩
    have HF : Hid (eqB p.z q.z = res) := Lib.hid ((eqB_congr ⟨fun e => by rw [pl_flat HPC.out HZ.out, pl_flat HQC.out (HLV.out.symm.trans HZ.out), e], fun e => by rw [e]⟩).trans HRES.out)
    have X1 := Lib.hid (HWX.out.trans x1)
    clear x1 HSI
    generalize eqB p.z q.z = bz at *
    go_wp2_with fail
    go_ret
    exact ⟨by rw [HF.out]; rfl, X1.out⟩
  have hz2 : (p.lv == 0) = false := by simpa using hz
  have HND : Hid ((p.neg, p.ds) = (q.neg, q.ds)) := by
    have h1 := HPC.out.lv_nonneg.1
    obtain ⟨l, ng, ds, cs⟩ := p
    obtain ⟨l', ng', ds', cs'⟩ := q
    have hl : 0 < l := by simp only [Pl.lv] at h1 hz; omega
    have e1 := HPC.out.kids hl
    have e2 := HQC.out.kids (by have := HLV.out; simp only [Pl.lv] at this; omega)
    show ((ng, ds) = (ng', ds'))
    rw [e1.1, e1.2.1, e2.1, e2.2.1]
  obtain ⟨w1, hw1⟩ : ∃ w1, W = w1 := ⟨_, rfl⟩
  have X1 : Hid (Ext w w1) := Lib.hid (by rw [← hw1]; exact HWX.out)
  have hws : W.heap.size ≤ w1.heap.size := by rw [hw1]; exact Nat.le_refl _
  have HBX1 : Hid (Box4 w1 w.heap.size p (.slice A0 n0 c0) (.slice A p.cs.length c)) := Lib.hid (by rw [← hw1]; exact HBX.out)
  have HBY1 : Hid (Box4 w1 (w.heap.size + 1) q (.slice B0 m0 d0) (.slice B p.cs.length d)) := Lib.hid (by rw [← hw1]; exact HBY.out)
  have hw1' := Lib.hid hw1
  clear hw1 hz HPC HQC HN HN'
  go_wp2_with fail
  clear hW b0 b1 b2 b3 e0 e1 e2 e3
  obtain rfl : W = w1 := hw1'.out
  go_loopw [31] (fun iv wr => ∃ k : Nat, k ≤ p.cs.length ∧ iv = .int .i64 k ∧ Hid (p.cs.take k = q.cs.take k ∧ Ext W wr)) (fun iv _ => p.cs.length - (intOf iv).toNat)
  case atStart => exact ⟨0, Nat.zero_le _, rfl, ⟨by simp, Ext.refl _⟩⟩
  case round =>
    obtain ⟨k, hk, rfl, ⟨htk, hx⟩⟩ := hrel
    have HX := Lib.hid hx
    have HT := Lib.hid htk
    obtain ⟨b0, b1, b2, b3⟩ := HBX1.out.ext hx (by omega)
    obtain ⟨e0, e1, e2, e3⟩ := HBY1.out.ext hx (by omega)
    have hws2 := hx.size
    clear hx htk
    by_cases hlt : k < p.cs.length
    · have hlt' : k < q.cs.length := by have := HL.out; omega
      obtain ⟨ad, C0, j0, f0, C1, j1, f1, rfl, hadb, hnd, hkt⟩ := PlsAt.kid H4.out k hlt
      obtain ⟨ad', D0, i0, g0, D1, i1, g1, rfl, hadb', hnd', hkt'⟩ := PlsAt.kid H4'.out k hlt'
      have hxx : Ext w0 wr := (HX0.out.trans X1.out).trans HX.out
      have HNA := Lib.hid (hnd.ext hxx (by rw [block_of_add]; exact hadb))
      have HNB := Lib.hid (hnd'.ext hxx (by rw [block_of_add]; exact hadb'))
      have hb1 : ad.block < wr.heap.size := Nat.lt_of_lt_of_le hadb hxx.size
      have hb2 : ad'.block < wr.heap.size := Nat.lt_of_lt_of_le hadb' hxx.size
      have HKID := Lib.hid (fun W' (hW' : Ext wr W') => IH.out p.cs[k] q.cs[k] _ _ W' (HSZ.out k hlt).1 (HSZ.out k hlt).2 (HKC.out.1 k hlt) (HKC.out.2 k hlt') hkt hkt' (hxx.trans hW'))
      have HSTEP : Hid (p.cs[k] = q.cs[k] → p.cs.take (k + 1) = q.cs.take (k + 1)) := Lib.hid (take_next HT.out hlt hlt')
      have HNE : Hid (p.cs[k] ≠ q.cs[k] → res = false) := Lib.hid (fun hne => HRES.out.symm.trans (eqB_ne fun e => hne (by subst e; rfl)))
      unfold plV at HKID
      generalize p.cs[k] = pk at *
      generalize q.cs[k] = qk at *
      have HSS : Hid (∀ W2, Ext wr W2 → (Ext wr W2 ∧ W2.cell? ⟨w.heap.size, 3, none⟩ = some (.slice (some ad) p.cs.length c) ∧ W2.cell? ⟨w.heap.size + 1, 3, none⟩ = some (.slice (some ad') p.cs.length d) ∧ W2.cell? (Addr.add ad (k * 4)) = some (.int .i64 pk.lv) ∧ W2.cell? ⟨(Addr.add ad (k * 4)).block, (Addr.add ad (k * 4)).off + 1, none⟩ = some (.bool pk.neg) ∧ W2.cell? ⟨(Addr.add ad (k * 4)).block, (Addr.add ad (k * 4)).off + 2, none⟩ = some (.slice C0 j0 f0) ∧ W2.cell? ⟨(Addr.add ad (k * 4)).block, (Addr.add ad (k * 4)).off + 3, none⟩ = some (.slice C1 j1 f1) ∧ W2.cell? (Addr.add ad' (k * 4)) = some (.int .i64 qk.lv) ∧ W2.cell? ⟨(Addr.add ad' (k * 4)).block, (Addr.add ad' (k * 4)).off + 1, none⟩ = some (.bool qk.neg) ∧ W2.cell? ⟨(Addr.add ad' (k * 4)).block, (Addr.add ad' (k * 4)).off + 2, none⟩ = some (.slice D0 i0 g0) ∧ W2.cell? ⟨(Addr.add ad' (k * 4)).block, (Addr.add ad' (k * 4)).off + 3, none⟩ = some (.slice D1 i1 g1))) := by
        have : ∀ W2, Ext wr W2 → (Ext wr W2 ∧ W2.cell? ⟨w.heap.size, 3, none⟩ = some (.slice (some ad) p.cs.length c) ∧ W2.cell? ⟨w.heap.size + 1, 3, none⟩ = some (.slice (some ad') p.cs.length d) ∧ W2.cell? (Addr.add ad (k * 4)) = some (.int .i64 pk.lv) ∧ W2.cell? ⟨(Addr.add ad (k * 4)).block, (Addr.add ad (k * 4)).off + 1, none⟩ = some (.bool pk.neg) ∧ W2.cell? ⟨(Addr.add ad (k * 4)).block, (Addr.add ad (k * 4)).off + 2, none⟩ = some (.slice C0 j0 f0) ∧ W2.cell? ⟨(Addr.add ad (k * 4)).block, (Addr.add ad (k * 4)).off + 3, none⟩ = some (.slice C1 j1 f1) ∧ W2.cell? (Addr.add ad' (k * 4)) = some (.int .i64 qk.lv) ∧ W2.cell? ⟨(Addr.add ad' (k * 4)).block, (Addr.add ad' (k * 4)).off + 1, none⟩ = some (.bool qk.neg) ∧ W2.cell? ⟨(Addr.add ad' (k * 4)).block, (Addr.add ad' (k * 4)).off + 2, none⟩ = some (.slice D0 i0 g0) ∧ W2.cell? ⟨(Addr.add ad' (k * 4)).block, (Addr.add ad' (k * 4)).off + 3, none⟩ = some (.slice D1 i1 g1)) := fun W2 hx2 => by
          obtain ⟨a0, a1, a2, a3⟩ := HNA.out.ext hx2 (by rw [block_of_add]; exact hb1)
          obtain ⟨a0', a1', a2', a3'⟩ := HNB.out.ext hx2 (by rw [block_of_add]; exact hb2)
          exact ⟨hx2, (hx2.cell (p := ⟨w.heap.size, 3, none⟩) (by show w.heap.size < _; omega)).trans b3, (hx2.cell (p := ⟨w.heap.size + 1, 3, none⟩) (by show w.heap.size + 1 < _; omega)).trans e3, a0, a1, a2, a3, a0', a1', a2', a3'⟩
        exact this
      clear hnd hnd' hkt hkt' hxx hadb hadb'
      have y0 : Ext wr wr.drew := (Ext.refl wr).drew
      have Y0 := Lib.hid y0
      clear y0
      go_upto_region 8 with fail
      clear b0 b1 b2 b3 e0 e1 e2 e3
      go_region_held3 (fun W2 => Ext wr W2 ∧ W2.cell? ⟨w.heap.size, 3, none⟩ = some (.slice (some ad) p.cs.length c) ∧ W2.cell? ⟨w.heap.size + 1, 3, none⟩ = some (.slice (some ad') p.cs.length d) ∧ W2.cell? (Addr.add ad (k * 4)) = some (.int .i64 pk.lv) ∧ W2.cell? ⟨(Addr.add ad (k * 4)).block, (Addr.add ad (k * 4)).off + 1, none⟩ = some (.bool pk.neg) ∧ W2.cell? ⟨(Addr.add ad (k * 4)).block, (Addr.add ad (k * 4)).off + 2, none⟩ = some (.slice C0 j0 f0) ∧ W2.cell? ⟨(Addr.add ad (k * 4)).block, (Addr.add ad (k * 4)).off + 3, none⟩ = some (.slice C1 j1 f1) ∧ W2.cell? (Addr.add ad' (k * 4)) = some (.int .i64 qk.lv) ∧ W2.cell? ⟨(Addr.add ad' (k * 4)).block, (Addr.add ad' (k * 4)).off + 1, none⟩ = some (.bool qk.neg) ∧ W2.cell? ⟨(Addr.add ad' (k * 4)).block, (Addr.add ad' (k * 4)).off + 2, none⟩ = some (.slice D0 i0 g0) ∧ W2.cell? ⟨(Addr.add ad' (k * 4)).block, (Addr.add ad' (k * 4)).off + 3, none⟩ = some (.slice D1 i1 g1))
        (first | with_reducible exact HSS.out _ Y0.out | with_reducible exact HSS.out _ y1)
        ((go_at_call 121
          refine (HKID.out _ Y0.out).mono ?_
          rintro e v1 ⟨rfl, x1⟩
          have y1 : Ext wr v1 := Ext.trans Y0.out x1))
      all_goals
        have X2 := Lib.hid (HX.out.trans y1)
        clear y1 x1 HKID HSS Y0
        by_cases hpq : pk = qk
        · have HT2 := Lib.hid (HSTEP.out hpq)
          rw [eqB_eq hpq]
          clear hpq
          go_wp2_with fail
          go_roundw
          case rel => exact ⟨k + 1, by omega, by go_num, ⟨HT2.out, X2.out⟩⟩
          case measure => simp [intOf]; omega
        · have HF := Lib.hid (HNE.out hpq)
          rw [eqB_ne hpq]
          clear hpq
          go_wp2_with fail
          go_ret
          exact ⟨by rw [HF.out]; rfl, X1.out.trans X2.out⟩
    · have HF : Hid (res = true) := Lib.hid (HRES.out.symm.trans (eqB_eq (by
        have h1 := HT.out
        rw [show k = p.cs.length by omega] at h1
        have h2 := take_all HL.out h1
        have h3 := HND.out
        exact Pl.ext_ HLV.out (congrArg Prod.fst h3) (congrArg Prod.snd h3) h2)))
      clear b0 b1 b2 b3 e0 e1 e2 e3
      go_wp2_with fail
      go_ret
      exact ⟨by rw [HF.out]; rfl, X1.out.trans HX.out⟩

theorem rsame_any {w : World} {q1 q2 : Nat → Prop} (p q : Pl) (v u : Value) (hsz : p.sz ≤ 1099511627776) (hp : p.Can) (hq : q.Can) (h : PlV w q1 p v) (k : PlV w q2 q u) : Calls Tryz.prog 121 #[v, u] w (RetB (eqB p q) w) :=
  rsame_ih w (p.sz + 1) p q v u w (Nat.lt_succ_self _) hsz hp hq (h.mono fun _ _ => trivial) (k.mono fun _ _ => trivial) (Ext.refl w)
end Go.Proofs.YtbanhcaahabboaaGreatDoor
