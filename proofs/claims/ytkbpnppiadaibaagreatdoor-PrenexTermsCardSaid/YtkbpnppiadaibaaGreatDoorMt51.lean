/- Equality of integers and of polynomials: cylinderref34.SameInt, cylinderref38.SamePoly, integer.Same, recpoly.same, Same. -/
import Derived.Test.YtkbpnppiadaibaaGreatDoorMt36
import Derived.Test.YtkbpnppiadaibaaGreatDoorMt9
import Derived.Test.YtkbpnppiadaibaaGreatDoorMt13
import Derived.Test.YtkbpnppiadaibaaGreatDoorRNorm
import Derived.Test.YtkbpnppiadaibaaGreatDoorMt49
import Derived.Test.YtkbpnppiadaibaaGreatDoorMt10
import Derived.Deep.Slices
import Derived.ChangeSlices
import Derived.Carry
import Derived.OpenShut
import Derived.ProofKit
import Derived.Test.YtkbpnppiadaibaaGreatDoorMRow
import Derived.Test.YtkbpnppiadaibaaGreatDoorMt15
import Derived.Test.YtkbpnppiadaibaaGreatDoorMt43
import Derived.Test.YtkbpnppiadaibaaGreatDoorMt46
set_option linter.unusedSimpArgs false
set_option linter.unusedVariables false

set_option maxRecDepth 100000
set_option maxHeartbeats 8000000
namespace Go.Proofs.YtkbpnppiadaibaaGreatDoor
open Go.RowKit
noncomputable def eqB {α : Type} (a b : α) : Bool := @decide (a = b) (Classical.propDecidable _)
theorem eqB_iff {α : Type} {a b : α} : eqB a b = true ↔ a = b := by unfold eqB; exact @decide_eq_true_iff _ (Classical.propDecidable _)
theorem eqB_ne {α : Type} {a b : α} (h : a ≠ b) : eqB a b = false := by
 cases hb : eqB a b
 · rfl
 · exact absurd (eqB_iff.1 hb) h
theorem eqB_eq {α : Type} {a b : α} (h : a = b) : eqB a b = true := eqB_iff.2 h
theorem take_next {α : Type} {l r : List α} {k : Nat} (h : l.take k = r.take k) (hl : k < l.length) (hr : k < r.length) (he : l[k] = r[k]) : l.take (k + 1) = r.take (k + 1) := by
 rw [List.take_succ_eq_append_getElem hl, List.take_succ_eq_append_getElem hr, h, he]
theorem take_all {α : Type} {l r : List α} (h : l.length = r.length) (he : l.take l.length = r.take l.length) : l = r := by
 rw [List.take_length] at he
 rw [he, h, List.take_length]
theorem sameInt_any {w : World} (n1 n2 : Bool) (s1 s2 : Value) (ds es : List Nat) (h1 : NatV w s1 ds) (h2 : NatV w s2 es) : Calls Tryz.prog 62 #[.agg #[.bool n1, s1], .agg #[.bool n2, s2]] w (RetB (eqB (n1, ds) (n2, es)) w) := by
 obtain ⟨A, c, rfl, a1, a2, a3⟩ := h1
 obtain ⟨B, d, rfl, b1, b2, b3⟩ := h2
 have H1 := Lib.hid a3
 have H2 := Lib.hid b3
 clear a3 b3
 obtain ⟨W, hW⟩ : ∃ W, (w.alloc (.cells #[.bool n1, .slice A ds.length c] 25)).alloc (.cells #[.bool n2, .slice B es.length d] 25) = W := ⟨_, rfl⟩
 have hWx : Ext w W := by rw [← hW]; exact ((Ext.refl w).alloc _).alloc _
 have q0 : W.cell? ⟨w.heap.size, 0, none⟩ = some (.bool n1) := by rw [← hW]; simp [go_sem]
 have q1 : W.cell? ⟨w.heap.size, 1, none⟩ = some (.slice A ds.length c) := by rw [← hW]; simp [go_sem]
 have q2 : W.cell? ⟨w.heap.size + 1, 0, none⟩ = some (.bool n2) := by rw [← hW]; simp [go_sem]
 have q3 : W.cell? ⟨w.heap.size + 1, 1, none⟩ = some (.slice B es.length d) := by rw [← hW]; simp [go_sem]
 have HWX := Lib.hid hWx
 clear hWx
 obtain ⟨res, hres⟩ : ∃ res, eqB (n1, ds) (n2, es) = res := ⟨_, rfl⟩
 rw [hres]
 have HRES := Lib.hid hres
 clear hres
 go_enter Tryz.func62, Tryz.ntmps62
 by_cases hn : n1 = n2
 case neg =>
  have HF : Hid (res = false) := Lib.hid (HRES.out.symm.trans (eqB_ne fun e => hn (by injection e)))
  have h3 : (n1 != n2) = true := by simpa using hn
  have h4 : ((!n1) == n2) = true := by cases n1 <;> cases n2 <;> simp_all
  go_wp2_with fail
  go_ret
  exact ⟨by rw [HF.out]; rfl, HWX.out⟩
 subst hn
 have hneg : (n1 != n1) = false := by simp
 have hneg2 : ((!n1) == n1) = false := by cases n1 <;> rfl
 by_cases hl : ds.length = es.length
 case neg =>
  have HF : Hid (res = false) := Lib.hid (HRES.out.symm.trans (eqB_ne fun e => hl (by injection e with _ e; rw [e])))
  go_wp2_with fail
  go_ret
  exact ⟨by rw [HF.out]; rfl, HWX.out⟩
 have HL := Lib.hid hl
 rw [← hl] at q3 hW b1
 rw [← hl]
 clear hl
 go_wp2_with fail
 clear hW
 go_loopw [23] (fun iv wr => ∃ k n : Nat, k ≤ ds.length ∧ iv = .int .i64 k ∧ wr = W.drewN n ∧ Hid (ds.take k = es.take k)) (fun iv _ => ds.length - (intOf iv).toNat)
 case atStart => exact ⟨0, 0, Nat.zero_le _, rfl, rfl, Lib.hid (by simp)⟩
 case round =>
  obtain ⟨k, n, hk, rfl, rfl, HT⟩ := hrel
  by_cases hlt : k < ds.length
  · have hlt' : k < es.length := by have := HL.out; omega
    obtain ⟨ad, rfl, hb, hcell, hd⟩ := (H1.out.ext HWX.out).at_ k hlt
    obtain ⟨ad', rfl, hb', hcell', hd'⟩ := (H2.out.ext HWX.out).at_ k hlt'
    by_cases he : ds[k] = es[k]
    · have HT2 := Lib.hid (take_next HT.out hlt hlt' he)
      rw [← he] at hcell'
      clear he hd'
      generalize ds[k] = x at *
      go_upto_region 6 with fail
      go_quiet (fail)
      go_wp2_with fail
      exact ⟨⟨k + 1, n + nq, by omega, by go_num, rfl, HT2⟩, by simp [intOf]; omega⟩
    · have HF : Hid (res = false) := Lib.hid (HRES.out.symm.trans (eqB_ne fun e => he (by injection e with _ e; subst e; rfl)))
      generalize ds[k] = x at *
      generalize es[k] = y at *
      go_upto_region 6 with fail
      go_quiet (fail)
      go_wp2_with fail
      go_ret
      exact ⟨by rw [HF.out]; rfl, (HWX.out.drewN n).drewN nq⟩
  · have HF : Hid (res = true) := Lib.hid (HRES.out.symm.trans (eqB_eq (by
     have h1 := HT.out
     rw [show k = ds.length by omega] at h1
     rw [take_all HL.out h1])))
    go_wp2_with fail
    go_ret
    exact ⟨by rw [HF.out]; rfl, HWX.out.drewN n⟩
theorem Pl.ext_ {p q : Pl} (h1 : p.lv = q.lv) (h2 : p.neg = q.neg) (h3 : p.ds = q.ds) (h4 : p.cs = q.cs) : p = q := by
 obtain ⟨l, n, d, c⟩ := p
 obtain ⟨l', n', d', c'⟩ := q
 simp only [Pl.lv, Pl.neg, Pl.ds, Pl.cs] at h1 h2 h3 h4
 rw [h1, h2, h3, h4]
def spIH (w0 : World) (n : Nat) : Prop := ∀ (p q : Pl) (v u : Value) (w : World), p.sz < n → p.sz ≤ 1099511627776 → PlV w0 (fun _ => True) p v → PlV w0 (fun _ => True) q u → Ext w0 w → Calls Tryz.prog 23 #[v, u] w (RetB (eqB p q) w)
theorem sp_ih (w0 : World) (n : Nat) : spIH w0 n := by
 induction n with
 | zero => intro p q v u w h; omega
 | succ n ih =>
 intro p q v u w hn hsz h h' hx0
 have IH := Lib.hid ih
 have HX0 := Lib.hid hx0
 have HSZ : Hid (∀ k (hk : k < p.cs.length), p.cs[k].sz < n ∧ p.cs[k].sz ≤ 1099511627776) := by
  have : ∀ k (hk : k < p.cs.length), p.cs[k].sz < n ∧ p.cs[k].sz ≤ 1099511627776 := fun k hk => by have := Pl.sz_kid (List.getElem_mem hk); omega
  exact this
 have hszl := p.sz_len
 obtain ⟨A0, n0, c0, A, c, rfl, hnat, hl1, hl2, h4⟩ := h.open_
 obtain ⟨B0, m0, d0, B, d, rfl, hnat', hl1', hl2', h4'⟩ := h'.open_
 have H4 := Lib.hid h4
 have H4' := Lib.hid h4'
 have HN := Lib.hid hnat
 have HN' := Lib.hid hnat'
 obtain ⟨W, hW⟩ : ∃ W, (w.alloc (.cells #[.int .i64 p.lv, .bool p.neg, .slice A0 n0 c0, .slice A p.cs.length c] 42)).alloc (.cells #[.int .i64 q.lv, .bool q.neg, .slice B0 m0 d0, .slice B q.cs.length d] 42) = W := ⟨_, rfl⟩
 have hWx : Ext w W := by rw [← hW]; exact ((Ext.refl w).alloc _).alloc _
 have hWs : W.heap.size = w.heap.size + 1 + 1 := by rw [← hW]; simp
 have hbx : Box4 W w.heap.size p (.slice A0 n0 c0) (.slice A p.cs.length c) := by rw [← hW]; exact (Box4.new w p _ _ _).ext ((Ext.refl _).alloc _) (by simp)
 have hby : Box4 W (w.heap.size + 1) q (.slice B0 m0 d0) (.slice B q.cs.length d) := by
  rw [← hW]
  have h1 := Box4.new (w.alloc (.cells #[.int .i64 p.lv, .bool p.neg, .slice A0 n0 c0, .slice A p.cs.length c] 42)) q (.slice B0 m0 d0) (.slice B q.cs.length d) 42
  simpa using h1
 have HWX := Lib.hid hWx
 have HBX := Lib.hid hbx
 have HBY := Lib.hid hby
 obtain ⟨b0, b1, b2, b3⟩ := hbx
 obtain ⟨e0, e1, e2, e3⟩ := hby
 clear h h' ih h4 h4' hx0 hnat hnat' hWx 
 obtain ⟨res, hres⟩ : ∃ res, eqB p q = res := ⟨_, rfl⟩
 rw [hres]
 have HRES := Lib.hid hres
 clear hres
 unfold plV
 go_enter Tryz.func23, Tryz.ntmps23
 by_cases hlv : p.lv = q.lv
 case neg =>
  have HF : Hid (res = false) := Lib.hid (HRES.out.symm.trans (eqB_ne fun e => hlv (by rw [e])))
  have hlv2 : (p.lv != q.lv) = true := by simpa using hlv
  go_wp2_with fail
  go_ret
  exact ⟨by rw [HF.out]; rfl, HWX.out⟩
 by_cases hl : p.cs.length = q.cs.length
 case neg =>
  have HF : Hid (res = false) := Lib.hid (HRES.out.symm.trans (eqB_ne fun e => hl (by rw [e])))
  have HL := Lib.hid hlv
  rw [← hlv] at e0 hW
  clear hlv
  rw [← HL.out]
  go_wp2_with fail
  go_ret
  exact ⟨by rw [HF.out]; rfl, HWX.out⟩
 have HLV := Lib.hid hlv
 have HL := Lib.hid hl
 rw [← hlv] at e0 hW
 rw [← hl] at e3 hW hl1' HBY
 rw [← hlv, ← hl]
 clear hlv hl
 have HSI := Lib.hid (sameInt_any p.neg q.neg _ _ p.ds q.ds (HN.out.ext (HX0.out.trans HWX.out)) (HN'.out.ext (HX0.out.trans HWX.out)))
 go_wp2_with fail
 clear hW b0 b1 b2 b3 e0 e1 e2 e3
 refine HSI.out.mono ?_
 rintro e w1 ⟨rfl, x1⟩
 obtain ⟨b0, b1, b2, b3⟩ := HBX.out.ext x1 (by omega)
 obtain ⟨e0, e1, e2, e3⟩ := HBY.out.ext x1 (by omega)
 have X1 := Lib.hid (HWX.out.trans x1)
 have hws := x1.size
 have HBX1 := Lib.hid (HBX.out.ext x1 (by omega))
 have HBY1 := Lib.hid (HBY.out.ext x1 (by omega))
 clear x1 HSI HN HN'
 by_cases hsi : (p.neg, p.ds) = (q.neg, q.ds)
 case neg =>
  have HF : Hid (res = false) := Lib.hid (HRES.out.symm.trans (eqB_ne fun e => hsi (by rw [e])))
  rw [eqB_ne hsi]
  clear hsi
  go_wp2_with fail
  go_ret
  exact ⟨by rw [HF.out]; rfl, X1.out⟩
 rw [eqB_eq hsi]
 have HND := Lib.hid hsi
 clear hsi
 go_wp2_with fail
 clear b0 b1 b2 b3 e0 e1 e2 e3
 go_loopw [31] (fun iv wr => ∃ k : Nat, k ≤ p.cs.length ∧ iv = .int .i64 k ∧ Hid (p.cs.take k = q.cs.take k ∧ Ext w1 wr)) (fun iv _ => p.cs.length - (intOf iv).toNat)
 case atStart => exact ⟨0, Nat.zero_le _, rfl, ⟨by simp, Ext.refl _⟩⟩
 case round =>
  obtain ⟨k, hk, rfl, ⟨htk, hx⟩⟩ := hrel
  have HX := Lib.hid hx
  have HT := Lib.hid htk
  obtain ⟨b0, b1, b2, b3⟩ := HBX1.out.ext hx (by omega)
  obtain ⟨e0, e1, e2, e3⟩ := HBY1.out.ext hx (by omega)
  have hws2 := hx.size
  clear hx htk
  by_cases hlt : k < p.cs.length
  · have hlt' : k < q.cs.length := by have := HL.out; omega
    obtain ⟨ad, C0, j0, f0, C1, j1, f1, rfl, hadb, hnd, hkt⟩ := PlsAt.kid H4.out k hlt
    obtain ⟨ad', D0, i0, g0, D1, i1, g1, rfl, hadb', hnd', hkt'⟩ := PlsAt.kid H4'.out k hlt'
    have hxx : Ext w0 wr := (HX0.out.trans X1.out).trans HX.out
    have HNA := Lib.hid (hnd.ext hxx (by rw [block_of_add]; exact hadb))
    have HNB := Lib.hid (hnd'.ext hxx (by rw [block_of_add]; exact hadb'))
    have hb1 : ad.block < wr.heap.size := Nat.lt_of_lt_of_le hadb hxx.size
    have hb2 : ad'.block < wr.heap.size := Nat.lt_of_lt_of_le hadb' hxx.size
    have HKID := Lib.hid (fun W' (hW' : Ext wr W') => IH.out p.cs[k] q.cs[k] _ _ W' (HSZ.out k hlt).1 (HSZ.out k hlt).2 hkt hkt' (hxx.trans hW'))
    have HSTEP : Hid (p.cs[k] = q.cs[k] → p.cs.take (k + 1) = q.cs.take (k + 1)) := Lib.hid (take_next HT.out hlt hlt')
    have HNE : Hid (p.cs[k] ≠ q.cs[k] → res = false) := Lib.hid (fun hne => HRES.out.symm.trans (eqB_ne fun e => hne (by subst e; rfl)))
    unfold plV at HKID
    generalize p.cs[k] = pk at *
    generalize q.cs[k] = qk at *
    have HSS : Hid (∀ W2, Ext wr W2 → (Ext wr W2 ∧ W2.cell? ⟨w.heap.size, 3, none⟩ = some (.slice (some ad) p.cs.length c) ∧ W2.cell? ⟨w.heap.size + 1, 3, none⟩ = some (.slice (some ad') p.cs.length d) ∧ W2.cell? (Addr.add ad (k * 4)) = some (.int .i64 pk.lv) ∧ W2.cell? ⟨(Addr.add ad (k * 4)).block, (Addr.add ad (k * 4)).off + 1, none⟩ = some (.bool pk.neg) ∧ W2.cell? ⟨(Addr.add ad (k * 4)).block, (Addr.add ad (k * 4)).off + 2, none⟩ = some (.slice C0 j0 f0) ∧ W2.cell? ⟨(Addr.add ad (k * 4)).block, (Addr.add ad (k * 4)).off + 3, none⟩ = some (.slice C1 j1 f1) ∧ W2.cell? (Addr.add ad' (k * 4)) = some (.int .i64 qk.lv) ∧ W2.cell? ⟨(Addr.add ad' (k * 4)).block, (Addr.add ad' (k * 4)).off + 1, none⟩ = some (.bool qk.neg) ∧ W2.cell? ⟨(Addr.add ad' (k * 4)).block, (Addr.add ad' (k * 4)).off + 2, none⟩ = some (.slice D0 i0 g0) ∧ W2.cell? ⟨(Addr.add ad' (k * 4)).block, (Addr.add ad' (k * 4)).off + 3, none⟩ = some (.slice D1 i1 g1))) := by
     have : ∀ W2, Ext wr W2 → (Ext wr W2 ∧ W2.cell? ⟨w.heap.size, 3, none⟩ = some (.slice (some ad) p.cs.length c) ∧ W2.cell? ⟨w.heap.size + 1, 3, none⟩ = some (.slice (some ad') p.cs.length d) ∧ W2.cell? (Addr.add ad (k * 4)) = some (.int .i64 pk.lv) ∧ W2.cell? ⟨(Addr.add ad (k * 4)).block, (Addr.add ad (k * 4)).off + 1, none⟩ = some (.bool pk.neg) ∧ W2.cell? ⟨(Addr.add ad (k * 4)).block, (Addr.add ad (k * 4)).off + 2, none⟩ = some (.slice C0 j0 f0) ∧ W2.cell? ⟨(Addr.add ad (k * 4)).block, (Addr.add ad (k * 4)).off + 3, none⟩ = some (.slice C1 j1 f1) ∧ W2.cell? (Addr.add ad' (k * 4)) = some (.int .i64 qk.lv) ∧ W2.cell? ⟨(Addr.add ad' (k * 4)).block, (Addr.add ad' (k * 4)).off + 1, none⟩ = some (.bool qk.neg) ∧ W2.cell? ⟨(Addr.add ad' (k * 4)).block, (Addr.add ad' (k * 4)).off + 2, none⟩ = some (.slice D0 i0 g0) ∧ W2.cell? ⟨(Addr.add ad' (k * 4)).block, (Addr.add ad' (k * 4)).off + 3, none⟩ = some (.slice D1 i1 g1)) := fun W2 hx2 => by
      obtain ⟨a0, a1, a2, a3⟩ := HNA.out.ext hx2 (by rw [block_of_add]; exact hb1)
      obtain ⟨a0', a1', a2', a3'⟩ := HNB.out.ext hx2 (by rw [block_of_add]; exact hb2)
      exact ⟨hx2, (hx2.cell (p := ⟨w.heap.size, 3, none⟩) (by show w.heap.size < _; omega)).trans b3, (hx2.cell (p := ⟨w.heap.size + 1, 3, none⟩) (by show w.heap.size + 1 < _; omega)).trans e3, a0, a1, a2, a3, a0', a1', a2', a3'⟩
     exact this
    clear hnd hnd' hkt hkt' hxx hadb hadb'
    have y0 : Ext wr wr.drew := (Ext.refl wr).drew
    have Y0 := Lib.hid y0
    clear y0
    go_upto_region 6 with fail
    clear b0 b1 b2 b3 e0 e1 e2 e3
    go_region_held3 (fun W2 => Ext wr W2 ∧ W2.cell? ⟨w.heap.size, 3, none⟩ = some (.slice (some ad) p.cs.length c) ∧ W2.cell? ⟨w.heap.size + 1, 3, none⟩ = some (.slice (some ad') p.cs.length d) ∧ W2.cell? (Addr.add ad (k * 4)) = some (.int .i64 pk.lv) ∧ W2.cell? ⟨(Addr.add ad (k * 4)).block, (Addr.add ad (k * 4)).off + 1, none⟩ = some (.bool pk.neg) ∧ W2.cell? ⟨(Addr.add ad (k * 4)).block, (Addr.add ad (k * 4)).off + 2, none⟩ = some (.slice C0 j0 f0) ∧ W2.cell? ⟨(Addr.add ad (k * 4)).block, (Addr.add ad (k * 4)).off + 3, none⟩ = some (.slice C1 j1 f1) ∧ W2.cell? (Addr.add ad' (k * 4)) = some (.int .i64 qk.lv) ∧ W2.cell? ⟨(Addr.add ad' (k * 4)).block, (Addr.add ad' (k * 4)).off + 1, none⟩ = some (.bool qk.neg) ∧ W2.cell? ⟨(Addr.add ad' (k * 4)).block, (Addr.add ad' (k * 4)).off + 2, none⟩ = some (.slice D0 i0 g0) ∧ W2.cell? ⟨(Addr.add ad' (k * 4)).block, (Addr.add ad' (k * 4)).off + 3, none⟩ = some (.slice D1 i1 g1))
     (first | with_reducible exact HSS.out _ Y0.out | with_reducible exact HSS.out _ y1)
     ((go_at_call 23
       refine (HKID.out _ Y0.out).mono ?_
       rintro e v1 ⟨rfl, x1⟩
       have y1 : Ext wr v1 := Ext.trans Y0.out x1))
    all_goals
     have X2 := Lib.hid (HX.out.trans y1)
     clear y1 x1 HKID HSS Y0
     by_cases hpq : pk = qk
     · have HT2 := Lib.hid (HSTEP.out hpq)
       rw [eqB_eq hpq]
       clear hpq
       go_wp2_with fail
       go_roundw
       case rel => exact ⟨k + 1, by omega, by go_num, ⟨HT2.out, X2.out⟩⟩
       case measure => simp [intOf]; omega
     · have HF := Lib.hid (HNE.out hpq)
       rw [eqB_ne hpq]
       clear hpq
       go_wp2_with fail
       go_ret
       exact ⟨by rw [HF.out]; rfl, X1.out.trans X2.out⟩
  · have HF : Hid (res = true) := Lib.hid (HRES.out.symm.trans (eqB_eq (by
     have h1 := HT.out
     rw [show k = p.cs.length by omega] at h1
     have h2 := take_all HL.out h1
     have h3 := HND.out
     exact Pl.ext_ HLV.out (congrArg Prod.fst h3) (congrArg Prod.snd h3) h2)))
    clear b0 b1 b2 b3 e0 e1 e2 e3
    go_wp2_with fail
    go_ret
    exact ⟨by rw [HF.out]; rfl, X1.out.trans HX.out⟩
theorem sp_any {w : World} {q1 q2 : Nat → Prop} (p q : Pl) (v u : Value) (hsz : p.sz ≤ 1099511627776) (h : PlV w q1 p v) (k : PlV w q2 q u) : Calls Tryz.prog 23 #[v, u] w (RetB (eqB p q) w) :=
 sp_ih w (p.sz + 1) p q v u w (Nat.lt_succ_self _) hsz (h.mono fun _ _ => trivial) (k.mono fun _ _ => trivial) (Ext.refl w)
end Go.Proofs.YtkbpnppiadaibaaGreatDoor

/- Reading the arguments: numbers. -/
namespace Go.Proofs.YtkbpnppiadaibaaGreatDoor
open Go.ChangeShapes Go.WideShapes Go.RowKit
theorem cell_lt {w : World} {a : Addr} {v : Value} (h : w.cell? a = some v) : a.block < w.heap.size := by
 unfold World.cell? at h
 split at h
 · rename_i hh
   exact (Array.getElem?_eq_some_iff.1 hh).1
 · cases h
theorem add_succ_ (a : Addr) (n : Nat) : a.add (n + 1) = ⟨a.block, a.off + (n + 1), none⟩ := by simp [Addr.add]
theorem add_zero_ (a : Addr) : a.add 0 = a := by simp [Addr.add]
theorem len3 {α : Type} {l : List α} (h : l.length = 3) : ∃ x y z, l = [x, y, z] := by
 cases l with
 | nil => simp at h
 | cons x r =>
   obtain ⟨y, z, rfl⟩ := len2 (l := r) (by simpa using h)
   exact ⟨x, y, z, rfl⟩
theorem len4 {α : Type} {l : List α} (h : l.length = 4) : ∃ x y z u, l = [x, y, z, u] := by
 cases l with
 | nil => simp at h
 | cons x r =>
   obtain ⟨y, z, u, rfl⟩ := len3 (l := r) (by simpa using h)
   exact ⟨x, y, z, u, rfl⟩
theorem len8 {α : Type} {l : List α} (h : l.length = 8) : ∃ a b c d e f g i, l = [a, b, c, d, e, f, g, i] := by
 obtain ⟨a, b, c, d, h1⟩ := len4 (l := l.take 4) (by rw [List.length_take]; omega)
 obtain ⟨e, f, g, i, h2⟩ := len4 (l := l.drop 4) (by rw [List.length_drop]; omega)
 exact ⟨a, b, c, d, e, f, g, i, by rw [← List.take_append_drop 4 l, h1, h2]; rfl⟩
theorem len9 {α : Type} {l : List α} (h : l.length = 9) : ∃ a b c d e f g i j, l = [a, b, c, d, e, f, g, i, j] := by
 cases l with
 | nil => simp at h
 | cons x r =>
   obtain ⟨a, b, c, d, e, f, g, i, rfl⟩ := len8 (l := r) (by simpa using h)
   exact ⟨x, a, b, c, d, e, f, g, i, rfl⟩
section
variable {H : Type} {enc : TypeId × Value → H} {w : World} {sp : Nat → Bool} {held : Bool}
theorem trod_nat {fuel : Nat} {cs : List Value} {x : DataW H × List MemPlace} (h : DataW.trod enc Tryz.prog w 0 sp held fuel 23 cs = some x) : ∃ A ds c, cs = [.slice A ds.length c] ∧ NatV w (.slice A ds.length c) ds := by
 rcases open_ints Tryz.underlying23 Tryz.underlying180 (by kernel_rfl) h with ⟨rfl, -⟩ | ⟨a, len, cap, zs, rfl, -, hlc, hcm, hzl, -, hcell, hwf⟩
 · exact ⟨none, [], 0, rfl, NatV.nil w⟩
 · have hle : len ≤ zs.length := by rw [hzl]; split <;> omega
   have hlen : ((zs.take len).map Int.toNat).length = len := by rw [List.length_map, List.length_take]; omega
   refine ⟨some a, (zs.take len).map Int.toNat, cap, by rw [hlen], ?_⟩
   refine ⟨some a, cap, rfl, by rw [hlen]; exact hlc, by unfold maxLen at hcm; omega, ?_, fun hp => ⟨a, rfl, ?_, ?_⟩⟩
   · intro d hd
     obtain ⟨z, hz, rfl⟩ := List.mem_map.1 hd
     have := bounds_u32 (hwf z (List.mem_of_mem_take hz))
     show z.toNat < 4294967296
     omega
   · rw [hlen] at hp
     have := cell_lt (hcell 0 (by omega))
     rwa [add_zero_] at this
   · intro j hj
     rw [hlen] at hj
     have hj2 : j < zs.length := by omega
     rw [hcell j hj2]
     have hb := bounds_u32 (hwf zs[j] (List.getElem_mem hj2))
     simp only [List.getElem_map, List.getElem_take]
     rw [List.getD_eq_getElem?_getD, List.getElem?_eq_getElem hj2]
     simp only [Option.getD_some]
     congr 2
     omega
theorem trod_intS {fuel : Nat} {cs : List Value} {x : DataW H × List MemPlace} (h : DataW.trod enc Tryz.prog w 0 sp held fuel 25 cs = some x) : ∃ neg A ds c, cs = [.bool neg, .slice A ds.length c] ∧ NatV w (.slice A ds.length c) ds := by
 obtain ⟨xs, n, rfl, -, hl, hx, hf⟩ := DataW.trod_struct Tryz.underlying25 h
 have hl2 : cs.length = 2 := hl.trans (by kernel_rfl)
 have hx2 : xs.length = 2 := hx
 obtain ⟨c0, c1, rfl⟩ := len2 hl2
 obtain ⟨x0, x1, rfl⟩ := len2 hx2
 have f0 : DataW.trod enc Tryz.prog w 0 sp held n 4 ((List.drop 0 [c0, c1]).take (Tryz.prog.cellsOf 4)) = some x0 := hf 0 _ rfl
 have f1 : DataW.trod enc Tryz.prog w 0 sp held n 23 ((List.drop 1 [c0, c1]).take (Tryz.prog.cellsOf 23)) = some x1 := hf 1 _ rfl
 rw [show Tryz.prog.cellsOf 4 = 1 by kernel_rfl] at f0
 rw [show Tryz.prog.cellsOf 23 = 1 by kernel_rfl] at f1
 simp only [List.drop_zero, List.drop_succ_cons, List.take_succ_cons, List.take_zero, List.getElem?_cons_zero, List.getElem?_cons_succ] at f0 f1
 obtain ⟨b, e, -⟩ := DataW.trod_bool Tryz.underlying4 f0
 obtain ⟨A, ds, c, e1, hn⟩ := trod_nat f1
 simp only [List.cons.injEq, and_true] at e e1
 exact ⟨b, A, ds, c, by rw [e, e1], hn⟩
end
end Go.Proofs.YtkbpnppiadaibaaGreatDoor

/- Reading the arguments: polynomials and matrices that came in. -/
namespace Go.Proofs.YtkbpnppiadaibaaGreatDoor
open Go.ChangeShapes Go.WideShapes Go.RowKit
section
variable {H : Type} {enc : TypeId × Value → H} {w : World} {sp : Nat → Bool} {held : Bool}
theorem len7 {α : Type} {l : List α} (h : l.length = 7) : ∃ a b c d e f g, l = [a, b, c, d, e, f, g] := by
 obtain ⟨a, b, c, d, h1⟩ := len4 (l := l.take 4) (by rw [List.length_take]; omega)
 obtain ⟨e, f, g, h2⟩ := len3 (l := l.drop 4) (by rw [List.length_drop]; omega)
 exact ⟨a, b, c, d, e, f, g, by rw [← List.take_append_drop 4 l, h1, h2]; rfl⟩
end
end Go.Proofs.YtkbpnppiadaibaaGreatDoor

/- Law 38: awake: the prenex form of forall x. x < y. -/
set_option maxRecDepth 100000
set_option maxHeartbeats 8000000
namespace Go.Proofs.YtkbpnppiadaibaaGreatDoor
open Go.RowKit
def nx : ByteArray := ⟨#[120]⟩
def ny : ByteArray := ⟨#[121]⟩
def f38 : Fm := .quant true nx (.atom (.name nx) 1 (.name ny))
theorem f38_chk : f38.nmE = 0 := by decide +kernel
theorem f38_free : f38.free = [ny] := by decide +kernel
def Tm.justName : Tm → Prop
 | .name _ => True
 | _ => False
theorem justName_poly (w : World) (L gb bl : Nat) (t : Tm) (h : t.justName) (g : ByteArray → Int) : PolyIH w L gb bl g t := by
 cases t with
 | name s => exact poly_name
 | _ => exact h.elim
def pl38 : Pl := .mk 2 false [] [.mk 1 false [] [Pl.zero, Pl.const (-1)], Pl.const 1]
theorem pl38_low : (Pl.mk 1 false [] [Pl.zero, Pl.const (-1)]).Can := by
 refine mk_can (by omega) (by omega) (by simp) (plCan_of fun c hc => ?_) (by
  have h1 := dg_length_pos (n := 1) (by decide)
  simp [Pl.const, Pl.zero])
 simp only [List.mem_cons, List.not_mem_nil, or_false] at hc
 rcases hc with rfl | rfl
 · exact ⟨by simp [Pl.zero, Pl.lv], Pl.zero_can⟩
 · exact ⟨by simp [Pl.const, Pl.lv], const_can _⟩
theorem pl38_can : pl38.Can := by
 refine mk_can (by omega) (by omega) (by simp) (plCan_of fun c hc => ?_) (by
  have h1 := dg_length_pos (n := 1) (by decide)
  simp [Pl.const, Pl.zero]
  intro e
  rw [e] at h1
  simp at h1)
 simp only [List.mem_cons, List.not_mem_nil, or_false] at hc
 rcases hc with rfl | rfl
 · exact ⟨by simp [Pl.lv], pl38_low⟩
 · exact ⟨by simp [Pl.const, Pl.lv], const_can _⟩
theorem var_val (ρ : Int → Rat) (n : Int) (h : 1 ≤ n ∧ n ≤ 4) : (Pl.var n).val ρ = ρ n := by
 unfold Pl.var
 rw [if_pos h, Pl.mk_val ρ _ _ _ (by omega) h.2, plVal, plVal, plVal, Pl.zero_val, Pl.const_val]
 push_cast
 grind
theorem pl38_eq : (Pl.var 2).add (Pl.var 1).opp = pl38 := Pl.val_uniq (Pl.add_can _ _) pl38_can fun ρ => by
 rw [Pl.add_val, Pl.opp_val, var_val ρ 2 (by omega), var_val ρ 1 (by omega)]
 unfold pl38
 rw [Pl.mk_val ρ _ _ _ (by omega) (by omega), plVal, plVal, plVal, Pl.mk_val ρ _ _ _ (by omega) (by omega), plVal, plVal, plVal, Pl.zero_val, Pl.const_val, Pl.const_val]
 push_cast
 grind
theorem f38_mat : (matF f38 true f38.st).1 = mxAt 1 pl38 ∧ (matF f38 true f38.st).2.all = [true] ∧ (matF f38 true f38.st).2.names = [ny, nx] := by
 unfold Fm.st
 rw [f38_free]
 refine ⟨?_, rfl, rfl⟩
 rw [← pl38_eq]
 rfl
theorem awake38_any (w : World) : Calls Tryz.prog 9 #[] w (RetB true w) := by
 go_enter Tryz.func9, Tryz.ntmps9
 go_wp2_with fail
 obtain ⟨W, hW⟩ : ∃ W, w.alloc (.cells #[.bool true, .string ⟨#[120]⟩, .iface 93 (.agg #[.iface 91 (.agg #[.string ⟨#[120]⟩]), .int .i64 1, .iface 91 (.agg #[.string ⟨#[121]⟩])])] 95) = W := ⟨_, rfl⟩
 have hWx : Ext w W := by rw [← hW]; exact (Ext.refl w).alloc _
 have hfv : FmV W 0 f38 (.iface 95 (.agg #[.bool true, .string ⟨#[120]⟩, .iface 93 (.agg #[.iface 91 (.agg #[.string ⟨#[120]⟩]), .int .i64 1, .iface 91 (.agg #[.string ⟨#[121]⟩])])])) :=
  ⟨_, rfl, _, _, rfl, rfl, rfl⟩
 have HWX := Lib.hid hWx
 rw [hW]
 clear hW hWx
 refine (of_any (w0 := W) (P := Tm.justName) (L := 0) (by omega) f38 (Ext.refl W) hfv (by decide) rfl f38_chk ⟨by decide, by decide⟩ (by rw [f38_free]; decide) (fun w gb bl t ht g => justName_poly w 0 gb bl t ht g) ⟨trivial, trivial⟩).mono ?_
 rintro e w1 ⟨u, rfl, x1, hp⟩
 rw [f38_free, f38_mat.1, f38_mat.2.1, f38_mat.2.2] at hp
 obtain ⟨A1, c1, A2, c2, A0, n0, c0, B, n1, c3, K, n2, c4, rfl, hA, hN, -⟩ := hp
 obtain ⟨a1, y1, rfl, k1, rfl⟩ := SlR.get_ hA 0 (by simp)
 obtain ⟨a2, y2, rfl, k2, rfl⟩ := SlR.get_ hN 0 (by simp)
 obtain ⟨a2', y3, e2, k3, rfl⟩ := SlR.get_ hN 1 (by simp)
 injection e2 with e2
 subst e2
 simp only [List.getElem_cons_zero, List.getElem_cons_succ] at k1 k2 k3
 have hb1 := cell_lt k1
 have hb2 := cell_lt k2
 have hb3 := cell_lt k3
 rw [block_of_add] at hb1 hb2 hb3
 rw [add_zero_] at k1 k2
 rw [show (1 : Nat) = 0 + 1 from rfl, add_succ_] at k3
 simp only [Nat.zero_add] at k3
 have j2 : ny = ⟨#[121]⟩ := rfl
 have j3 : nx = ⟨#[120]⟩ := rfl
 rw [j2] at k2
 rw [j3] at k3
 clear j2 j3
 have X1 := Lib.hid (HWX.out.trans x1)
 clear hA hN x1 hfv
 unfold pxC
 simp only [List.length_cons, List.length_nil, Nat.zero_add, Nat.reduceAdd, mxAt, Mx.kind, Mx.rel, Mx.p, pl38, Pl.lv, Pl.neg]
 go_wp2_with fail
 go_ret
 exact ⟨rfl, X1.out.alloc _⟩
end Go.Proofs.YtkbpnppiadaibaaGreatDoor
