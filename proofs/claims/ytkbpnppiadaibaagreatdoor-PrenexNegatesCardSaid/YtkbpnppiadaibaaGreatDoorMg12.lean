/- Layer 20: sums of terms as values. -/
import Derived.Test.YtkbpnppiadaibaaGreatDoorMg9
import Derived.Test.YtkbpnppiadaibaaGreatDoorMg11
set_option linter.unusedSimpArgs false
set_option linter.unusedVariables false

namespace Go.Proofs.YtkbpnppiadaibaaGreatDoor
open Go.RowKit

section
variable {w w' : World} {k : Option Nat} {x : Value} {z : Int}
end
section
variable {k : Option Nat} {base base' : Nat} {W W' : World} {v : Value} {l : Sp}
end
end Go.Proofs.YtkbpnppiadaibaaGreatDoor

/- Layer 22: recpoly.isLevel, isZero, isCanonical. -/
namespace Go.Proofs.YtkbpnppiadaibaaGreatDoor
open Go.RowKit

theorem isLevel_any (l : Int) (w : World) : Calls Tryz.prog 168 #[.int .i64 l] w fun e w' => e = .returned (.bool (decide (1 ≤ l) && decide (l ≤ 4))) ∧ w' = w := by
  by_cases h : 1 ≤ l
  · go_enter Tryz.func168, Tryz.ntmps168
    go_wp2_with fail
    go_ret
    simp [h]
  · go_enter Tryz.func168, Tryz.ntmps168
    go_wp2_with fail
    go_ret
    have h' : l < 1 := by omega
    simp [h]; omega
theorem isZero_any {w : World} {q : Nat → Prop} (p : Pl) (v : Value) (h : PlV w q p v) : Calls Tryz.prog 195 #[v] w fun e w' => e = .returned (.bool p.isZ) ∧ Ext w w' := by
  obtain ⟨A0, n0, c0, A, c, rfl, ⟨A0', c0', e, -, -, -⟩, hl1, hl2, h4⟩ := h.open_
  injection e with e1 e2 e3
  subst e1 e2 e3
  have HX : Hid (∀ o, Ext w (w.alloc o)) := fun o => (Ext.refl w).alloc o
  unfold plV Pl.isZ
  clear h h4
  by_cases hl : p.lv = 0
  · go_enter Tryz.func195, Tryz.ntmps195
    go_wp2_with fail
    go_ret
    exact ⟨by simp [hl]; cases p.ds <;> simp <;> omega, HX.out _⟩
  · go_enter Tryz.func195, Tryz.ntmps195
    go_wp2_with fail
    go_ret
    exact ⟨by simp [hl], HX.out _⟩

def IsCanIH (w0 : World) (q : Nat → Prop) (n : Nat) : Prop := ∀ (p : Pl) (v : Value) (w : World), p.sz < n → PlV w0 q p v → Ext w0 w → Calls Tryz.prog 182 #[v] w fun e w' => e = .returned (.bool p.isCan) ∧ Ext w w'

set_option maxRecDepth 100000 in
set_option maxHeartbeats 2000000 in
theorem isCan_flat {w0 w : World} {q : Nat → Prop} (p : Pl) (v : Value) (h : PlV w0 q p v) (hx0 : Ext w0 w) (hl : p.lv = 0) : Calls Tryz.prog 182 #[v] w fun e w' => e = .returned (.bool p.isCan) ∧ Ext w w' := by
  obtain ⟨A0, n0, c0, A, c, rfl, ⟨A0', c0', e, hd1, hd2, hd⟩, hl1, hl2, h4⟩ := h.open_
  injection e with e1 e2 e3
  subst e1 e2 e3
  obtain ⟨l, ng, ds, cs⟩ := p
  change l = 0 at hl
  subst hl
  have HX : Hid (∀ o, Ext w (w.alloc o)) := fun o => (Ext.refl w).alloc o
  have HDX : Hid (DigAt (w.alloc (.cells #[.int .i64 0, .bool ng, .slice A0 ds.length c0, .slice A cs.length c] 42)) A0 ds) := hd.ext (hx0.trans ((Ext.refl w).alloc _))
  simp only [Pl.cs, Pl.ds, Pl.lv, Pl.neg, plV] at *
  clear h h4 hd
  by_cases hc : 0 < cs.length
  · have HF : Hid ((Pl.mk 0 ng ds cs).isCan = false) := by
      have : (Pl.mk 0 ng ds cs).isCan = false := by rw [Pl.isCan, if_pos rfl, if_pos hc]
      exact this
    go_enter Tryz.func182, Tryz.ntmps182
    go_wp2_with fail
    go_ret
    exact ⟨by rw [HF.out]; rfl, HX.out _⟩
  · have HF : Hid ((Pl.mk 0 ng ds cs).isCan = ((decide (ds.length = 0) && !ng) || (decide (0 < ds.length) && decide (ds.getLast? ≠ some 0)))) := by
      have : (Pl.mk 0 ng ds cs).isCan = ((decide (ds.length = 0) && !ng) || (decide (0 < ds.length) && decide (ds.getLast? ≠ some 0))) := by rw [Pl.isCan, if_pos rfl, if_neg hc]
      exact this
    by_cases hds : 0 < ds.length
    · obtain ⟨ad, x, rfl, hb, hcell, hx, HG⟩ := HDX.out.get_ (ds.length - 1) (by omega)
      obtain ⟨k, hk⟩ : ∃ k : Nat, ds.length - 1 = k := ⟨_, rfl⟩
      have hk2 : ds.length = k + 1 := by omega
      rw [hk] at hcell HG
      have HG2 : Hid (ds.getLast? = some x) := by
        have : ds.getLast? = some x := by rw [List.getLast?_eq_getElem?, hk]; exact HG.out
        exact this
      generalize ds.length = N at *
      subst hk2
      have hwr : IntKind.i64.wrap (((k + 1 : Nat) : Int) - 1) = k := by simp [IntKind.wrap, IntKind.bits, IntKind.signed]; omega
      go_enter Tryz.func182, Tryz.ntmps182
      go_wp2_with fail
      go_ret
      exact ⟨by rw [HF.out, HG2.out]; simp; by_cases hx0 : x = 0 <;> simp [hx0] <;> omega, HX.out _⟩
    · have hN : ds.length = 0 := by omega
      rw [hN] at HF HDX
      rw [hN]
      cases ng
      · go_enter Tryz.func182, Tryz.ntmps182
        go_wp2_with fail
        go_ret
        exact ⟨by rw [HF.out]; rfl, HX.out _⟩
      · go_enter Tryz.func182, Tryz.ntmps182
        go_wp2_with fail
        go_ret
        exact ⟨by rw [HF.out]; rfl, HX.out _⟩

set_option maxRecDepth 100000 in
set_option maxHeartbeats 4000000 in
theorem isCan_ih (w0 : World) (q : Nat → Prop) (n : Nat) : IsCanIH w0 q n := by
  induction n with
  | zero => intro p v w h; omega
  | succ n ih =>
  intro p v w hn h hx0
  by_cases hl : p.lv = 0
  · exact isCan_flat p v h hx0 hl
  obtain ⟨A0, n0, c0, A, c, rfl, ⟨A0', c0', e, hd1, hd2, hd⟩, hl1, hl2, h4⟩ := h.open_
  injection e with e1 e2 e3
  subst e1 e2 e3
  obtain ⟨l, ng, ds, cs⟩ := p
  simp only [Pl.cs, Pl.ds, Pl.lv, Pl.neg, plV] at *
  have IH := Lib.hid ih
  have H4 := Lib.hid h4
  have HX0 := Lib.hid hx0
  have HSZ : Hid (∀ k (hk : k < cs.length), cs[k].sz < n) := by
    have : ∀ k (hk : k < cs.length), cs[k].sz < n := fun k hk => by
      have h1 := plSz_mem (List.getElem_mem hk)
      have h2 : (Pl.mk l ng ds cs).sz = plSz cs + 1 := by rw [Pl.sz]
      omega
    exact this
  clear h h4 hd ih hx0
  obtain ⟨W, hW⟩ : ∃ W, w.alloc (.cells #[.int .i64 l, .bool ng, .slice A0 ds.length c0, .slice A cs.length c] 42) = W := ⟨_, rfl⟩
  have hWx : Ext w W := by rw [← hW]; exact (Ext.refl w).alloc _
  have hWs : W.heap.size = w.heap.size + 1 := by rw [← hW]; simp
  have hbx : Box4 W w.heap.size (.mk l ng ds cs) (.slice A0 ds.length c0) (.slice A cs.length c) := by rw [← hW]; exact Box4.new w (.mk l ng ds cs) _ _ _
  have HWX := Lib.hid hWx
  have HBX := Lib.hid hbx
  obtain ⟨b0, b1, b2, b3⟩ := hbx
  simp only [Pl.lv, Pl.neg] at b0 b1
  have hl0 : (l == 0) = false := by simpa using hl
  by_cases hg : (l < 1 ∨ 4 < l) ∨ 0 < ds.length ∨ ng = true ∨ cs.length < 2
  · have HF : Hid ((Pl.mk l ng ds cs).isCan = false) := by
      have : (Pl.mk l ng ds cs).isCan = false := by rw [Pl.isCan, if_neg hl, if_pos hg]
      exact this
    clear hWx
    go_enter Tryz.func182, Tryz.ntmps182
    go_wp2_with fail
    refine (isLevel_any l _).mono ?_
    rintro e w1 ⟨rfl, rfl⟩
    by_cases hg1 : 1 ≤ l ∧ l ≤ 4
    · have hg2 : (decide (1 ≤ l) && decide (l ≤ 4)) = true := by simp [hg1]
      rw [hg2]
      by_cases hg3 : 0 < ds.length
      · have hg4 : decide ((ds.length : Int) > 0) = true := decide_eq_true (by omega)
        go_wp2_with fail
        go_ret
        exact ⟨by rw [HF.out]; rfl, HWX.out⟩
      · obtain rfl : ds = [] := List.eq_nil_of_length_eq_zero (by omega)
        simp only [List.length_nil] at *
        cases ng
        · have hg5 : decide ((cs.length : Int) < 2) = true := decide_eq_true (by
            have : cs.length < 2 := by
              rcases hg with h | h | h | h
              · omega
              · exact absurd h (by decide)
              · cases h
              · exact h
            omega)
          go_wp2_with fail
          go_ret
          exact ⟨by rw [HF.out]; rfl, HWX.out⟩
        · go_wp2_with fail
          go_ret
          exact ⟨by rw [HF.out]; rfl, HWX.out⟩
    · have hg2 : (decide (1 ≤ l) && decide (l ≤ 4)) = false := by simp at hg1 ⊢; omega
      rw [hg2]
      go_wp2_with fail
      go_ret
      exact ⟨by rw [HF.out]; rfl, HWX.out⟩
  · have hg2 : (decide (1 ≤ l) && decide (l ≤ 4)) = true := by simp; omega
    obtain rfl : ds = [] := List.eq_nil_of_length_eq_zero (by omega)
    have hng : ng = false := by
      cases ng
      · rfl
      · exact absurd (.inr (.inr (.inl rfl))) hg
    have hg5 : decide ((cs.length : Int) < 2) = false := decide_eq_false (by omega)
    have hlen : 2 ≤ cs.length := by omega
    have HG := Lib.hid hg
    have HL := Lib.hid hl
    subst hng
    clear hWx hg
    simp only [List.length_nil] at *
    go_enter Tryz.func182, Tryz.ntmps182
    go_wp2_with fail
    refine (isLevel_any l _).mono ?_
    rintro e w1 ⟨rfl, rfl⟩
    rw [hg2]
    go_wp2_with fail
    clear hW b0 b1 b2 b3
    go_loopw [63] (fun iv wr => ∃ k : Nat, k ≤ cs.length ∧ iv = .int .i64 k ∧ Hid ((∀ c ∈ cs.take k, c.lv < l ∧ c.isCan = true) ∧ Ext w1 wr)) (fun iv _ => cs.length - (intOf iv).toNat)
    case atStart => exact ⟨0, Nat.zero_le _, rfl, ⟨by simp, Ext.refl _⟩⟩
    case round =>
      obtain ⟨k, hk, rfl, ⟨hall, hx⟩⟩ := hrel
      have HALL := Lib.hid hall
      have HX := Lib.hid hx
      obtain ⟨b0, b1, b2, b3⟩ := HBX.out.ext hx (by omega)
      simp only [Pl.lv, Pl.neg] at b0 b1
      have hws : w.heap.size < wr.heap.size := by have := hx.size; omega
      by_cases hlt : k < cs.length
      · obtain ⟨ad, B0, m0, d0, B1, m1, d1, rfl, hadb, hnd, hkt⟩ := PlsAt.kid H4.out k hlt
        have hxx : Ext w0 wr := (HX0.out.trans HWX.out).trans hx
        obtain ⟨e0, e1, e2, e3⟩ := hnd.ext hxx (by rw [block_of_add]; exact hadb)
        have hsz := HSZ.out k hlt
        have HC := Lib.hid (fun W (hxW : Ext wr W) => IH.out cs[k] _ W hsz hkt (hxx.trans hxW))
        have HBAD : Hid (l ≤ cs[k].lv ∨ cs[k].isCan = false → (Pl.mk l false [] cs).isCan = false) := fun h => Pl.isCan_bad HL.out (List.getElem_mem hlt) h
        have HGOOD : Hid (cs[k].lv < l → cs[k].isCan = true → ∀ c ∈ cs.take (k + 1), c.lv < l ∧ c.isCan = true) := fun h1 h2 c hc => by
          rw [List.take_succ_eq_append_getElem hlt] at hc
          rcases List.mem_append.1 hc with hc | hc
          · exact HALL.out c hc
          · rw [List.mem_singleton.1 hc]; exact ⟨h1, h2⟩
        generalize cs[k] = ck at *
        clear hx hall hnd hkt hadb hsz hxx
        by_cases hlv : l ≤ ck.lv
        · have hq : decide (ck.lv ≥ l) = true := by simpa using hlv
          go_wp2_with fail
          go_ret
          exact ⟨by rw [HBAD.out (.inl hlv)]; rfl, (HWX.out.trans HX.out).alloc _⟩
        · have hq : decide (ck.lv ≥ l) = false := by simpa using hlv
          go_wp2_with fail
          refine (HC.out _ ((Ext.refl _).alloc _)).mono ?_
          rintro e w2 ⟨rfl, x2⟩
          have X2 : Hid (Ext w1 w2) := (HX.out.trans ((Ext.refl _).alloc _)).trans x2
          clear x2 HC
          cases hci : ck.isCan
          · go_wp2_with fail
            go_ret
            exact ⟨by rw [HBAD.out (.inr hci)]; rfl, HWX.out.trans X2.out⟩
          · go_wp2_with fail
            go_roundw
            case rel => exact ⟨k + 1, by omega, by go_num, HGOOD.out (by omega) hci, X2.out⟩
            case measure => simp [intOf]; omega
      · have hke : k = cs.length := by omega
        rw [hke, List.take_length] at HALL
        obtain ⟨j, hj⟩ : ∃ j : Nat, cs.length = j + 1 := ⟨cs.length - 1, by omega⟩
        have hjl : j < cs.length := by omega
        obtain ⟨ad, B0, m0, d0, B1, m1, d1, rfl, hadb, hnd, hkt⟩ := PlsAt.kid H4.out j hjl
        have hxx : Ext w0 wr := (HX0.out.trans HWX.out).trans hx
        obtain ⟨e0, e1, e2, e3⟩ := hnd.ext hxx (by rw [block_of_add]; exact hadb)
        have HKT := Lib.hid (hkt.ext hxx)
        have HFIN : Hid ((Pl.mk l false [] cs).isCan = !(cs[j]).isZ) := by
          have h := Pl.isCan_fin (n := false) (d := []) HL.out HG.out HALL.out (by omega)
          have hj' : cs.length - 1 = j := by omega
          simp only [hj'] at h
          exact h
        generalize cs[j] = cj at *
        rw [hj] at hke
        subst hke
        have hwr : IntKind.i64.wrap (((j + 1 : Nat) : Int) - 1) = j := by simp [IntKind.wrap, IntKind.bits, IntKind.signed]; omega
        clear hx hall hnd hkt hadb hxx
        rw [hj]
        go_wp2_with fail
        refine (isZero_any _ _ HKT.out).mono ?_
        rintro e w2 ⟨rfl, x2⟩
        have X2 := Lib.hid (HX.out.trans x2)
        clear x2
        go_wp2_with fail
        go_ret
        exact ⟨by rw [HFIN.out]; rfl, HWX.out.trans X2.out⟩
theorem isCan_any {w : World} {q : Nat → Prop} (p : Pl) (v : Value) (h : PlV w q p v) : Calls Tryz.prog 182 #[v] w fun e w' => e = .returned (.bool p.isCan) ∧ Ext w w' :=
  isCan_ih w q (p.sz + 1) p v w (Nat.lt_succ_self _) h (Ext.refl w)
end Go.Proofs.YtkbpnppiadaibaaGreatDoor
