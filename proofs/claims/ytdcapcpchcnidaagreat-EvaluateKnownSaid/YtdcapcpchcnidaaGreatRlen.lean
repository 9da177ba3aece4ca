/- How many digits sums, differences, products and powers of fractions have; values of terms. No program in sight. -/
import Derived.Test.YtdcapcpchcnidaaGreatRat4
import Derived.Test.YtdcapcpchcnidaaGreatWt
import Derived.Test.YtdcapcpchcnidaaGreatFirst

namespace Go.Proofs.YtdcapcpchcnidaaGreat
open Go.RowKit

theorem norm_le (n : Int) (d : Nat) (h : d ≠ 0) : (Rat.normalize n d h).num.natAbs ≤ n.natAbs ∧ (Rat.normalize n d h).den ≤ d := by
  rw [Rat.normalize_eq]
  exact ⟨by show (n / _).natAbs ≤ _; exact Int.natAbs_ediv_le_natAbs _ _, Nat.div_le_self _ _⟩
theorem rlen_of {q : Rat} {n d K : Nat} (hn : q.num.natAbs ≤ n) (hd : q.den ≤ d) (h1 : (dg n).length ≤ K) (h2 : (dg d).length ≤ K) : rlen q ≤ K := by
  have := Nat.le_trans (dg_length_mono hn) h1
  have := Nat.le_trans (dg_length_mono hd) h2
  unfold rlen
  omega
theorem rlen_num (q : Rat) : (dg q.num.natAbs).length ≤ rlen q := Nat.le_max_left _ _
theorem rlen_den (q : Rat) : (dg q.den).length ≤ rlen q := Nat.le_max_right _ _
theorem rlen_pos (q : Rat) : 1 ≤ rlen q := Nat.le_trans (dg_length_pos q.den_nz) (rlen_den q)
theorem cross_len (a b : Rat) : (dg (a.num.natAbs * b.den)).length ≤ rlen a + rlen b := Nat.le_trans (dg_length_mul _ _) (Nat.add_le_add (rlen_num a) (rlen_den b))
theorem den_len (a b : Rat) : (dg (a.den * b.den)).length ≤ rlen a + rlen b := Nat.le_trans (dg_length_mul _ _) (Nat.add_le_add (rlen_den a) (rlen_den b))
theorem rlen_add (a b : Rat) : rlen (a + b) ≤ rlen a + rlen b + 1 := by
  rw [Rat.add_def]
  have h := norm_le (a.num * b.den + b.num * a.den) (a.den * b.den) (Nat.mul_ne_zero a.den_nz b.den_nz)
  have h1 : (a.num * b.den + b.num * a.den).natAbs ≤ a.num.natAbs * b.den + b.num.natAbs * a.den := by
    refine Nat.le_trans (Int.natAbs_add_le _ _) ?_
    rw [Int.natAbs_mul, Int.natAbs_mul, Int.natAbs_natCast, Int.natAbs_natCast]
    exact Nat.le_refl _
  refine rlen_of (Nat.le_trans h.1 h1) h.2 ?_ (Nat.le_trans (den_len a b) (by omega))
  have h2 := dg_length_add (a.num.natAbs * b.den) (b.num.natAbs * a.den)
  have h3 := cross_len a b
  have h4 := cross_len b a
  omega
theorem rlen_neg (a : Rat) : rlen (-a) = rlen a := by unfold rlen; rw [Rat.neg_num, Rat.neg_den, Int.natAbs_neg]
theorem rlen_sub (a b : Rat) : rlen (a - b) ≤ rlen a + rlen b + 1 := by
  rw [Rat.sub_eq_add_neg]
  have := rlen_add a (-b)
  rwa [rlen_neg] at this
theorem rlen_mul (a b : Rat) : rlen (a * b) ≤ rlen a + rlen b := by
  rw [Rat.mul_def]
  have h := norm_le (a.num * b.num) (a.den * b.den) (Nat.mul_ne_zero a.den_nz b.den_nz)
  rw [Int.natAbs_mul] at h
  exact rlen_of h.1 h.2 (Nat.le_trans (dg_length_mul _ _) (Nat.add_le_add (rlen_num a) (rlen_num b))) (den_len a b)
theorem dg_one_len : (dg 1).length = 1 := by rw [dg_small (by decide) (by decide)]; rfl
theorem rlen_int (z : Int) {L : Nat} (h : (dg z.natAbs).length ≤ L) (hL : 1 ≤ L) : rlen (z : Rat) ≤ L := by
  unfold rlen
  rw [Rat.num_intCast, Rat.den_intCast, dg_one_len]
  omega
theorem rlen_one : rlen (1 : Rat) = 1 := by
  have h := rlen_int 1 (L := 1) (by show (dg 1).length ≤ 1; rw [dg_one_len]; exact Nat.le_refl _) (by omega)
  have := rlen_pos (1 : Rat)
  have h' : rlen (1 : Rat) ≤ 1 := by simpa using h
  omega
theorem rlen_pow (a : Rat) (n : Nat) : rlen (a ^ n) ≤ max n 1 * rlen a := by
  have hp := rlen_pos a
  induction n with
  | zero => rw [Rat.pow_zero, rlen_one]; simpa using hp
  | succ n ih =>
    cases n with
    | zero => rw [Rat.pow_succ, Rat.pow_zero, Rat.one_mul]; simp
    | succ n =>
      rw [Rat.pow_succ]
      have h1 := rlen_mul (a ^ (n + 1)) a
      rw [show max (n + 1 + 1) 1 = n + 1 + 1 by omega, Nat.succ_mul (n + 1)]
      rw [show max (n + 1) 1 = n + 1 by omega] at ih
      omega

/-- The value of a term. -/
def Tm.val (g : ByteArray → Option Rat) : Tm → Rat
  | .num z => (z : Rat)
  | .name s => (g s).getD 0
  | .add a b => a.val g + b.val g
  | .sub a b => a.val g - b.val g
  | .mul a b => a.val g * b.val g
  | .neg a => -a.val g
  | .pow a e => a.val g ^ e.toNat
/-- How long it is at most, where numbers and values have L digits. -/
def Tm.bt (L : Nat) : Tm → Nat
  | .num _ => L
  | .name _ => L
  | .add a b => a.bt L + b.bt L + 1
  | .sub a b => a.bt L + b.bt L + 1
  | .mul a b => a.bt L + b.bt L
  | .neg a => a.bt L
  | .pow a e => max e.toNat 1 * a.bt L
/-- All names have values. -/
def Tm.covered (g : ByteArray → Option Rat) : Tm → Prop
  | .num _ => True
  | .name s => (g s).isSome = true
  | .add a b => a.covered g ∧ b.covered g
  | .sub a b => a.covered g ∧ b.covered g
  | .mul a b => a.covered g ∧ b.covered g
  | .neg a => a.covered g
  | .pow a _ => a.covered g
theorem Tm.bt_pos (L : Nat) (hL : 1 ≤ L) (t : Tm) : 1 ≤ t.bt L := by
  induction t with
  | num z => exact hL
  | name s => exact hL
  | add a b iha ihb => simp only [Tm.bt]; omega
  | sub a b iha ihb => simp only [Tm.bt]; omega
  | mul a b iha ihb => simp only [Tm.bt]; omega
  | neg a iha => exact iha
  | pow a e iha => simp only [Tm.bt]; exact Nat.le_trans iha (Nat.le_mul_of_pos_left _ (by omega))
theorem RatR.rlen_le {w : World} {x : Value} {q : Rat} {L : Nat} (h : RatR w x q L) (hL : 1 ≤ L) : rlen q ≤ L := by
  obtain ⟨neg, s1, s2, ds, es, e, h1, h2, rfl, h4, h5⟩ := h
  by_cases h0 : val es = 0
  · rw [h0, Rat.mkRat_zero]
    have := rlen_int 0 (L := L) (by show (dg 0).length ≤ L; rw [dg_zero]; simp) hL
    simpa using this
  · rw [← Rat.normalize_eq_mkRat h0]
    have h := norm_le (sgn neg (val ds)) (val es) h0
    rw [sgn_natAbs] at h
    exact rlen_of h.1 h.2 (Nat.le_trans (dg_length_val_le h1.digs) h4) (Nat.le_trans (dg_length_val_le h2.digs) h5)
theorem val_len {w : World} {L : Nat} (hL : 1 ≤ L) {g : ByteArray → Option Rat} (hg : ∀ s q, g s = some q → rlen q ≤ L) {t : Tm} {v : Value} (h : TmV w L t v) (hc : t.covered g) : rlen (t.val g) ≤ t.bt L := by
  induction t generalizing v with
  | num z => obtain ⟨x, e, h⟩ := h; exact rlen_int z h.len hL
  | name s =>
    simp only [Tm.covered] at hc
    simp only [Tm.val, Tm.bt]
    cases hh : g s with
    | none => rw [hh] at hc; cases hc
    | some q => exact hg s q hh
  | add a b iha ihb =>
    obtain ⟨x, y, e, h, k⟩ := h
    have h1 := iha h hc.1
    have h2 := ihb k hc.2
    have h3 := rlen_add (a.val g) (b.val g)
    simp only [Tm.val, Tm.bt]; omega
  | sub a b iha ihb =>
    obtain ⟨x, y, e, h, k⟩ := h
    have h1 := iha h hc.1
    have h2 := ihb k hc.2
    have h3 := rlen_sub (a.val g) (b.val g)
    simp only [Tm.val, Tm.bt]; omega
  | mul a b iha ihb =>
    obtain ⟨x, y, e, h, k⟩ := h
    have h1 := iha h hc.1
    have h2 := ihb k hc.2
    have h3 := rlen_mul (a.val g) (b.val g)
    simp only [Tm.val, Tm.bt]; omega
  | neg a iha =>
    obtain ⟨x, e, h⟩ := h
    have h1 := iha h hc
    simp only [Tm.val, Tm.bt]; rw [rlen_neg]; exact h1
  | pow a n iha =>
    obtain ⟨x, e, h⟩ := h
    have h1 := iha h hc
    have h2 := rlen_pow (a.val g) n.toNat
    simp only [Tm.val, Tm.bt]
    exact Nat.le_trans h2 (Nat.mul_le_mul_left _ h1)
end Go.Proofs.YtdcapcpchcnidaaGreat
