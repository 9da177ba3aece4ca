/- How many decimal digits a number has. No program in sight. -/
namespace Go.Proofs.YtofbfplpbffpfaaGreat

def ndig (n : Nat) : Nat := if _h : n < 10 then 1 else ndig (n / 10) + 1
termination_by n
decreasing_by omega

theorem ndig_lt {n : Nat} (h : n < 10) : ndig n = 1 := by rw [ndig]; simp [h]
theorem ndig_ge {n : Nat} (h : 10 ≤ n) : ndig n = ndig (n / 10) + 1 := by rw [ndig]; simp [show ¬ n < 10 by omega]
theorem ndig_pos (n : Nat) : 1 ≤ ndig n := by
  rcases Nat.lt_or_ge n 10 with h | h
  · rw [ndig_lt h]; omega
  · rw [ndig_ge h]; omega

/-- Digits still to come: of a number, none if it is 0. -/
def more (n : Nat) : Nat := if n = 0 then 0 else ndig n
theorem more_zero : more 0 = 0 := rfl
theorem more_pos {n : Nat} (h : n ≠ 0) : more n = ndig n := if_neg h
theorem more_step {n : Nat} (h : n ≠ 0) : more n = more (n / 10) + 1 := by
  rw [more_pos h]
  rcases Nat.lt_or_ge n 10 with h1 | h1
  · rw [ndig_lt h1, Nat.div_eq_of_lt h1, more_zero]
  · rw [ndig_ge h1, more_pos (by omega)]
theorem more_chunk (k : Nat) : ∀ n, 10 ^ k ≤ n → more n = more (n / 10 ^ k) + k := by
  induction k with
  | zero => intro n _; simp
  | succ k ih =>
    intro n h
    have hp : 0 < 10 ^ k := Nat.pow_pos (by omega)
    have h1 : 10 ^ k ≤ n / 10 := by
      rw [Nat.le_div_iff_mul_le (by omega)]
      rw [Nat.pow_succ] at h
      exact h
    have hn : n ≠ 0 := by
      rintro rfl
      have : 0 < 10 ^ (k + 1) := Nat.pow_pos (by omega)
      omega
    rw [more_step hn, ih _ h1, Nat.div_div_eq_div_mul, Nat.pow_succ, Nat.mul_comm 10]
    omega
theorem more_le (n k : Nat) (h : n < 10 ^ k) : more n ≤ k := by
  induction k generalizing n with
  | zero => have : n = 0 := by simpa using h
            subst this; simp [more]
  | succ k ih =>
    by_cases hn : n = 0
    · subst hn; simp [more]
    · rw [more_step hn]
      have : n / 10 < 10 ^ k := by
        rw [Nat.div_lt_iff_lt_mul (by omega)]
        rw [Nat.pow_succ] at h
        exact h
      have := ih _ this
      omega
end Go.Proofs.YtofbfplpbffpfaaGreat
