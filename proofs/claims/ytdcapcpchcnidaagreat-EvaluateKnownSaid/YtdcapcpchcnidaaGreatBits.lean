/- The functions of math/bits that the program calls, each as an equation on integers. -/
import Derived.Test.YtdcapcpchcnidaaGreatBase

namespace Go.Proofs.YtdcapcpchcnidaaGreat
open Go.RowKit

theorem ret_int {k : IntKind} {a b : Int} (h : a = b) : Ending.returned (.int k a) = .returned (.int k b) := by rw [h]
theorem ret_int2 {k l : IntKind} {a b c d : Int} (h : a = b) (h' : c = d) : Ending.returned (.tuple #[.int k a, .int l c]) = .returned (.tuple #[.int k b, .int l d]) := by rw [h, h']

theorem top_bit (m : Nat) (h : m < 4294967296) : m / 2147483648 = (m.testBit 31).toNat := by
  rw [Nat.testBit_eq_decide_div_mod_eq]
  have : m / 2 ^ 31 < 2 := by omega
  by_cases h1 : m / 2 ^ 31 % 2 = 1
  · simp only [h1, decide_true, Bool.toNat_true]; omega
  · simp only [h1, decide_false, Bool.toNat_false]; omega

theorem top_of (m : Nat) (h : m < 4294967296) : m.testBit 31 = decide (2147483648 ≤ m) := by
  rw [Nat.testBit_eq_decide_div_mod_eq]
  by_cases h1 : 2147483648 ≤ m
  · simp only [h1, decide_true, decide_eq_true_eq]; omega
  · simp only [h1, decide_false, decide_eq_false_iff_not]; omega

/-- The borrow of x - y - c. -/
def bor (x y c : Int) : Int := if x < y + c then 1 else 0
theorem bor_01 (x y c : Int) : 0 ≤ bor x y c ∧ bor x y c ≤ 1 := by unfold bor; split <;> omega

theorem sub_bits (x y c : Int) (x0 : 0 ≤ x) (x1 : x < 4294967296) (y0 : 0 ≤ y) (y1 : y < 4294967296) (c0 : 0 ≤ c) (c1 : c ≤ 1) :
    bits .or .u32 (bits .and .u32 (bits .xor .u32 IntKind.u32.max x) y) (bits .and .u32 (bits .xor .u32 IntKind.u32.max (bits .xor .u32 x y)) ((x - y - c) % 4294967296)) / 2147483648 = bor x y c := by
  obtain ⟨a, rfl⟩ := Int.eq_ofNat_of_zero_le x0
  obtain ⟨b, rfl⟩ := Int.eq_ofNat_of_zero_le y0
  obtain ⟨k, rfl⟩ := Int.eq_ofNat_of_zero_le c0
  obtain ⟨d, hd⟩ := Int.eq_ofNat_of_zero_le (show 0 ≤ ((a : Int) - b - k) % 4294967296 by omega)
  have hd1 : d < 4294967296 := by omega
  have ha : a < 4294967296 := by omega
  have hb : b < 4294967296 := by omega
  have hm : IntKind.u32.max = ((4294967295 : Nat) : Int) := by decide
  have lx : ∀ p q : Nat, p < 4294967296 → q < 4294967296 → p ^^^ q < 4294967296 := fun p q hp hq => Nat.xor_lt_two_pow (n := 32) hp hq
  have la : ∀ p q : Nat, q < 4294967296 → p &&& q < 4294967296 := fun p q hq => Nat.and_lt_two_pow (n := 32) _ hq
  have lo : ∀ p q : Nat, p < 4294967296 → q < 4294967296 → p ||| q < 4294967296 := fun p q hp hq => Nat.or_lt_two_pow (n := 32) hp hq
  rw [hd, hm, u32_xor_nat _ _ (by omega) ha, u32_and_nat _ _ (lx _ _ (by omega) ha) hb, u32_xor_nat _ _ ha hb, u32_xor_nat _ _ (by omega) (lx _ _ ha hb),
    u32_and_nat _ _ (lx _ _ (by omega) (lx _ _ ha hb)) hd1, u32_or_nat _ _ (la _ _ hb) (la _ _ hd1)]
  have hl := lo _ _ (la (4294967295 ^^^ a) b hb) (la (4294967295 ^^^ (a ^^^ b)) d hd1)
  have ht := top_bit _ hl
  rw [Nat.testBit_or, Nat.testBit_and, Nat.testBit_and, Nat.testBit_xor, Nat.testBit_xor, Nat.testBit_xor, top_of a ha, top_of b hb, top_of d hd1] at ht
  have hff : (4294967295 : Nat).testBit 31 = true := by decide
  rw [hff] at ht
  have e : ∀ n : Nat, ((n : Int) / 2147483648) = ((n / 2147483648 : Nat) : Int) := fun n => by omega
  rw [e, ht]
  unfold bor
  by_cases p : 2147483648 ≤ a <;> by_cases q : 2147483648 ≤ b <;> by_cases r : 2147483648 ≤ d <;> by_cases s : (a : Int) < b + k <;> simp [p, q, r, s] <;> omega

set_option maxHeartbeats 400000 in
theorem add32 (x y c : Int) (w : World) (x0 : 0 ≤ x) (x1 : x < 4294967296) (y0 : 0 ≤ y) (y1 : y < 4294967296) (c0 : 0 ≤ c) (c1 : c ≤ 1) :
    Calls Tryz.prog 114 #[.int .u32 x, .int .u32 y, .int .u32 c] w fun e w' =>
      e = .returned (.tuple #[.int .u32 ((x + y + c) % 4294967296), .int .u32 ((x + y + c) / 4294967296)]) ∧ w = w' := by
  go_enter Tryz.func114, Tryz.ntmps114
  go_wp2
  go_ret2
  exact ⟨rfl, rfl⟩

set_option maxHeartbeats 400000 in
theorem mul32 (x y : Int) (w : World) (x0 : 0 ≤ x) (x1 : x < 4294967296) (y0 : 0 ≤ y) (y1 : y < 4294967296) :
    Calls Tryz.prog 149 #[.int .u32 x, .int .u32 y] w fun e w' =>
      e = .returned (.tuple #[.int .u32 (x * y / 4294967296), .int .u32 (x * y % 4294967296)]) ∧ w = w' := by
  have h0 : 0 ≤ x * y := Int.mul_nonneg x0 y0
  have h1 : x * y ≤ 4294967295 * 4294967295 := Int.mul_le_mul (by omega) (by omega) y0 (by omega)
  go_enter Tryz.func149, Tryz.ntmps149
  go_wp2
  go_ret2
  exact ⟨rfl, rfl⟩

set_option maxHeartbeats 400000 in
theorem sub32 (x y c : Int) (w : World) (x0 : 0 ≤ x) (x1 : x < 4294967296) (y0 : 0 ≤ y) (y1 : y < 4294967296) (c0 : 0 ≤ c) (c1 : c ≤ 1) :
    Calls Tryz.prog 116 #[.int .u32 x, .int .u32 y, .int .u32 c] w fun e w' =>
      e = .returned (.tuple #[.int .u32 ((x - y - c) % 4294967296), .int .u32 (bor x y c)]) ∧ w = w' := by
  have hs : ¬ IntKind.u32.signed = true := by decide
  go_enter Tryz.func116, Tryz.ntmps116
  go_wp2
  go_ret2
  rw [sub_bits x y c x0 x1 y0 y1 c0 c1]
  exact ⟨ret_int2 (by omega) rfl, rfl⟩

set_option maxHeartbeats 400000 in
theorem div32 (h l d : Int) (w : World) (h0 : 0 ≤ h) (h1 : h < d) (l0 : 0 ≤ l) (l1 : l < 4294967296) (d1 : d < 4294967296) :
    Calls Tryz.prog 150 #[.int .u32 h, .int .u32 l, .int .u32 d] w fun e w' =>
      e = .returned (.tuple #[.int .u32 ((h * 4294967296 + l) / d), .int .u32 ((h * 4294967296 + l) % d)]) ∧ ∃ n, w' = w.drewN n := by
  have hd : (d == 0) = false := by simp; omega
  have hd' : (d != 0) = true := by simp; omega
  have hdh : decide (d ≤ h) = false := by simp; omega
  have hor : bits .or .u64 (h * 4294967296) l = h * 4294967296 + l := by
    obtain ⟨a, rfl⟩ := Int.eq_ofNat_of_zero_le h0
    obtain ⟨b, rfl⟩ := Int.eq_ofNat_of_zero_le l0
    have := u64_or_nat (a * 4294967296) b (by omega) (by omega)
    rw [nat_join 32 (a * 4294967296) b (by omega) (by omega)] at this
    simpa using this
  have hq0 : 0 ≤ (h * 4294967296 + l) / d := Int.ediv_nonneg (by omega) (by omega)
  have hq1 : (h * 4294967296 + l) / d < 4294967296 := Int.ediv_lt_of_lt_mul (by omega) (by omega)
  have hr0 : 0 ≤ (h * 4294967296 + l) % d := Int.emod_nonneg _ (by omega)
  have hr1 : (h * 4294967296 + l) % d < d := Int.emod_lt_of_pos _ (by omega)
  go_enter Tryz.func150, Tryz.ntmps150
  go_wp2
  go_quiet (fail)
  go_wp2
  go_ret2
  exact ⟨rfl, _, rfl⟩
end Go.Proofs.YtdcapcpchcnidaaGreat
