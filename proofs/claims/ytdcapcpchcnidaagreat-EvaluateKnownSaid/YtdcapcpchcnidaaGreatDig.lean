/- Plain arithmetic of digit lists in base 2^32, least significant first. No program in sight. -/

namespace Go.Proofs.YtdcapcpchcnidaaGreat

def B32 : Nat := 4294967296
theorem B32_eq : B32 = 4294967296 := rfl
theorem B32_pos : 0 < B32 := by decide
theorem B32_gt1 : 1 < B32 := by decide

/-- The number of a list of digits. -/
def val : List Nat → Nat
  | [] => 0
  | d :: r => d + B32 * val r

@[simp] theorem val_nil : val [] = 0 := rfl
@[simp] theorem val_cons (d : Nat) (r : List Nat) : val (d :: r) = d + B32 * val r := rfl

def Digs (ds : List Nat) : Prop := ∀ d ∈ ds, d < B32

theorem Digs.nil : Digs [] := fun _ h => by cases h
theorem Digs.cons {d : Nat} {r : List Nat} (hd : d < B32) (h : Digs r) : Digs (d :: r) := fun x hx => by
  rcases List.mem_cons.1 hx with rfl | hx
  · exact hd
  · exact h x hx
theorem Digs.head {d : Nat} {r : List Nat} (h : Digs (d :: r)) : d < B32 := h d (List.mem_cons_self)
theorem Digs.tail {d : Nat} {r : List Nat} (h : Digs (d :: r)) : Digs r := fun x hx => h x (List.mem_cons_of_mem _ hx)
theorem Digs.take {ds : List Nat} (h : Digs ds) (k : Nat) : Digs (ds.take k) := fun x hx => h x (List.mem_of_mem_take hx)
theorem Digs.drop {ds : List Nat} (h : Digs ds) (k : Nat) : Digs (ds.drop k) := fun x hx => h x (List.mem_of_mem_drop hx)
theorem Digs.append {xs ys : List Nat} (h : Digs xs) (k : Digs ys) : Digs (xs ++ ys) := fun x hx => by
  rcases List.mem_append.1 hx with hx | hx
  · exact h x hx
  · exact k x hx
theorem Digs.get {ds : List Nat} (h : Digs ds) (j : Nat) (hj : j < ds.length) : ds[j] < 4294967296 := h _ (List.getElem_mem hj)
theorem Digs.getD {ds : List Nat} (h : Digs ds) (j : Nat) : ds.getD j 0 < 4294967296 := by
  rw [List.getD_eq_getElem?_getD]
  by_cases hj : j < ds.length
  · rw [List.getElem?_eq_getElem hj]; exact h.get j hj
  · rw [List.getElem?_eq_none (by omega)]; decide
theorem Digs.replicate (n : Nat) : Digs (List.replicate n 0) := fun x hx => by
  rw [(List.mem_replicate.1 hx).2]; decide
theorem Digs.set {ds : List Nat} (h : Digs ds) (k d : Nat) (hd : d < B32) : Digs (ds.set k d) := fun x hx => by
  rcases List.mem_or_eq_of_mem_set hx with hx | rfl
  · exact h x hx
  · exact hd

theorem val_append (xs ys : List Nat) : val (xs ++ ys) = val xs + B32 ^ xs.length * val ys := by
  induction xs with
  | nil => simp
  | cons d r ih => simp only [List.cons_append, val_cons, ih, List.length_cons, Nat.pow_succ]; rw [Nat.mul_add, Nat.add_assoc]; congr 2; rw [← Nat.mul_assoc, Nat.mul_comm B32]

theorem val_take_drop (ds : List Nat) (k : Nat) (hk : k ≤ ds.length) : val ds = val (ds.take k) + B32 ^ k * val (ds.drop k) := by
  have h := val_append (ds.take k) (ds.drop k)
  rw [List.take_append_drop] at h
  rw [h, List.length_take, Nat.min_eq_left hk]

theorem val_snoc (ds : List Nat) (d : Nat) : val (ds ++ [d]) = val ds + B32 ^ ds.length * d := by
  rw [val_append]; simp

theorem val_replicate_zero (n : Nat) : val (List.replicate n 0) = 0 := by
  induction n with
  | zero => rfl
  | succ n ih => rw [List.replicate_succ, val_cons, ih]; rfl

theorem val_lt {ds : List Nat} (h : Digs ds) : val ds < B32 ^ ds.length := by
  induction ds with
  | nil => simp
  | cons d r ih =>
    have h1 := ih h.tail
    have h2 := h.head
    have h3 : B32 * (val r + 1) ≤ B32 * B32 ^ r.length := Nat.mul_le_mul_left _ h1
    rw [val_cons, List.length_cons, Nat.pow_succ, Nat.mul_comm _ B32]
    rw [Nat.mul_add] at h3
    omega

/-- The digits of a number, without leading zeros. -/
def dg (n : Nat) : List Nat := if _h : n = 0 then [] else (n % B32) :: dg (n / B32)
termination_by n
decreasing_by exact Nat.div_lt_self (by omega) B32_gt1

theorem dg_zero : dg 0 = [] := by rw [dg]; simp
theorem dg_pos {n : Nat} (h : n ≠ 0) : dg n = (n % B32) :: dg (n / B32) := by rw [dg]; simp [h]

theorem val_dg (n : Nat) : val (dg n) = n := by
  induction n using Nat.strongRecOn with
  | _ n ih =>
    by_cases h : n = 0
    · subst h; rw [dg_zero]; rfl
    · rw [dg_pos h, val_cons, ih _ (Nat.div_lt_self (by omega) B32_gt1)]
      exact Nat.mod_add_div n B32

theorem dg_digs (n : Nat) : Digs (dg n) := by
  induction n using Nat.strongRecOn with
  | _ n ih =>
    by_cases h : n = 0
    · subst h; rw [dg_zero]; exact Digs.nil
    · rw [dg_pos h]; exact Digs.cons (Nat.mod_lt _ B32_pos) (ih _ (Nat.div_lt_self (by omega) B32_gt1))

theorem dg_cons (d r : Nat) (hd : d < B32) (hr : d + B32 * r ≠ 0) : dg (d + B32 * r) = d :: dg r := by
  rw [dg_pos hr, Nat.add_mul_mod_self_left, Nat.mod_eq_of_lt hd, Nat.add_mul_div_left _ _ B32_pos, Nat.div_eq_of_lt hd, Nat.zero_add]

/-- How many digits are left of the first n, if leading zeros are dropped. -/
def tlen (ds : List Nat) : Nat → Nat
  | 0 => 0
  | n + 1 => if ds.getD n 0 = 0 then tlen ds n else n + 1

theorem tlen_le (ds : List Nat) (n : Nat) : tlen ds n ≤ n := by
  induction n with
  | zero => simp [tlen]
  | succ n ih => unfold tlen; split <;> omega

theorem tlen_cons (d : Nat) (r : List Nat) (n : Nat) : tlen (d :: r) (n + 1) = if tlen r n = 0 then (if d = 0 then 0 else 1) else tlen r n + 1 := by
  induction n with
  | zero => simp [tlen]
  | succ n ih =>
    rw [tlen]
    simp only [List.getD_cons_succ]
    by_cases h : r.getD n 0 = 0
    · rw [if_pos h, ih]; simp only [tlen, h, if_true]
    · rw [if_neg h]; simp only [tlen, h, if_false]; simp

theorem dg_nil_iff (n : Nat) : dg n = [] ↔ n = 0 := by
  by_cases h : n = 0
  · subst h; simp [dg_zero]
  · rw [dg_pos h]; simp [h]

theorem dg_val {ds : List Nat} (h : Digs ds) : dg (val ds) = ds.take (tlen ds ds.length) := by
  induction ds with
  | nil => simp [dg_zero, tlen]
  | cons d r ih =>
    have h1 := ih h.tail
    rw [List.length_cons, tlen_cons]
    by_cases hr : tlen r r.length = 0
    · rw [hr, List.take_zero, dg_nil_iff] at h1
      rw [if_pos hr, val_cons, h1]
      by_cases hd : d = 0
      · subst hd; simp [dg_zero]
      · rw [if_neg hd, Nat.mul_zero, Nat.add_zero]
        have := dg_cons d 0 h.head (by omega)
        rw [Nat.mul_zero, Nat.add_zero, dg_zero] at this
        rw [this]; simp
    · rw [if_neg hr, List.take_succ_cons, ← h1, val_cons, dg_cons d _ h.head]
      intro h0
      have h2 : val r = 0 := by
        rcases Nat.eq_zero_or_pos (val r) with h3 | h3
        · exact h3
        · have := Nat.mul_pos B32_pos h3; omega
      rw [h2, dg_zero] at h1
      have h4 : (r.take (tlen r r.length)).length = 0 := by rw [← h1]; rfl
      rw [List.length_take] at h4
      have := tlen_le r r.length
      omega

theorem dg_val_length {ds : List Nat} (h : Digs ds) : (dg (val ds)).length = tlen ds ds.length := by
  rw [dg_val h, List.length_take]
  have := tlen_le ds ds.length
  omega

theorem dg_length_le_of_lt {n k : Nat} (h : n < B32 ^ k) : (dg n).length ≤ k := by
  induction k generalizing n with
  | zero => rw [Nat.pow_zero] at h; have : n = 0 := by omega
            subst this; rw [dg_zero]; simp
  | succ k ih =>
    by_cases h0 : n = 0
    · subst h0; rw [dg_zero]; simp
    · rw [dg_pos h0, List.length_cons]
      have : n / B32 < B32 ^ k := by
        rw [Nat.pow_succ] at h
        exact Nat.div_lt_of_lt_mul (by rw [Nat.mul_comm]; exact h)
      have := ih this
      omega

theorem lt_pow_dg (n : Nat) : n < B32 ^ (dg n).length := by
  have := val_lt (dg_digs n)
  rwa [val_dg] at this

theorem dg_length_mono {m n : Nat} (h : m ≤ n) : (dg m).length ≤ (dg n).length :=
  dg_length_le_of_lt (Nat.lt_of_le_of_lt h (lt_pow_dg n))

theorem dg_length_val_le {ds : List Nat} (h : Digs ds) : (dg (val ds)).length ≤ ds.length := dg_length_le_of_lt (val_lt h)

theorem lt_of_dg_length_lt {m n : Nat} (h : (dg m).length < (dg n).length) : m < n := by
  rcases Nat.lt_or_ge m n with h1 | h1
  · exact h1
  · have := dg_length_mono h1; omega

theorem dg_length_add (m n : Nat) : (dg (m + n)).length ≤ max (dg m).length (dg n).length + 1 := by
  apply dg_length_le_of_lt
  have h1 := lt_pow_dg m
  have h2 := lt_pow_dg n
  have h3 : B32 ^ (dg m).length ≤ B32 ^ max (dg m).length (dg n).length := Nat.pow_le_pow_right B32_pos (Nat.le_max_left _ _)
  have h4 : B32 ^ (dg n).length ≤ B32 ^ max (dg m).length (dg n).length := Nat.pow_le_pow_right B32_pos (Nat.le_max_right _ _)
  rw [Nat.pow_succ]
  have : B32 ^ max (dg m).length (dg n).length * 2 ≤ B32 ^ max (dg m).length (dg n).length * B32 := Nat.mul_le_mul_left _ (by decide)
  omega

theorem dg_length_mul (m n : Nat) : (dg (m * n)).length ≤ (dg m).length + (dg n).length := by
  apply dg_length_le_of_lt
  rw [Nat.pow_add]
  have h1 := lt_pow_dg m
  have h2 := lt_pow_dg n
  exact Nat.mul_lt_mul_of_lt_of_le h1 (Nat.le_of_lt h2) (by have := Nat.pow_pos (n := (dg n).length) B32_pos; omega)

theorem pow_le_of_dg {n : Nat} (h : n ≠ 0) : B32 ^ ((dg n).length - 1) ≤ n := by
  rcases Nat.lt_or_ge n (B32 ^ ((dg n).length - 1)) with h1 | h1
  · have h2 := dg_length_le_of_lt h1
    have h3 : dg n ≠ [] := fun e => h ((dg_nil_iff n).1 e)
    have h4 : 0 < (dg n).length := List.length_pos_iff.2 h3
    omega
  · exact h1

theorem dg_length_pos {n : Nat} (h : n ≠ 0) : 0 < (dg n).length := by
  have h3 : dg n ≠ [] := fun e => h ((dg_nil_iff n).1 e)
  exact List.length_pos_iff.2 h3

theorem dg_length_zero {n : Nat} (h : (dg n).length = 0) : n = 0 := (dg_nil_iff n).1 (List.eq_nil_of_length_eq_zero h)

theorem dg_small {n : Nat} (h0 : n ≠ 0) (h : n < B32) : dg n = [n] := by
  rw [dg_pos h0, Nat.mod_eq_of_lt h, Nat.div_eq_of_lt h, dg_zero]

theorem dg_two (a b : Nat) (ha : a < B32) (hb0 : b ≠ 0) (hb : b < B32) : dg (a + B32 * b) = [a, b] := by
  rw [dg_cons a b ha, dg_small hb0 hb]
  have := Nat.mul_pos B32_pos (Nat.pos_of_ne_zero hb0)
  omega

/-- Top digits decide: comparing two lists from the top. -/
theorem val_cmp_top {xs ys : List Nat} (k : Nat) (hx : Digs xs) (hkx : k < xs.length) (hky : k < ys.length) (hl : xs.length = ys.length)
    (he : xs.drop (k + 1) = ys.drop (k + 1)) (h : xs[k] < ys[k]) : val xs < val ys := by
  have e1 := val_take_drop xs k (by omega)
  have e2 := val_take_drop ys k (by omega)
  rw [List.drop_eq_getElem_cons hkx, val_cons] at e1
  rw [List.drop_eq_getElem_cons hky, val_cons, ← he] at e2
  have h1 := val_lt (hx.take k)
  rw [List.length_take, Nat.min_eq_left (by omega)] at h1
  have h2 : B32 ^ k * (xs[k] + 1 + B32 * val (xs.drop (k + 1))) ≤ B32 ^ k * (ys[k] + B32 * val (xs.drop (k + 1))) := Nat.mul_le_mul_left _ (by omega)
  have h3 : B32 ^ k * (xs[k] + 1 + B32 * val (xs.drop (k + 1))) = B32 ^ k * (xs[k] + B32 * val (xs.drop (k + 1))) + B32 ^ k := by
    rw [show xs[k] + 1 + B32 * val (xs.drop (k + 1)) = (xs[k] + B32 * val (xs.drop (k + 1))) + 1 from by omega, Nat.mul_add, Nat.mul_one]
  omega

end Go.Proofs.YtdcapcpchcnidaaGreat
