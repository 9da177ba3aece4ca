/- Polynomials in four variables, plain: a canonical polynomial is known by its values; sums and products. No program in sight. -/
import Derived.Test.YtdcapcpchcnidaaGreatMm35
import Derived.Test.YtdcapcpchcnidaaGreatMm39
import Derived.Deep.CutBlock

namespace Go.Proofs.YtdcapcpchcnidaaGreat

theorem rpow_add (x : Rat) (m n : Nat) : x ^ (m + n) = x ^ m * x ^ n := by
  induction n with
  | zero => simp
  | succ n ih => rw [← Nat.add_assoc, Rat.pow_succ, ih, Rat.pow_succ]; grind
theorem rpow_mul (x : Rat) (m n : Nat) : x ^ (m * n) = (x ^ m) ^ n := by
  induction n with
  | zero => simp
  | succ n ih => rw [Nat.mul_succ, rpow_add, ih, Rat.pow_succ]
/-- The number of a monomial, for exponents below E. -/
def Mo.num (E : Nat) (m : Mo) : Nat := m.a.toNat + E * (m.b.toNat + E * (m.c.toNat + E * m.d.toNat))
theorem num_step {E x x' y y' : Nat} (hx : x < E) (h : y < y') : x + E * y < x' + E * y' := by
  have h1 : E * (y + 1) ≤ E * y' := Nat.mul_le_mul_left E h
  rw [Nat.mul_add] at h1
  omega
theorem Mo.num_lt {E : Nat} {m n : Mo} (hm : m.nonneg) (hn : n.nonneg) (hE : m.a < E ∧ m.b < E ∧ m.c < E ∧ m.d < E) (h : m.lt n) : m.num E < n.num E := by
  unfold Mo.lt at h
  unfold Mo.nonneg at hm hn
  unfold Mo.num
  rcases h with h | ⟨h1, h | ⟨h2, h | ⟨h3, h⟩⟩⟩
  · exact num_step (by omega) (num_step (by omega) (num_step (by omega) (by omega)))
  · rw [h1]; exact num_step (by omega) (num_step (by omega) (by omega))
  · rw [h1, h2]; exact num_step (by omega) (by omega)
  · rw [h1, h2, h3]; omega
/-- The sum at powers of B. -/
def ival (E B : Nat) : Sp → Int
  | [] => 0
  | (c, m) :: r => c * (B : Int) ^ m.num E + ival E B r
def kro (E B : Nat) (i : Int) : Rat := (B : Rat) ^ (E ^ (i - 1).toNat)
theorem Mo.val_kro (E B : Nat) (m : Mo) : m.val (kro E B) = (B : Rat) ^ m.num E := by
  unfold Mo.val kro Mo.num
  simp only [← rpow_mul, ← rpow_add]
  congr 1
  simp only [show ((1 : Int) - 1).toNat = 0 from rfl, show ((2 : Int) - 1).toNat = 1 from rfl, show ((3 : Int) - 1).toNat = 2 from rfl, show ((4 : Int) - 1).toNat = 3 from rfl, Nat.pow_zero, Nat.pow_one]
  grind
theorem sval_kro (E B : Nat) (l : Sp) : sval (kro E B) l = (ival E B l : Rat) := by
  induction l with
  | nil => simp [sval, ival]
  | cons x l ih =>
    obtain ⟨c, m⟩ := x
    simp only [sval, ival, ih, Mo.val_kro]
    push_cast
    rfl
theorem ival_le (E B K : Nat) (hB : 0 < B) (l : Sp) (h : ∀ x ∈ l, x.2.num E ≤ K) : (ival E B l).natAbs ≤ snrm l * B ^ K := by
  induction l with
  | nil => simp [ival]
  | cons x l ih =>
    obtain ⟨c, m⟩ := x
    have h1 := ih fun x hx => h x (List.mem_cons_of_mem _ hx)
    have h2 : B ^ m.num E ≤ B ^ K := Nat.pow_le_pow_right hB (h (c, m) (List.mem_cons_self ..))
    simp only [ival, snrm]
    have h3 : (c * (B : Int) ^ m.num E).natAbs = c.natAbs * B ^ m.num E := by
      rw [Int.natAbs_mul, Int.natAbs_pow, Int.natAbs_natCast]
    have h4 : c.natAbs * B ^ m.num E ≤ c.natAbs * B ^ K := Nat.mul_le_mul_left _ h2
    have h5 := Int.natAbs_add_le (c * (B : Int) ^ m.num E) (ival E B l)
    rw [Nat.add_mul]
    omega
theorem snrm_cons (c : Int) (m : Mo) (l : Sp) : snrm ((c, m) :: l) = c.natAbs + snrm l := rfl
/-- A canonical sum is not 0 at great powers. -/
theorem ival_ne {l : Sp} (h : SCan l) (hn : ∀ x ∈ l, x.2.nonneg) (E : Nat) (hE : ∀ x ∈ l, x.2.le E) (B : Nat) (hB : snrm l + 1 ≤ B) (hne : l ≠ []) : ival (E + 1) B l ≠ 0 := by
  intro h2
  cases l with
  | nil => exact hne rfl
  | cons x r =>
    obtain ⟨c, m⟩ := x
    simp only [ival] at h2
    have hc := h.1
    rw [snrm_cons] at hB
    have hnum : ∀ x ∈ r, x.2.num (E + 1) < m.num (E + 1) := fun x hx => by
      refine Mo.num_lt (hn x (List.mem_cons_of_mem _ hx)) (hn _ (List.mem_cons_self ..)) ?_ (h.2.1 x hx)
      have := hE x (List.mem_cons_of_mem _ hx)
      unfold Mo.le at this
      omega
    have h3 : (c * (B : Int) ^ m.num (E + 1)).natAbs = c.natAbs * B ^ m.num (E + 1) := by
      rw [Int.natAbs_mul, Int.natAbs_pow, Int.natAbs_natCast]
    have h4 : (ival (E + 1) B r).natAbs = (c * (B : Int) ^ m.num (E + 1)).natAbs := by omega
    have hc1 : 1 ≤ c.natAbs := by omega
    cases r with
    | nil =>
      simp only [ival, Int.natAbs_zero] at h4
      rw [h3] at h4
      have : 0 < B ^ m.num (E + 1) := Nat.pow_pos (by omega)
      have := Nat.mul_le_mul_right (B ^ m.num (E + 1)) hc1
      omega
    | cons y r' =>
      have hy := hnum y (List.mem_cons_self ..)
      obtain ⟨K, hK⟩ : ∃ K, m.num (E + 1) = K + 1 := ⟨m.num (E + 1) - 1, by omega⟩
      have h5 := ival_le (E + 1) B K (by omega) (y :: r') (fun x hx => by have := hnum x hx; omega)
      rw [h4, h3, hK, Nat.pow_succ] at h5
      have hp : 0 < B ^ K := Nat.pow_pos (by omega)
      generalize B ^ K = P at *
      generalize snrm (y :: r') = S at *
      have h6 : 1 * (P * B) ≤ c.natAbs * (P * B) := Nat.mul_le_mul_right _ hc1
      have h7 : P * (S + 2) ≤ P * B := Nat.mul_le_mul_left _ (by omega)
      have h8 : P * (S + 2) = S * P + 2 * P := by grind
      omega
/-- A canonical sum that is 0 everywhere is empty. -/
theorem sval_empty {l : Sp} (h : SCan l) (hn : ∀ x ∈ l, x.2.nonneg) (E : Nat) (hE : ∀ x ∈ l, x.2.le E) (hz : ∀ ρ, sval ρ l = 0) : l = [] := by
  cases l with
  | nil => rfl
  | cons x r =>
    have h1 := hz (kro (E + 1) (snrm (x :: r) + 1))
    rw [sval_kro] at h1
    exact absurd (by exact_mod_cast h1) (ival_ne h hn E hE _ (Nat.le_refl _) (by simp))
theorem Mo.le_sup (l : Sp) : ∃ E : Nat, ∀ x ∈ l, x.2.le E := by
  induction l with
  | nil => exact ⟨0, by simp⟩
  | cons x r ih =>
    obtain ⟨E, h⟩ := ih
    refine ⟨E + x.2.a.toNat + x.2.b.toNat + x.2.c.toNat + x.2.d.toNat, fun y hy => ?_⟩
    rcases List.mem_cons.1 hy with rfl | hy
    · unfold Mo.le; omega
    · exact (h y hy).mono (by omega)
/-- Sums with the same values have the same coefficients. -/
theorem scoef_of_val {l l' : Sp} (hn : ∀ x ∈ l, x.2.nonneg) (hn' : ∀ x ∈ l', x.2.nonneg) (h : ∀ ρ, sval ρ l = sval ρ l') (k : Mo) : scoef l k = scoef l' k := by
  have hnn : ∀ x ∈ l ++ sneg l', x.2.nonneg := fun x hx => by
    rcases List.mem_append.1 hx with hx | hx
    · exact hn x hx
    · unfold sneg at hx
      obtain ⟨y, hy, rfl⟩ := List.mem_map.1 hx
      exact hn' y hy
  obtain ⟨E, hE⟩ := Mo.le_sup (snorm (l ++ sneg l'))
  have h1 : snorm (l ++ sneg l') = [] := sval_empty (snorm_can _) (fun x hx => (snorm_mem hx).1) E hE (fun ρ => by
    rw [sval_coef ρ (snorm_coef_nn hnn), sval_append, sval_neg, h ρ]
    grind)
  have h2 := snorm_coef_nn hnn k
  rw [h1, scoef_append, scoef_neg] at h2
  simp only [scoef] at h2
  omega
/-- A canonical polynomial is known by its values. -/
theorem Pl.val_uniq {p q : Pl} (hp : p.Can) (hq : q.Can) (h : ∀ ρ, p.val ρ = q.val ρ) : p = q := by
  refine Pl.can_eq hp hq (scoef_of_val p.terms_one_nonneg q.terms_one_nonneg fun ρ => ?_)
  rw [Pl.terms_val ρ p _ Mo.one_nonneg, Pl.terms_val ρ q _ Mo.one_nonneg, h ρ]
theorem Pl.ofS_val (ρ : Int → Rat) {l : Sp} (hn : ∀ x ∈ l, x.2.nonneg) : (Pl.ofS l).val ρ = sval ρ l := by
  have h1 := sval_coef ρ (l := (Pl.ofS l).terms Mo.one) (l' := l) (fun k => by
    rw [Pl.ofS_coef]
    split
    · rfl
    · rename_i hk
      exact (scoef_above fun x hx e => hk (by rw [← e]; exact hn x hx)).symm)
  rw [Pl.terms_val ρ _ _ Mo.one_nonneg, Mo.val_one] at h1
  grind
theorem Pl.terms_sval (ρ : Int → Rat) (p : Pl) : sval ρ (p.terms Mo.one) = p.val ρ := by
  rw [Pl.terms_val ρ p _ Mo.one_nonneg, Mo.val_one]; grind

/-- The product of monomials. -/
def Mo.mul (m n : Mo) : Mo := ⟨m.a + n.a, m.b + n.b, m.c + n.c, m.d + n.d⟩
theorem Mo.mul_nonneg {m n : Mo} (h : m.nonneg) (k : n.nonneg) : (m.mul n).nonneg := by unfold Mo.nonneg Mo.mul at *; simp only at *; omega
theorem Mo.mul_le {m n : Mo} {E F : Nat} (h : m.le E) (k : n.le F) : (m.mul n).le ((E + F : Nat) : Int) := by unfold Mo.le Mo.mul at *; simp only; omega
theorem Mo.val_mul (ρ : Int → Rat) {m n : Mo} (h : m.nonneg) (k : n.nonneg) : (m.mul n).val ρ = m.val ρ * n.val ρ := by
  unfold Mo.nonneg at h k
  unfold Mo.val Mo.mul
  rw [Int.toNat_add h.1 k.1, Int.toNat_add h.2.1 k.2.1, Int.toNat_add h.2.2.1 k.2.2.1, Int.toNat_add h.2.2.2 k.2.2.2]
  simp only [rpow_add]
  grind
/-- A sum times a term. -/
def stm (c : Int) (m : Mo) (l : Sp) : Sp := l.map fun x => (c * x.1, m.mul x.2)
/-- The product of sums. -/
def smul : Sp → Sp → Sp
  | [], _ => []
  | (c, m) :: r, l => stm c m l ++ smul r l
theorem stm_mem {c : Int} {m : Mo} {l : Sp} {x : Int × Mo} (h : x ∈ stm c m l) : ∃ y ∈ l, x = (c * y.1, m.mul y.2) := by
  unfold stm at h
  obtain ⟨y, hy, rfl⟩ := List.mem_map.1 h
  exact ⟨y, hy, rfl⟩
theorem smul_mem {k l : Sp} {x : Int × Mo} (h : x ∈ smul k l) : ∃ y ∈ k, ∃ z ∈ l, x = (y.1 * z.1, y.2.mul z.2) := by
  induction k with
  | nil => simp [smul] at h
  | cons u k ih =>
    obtain ⟨c, m⟩ := u
    rw [smul] at h
    rcases List.mem_append.1 h with h | h
    · obtain ⟨z, hz, rfl⟩ := stm_mem h
      exact ⟨(c, m), List.mem_cons_self .., z, hz, rfl⟩
    · obtain ⟨y, hy, z, hz, rfl⟩ := ih h
      exact ⟨y, List.mem_cons_of_mem _ hy, z, hz, rfl⟩
theorem stm_val (ρ : Int → Rat) (c : Int) {m : Mo} (hm : m.nonneg) {l : Sp} (hl : ∀ x ∈ l, x.2.nonneg) : sval ρ (stm c m l) = (c : Rat) * m.val ρ * sval ρ l := by
  induction l with
  | nil => simp [stm, sval]
  | cons x l ih =>
    obtain ⟨d, n⟩ := x
    have h1 := ih fun x hx => hl x (List.mem_cons_of_mem _ hx)
    have h2 := hl (d, n) (List.mem_cons_self ..)
    unfold stm at h1 ⊢
    simp only [List.map_cons, sval, h1, Mo.val_mul ρ hm h2]
    push_cast
    grind
theorem smul_val (ρ : Int → Rat) {k l : Sp} (hk : ∀ x ∈ k, x.2.nonneg) (hl : ∀ x ∈ l, x.2.nonneg) : sval ρ (smul k l) = sval ρ k * sval ρ l := by
  induction k with
  | nil => simp [smul, sval]
  | cons x k ih =>
    obtain ⟨c, m⟩ := x
    rw [smul, sval_append, stm_val ρ c (hk _ (List.mem_cons_self ..)) hl, ih fun x hx => hk x (List.mem_cons_of_mem _ hx)]
    simp only [sval]
    grind
theorem stm_nrm (c : Int) (m : Mo) (l : Sp) : snrm (stm c m l) = c.natAbs * snrm l := by
  induction l with
  | nil => simp [stm, snrm]
  | cons x l ih =>
    obtain ⟨d, n⟩ := x
    unfold stm at ih ⊢
    simp only [List.map_cons, snrm, ih, Int.natAbs_mul, Nat.mul_add]
theorem smul_nrm (k l : Sp) : snrm (smul k l) = snrm k * snrm l := by
  induction k with
  | nil => simp [smul, snrm]
  | cons x k ih =>
    obtain ⟨c, m⟩ := x
    rw [smul, snrm_append, stm_nrm, ih, snrm_cons, Nat.add_mul]
theorem smul_nonneg {k l : Sp} (hk : ∀ x ∈ k, x.2.nonneg) (hl : ∀ x ∈ l, x.2.nonneg) : ∀ x ∈ smul k l, x.2.nonneg := fun x hx => by
  obtain ⟨y, hy, z, hz, rfl⟩ := smul_mem hx
  exact Mo.mul_nonneg (hk y hy) (hl z hz)

/-- The sum and the product of polynomials. -/
def Pl.add (p q : Pl) : Pl := Pl.ofS (p.terms Mo.one ++ q.terms Mo.one)
def Pl.mul (p q : Pl) : Pl := Pl.ofS (smul (p.terms Mo.one) (q.terms Mo.one))
theorem Pl.add_can (p q : Pl) : (p.add q).Can := Pl.ofS_can _
theorem Pl.mul_can (p q : Pl) : (p.mul q).Can := Pl.ofS_can _
theorem Pl.add_val (ρ : Int → Rat) (p q : Pl) : (p.add q).val ρ = p.val ρ + q.val ρ := by
  unfold Pl.add
  rw [Pl.ofS_val ρ (fun x hx => (List.mem_append.1 hx).elim (p.terms_one_nonneg x) (q.terms_one_nonneg x)), sval_append, Pl.terms_sval, Pl.terms_sval]
theorem Pl.mul_val (ρ : Int → Rat) (p q : Pl) : (p.mul q).val ρ = p.val ρ * q.val ρ := by
  unfold Pl.mul
  rw [Pl.ofS_val ρ (smul_nonneg p.terms_one_nonneg q.terms_one_nonneg), smul_val ρ p.terms_one_nonneg q.terms_one_nonneg, Pl.terms_sval, Pl.terms_sval]
theorem Pl.const_val (ρ : Int → Rat) (z : Int) : (Pl.const z).val ρ = (z : Rat) := by
  have := Pl.terms_sval ρ (Pl.const z)
  rw [Pl.const_terms] at this
  simp only [sval, Mo.val_one] at this
  grind
theorem Pl.zero_val (ρ : Int → Rat) : Pl.zero.val ρ = 0 := by simp [Pl.zero, Pl.val, sgn, val]
/-- A canonical polynomial that is 0 everywhere. -/
theorem Pl.zero_of_val {p : Pl} (hp : p.Can) (h : ∀ ρ, p.val ρ = 0) : p = Pl.zero := Pl.val_uniq hp Pl.zero_can fun ρ => by rw [h, Pl.zero_val]

mutual
/-- All exponents up to E. -/
def Pl.ex (E : Nat) : Pl → Prop
  | .mk l _ _ cs => l ≤ 0 ∨ (cs.length ≤ E + 1 ∧ plEx E cs)
def plEx (E : Nat) : List Pl → Prop
  | [] => True
  | c :: r => c.ex E ∧ plEx E r
end
mutual
/-- The sum of all coefficients' sizes. -/
def Pl.nr : Pl → Nat
  | .mk l n d cs => if l ≤ 0 then (sgn n (val d)).natAbs else plNr cs
def plNr : List Pl → Nat
  | [] => 0
  | c :: r => c.nr + plNr r
end
theorem plEx_mem {E : Nat} {cs : List Pl} (h : plEx E cs) : ∀ c ∈ cs, c.ex E := by
  induction cs with
  | nil => simp
  | cons y r ih => rw [plEx] at h; simpa using ⟨h.1, ih h.2⟩
theorem plEx_of {E : Nat} {cs : List Pl} (h : ∀ c ∈ cs, c.ex E) : plEx E cs := by
  induction cs with
  | nil => trivial
  | cons y r ih => rw [plEx]; exact ⟨h y (by simp), ih fun c hc => h c (by simp [hc])⟩
theorem plNr_mem {cs : List Pl} {c : Pl} (h : c ∈ cs) : c.nr ≤ plNr cs := by
  induction cs with
  | nil => cases h
  | cons y r ih =>
    rw [plNr]
    rcases List.mem_cons.1 h with rfl | h
    · omega
    · have := ih h; omega
theorem plNr_append (a b : List Pl) : plNr (a ++ b) = plNr a + plNr b := by
  induction a with
  | nil => simp [plNr]
  | cons x a ih => rw [List.cons_append, plNr, plNr, ih]; omega
mutual
theorem Pl.ex_mono {E F : Nat} (hEF : E ≤ F) : ∀ p : Pl, p.ex E → p.ex F
  | .mk l _ _ cs, h => by rw [Pl.ex] at h ⊢; rcases h with h | h; exact .inl h; exact .inr ⟨by omega, plEx_mono hEF cs h.2⟩
theorem plEx_mono {E F : Nat} (hEF : E ≤ F) : ∀ cs : List Pl, plEx E cs → plEx F cs
  | [], _ => trivial
  | c :: r, h => by rw [plEx] at h ⊢; exact ⟨Pl.ex_mono hEF c h.1, plEx_mono hEF r h.2⟩
end
theorem Pl.can_kids {l : Int} {n : Bool} {d : List Nat} {cs : List Pl} (h : (Pl.mk l n d cs).Can) (hl : ¬ l ≤ 0) : l ≤ 4 ∧ plCan l cs := ⟨h.lv_nonneg.2, (h.kids (by omega)).2.2.2.1⟩
theorem Mo.get_put_ne (m : Mo) (i e j : Int) (hj : 0 < j) (hj4 : j ≤ 4) (hi : 0 < i) (hi4 : i ≤ 4) (h : j ≠ i) : (m.put i e).get j = m.get j := by
  have := Mo.get_put m i.toNat e (by omega) (by omega) j.toNat (by omega) (by omega)
  rw [show ((i.toNat : Nat) : Int) = i by omega, show ((j.toNat : Nat) : Int) = j by omega, if_neg (by omega)] at this
  exact this
mutual
theorem Pl.terms_ex (E : Nat) : ∀ (p : Pl) (m : Mo), p.Can → p.ex E → m.le E → (∀ i : Int, 0 < i → i ≤ p.lv → m.get i = 0) → ∀ x ∈ p.terms m, x.2.le E
  | .mk l n d cs, m, hc, h, hm, h0, x, hx => by
    rw [Pl.terms] at hx
    by_cases h1 : l ≤ 0
    · rw [if_pos h1] at hx
      rw [List.mem_singleton.1 hx]
      exact hm
    · rw [if_neg h1] at hx
      obtain ⟨hl4, hk⟩ := Pl.can_kids hc h1
      rw [if_neg (by omega)] at hx
      rw [Pl.ex] at h
      have h := h.resolve_left h1
      have hz := h0 l (by omega) (Int.le_refl _)
      rw [hz] at hx
      exact plTerms_ex E cs m l 0 hk h.2 hm (by omega) hl4 (by omega) (by omega) (fun i hi hil => h0 i hi (by show i ≤ l; omega)) x hx
theorem plTerms_ex (E : Nat) : ∀ (cs : List Pl) (m : Mo) (l e : Int), plCan l cs → plEx E cs → m.le E → 0 < l → l ≤ 4 → 0 ≤ e → e + cs.length ≤ E + 1 → (∀ i : Int, 0 < i → i < l → m.get i = 0) → ∀ x ∈ plTerms m l e cs, x.2.le E
  | [], m, l, e, _, _, _, _, _, _, _, _, x, hx => by rw [plTerms] at hx; cases hx
  | c :: r, m, l, e, hc, h, hm, hl0, hl4, he, hle, h0, x, hx => by
    rw [plTerms] at hx
    rw [plEx] at h
    rw [List.length_cons] at hle
    unfold plCan at hc
    rcases List.mem_append.1 hx with hx | hx
    · exact Pl.terms_ex E c _ hc.2.1 h.1 (hm.put l e (by omega)) (fun i hi hil => by rw [Mo.get_put_ne m l e i hi (by omega) hl0 hl4 (by omega)]; exact h0 i hi (by omega)) x hx
    · exact plTerms_ex E r m l (e + 1) hc.2.2 h.2 hm hl0 hl4 (by omega) (by omega) h0 x hx
end
mutual
theorem Pl.terms_nr : ∀ (p : Pl) (m : Mo), p.Can → snrm (p.terms m) = p.nr
  | .mk l n d cs, m, hc => by
    rw [Pl.terms, Pl.nr]
    by_cases h1 : l ≤ 0
    · rw [if_pos h1, if_pos h1]; simp [snrm]
    · rw [if_neg h1, if_neg h1]
      obtain ⟨hl4, hk⟩ := Pl.can_kids hc h1
      rw [if_neg (by omega)]
      exact plTerms_nr cs m l _ hk
theorem plTerms_nr : ∀ (cs : List Pl) (m : Mo) (l e : Int), plCan l cs → snrm (plTerms m l e cs) = plNr cs
  | [], m, l, e, _ => rfl
  | c :: r, m, l, e, hc => by
    unfold plCan at hc
    rw [plTerms, snrm_append, plNr, Pl.terms_nr c _ hc.2.1, plTerms_nr r m l (e + 1) hc.2.2]
end
theorem Pl.const_nr (z : Int) : (Pl.const z).nr = z.natAbs := by rw [Pl.const, Pl.nr, if_pos (Int.le_refl _), val_dg, sgn_self]
theorem snrm_parts (f : Int × Mo → Int) (k : Nat) (l : Sp) : plNr ((List.range k).map fun i => Pl.const (snrm (l.filter fun x => decide (f x = Int.ofNat i)))) ≤ snrm l := by
  have h1 : ∀ k, plNr ((List.range k).map fun i => Pl.const (snrm (l.filter fun x => decide (f x = Int.ofNat i)))) = snrm (l.filter fun x => decide (0 ≤ f x ∧ f x < k)) := by
    intro k
    induction k with
    | zero =>
      rw [show (l.filter fun x => decide (0 ≤ f x ∧ f x < ((0 : Nat) : Int))) = [] from List.filter_eq_nil_iff.2 fun x _ => by simp]
      rfl
    | succ k ih =>
      rw [List.range_succ, List.map_append, plNr_append, ih]
      simp only [List.map_cons, List.map_nil, plNr, Pl.const_nr, Int.natAbs_natCast, Nat.add_zero]
      clear ih
      induction l with
      | nil => rfl
      | cons x l ih =>
        obtain ⟨c, m⟩ := x
        simp only [List.filter_cons, decide_eq_true_eq]
        by_cases h1 : f (c, m) = Int.ofNat k
        · have h2 : ¬ (0 ≤ f (c, m) ∧ f (c, m) < (k : Int)) := by rw [h1]; simp
          have h3 : 0 ≤ f (c, m) ∧ f (c, m) < ((k + 1 : Nat) : Int) := by rw [h1]; simp; omega
          rw [if_neg h2, if_pos h1, if_pos h3, snrm_cons, snrm_cons]
          omega
        · rw [if_neg h1]
          have h4 : f (c, m) ≠ (k : Int) := h1
          by_cases h2 : 0 ≤ f (c, m) ∧ f (c, m) < (k : Int)
          · have h3 : 0 ≤ f (c, m) ∧ f (c, m) < ((k + 1 : Nat) : Int) := by omega
            rw [if_pos h2, if_pos h3, snrm_cons, snrm_cons]
            omega
          · have h3 : ¬ (0 ≤ f (c, m) ∧ f (c, m) < ((k + 1 : Nat) : Int)) := by omega
            rw [if_neg h2, if_neg h3]
            exact ih
  rw [h1]
  exact snrm_filter _ l
theorem plNr_le {α : Type} (f g : α → Pl) (l : List α) (h : ∀ x ∈ l, (f x).nr ≤ (g x).nr) : plNr (l.map f) ≤ plNr (l.map g) := by
  induction l with
  | nil => simp [plNr]
  | cons x l ih =>
    simp only [List.map_cons, plNr]
    have h1 := h x (by simp)
    have h2 := ih fun y hy => h y (by simp [hy])
    omega
theorem bld_nr (n : Nat) : ∀ l : Sp, (bld n l).nr ≤ snrm l := by
  induction n with
  | zero =>
    intro l
    cases l with
    | nil => simp [bld, Pl.zero, Pl.nr, sgn, val]
    | cons x r => obtain ⟨c, m⟩ := x; rw [bld, Pl.const_nr, snrm_cons]; omega
  | succ n ih =>
    intro l
    cases l with
    | nil => simp [bld, Pl.zero, Pl.nr, sgn, val]
    | cons x r =>
      obtain ⟨c, m⟩ := x
      rw [bld]
      split
      · exact ih _
      · rw [Pl.nr, if_neg (by omega)]
        refine Nat.le_trans (plNr_le _ (fun (i : Nat) => Pl.const (snrm (((c, m) :: r).filter fun x => decide (x.2.get (n + 1 : Nat) = Int.ofNat i)))) _ fun i _ => ?_) (snrm_parts (fun x => x.2.get (n + 1 : Nat)) _ _)
        rw [Pl.const_nr, Int.natAbs_natCast]
        exact ih _
theorem bld_ex (E n : Nat) : ∀ l : Sp, (∀ x ∈ l, x.2.le E) → (bld n l).ex E := by
  induction n with
  | zero =>
    intro l _
    cases l with
    | nil => simp [bld, Pl.zero, Pl.ex]
    | cons x r => obtain ⟨c, m⟩ := x; simp [bld, Pl.const, Pl.ex]
  | succ n ih =>
    intro l hl
    cases l with
    | nil => simp [bld, Pl.zero, Pl.ex]
    | cons x r =>
      obtain ⟨c, m⟩ := x
      rw [bld]
      split
      · exact ih _ hl
      · rw [Pl.ex]
        have hg : m.get ((n + 1 : Nat) : Int) ≤ E := (hl (c, m) (by simp)).get ((n + 1 : Nat) : Int)
        refine .inr ⟨by rw [List.length_map, List.length_range]; omega, plEx_of fun p hp => ?_⟩
        obtain ⟨i, -, rfl⟩ := List.mem_map.1 hp
        exact ih _ (fun x hx => hl x (List.mem_filter.1 hx).1)
theorem Pl.ofS_ex {E : Nat} {l : Sp} (h : ∀ x ∈ l, x.2.le E) : (Pl.ofS l).ex E := bld_ex E 4 _ fun x hx => by
  obtain ⟨-, y, hy, e⟩ := snorm_mem hx
  rw [← e]
  exact h y hy
theorem Pl.ofS_nr (l : Sp) : (Pl.ofS l).nr ≤ snrm l := Nat.le_trans (bld_nr 4 _) (snorm_nrm l)
/-- The number of all coefficients. -/
theorem Pl.ex_sz (E : Nat) (n : Nat) : ∀ p : Pl, p.Can → p.ex E → p.lv ≤ n → p.sz ≤ (E + 2) ^ n := by
  induction n with
  | zero =>
    intro p hc h hl
    obtain ⟨l, ng, d, cs⟩ := p
    unfold Pl.Can at hc
    change l ≤ 0 at hl
    rcases hc with hc | hc
    · rw [hc.2.1, Pl.sz, plSz]; simp
    · omega
  | succ n ih =>
    intro p hc h hl
    obtain ⟨l, ng, d, cs⟩ := p
    change l ≤ ((n + 1 : Nat) : Int) at hl
    by_cases h1 : l ≤ 0
    · unfold Pl.Can at hc
      rcases hc with hc | hc
      · rw [hc.2.1, Pl.sz, plSz]; exact Nat.pow_pos (by omega)
      · omega
    · obtain ⟨-, hk⟩ := Pl.can_kids hc h1
      rw [Pl.ex] at h
      have h := h.resolve_left h1
      have key : ∀ ks : List Pl, (∀ c ∈ ks, c.sz ≤ (E + 2) ^ n) → plSz ks ≤ ks.length * (E + 2) ^ n := by
        intro ks
        induction ks with
        | nil => simp [plSz]
        | cons y r ihr =>
          intro hh
          have h1 := hh y (by simp)
          have h2 := ihr fun z hz => hh z (by simp [hz])
          rw [plSz, List.length_cons, Nat.add_mul]
          omega
      have h2 := key cs fun c hcm => ih c (hk.mem c hcm).2 (plEx_mem h.2 c hcm) (by have := (hk.mem c hcm).1; omega)
      have h3 : cs.length * (E + 2) ^ n ≤ (E + 1) * (E + 2) ^ n := Nat.mul_le_mul_right _ h.1
      have h4 : (E + 2) ^ (n + 1) = (E + 1) * (E + 2) ^ n + (E + 2) ^ n := by rw [Nat.pow_succ, Nat.mul_comm, ← Nat.succ_mul]
      have h5 : 0 < (E + 2) ^ n := Nat.pow_pos (by omega)
      rw [Pl.sz]
      omega
mutual
theorem Pl.nr_dm (D : Nat) : ∀ p : Pl, p.Can → p.nr < B32 ^ D → p.dm ≤ D
  | .mk l n d cs, hc, h => by
    unfold Pl.Can at hc
    rw [Pl.nr] at h
    rw [Pl.dm]
    rcases hc with hc | hc
    · rw [if_pos (by omega), sgn_natAbs] at h
      rw [hc.2.1, plDm, hc.2.2.1]
      have := dg_length_le_of_lt h
      omega
    · rw [if_neg (by omega)] at h
      have := plNr_dm D cs l hc.2.2.2.2.2.1 h
      rw [hc.2.2.2.1, List.length_nil]
      omega
theorem plNr_dm (D : Nat) : ∀ (cs : List Pl) (l : Int), plCan l cs → plNr cs < B32 ^ D → plDm cs ≤ D
  | [], _, _, _ => by rw [plDm]; omega
  | c :: r, l, hc, h => by
    unfold plCan at hc
    rw [plNr] at h
    rw [plDm]
    have h1 := Pl.nr_dm D c hc.2.1 (by omega)
    have h2 := plNr_dm D r l hc.2.2 (by omega)
    omega
end

/-- Canonical, exponents up to E, and the sum of all coefficients below 2^(32 D). -/
structure Fit (p : Pl) (E D : Nat) : Prop where
  can : p.Can
  ex : p.ex E
  nr : p.nr < B32 ^ D
namespace Fit
variable {p q : Pl} {E D F G : Nat}
theorem sz (h : Fit p E D) : p.sz ≤ (E + 2) ^ 4 := Pl.ex_sz E 4 p h.can h.ex h.can.lv_nonneg.2
theorem dm (h : Fit p E D) : p.dm ≤ D := Pl.nr_dm D p h.can h.nr
theorem mono (h : Fit p E D) (hE : E ≤ F) (hD : D ≤ G) : Fit p F G := ⟨h.can, Pl.ex_mono hE p h.ex, Nat.lt_of_lt_of_le h.nr (Nat.pow_le_pow_right (by decide) hD)⟩
theorem exps (h : Fit p E D) : ∀ x ∈ p.terms Mo.one, x.2.le E := Pl.terms_ex E p Mo.one h.can h.ex (by unfold Mo.le Mo.one; simp) (fun i h0 h4 => by unfold Mo.one Mo.get; split <;> (try split) <;> (try split) <;> rfl)
theorem nrm (h : Fit p E D) : snrm (p.terms Mo.one) = p.nr := Pl.terms_nr p _ h.can
theorem kid {l : Int} {n : Bool} {d : List Nat} {cs : List Pl} (h : Fit (.mk l n d cs) E D) (hl : 0 < l) {c : Pl} (hc : c ∈ cs) : Fit c E D := by
  obtain ⟨h1, h2, h3⟩ := h
  obtain ⟨-, hk⟩ := Pl.can_kids h1 (by omega)
  rw [Pl.ex] at h2
  rw [Pl.nr, if_neg (by omega)] at h3
  have := plNr_mem hc
  exact ⟨(hk.mem c hc).2, plEx_mem (h2.resolve_left (by omega)).2 c hc, by omega⟩
theorem len {l : Int} {n : Bool} {d : List Nat} {cs : List Pl} (h : Fit (.mk l n d cs) E D) (hl : 0 < l) : cs.length ≤ E + 1 := by
  have h2 := h.ex
  rw [Pl.ex] at h2
  exact (h2.resolve_left (by omega)).1
theorem const {z : Int} (h : z.natAbs < B32 ^ D) : Fit (Pl.const z) E D := ⟨const_can z, by unfold Pl.const; rw [Pl.ex]; exact .inl (Int.le_refl _), by rw [Pl.const_nr]; exact h⟩
theorem zero : Fit Pl.zero E D := ⟨Pl.zero_can, by unfold Pl.zero; rw [Pl.ex]; exact .inl (Int.le_refl _), by unfold Pl.zero; rw [Pl.nr, if_pos (Int.le_refl _)]; exact Nat.pow_pos (by decide)⟩
theorem add (h : Fit p E D) (k : Fit q F G) : Fit (p.add q) (max E F) (max D G + 1) := by
  refine ⟨Pl.add_can p q, Pl.ofS_ex fun x hx => ?_, ?_⟩
  · rcases List.mem_append.1 hx with hx | hx
    · exact (h.exps x hx).mono (by omega)
    · exact (k.exps x hx).mono (by omega)
  · have h1 := Pl.ofS_nr (p.terms Mo.one ++ q.terms Mo.one)
    rw [snrm_append, h.nrm, k.nrm] at h1
    have h2 : B32 ^ D ≤ B32 ^ max D G := Nat.pow_le_pow_right (by decide) (by omega)
    have h3 : B32 ^ G ≤ B32 ^ max D G := Nat.pow_le_pow_right (by decide) (by omega)
    have h4 := h.nr
    have h5 := k.nr
    unfold Pl.add
    rw [Nat.pow_succ]
    have h6 : B32 ^ max D G * 2 ≤ B32 ^ max D G * B32 := Nat.mul_le_mul_left _ (by decide)
    omega
theorem mul (h : Fit p E D) (k : Fit q F G) : Fit (p.mul q) (E + F) (D + G) := by
  refine ⟨Pl.mul_can p q, Pl.ofS_ex fun x hx => ?_, ?_⟩
  · obtain ⟨y, hy, z, hz, rfl⟩ := smul_mem hx
    exact Mo.mul_le (h.exps y hy) (k.exps z hz)
  · have h1 := Pl.ofS_nr (smul (p.terms Mo.one) (q.terms Mo.one))
    rw [smul_nrm, h.nrm, k.nrm] at h1
    unfold Pl.mul
    rw [Nat.pow_add]
    refine Nat.lt_of_le_of_lt h1 (Nat.mul_lt_mul_of_lt_of_le h.nr (Nat.le_of_lt k.nr) (Nat.pow_pos (by decide)))
end Fit
end Go.Proofs.YtdcapcpchcnidaaGreat

/- Polynomials in four variables, plain: how sums and products lie level by level. No program in sight. -/
namespace Go.Proofs.YtdcapcpchcnidaaGreat

/-- Two canonical polynomials other than 0 are both not 0 at some values. -/
theorem Pl.mul_zero {p q : Pl} (hp : p.Can) (hq : q.Can) (h : ∀ ρ, p.val ρ * q.val ρ = 0) : p = Pl.zero ∨ q = Pl.zero := by
  obtain ⟨E, hE⟩ := Mo.le_sup (snorm (p.terms Mo.one) ++ snorm (q.terms Mo.one))
  have key : ∀ r : Pl, r.Can → (∀ x ∈ snorm (r.terms Mo.one), x.2.le E) → r ≠ Pl.zero → ∀ B, snrm (snorm (r.terms Mo.one)) + 1 ≤ B → r.val (kro (E + 1) B) ≠ 0 := by
    intro r hr hle hne B hB h0
    rw [← Pl.terms_sval, ← sval_coef _ (snorm_coef_nn r.terms_one_nonneg), sval_kro] at h0
    refine ival_ne (snorm_can _) (fun x hx => (snorm_mem hx).1) E hle B hB (fun e => hne ?_) (by exact_mod_cast h0)
    rw [← Pl.nf_of_can hr]
    unfold Pl.nf Pl.ofS
    rw [e]
    rfl
  by_cases h1 : p = Pl.zero
  · exact .inl h1
  by_cases h2 : q = Pl.zero
  · exact .inr h2
  exfalso
  have h3 := h (kro (E + 1) (snrm (snorm (p.terms Mo.one)) + snrm (snorm (q.terms Mo.one)) + 1))
  rcases Rat.mul_eq_zero.1 h3 with h4 | h4
  · exact key p hp (fun x hx => hE x (List.mem_append_left _ hx)) h1 _ (by omega) h4
  · exact key q hq (fun x hx => hE x (List.mem_append_right _ hx)) h2 _ (by omega) h4
theorem Pl.mul_eq_zero {p q : Pl} (hp : p.Can) (hq : q.Can) (h : p.mul q = Pl.zero) : p = Pl.zero ∨ q = Pl.zero :=
  Pl.mul_zero hp hq fun ρ => by rw [← Pl.mul_val, h, Pl.zero_val]
/-- The level. -/
theorem Pl.ofS_lv {l : Sp} {n : Nat} (hn4 : n ≤ 4) (hnn : ∀ x ∈ l, x.2.nonneg) (h : ∀ x ∈ l, ∀ i : Nat, n < i → i ≤ 4 → x.2.get i = 0) : (Pl.ofS l).lv ≤ n := by
  have hz : ∀ i : Nat, 0 < i → i ≤ 4 → Mo.one.get i = 0 := fun i h1 h2 => by
    rcases (show i = 1 ∨ i = 2 ∨ i = 3 ∨ i = 4 by omega) with rfl | rfl | rfl | rfl <;> rfl
  have ha : Above n Mo.one (snorm l) := fun x hx i h1 h2 => by
    obtain ⟨-, y, hy, e⟩ := snorm_mem hx
    rw [← e, h y hy i h1 h2, hz i (by omega) h2]
  have hnn' : ∀ x ∈ snorm l, x.2.nonneg := fun x hx => (snorm_mem hx).1
  obtain ⟨h1, h2⟩ := bld_can n hn4 (snorm l) Mo.one (snorm_can l) hnn' ha (fun i hi hin => hz i hi (by omega))
  have h3 := bld_coef n hn4 (snorm l) Mo.one (snorm_can l) hnn' ha (fun i hi hin => hz i hi (by omega))
  have h4 : bld n (snorm l) = Pl.ofS l := Pl.can_eq h1 (Pl.ofS_can l) fun k => by
    rw [h3, Pl.ofS_coef, snorm_coef]
  rw [← h4]
  exact h2
theorem Pl.exp_above {p : Pl} (hp : p.Can) {n : Nat} (h : p.lv ≤ n) : ∀ x ∈ p.terms Mo.one, ∀ i : Nat, n < i → i ≤ 4 → x.2.get i = 0 := fun x hx i h1 h2 => by
  rw [Pl.terms_above p Mo.one n hp h x hx i h1 h2]
  rcases (show i = 1 ∨ i = 2 ∨ i = 3 ∨ i = 4 by omega) with rfl | rfl | rfl | rfl <;> rfl
theorem Mo.get_mul (m n : Mo) (i : Int) : (m.mul n).get i = m.get i + n.get i := by
  unfold Mo.mul Mo.get
  split <;> (try split) <;> (try split) <;> rfl
theorem Pl.mul_lv {p q : Pl} (hp : p.Can) (hq : q.Can) {n : Int} (h1 : p.lv ≤ n) (h2 : q.lv ≤ n) (hn : n ≤ 4) : (p.mul q).lv ≤ n := by
  have h0 := hp.lv_nonneg.1
  obtain ⟨k, rfl⟩ : ∃ k : Nat, n = k := ⟨n.toNat, by omega⟩
  refine Pl.ofS_lv (by omega) (smul_nonneg p.terms_one_nonneg q.terms_one_nonneg) fun x hx i hi hi4 => ?_
  obtain ⟨y, hy, z, hz, rfl⟩ := smul_mem hx
  rw [Mo.get_mul, Pl.exp_above hp h1 y hy i hi hi4, Pl.exp_above hq h2 z hz i hi hi4]
  rfl
theorem Pl.add_lv {p q : Pl} (hp : p.Can) (hq : q.Can) {n : Int} (h1 : p.lv ≤ n) (h2 : q.lv ≤ n) (hn : n ≤ 4) : (p.add q).lv ≤ n := by
  have h0 := hp.lv_nonneg.1
  obtain ⟨k, rfl⟩ : ∃ k : Nat, n = k := ⟨n.toNat, by omega⟩
  refine Pl.ofS_lv (by omega) (fun x hx => (List.mem_append.1 hx).elim (p.terms_one_nonneg x) (q.terms_one_nonneg x)) fun x hx i hi hi4 => ?_
  rcases List.mem_append.1 hx with hx | hx
  · exact Pl.exp_above hp h1 x hx i hi hi4
  · exact Pl.exp_above hq h2 x hx i hi hi4
theorem Pl.mul_comm (p q : Pl) : p.mul q = q.mul p := Pl.val_uniq (Pl.mul_can _ _) (Pl.mul_can _ _) fun ρ => by rw [Pl.mul_val, Pl.mul_val]; grind
theorem Pl.add_comm (p q : Pl) : p.add q = q.add p := Pl.val_uniq (Pl.add_can _ _) (Pl.add_can _ _) fun ρ => by rw [Pl.add_val, Pl.add_val]; grind
theorem Pl.mul_zero_l (p : Pl) : Pl.zero.mul p = Pl.zero := Pl.zero_of_val (Pl.mul_can _ _) fun ρ => by rw [Pl.mul_val, Pl.zero_val]; grind
theorem Pl.mul_zero_r (p : Pl) : p.mul Pl.zero = Pl.zero := by rw [Pl.mul_comm, Pl.mul_zero_l]
theorem Pl.const_mul (a b : Int) : (Pl.const a).mul (Pl.const b) = Pl.const (a * b) := Pl.val_uniq (Pl.mul_can _ _) (const_can _) fun ρ => by
  rw [Pl.mul_val, Pl.const_val, Pl.const_val, Pl.const_val]; push_cast; rfl
/-- A canonical polynomial of level 0. -/
theorem pl_flat {p : Pl} (h : p.Can) (hl : p.lv = 0) : p = Pl.const p.z := by
  obtain ⟨l, n, d, cs⟩ := p
  change l = 0 at hl
  subst hl
  unfold Pl.Can at h
  rcases h with ⟨-, rfl, hd, hn⟩ | h
  · show _ = Pl.const (sgn n (val d))
    unfold Pl.const
    rw [sgn_natAbs, ← hd]
    congr 1
    cases n
    · simp [sgn]
    · have h1 : d ≠ [] := fun e => by have := hn e; cases this
      have h2 : val d ≠ 0 := fun e => h1 (by rw [hd, e, dg_zero])
      simp only [sgn]
      simp
      omega
  · omega
theorem plVal_map (ρ : Int → Rat) (l : Int) (f : Pl → Pl) (r : Rat) (cs : List Pl) (h : ∀ c ∈ cs, (f c).val ρ = c.val ρ * r) : plVal ρ l (cs.map f) = plVal ρ l cs * r := by
  induction cs with
  | nil => simp [plVal]
  | cons x cs ih =>
    simp only [List.map_cons, plVal]
    rw [h x (by simp), ih fun c hc => h c (by simp [hc])]
    grind
theorem Pl.mk_val (ρ : Int → Rat) {l : Int} (n : Bool) (d : List Nat) (cs : List Pl) (h0 : 0 < l) (h4 : l ≤ 4) : (Pl.mk l n d cs).val ρ = plVal ρ l cs := by
  rw [Pl.val, if_neg (by omega), if_neg (by omega)]
theorem mk_can {l : Int} {cs : List Pl} (h0 : 0 < l) (h4 : l ≤ 4) (h2 : 2 ≤ cs.length) (hk : plCan l cs) (hz : cs.getLast? ≠ some Pl.zero) : (Pl.mk l false [] cs).Can := by
  unfold Pl.Can
  exact .inr ⟨by omega, h4, rfl, rfl, h2, hk, hz⟩
/-- A product with a polynomial of a lower level. -/
theorem Pl.mul_up {l : Int} {n : Bool} {d : List Nat} {cs : List Pl} {q : Pl} (hp : (Pl.mk l n d cs).Can) (hq : q.Can) (hl : q.lv < l) (hz : q ≠ Pl.zero) : (Pl.mk l n d cs).mul q = .mk l false [] (cs.map fun c => c.mul q) := by
  have hl0 : 0 < l := by have := hq.lv_nonneg.1; omega
  obtain ⟨rfl, rfl, h2, hk, hlast⟩ := hp.kids hl0
  have hl4 : l ≤ 4 := hp.lv_nonneg.2
  refine Pl.val_uniq (Pl.mul_can _ _) (mk_can hl0 hl4 (by rw [List.length_map]; exact h2) (plCan_of fun c hc => ?_) ?_) fun ρ => ?_
  · obtain ⟨c', hc', rfl⟩ := List.mem_map.1 hc
    have h3 := hk.mem c' hc'
    have := Pl.mul_lv (n := l - 1) h3.2 hq (by omega) (by omega) (by omega)
    exact ⟨by omega, Pl.mul_can _ _⟩
  · rw [List.getLast?_map]
    intro e
    obtain ⟨c, hc, he⟩ := Option.map_eq_some_iff.1 e
    rcases Pl.mul_eq_zero (hk.mem c (List.mem_of_getLast? hc)).2 hq he with h | h
    · rw [h] at hc; exact hlast hc
    · exact hz h
  · rw [Pl.mul_val, Pl.mk_val ρ _ _ _ hl0 hl4, Pl.mk_val ρ _ _ _ hl0 hl4, plVal_map ρ l _ (q.val ρ) cs fun c _ => Pl.mul_val ρ c q]
theorem Pl.mul_up_ {p q : Pl} (hp : p.Can) (hq : q.Can) (hl : q.lv < p.lv) (hz : q ≠ Pl.zero) : p.mul q = .mk p.lv false [] (p.cs.map fun c => c.mul q) := by
  obtain ⟨l, n, d, cs⟩ := p
  exact Pl.mul_up hp hq hl hz
/-- The sum of a list at powers of x_l, without zeros at its end. -/
def stripZ : List Pl → List Pl
  | [] => []
  | c :: r => if c.isZ = true ∧ stripZ r = [] then [] else c :: stripZ r
def trimP (l : Int) (cs : List Pl) : Pl :=
  match stripZ cs with
  | [] => Pl.zero
  | [c] => c
  | c :: d :: r => .mk l false [] (c :: d :: r)
theorem stripZ_zero {a : List Pl} {x : Pl} (h : x.isZ = true) : stripZ (a ++ [x]) = stripZ a := by
  induction a with
  | nil => simp [stripZ, h]
  | cons y a ih => rw [List.cons_append, stripZ, stripZ, ih]
theorem stripZ_ne {a : List Pl} {x : Pl} (h : x.isZ = false) : stripZ (a ++ [x]) = a ++ [x] := by
  induction a with
  | nil => simp [stripZ, h]
  | cons y a ih => rw [List.cons_append, stripZ, ih, if_neg (by simp)]
theorem trimP_of {l : Int} {cs : List Pl} {n : Nat} (hn : n ≤ cs.length) (h : stripZ cs = cs.take n) : trimP l cs = if n = 0 then Pl.zero else if h1 : n = 1 ∧ 0 < cs.length then cs[0]'h1.2 else .mk l false [] (cs.take n) := by
  unfold trimP
  rw [h]
  match n, cs, hn with
  | 0, cs, _ => simp
  | 1, x :: cs, _ => simp
  | n + 2, x :: y :: cs, _ => simp
theorem stripZ_mem {cs : List Pl} {c : Pl} (h : c ∈ stripZ cs) : c ∈ cs := by
  induction cs with
  | nil => exact h
  | cons x cs ih =>
    rw [stripZ] at h
    split at h
    · cases h
    · rcases List.mem_cons.1 h with rfl | h
      · exact List.mem_cons_self ..
      · exact List.mem_cons_of_mem _ (ih h)
theorem stripZ_last {cs : List Pl} (hc : ∀ c ∈ cs, c.Can) : (stripZ cs).getLast? ≠ some Pl.zero := by
  induction cs with
  | nil => simp [stripZ]
  | cons x cs ih =>
    rw [stripZ]
    split
    · simp
    · rename_i h
      intro e
      by_cases h1 : stripZ cs = []
      · rw [h1] at e
        have e1 : x = Pl.zero := by simpa using e
        exact h ⟨(Pl.zero_isZ (hc x (by simp))).2 e1, h1⟩
      · obtain ⟨y, r, hr⟩ := List.exists_cons_of_ne_nil h1
        rw [hr, List.getLast?_cons_cons, ← hr] at e
        exact ih (fun c hcm => hc c (by simp [hcm])) e
theorem stripZ_val (ρ : Int → Rat) (l : Int) {cs : List Pl} (hc : ∀ c ∈ cs, c.Can) : plVal ρ l (stripZ cs) = plVal ρ l cs := by
  induction cs with
  | nil => rfl
  | cons x cs ih =>
    have h1 := ih fun c hcm => hc c (by simp [hcm])
    rw [stripZ]
    split
    · rename_i h
      rw [plVal, plVal, ← h1, h.2, (Pl.zero_isZ (hc x (by simp))).1 h.1, Pl.zero_val, plVal]
      grind
    · rw [plVal, plVal, h1]
/-- What trim returns. -/
theorem trimP_all {l : Int} {cs : List Pl} (h0 : 0 < l) (h4 : l ≤ 4) (hk : plCan l cs) : (trimP l cs).Can ∧ (trimP l cs).lv ≤ l ∧ ∀ ρ, (trimP l cs).val ρ = plVal ρ l cs := by
  have hc : ∀ c ∈ cs, c.Can := fun c hcm => (hk.mem c hcm).2
  have hlast := stripZ_last hc
  have hval := fun ρ => stripZ_val ρ l hc
  have hmem : ∀ c ∈ stripZ cs, c.lv < l ∧ c.Can := fun c hcm => hk.mem c (stripZ_mem hcm)
  unfold trimP
  split
  · rename_i e
    rw [e] at hval
    exact ⟨Pl.zero_can, by show (0 : Int) ≤ l; omega, fun ρ => by rw [← hval ρ, Pl.zero_val, plVal]⟩
  · rename_i c e
    rw [e] at hval hmem
    have h1 := hmem c (by simp)
    exact ⟨h1.2, by omega, fun ρ => by rw [← hval ρ, plVal, plVal]; grind⟩
  · rename_i c d r e
    rw [e] at hval hmem hlast
    exact ⟨mk_can h0 h4 (by simp) (plCan_of hmem) hlast, Int.le_refl _, fun ρ => by rw [← hval ρ, Pl.mk_val ρ _ _ _ h0 h4]⟩
end Go.Proofs.YtdcapcpchcnidaaGreat

/- Layer 22: recpoly.mul where the levels differ, or both are 0. -/
namespace Go.Proofs.YtdcapcpchcnidaaGreat
open Go.RowKit

/-- A polynomial's four cells are written. -/
theorem Box4.set {W : World} {g : Nat} {p q : Pl} {s A s' A' : Value} (h : Box4 W g p s A) :
    Box4 ((((W.setCell ⟨g, 0, none⟩ (.int .i64 q.lv)).setCell ⟨g, 1, none⟩ (.bool q.neg)).setCell ⟨g, 2, none⟩ s').setCell ⟨g, 3, none⟩ A') g q s' A' := by
  obtain ⟨h0, h1, h2, h3⟩ := h
  have e : ∀ (W : World) (i j : Nat) (v : Value), i ≠ j → (W.setCell ⟨g, j, none⟩ v).cell? ⟨g, i, none⟩ = W.cell? ⟨g, i, none⟩ := fun W i j v hij => World.cell?_setCell_other _ _ _ _ (by intro e; injection e; omega)
  refine ⟨?_, ?_, ?_, ?_⟩
  · rw [e _ 0 3 _ (by omega), e _ 0 2 _ (by omega), e _ 0 1 _ (by omega)]
    exact World.cell?_setCell_same _ _ _ h0
  · rw [e _ 1 3 _ (by omega), e _ 1 2 _ (by omega)]
    exact World.cell?_setCell_same _ _ _ ((e _ 1 0 _ (by omega)).trans h1)
  · rw [e _ 2 3 _ (by omega)]
    exact World.cell?_setCell_same _ _ _ ((e _ 2 1 _ (by omega)).trans ((e _ 2 0 _ (by omega)).trans h2))
  · exact World.cell?_setCell_same _ _ _ ((e _ 3 2 _ (by omega)).trans ((e _ 3 1 _ (by omega)).trans ((e _ 3 0 _ (by omega)).trans h3)))
theorem set4_heap (W : World) (g : Nat) (a b c d : Value) (k : Nat) (h : k ≠ g) : ((((W.setCell ⟨g, 0, none⟩ a).setCell ⟨g, 1, none⟩ b).setCell ⟨g, 2, none⟩ c).setCell ⟨g, 3, none⟩ d).heap[k]? = W.heap[k]? := by
  rw [Below.heap_setCell _ _ _ k h, Below.heap_setCell _ _ _ k h, Below.heap_setCell _ _ _ k h, Below.heap_setCell _ _ _ k h]

/-- Digits and polynomials elsewhere stay where a box is written. -/
theorem Box4.nat_ {W : World} {g : Nat} {p : Pl} {A0 A1 : Option Addr} {n0 c0 n1 c1 : Nat} (h : Box4 W g p (.slice A0 n0 c0) (.slice A1 n1 c1)) (x y z u : Value) {v : Value} {ds : List Nat} (hv : NatV W v ds) :
    NatV ((((W.setCell ⟨g, 0, none⟩ x).setCell ⟨g, 1, none⟩ y).setCell ⟨g, 2, none⟩ z).setCell ⟨g, 3, none⟩ u) v ds := by
  obtain ⟨h0, h1, h2, h3⟩ := h
  refine (((hv.box h0 rfl _).box (u := .bool p.neg) ?_ rfl _).box (u := .slice A0 n0 c0) ?_ rfl _).box (u := .slice A1 n1 c1) ?_ rfl _
  · rw [World.cell?_setCell_other _ _ _ _ (by simp)]; exact h1
  · rw [World.cell?_setCell_other _ _ _ _ (by simp), World.cell?_setCell_other _ _ _ _ (by simp)]; exact h2
  · rw [World.cell?_setCell_other _ _ _ _ (by simp), World.cell?_setCell_other _ _ _ _ (by simp), World.cell?_setCell_other _ _ _ _ (by simp)]; exact h3
theorem Box4.keep {W : World} {g : Nat} {p : Pl} {A0 A1 : Option Addr} {n0 c0 n1 c1 : Nat} (h : Box4 W g p (.slice A0 n0 c0) (.slice A1 n1 c1)) (x y z u : Value) {q q' : Nat → Prop} {t : Pl} {v : Value} (ht : PlV W q t v) (hq : ∀ b, b < W.heap.size → q b → b ≠ g ∧ q' b) :
    PlV ((((W.setCell ⟨g, 0, none⟩ x).setCell ⟨g, 1, none⟩ y).setCell ⟨g, 2, none⟩ z).setCell ⟨g, 3, none⟩ u) q' t v :=
  PlV.turn_ (by simp [World.setCell]) (fun _ _ hv => h.nat_ x y z u hv) (fun b hlt hb => ⟨(hq b hlt hb).2, set4_heap _ _ _ _ _ _ _ (hq b hlt hb).1⟩) ht

/-- The two boxes, and the cell of the result. -/
structure MulCut (w : World) (a b : Pl) (sa Aa sb Ab : Value) (wc : World) : Prop where
  ext : Ext w wc
  size : wc.heap.size = w.heap.size + 1 + 1 + 1
  box : Box4 wc w.heap.size a sa Aa
  box' : Box4 wc (w.heap.size + 1) b sb Ab
  zero : Zero4 wc (w.heap.size + 1 + 1)
theorem MulCut.swap {w W : World} {a b : Pl} {sa Aa sb Ab : Value} (h : MulCut w a b sa Aa sb Ab W) :
    MulCut w b a sb Ab sa Aa ((((((((W.setCell ⟨w.heap.size, 0, none⟩ (.int .i64 b.lv)).setCell ⟨w.heap.size, 1, none⟩ (.bool b.neg)).setCell ⟨w.heap.size, 2, none⟩ sb).setCell ⟨w.heap.size, 3, none⟩ Ab).setCell ⟨w.heap.size + 1, 0, none⟩ (.int .i64 a.lv)).setCell ⟨w.heap.size + 1, 1, none⟩ (.bool a.neg)).setCell ⟨w.heap.size + 1, 2, none⟩ sa).setCell ⟨w.heap.size + 1, 3, none⟩ Aa) := by
  obtain ⟨h1, h2, h3, h4, h5⟩ := h
  obtain ⟨W1, hW1⟩ : ∃ W1, ((((W.setCell ⟨w.heap.size, 0, none⟩ (.int .i64 b.lv)).setCell ⟨w.heap.size, 1, none⟩ (.bool b.neg)).setCell ⟨w.heap.size, 2, none⟩ sb).setCell ⟨w.heap.size, 3, none⟩ Ab) = W1 := ⟨_, rfl⟩
  rw [hW1]
  have k1 : Ext w W1 := by
    rw [← hW1]
    exact (((h1.setCell (Nat.le_refl _) _).setCell (Nat.le_refl _) _).setCell (Nat.le_refl _) _).setCell (Nat.le_refl _) _
  have kb : Box4 W1 w.heap.size b sb Ab := by rw [← hW1]; exact h3.set
  have kh : ∀ k, k ≠ w.heap.size → W1.heap[k]? = W.heap[k]? := fun k hk => by rw [← hW1]; exact set4_heap _ _ _ _ _ _ k hk
  have kf : ∀ a, W1.frozen? a = W.frozen? a := fun a => by rw [← hW1]; simp only [World.frozen?_setCell]
  have ks : W1.heap.size = W.heap.size := by rw [← hW1]; simp [World.setCell]
  have kb' : Box4 W1 (w.heap.size + 1) b sb Ab := h4.turn (kh _ (by omega))
  refine ⟨(((k1.setCell (by show w.heap.size ≤ w.heap.size + 1; omega) _).setCell (by show w.heap.size ≤ w.heap.size + 1; omega) _).setCell (by show w.heap.size ≤ w.heap.size + 1; omega) _).setCell (by show w.heap.size ≤ w.heap.size + 1; omega) _, by simp [World.setCell]; omega, kb.turn (set4_heap _ _ _ _ _ _ _ (by omega)), kb'.set, ?_⟩
  have hh : ((((W1.setCell ⟨w.heap.size + 1, 0, none⟩ (.int .i64 a.lv)).setCell ⟨w.heap.size + 1, 1, none⟩ (.bool a.neg)).setCell ⟨w.heap.size + 1, 2, none⟩ sa).setCell ⟨w.heap.size + 1, 3, none⟩ Aa).heap[w.heap.size + 1 + 1]? = W.heap[w.heap.size + 1 + 1]? := (set4_heap _ _ _ _ _ _ _ (by omega)).trans (kh _ (by omega))
  obtain ⟨⟨z0, z1, z2, z3⟩, zf⟩ := h5
  refine ⟨⟨(World.cell?_of_block (a := ⟨w.heap.size + 1 + 1, 0, none⟩) hh).trans z0, (World.cell?_of_block (a := ⟨w.heap.size + 1 + 1, 1, none⟩) hh).trans z1, (World.cell?_of_block (a := ⟨w.heap.size + 1 + 1, 2, none⟩) hh).trans z2, (World.cell?_of_block (a := ⟨w.heap.size + 1 + 1, 3, none⟩) hh).trans z3⟩, fun i => ?_⟩
  simp only [World.frozen?_setCell]
  rw [kf]
  exact zf i
/-- What the walk needs of the two, the first not of a lower level. -/
structure MulHyp (w0 : World) (E L : Nat) (a b : Pl) (va vb : Value) : Prop where
  ca : a.Can
  cb : b.Can
  len : a.cs.length ≤ E
  dig : a.ds.length + b.ds.length ≤ L
  pa : PlV w0 (fun _ => True) a va
  pb : PlV w0 (fun _ => True) b vb
  ord : b.lv ≤ a.lv
  ne : a.lv = b.lv → a.lv = 0
  ih : ∀ k (hk : k < a.cs.length) x, PlV w0 (fun _ => True) a.cs[k] x → ∀ W', Ext w0 W' → Calls Tryz.prog 142 #[x, vb] W' (RetPl (fun i => W'.heap.size ≤ i) (a.cs[k].mul b) W')

set_option maxRecDepth 100000 in
set_option maxHeartbeats 4000000 in
theorem mul_low {w0 w : World} {E D F G : Nat} (p q : Pl) (v u : Value) (hp : Fit p E D) (hq : Fit q F G) (hE : E ≤ 1000000) (hF : F ≤ 1000000) (hD : D + G ≤ 35184372088000)
    (h : PlV w0 (fun _ => True) p v) (k : PlV w0 (fun _ => True) q u) (hx : Ext w0 w) (hne : p.lv = q.lv → p.lv = 0)
    (ihp : ∀ a ∈ p.cs, ∀ x, PlV w0 (fun _ => True) a x → ∀ W', Ext w0 W' → Calls Tryz.prog 142 #[x, u] W' (RetPl (fun i => W'.heap.size ≤ i) (a.mul q) W'))
    (ihq : ∀ a ∈ q.cs, ∀ x, PlV w0 (fun _ => True) a x → ∀ W', Ext w0 W' → Calls Tryz.prog 142 #[x, v] W' (RetPl (fun i => W'.heap.size ≤ i) (a.mul p) W')) :
    Calls Tryz.prog 142 #[v, u] w (RetPl (fun i => w.heap.size ≤ i) (p.mul q) w) := by
  have hlen : ∀ (r : Pl) (E D : Nat), Fit r E D → r.cs.length ≤ E + 1 := fun r E D hr => by
    obtain ⟨l, n, d, cs⟩ := r
    by_cases hl : 0 < l
    · exact hr.len hl
    · have := hr.can
      unfold Pl.Can at this
      rcases this with h | h
      · simp [Pl.cs, h.2.1]
      · omega
  have hd1 := Nat.le_trans p.dm_ds hp.dm
  have hd2 := Nat.le_trans q.dm_ds hq.dm
  have HH := Lib.hid h
  have HK := Lib.hid k
  obtain ⟨A0, n0, c0, A, c, rfl, -, -, -, -⟩ := h.open_
  obtain ⟨B0, m0, d0, B, d, rfl, -, -, -, -⟩ := k.open_
  have HPQ : Hid (q.lv ≤ p.lv → MulHyp w0 1000001 35184372088000 p q (plV p (.slice A0 n0 c0) (.slice A p.cs.length c)) (plV q (.slice B0 m0 d0) (.slice B q.cs.length d))) := by
    have : q.lv ≤ p.lv → MulHyp w0 1000001 35184372088000 p q (plV p (.slice A0 n0 c0) (.slice A p.cs.length c)) (plV q (.slice B0 m0 d0) (.slice B q.cs.length d)) := fun hl =>
      ⟨hp.can, hq.can, by have := hlen p E D hp; omega, by omega, HH.out, HK.out, hl, hne, fun k hk x hxv => ihp _ (List.getElem_mem hk) x hxv⟩
    exact this
  have HQP : Hid (p.lv < q.lv → MulHyp w0 1000001 35184372088000 q p (plV q (.slice B0 m0 d0) (.slice B q.cs.length d)) (plV p (.slice A0 n0 c0) (.slice A p.cs.length c))) := by
    have : p.lv < q.lv → MulHyp w0 1000001 35184372088000 q p (plV q (.slice B0 m0 d0) (.slice B q.cs.length d)) (plV p (.slice A0 n0 c0) (.slice A p.cs.length c)) := fun hl =>
      ⟨hq.can, hp.can, by have := hlen q F G hq; omega, by omega, HK.out, HH.out, by omega, fun e => by omega, fun k hk x hxv => ihq _ (List.getElem_mem hk) x hxv⟩
    exact this
  have HCM := Lib.hid (Pl.mul_comm p q)
  have HX0 := Lib.hid hx
  clear h k ihp ihq hne hlen hd1 hd2 hp hq hE hF hD hx HH HK
  obtain ⟨W, hW⟩ : ∃ W, ((w.alloc (.cells #[.int .i64 p.lv, .bool p.neg, .slice A0 n0 c0, .slice A p.cs.length c] 29)).alloc (.cells #[.int .i64 q.lv, .bool q.neg, .slice B0 m0 d0, .slice B q.cs.length d] 29)).alloc (.cells #[.int .i64 0, .bool false, .slice none 0 0, .slice none 0 0] 29) = W := ⟨_, rfl⟩
  have hcut : MulCut w p q (.slice A0 n0 c0) (.slice A p.cs.length c) (.slice B0 m0 d0) (.slice B q.cs.length d) W := by
    rw [← hW]
    refine ⟨(((Ext.refl w).alloc _).alloc _).alloc _, by simp, (Box4.new w p _ _ _).ext (((Ext.refl _).alloc _).alloc _) (by simp), ?_, ?_⟩
    · have h1 := Box4.new (w.alloc (.cells #[.int .i64 p.lv, .bool p.neg, .slice A0 n0 c0, .slice A p.cs.length c] 29)) q (.slice B0 m0 d0) (.slice B q.cs.length d) 29
      have h2 := h1.ext ((Ext.refl _).alloc (.cells #[.int .i64 0, .bool false, .slice none 0 0, .slice none 0 0] 29)) (by simp)
      simpa using h2
    · have h1 := Zero4.new ((w.alloc (.cells #[.int .i64 p.lv, .bool p.neg, .slice A0 n0 c0, .slice A p.cs.length c] 29)).alloc (.cells #[.int .i64 q.lv, .bool q.neg, .slice B0 m0 d0, .slice B q.cs.length d] 29)) 29
      simpa using h1
  have hf1 : ∀ i, W.frozen? ⟨w.heap.size, i, none⟩ = false := fun i => by rw [← hW]; simp [go_sem]
  have hf2 : ∀ i, W.frozen? ⟨w.heap.size + 1, i, none⟩ = false := fun i => by rw [← hW]; simp [go_sem]
  have HCUT := Lib.hid hcut
  obtain ⟨b0, b1, b2, b3⟩ := hcut.box
  obtain ⟨e0, e1, e2, e3⟩ := hcut.box'
  have hWs := hcut.size
  clear hcut
  unfold plV
  go_enter Tryz.func142, Tryz.ntmps142
  go_upto_if 21 with fail
  go_cut [] from 22 to 23 (fun wc => Hid ((p.lv < q.lv ∧ MulCut w q p (.slice B0 m0 d0) (.slice B q.cs.length d) (.slice A0 n0 c0) (.slice A p.cs.length c) wc) ∨ (q.lv ≤ p.lv ∧ MulCut w p q (.slice A0 n0 c0) (.slice A p.cs.length c) (.slice B0 m0 d0) (.slice B q.cs.length d) wc)))
  case first =>
    by_cases hlt : p.lv < q.lv
    · have HF := Lib.hid HCUT.out.swap
      have HL := Lib.hid hlt
      clear hW
      go_wp2_with fail
      go_meet
      exact Lib.hid (Or.inl ⟨HL.out, HF.out⟩)
    · have hle : q.lv ≤ p.lv := by omega
      have HL := Lib.hid hle
      clear hW
      go_wp2_with fail
      go_meet
      exact Lib.hid (Or.inr ⟨HL.out, HCUT.out⟩)
  case rest =>
  obtain ⟨a, b, sa1, sa2, sa3, A', ca, sb1, sb2, sb3, B', cb, hh, hm, hc⟩ : ∃ (a b : Pl) (sa1 : Option Addr) (sa2 sa3 : Nat) (A' : Option Addr) (ca : Nat) (sb1 : Option Addr) (sb2 sb3 : Nat) (B' : Option Addr) (cb : Nat), MulHyp w0 1000001 35184372088000 a b (plV a (.slice sa1 sa2 sa3) (.slice A' a.cs.length ca)) (plV b (.slice sb1 sb2 sb3) (.slice B' b.cs.length cb)) ∧ p.mul q = a.mul b ∧ MulCut w a b (.slice sa1 sa2 sa3) (.slice A' a.cs.length ca) (.slice sb1 sb2 sb3) (.slice B' b.cs.length cb) wc := by
    rcases hcut.out with ⟨h1, h2⟩ | ⟨h1, h2⟩
    · exact ⟨q, p, _, _, _, _, _, _, _, _, _, _, HQP.out h1, HCM.out, h2⟩
    · exact ⟨p, q, _, _, _, _, _, _, _, _, _, _, HPQ.out h1, rfl, h2⟩
  clear hcut HPQ HQP HCM HCUT b0 b1 b2 b3 e0 e1 e2 e3 hf1 hf2 hW hWs
  have HM := Lib.hid hm
  clear hm
  have HC := Lib.hid hc
  have HH := Lib.hid hh
  obtain ⟨b0, b1, b2, b3⟩ := hc.box
  obtain ⟨e0, e1, e2, e3⟩ := hc.box'
  have hcs := hc.size
  have HZA := Lib.hid (isZero_any a _ (hh.pa.ext (HX0.out.trans hc.ext)))
  clear hc hh
  unfold plV at HZA
  go_wp2_with fail
  clear b0 b1 b2 b3 e0 e1 e2 e3
  refine HZA.out.mono ?_
  rintro e w1 ⟨rfl, x1⟩
  have HZB : Hid (Calls Tryz.prog 105 #[plV b (.slice sb1 sb2 sb3) (.slice B' b.cs.length cb)] w1 fun e w' => e = .returned (.bool b.isZ) ∧ Ext w1 w') := isZero_any b _ (HH.out.pb.ext ((HX0.out.trans HC.out.ext).trans x1))
  unfold plV at HZB
  have hb1 := HC.out.box.ext x1 (by omega)
  have hb2 := HC.out.box'.ext x1 (by omega)
  have hz1 := HC.out.zero.ext x1 (by omega)
  have hs1 := x1.size
  have HB1 := Lib.hid hb1
  have HB2 := Lib.hid hb2
  have HZ1 := Lib.hid hz1
  have X1 := Lib.hid (HC.out.ext.trans x1)
  obtain ⟨b0, b1, b2, b3⟩ := hb1
  obtain ⟨e0, e1, e2, e3⟩ := hb2
  obtain ⟨⟨z0, z1, z2, z3⟩, zf⟩ := hz1
  clear x1 HZA
  by_cases ha0 : a.isZ = true
  · rw [ha0]
    have HF : Hid (RetPl (fun i => w.heap.size ≤ i) (p.mul q) w (.returned (plV Pl.zero (.slice none 0 0) (.slice none 0 0))) ((((w1.setCell ⟨w.heap.size + 1 + 1, 0, none⟩ (.int .i64 Pl.zero.lv)).setCell ⟨w.heap.size + 1 + 1, 1, none⟩ (.bool Pl.zero.neg)).setCell ⟨w.heap.size + 1 + 1, 2, none⟩ (.slice none 0 0)).setCell ⟨w.heap.size + 1 + 1, 3, none⟩ (.slice none 0 0))) := by
      have e : p.mul q = Pl.zero := by rw [HM.out, (Pl.zero_isZ HH.out.ca).1 ha0, Pl.mul_zero_l]
      rw [e]
      exact close_pl (p := Pl.zero) (q := fun _ => False) X1.out (by omega) HZ1.out (Pl.zero_v _ _ none 0 (by omega)) (fun b _ h => h.elim)
    simp only [Pl.zero, Pl.lv, Pl.neg] at HF
    clear ha0 HZB
    go_wp2_with fail
    exact bodyPost_ret (v := plV Pl.zero (.slice none 0 0) (.slice none 0 0)) (by simp [results, Tryz.results142, go_sem, z0, z1, z2, z3, plV, Pl.zero, Pl.lv, Pl.neg]) rfl HF.out
  have ha0' : a.isZ = false := by simpa using ha0
  rw [ha0']
  have HA0 := Lib.hid ha0
  clear ha0 ha0'
  go_wp2_with fail
  clear b0 b1 b2 b3 e0 e1 e2 e3 z0 z1 z2 z3 zf
  refine HZB.out.mono ?_
  rintro e w2 ⟨rfl, x2⟩
  have hb1 := HB1.out.ext x2 (by omega)
  have hb2 := HB2.out.ext x2 (by omega)
  have hz1 := HZ1.out.ext x2 (by omega)
  have hs2 := x2.size
  have HB3 := Lib.hid hb1
  have HB4 := Lib.hid hb2
  have HZ2 := Lib.hid hz1
  have X2 := Lib.hid (X1.out.trans x2)
  obtain ⟨b0, b1, b2, b3⟩ := hb1
  obtain ⟨e0, e1, e2, e3⟩ := hb2
  obtain ⟨⟨z0, z1, z2, z3⟩, zf⟩ := hz1
  clear x2 HZB HB1 HB2 HZ1 X1
  by_cases hb0 : b.isZ = true
  · rw [hb0]
    have HF : Hid (RetPl (fun i => w.heap.size ≤ i) (p.mul q) w (.returned (plV Pl.zero (.slice none 0 0) (.slice none 0 0))) ((((w2.setCell ⟨w.heap.size + 1 + 1, 0, none⟩ (.int .i64 Pl.zero.lv)).setCell ⟨w.heap.size + 1 + 1, 1, none⟩ (.bool Pl.zero.neg)).setCell ⟨w.heap.size + 1 + 1, 2, none⟩ (.slice none 0 0)).setCell ⟨w.heap.size + 1 + 1, 3, none⟩ (.slice none 0 0))) := by
      have e : p.mul q = Pl.zero := by rw [HM.out, (Pl.zero_isZ HH.out.cb).1 hb0, Pl.mul_zero_r]
      rw [e]
      exact close_pl (p := Pl.zero) (q := fun _ => False) X2.out (by omega) HZ2.out (Pl.zero_v _ _ none 0 (by omega)) (fun b _ h => h.elim)
    simp only [Pl.zero, Pl.lv, Pl.neg] at HF
    clear hb0
    go_wp2_with fail
    exact bodyPost_ret (v := plV Pl.zero (.slice none 0 0) (.slice none 0 0)) (by simp [results, Tryz.results142, go_sem, z0, z1, z2, z3, plV, Pl.zero, Pl.lv, Pl.neg]) rfl HF.out
  have hb0' : b.isZ = false := by simpa using hb0
  rw [hb0']
  have HB0 := Lib.hid hb0
  clear hb0 hb0'
  have halv := HH.out.ca.lv_nonneg
  have hblv := HH.out.cb.lv_nonneg
  have hord := HH.out.ord
  have hne := HH.out.ne
  by_cases hl : a.lv = 0
  · have hbl : b.lv = 0 := by omega
    have HAL := Lib.hid (pl_flat HH.out.ca hl)
    have HBL := Lib.hid (pl_flat HH.out.cb hbl)
    have hpa := HH.out.pa.ext (HX0.out.trans X2.out)
    have hpb := HH.out.pb.ext (HX0.out.trans X2.out)
    have hia : IntR w2 (.agg #[.bool a.neg, .slice sa1 sa2 sa3]) a.z a.ds.length := by
      obtain ⟨A1, n1, c1, A2, c2, e, hn, -⟩ := hpa.open_
      unfold plV at e
      simp only [Value.agg.injEq, Array.mk.injEq, List.cons.injEq, and_true, true_and] at e
      rw [e.1]
      exact ⟨_, _, _, rfl, hn, rfl, Nat.le_refl _⟩
    have hib : IntR w2 (.agg #[.bool b.neg, .slice sb1 sb2 sb3]) b.z b.ds.length := by
      obtain ⟨A1, n1, c1, A2, c2, e, hn, -⟩ := hpb.open_
      unfold plV at e
      simp only [Value.agg.injEq, Array.mk.injEq, List.cons.injEq, and_true, true_and] at e
      rw [e.1]
      exact ⟨_, _, _, rfl, hn, rfl, Nat.le_refl _⟩
    have HMU := Lib.hid (mul_int _ _ a.z b.z _ _ w2 hia hib HH.out.dig)
    have q1 : (a.lv == 0) = true := by simpa using hl
    have hlz : a.lv = 0 := hl
    have HLA := Lib.hid hl
    clear hpa hpb hia hib hbl hl halv hblv hord hne hlz
    go_wp2_with fail
    clear b0 b1 b2 b3 e0 e1 e2 e3 z0 z1 z2 z3 zf
    refine HMU.out.mono ?_
    rintro e w3 ⟨x, rfl, ⟨v1, rfl, hv1⟩, x3⟩
    obtain ⟨A1, d1, rfl, -⟩ := id hv1
    have hz3 := HZ2.out.ext x3 (by omega)
    have HF : Hid (RetPl (fun i => w.heap.size ≤ i) (p.mul q) w (.returned (plV (Pl.const (a.z * b.z)) (.slice A1 (dg (a.z * b.z).natAbs).length d1) (.slice none 0 0))) ((((w3.setCell ⟨w.heap.size + 1 + 1, 0, none⟩ (.int .i64 0)).setCell ⟨w.heap.size + 1 + 1, 1, none⟩ (.bool (decide (a.z * b.z < 0)))).setCell ⟨w.heap.size + 1 + 1, 2, none⟩ (.slice A1 (dg (a.z * b.z).natAbs).length d1)).setCell ⟨w.heap.size + 1 + 1, 3, none⟩ (.slice none 0 0))) := by
      have e : p.mul q = Pl.const (a.z * b.z) := by rw [HM.out, ← Pl.const_mul, ← HAL.out, ← HBL.out]
      rw [e]
      exact close_pl (p := Pl.const (a.z * b.z)) (q := fun _ => False) (X2.out.trans x3) (by omega) hz3 (PlV.mk (t := Pl.const (a.z * b.z)) hv1 (Nat.le_refl _) (by simp [Pl.cs, Pl.const]) (by unfold Pl.const Pl.cs PlsAt; trivial)) (fun b _ h => h.elim)
    obtain ⟨⟨z0, z1, z2, z3⟩, zf⟩ := hz3
    clear x3 HMU hv1
    generalize a.z * b.z = z at *
    go_wp2_with fail
    exact bodyPost_ret (v := plV (Pl.const z) (.slice A1 (dg z.natAbs).length d1) (.slice none 0 0)) (by simp [results, Tryz.results142, go_sem, z0, z1, z2, z3, plV, Pl.const, Pl.lv, Pl.neg]) rfl HF.out
  · have hlt : b.lv < a.lv := by
      have : a.lv ≠ b.lv := fun e => hl (hne e)
      omega
    have HUP := Lib.hid (Pl.mul_up_ HH.out.ca HH.out.cb hlt (fun e => HB0.out ((Pl.zero_isZ HH.out.cb).2 e)))
    have q1 : (a.lv == 0) = false := by simpa using hl
    have hlen := HH.out.len
    obtain ⟨A1, n1, c1, A2, c2, e, -, hl1, hl2, hat⟩ := HH.out.pa.open_
    unfold plV at e
    simp only [Value.agg.injEq, Array.mk.injEq, List.cons.injEq, and_true, true_and, Value.slice.injEq] at e
    obtain ⟨-, rfl, rfl⟩ := e
    have HAT := Lib.hid hat
    obtain ⟨V, hmk, hVx, hVs, hrow⟩ := run_makePls (a.cs.length : Int) (by omega) (by omega) w2
    rw [Int.toNat_natCast] at hmk hrow
    have HROW := Lib.hid (hrow (fun i => w2.heap.size ≤ i))
    have HVX := Lib.hid hVx
    obtain ⟨f0, f1, f2, f3⟩ := HB3.out.ext hVx (by omega)
    clear hat hrow hVx hl halv hblv hord hne HA0
    go_wp2_with fail
    clear hmk b0 b1 b2 b3 e0 e1 e2 e3 f0 f1 f2 f3 z0 z1 z2 z3 zf
    go_loopw [55] (fun iv wr => ∃ k : Nat, k ≤ a.cs.length ∧ iv = .int .i64 k ∧ Hid ((∃ L : List Pl, L.length = a.cs.length ∧ L.take k = (a.cs.map fun c => c.mul b).take k ∧ PRow wr (fun i => w2.heap.size ≤ i) w2.heap.size L) ∧ Ext w2 wr)) (fun iv _ => a.cs.length - (intOf iv).toNat)
    case atStart => exact ⟨0, Nat.zero_le _, rfl, ⟨⟨_, List.length_replicate, by simp, HROW.out⟩, HVX.out⟩⟩
    case round =>
      obtain ⟨k, hk, rfl, ⟨⟨L, hLl, hLt, hrow⟩, hx⟩⟩ := hrel
      have HX := Lib.hid hx
      have HROWk := Lib.hid hrow
      have HLT := Lib.hid hLt
      have hws := hx.size
      obtain ⟨b0, b1, b2, b3⟩ := HB3.out.ext hx (by omega)
      have hRlt : w2.heap.size < wr.heap.size := hrow.1
      clear hx hrow hLt HVX HROW
      by_cases hlt : k < a.cs.length
      · obtain ⟨ad, C0, j0, g0, C1, j1, g1, rfl, hadb, hnd, hkt⟩ := PlsAt.kid HAT.out k hlt
        have hxx : Ext w0 wr := (HX0.out.trans X2.out).trans HX.out
        obtain ⟨a0, a1, a2, a3⟩ := hnd.ext hxx (by rw [block_of_add]; exact hadb)
        have HC2 := Lib.hid (fun W' (hxW : Ext wr W') => HH.out.ih k hlt _ hkt W' (hxx.trans hxW))
        have HSET : Hid ((L.set k (a.cs[k].mul b)).take (k + 1) = (a.cs.map fun c => c.mul b).take (k + 1)) := by
          have h1 := take_set_next L (a.cs.map fun c => c.mul b) k HLT.out (by omega) (by rw [List.length_map]; exact hlt)
          rw [List.getElem_map] at h1
          exact h1
        unfold plV at HC2
        obtain ⟨U, hU⟩ : ∃ U, wr.alloc (.cells #[.int .i64 a.cs[k].lv, .bool a.cs[k].neg, .slice C0 j0 g0, .slice C1 j1 g1] 29) = U := ⟨_, rfl⟩
        have hUx : Ext wr U := by rw [← hU]; exact (Ext.refl _).alloc _
        have hUs : U.heap.size = wr.heap.size + 1 := by rw [← hU]; simp
        obtain ⟨y0, y1, y2, y3⟩ : Box4 U wr.heap.size a.cs[k] (.slice C0 j0 g0) (.slice C1 j1 g1) := by rw [← hU]; exact Box4.new wr a.cs[k] _ _ _
        obtain ⟨e0, e1, e2, e3⟩ := HB4.out.ext (HX.out.trans hUx) (by omega)
        have HUX := Lib.hid hUx
        generalize hres : a.cs[k].mul b = res at *
        generalize a.cs[k] = ck at *
        clear hnd hkt hadb hxx HLT hres hUx
        go_wp2_with fail
        clear hU y0 y1 y2 y3
        refine (HC2.out _ HUX.out).mono ?_
        rintro e w3 ⟨v3, rfl, p3, x3⟩
        have x3' : Ext wr w3 := HUX.out.trans x3
        obtain ⟨C0, j0, f0, C1, f1, rfl, -⟩ := id p3.open_
        have hr3 := HROWk.out.ext x3'
        obtain ⟨D0, n2, g0, D1, n3, g1, ⟨r0, r1, r2, r3⟩, -⟩ := hr3.2.2 k (by omega)
        have hfr := hr3.2.1
        have hst := (hr3.set_ k (by omega) res (p3.mono fun i hi => by
          have hi' : wr.heap.size + 1 ≤ i := by rw [← hUs]; exact hi
          exact ⟨by omega, by omega⟩)).1
        simp only at r0 r1 r2 r3
        have HST := Lib.hid hst
        have X3 := Lib.hid (HX.out.trans x3')
        unfold plV
        clear hr3 hst p3 x3 x3' HC2 HROWk a0 a1 a2 a3 b0 b1 b2 b3 e0 e1 e2 e3 HUX hUs
        go_wp2_with fail
        go_roundw
        case rel => exact ⟨k + 1, by omega, by go_num, ⟨_, by rw [List.length_set]; exact hLl, HSET.out, HST.out⟩, (((X3.out.setCell (Nat.le_refl _) _).setCell (Nat.le_refl _) _).setCell (Nat.le_refl _) _).setCell (Nat.le_refl _) _⟩
        case measure => simp [intOf]; omega
      · have hke : k = a.cs.length := by omega
        have hLe : L = a.cs.map fun c => c.mul b := by
          have h := HLT.out
          rw [hke, show a.cs.length = (a.cs.map fun c => c.mul b).length by rw [List.length_map], List.take_length, List.length_map, ← hLl, List.take_length] at h
          exact h
        have hz3 := HZ2.out.ext HX.out (by omega)
        have hfin := HROWk.out.fin (Nat.le_refl _)
        rw [hLe] at hfin
        have HF : Hid (RetPl (fun i => w.heap.size ≤ i) (p.mul q) w (.returned (plV (.mk a.lv false [] (a.cs.map fun c => c.mul b)) (.slice none 0 0) (.slice (some ⟨w2.heap.size, 0, none⟩) a.cs.length a.cs.length))) ((((wr.setCell ⟨w.heap.size + 1 + 1, 0, none⟩ (.int .i64 a.lv)).setCell ⟨w.heap.size + 1 + 1, 1, none⟩ (.bool false)).setCell ⟨w.heap.size + 1 + 1, 2, none⟩ (.slice none 0 0)).setCell ⟨w.heap.size + 1 + 1, 3, none⟩ (.slice (some ⟨w2.heap.size, 0, none⟩) a.cs.length a.cs.length))) := by
          rw [HM.out, HUP.out]
          have h1 := PlV.mk (t := .mk a.lv false [] (a.cs.map fun c => c.mul b)) (c := a.cs.length) (NatV.nil wr) (by simp [Pl.cs]) (by omega) hfin
          rw [show (Pl.mk a.lv false [] (a.cs.map fun c => c.mul b)).cs.length = a.cs.length by simp [Pl.cs]] at h1
          exact close_pl (p := .mk a.lv false [] (a.cs.map fun c => c.mul b)) (q' := fun i => w.heap.size ≤ i) (X2.out.trans HX.out) (by omega) hz3 h1 (fun b _ hb => ⟨by omega, by omega⟩)
        obtain ⟨⟨z0, z1, z2, z3⟩, zf⟩ := hz3
        clear hfin HROWk HLT hLe
        go_wp2_with fail
        exact bodyPost_ret (v := plV (.mk a.lv false [] (a.cs.map fun c => c.mul b)) (.slice none 0 0) (.slice (some ⟨w2.heap.size, 0, none⟩) a.cs.length a.cs.length)) (by simp [results, Tryz.results142, go_sem, z0, z1, z2, z3, plV, Pl.lv, Pl.neg]) rfl HF.out
end Go.Proofs.YtdcapcpchcnidaaGreat
