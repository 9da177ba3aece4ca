/- The canonical form of a sum of terms, and of a recursive polynomial, plain, with its size. -/
import Derived.Test.YtkbpnppiadaibaaGreatDoorMt6
set_option linter.unusedSimpArgs false
set_option linter.unusedVariables false

namespace Go.Proofs.YtkbpnppiadaibaaGreatDoor
def sins (c : Int) (m : Mo) : Sp → Sp
 | [] => if c = 0 then [] else [(c, m)]
 | (d, n) :: r => if n.lt m then (if c = 0 then (d, n) :: r else (c, m) :: (d, n) :: r) else if m = n then (if c + d = 0 then r else (c + d, n) :: r) else (d, n) :: sins c m r
theorem sins_coef (c : Int) (m : Mo) (l : Sp) (k : Mo) : scoef (sins c m l) k = (if m = k then c else 0) + scoef l k := by
 induction l with
 | nil =>
   unfold sins
   by_cases h : c = 0
   · rw [if_pos h, h]; simp [scoef]
   · rw [if_neg h]; simp [scoef]
 | cons x r ih =>
   obtain ⟨d, n⟩ := x
   unfold sins
   by_cases h1 : n.lt m
   · rw [if_pos h1]
     by_cases h : c = 0
     · rw [if_pos h, h]; simp
     · rw [if_neg h]; simp [scoef]
   · rw [if_neg h1]
     by_cases h2 : m = n
     · rw [if_pos h2]; subst h2
       by_cases h : c + d = 0
       · rw [if_pos h]; simp only [scoef]; split <;> omega
       · rw [if_neg h]; simp only [scoef]; split <;> omega
     · rw [if_neg h2]; simp only [scoef, ih]; omega
theorem sins_mem {c : Int} {m : Mo} {l : Sp} {x : Int × Mo} (h : x ∈ sins c m l) : x.2 = m ∨ ∃ y ∈ l, y.2 = x.2 := by
 induction l with
 | nil =>
   unfold sins at h
   split at h
   · cases h
   · left; rw [List.mem_singleton.1 h]
 | cons y r ih =>
   obtain ⟨d, n⟩ := y
   unfold sins at h
   split at h
   · split at h
     · exact .inr ⟨x, h, rfl⟩
     · rcases List.mem_cons.1 h with rfl | h
       · exact .inl rfl
       · exact .inr ⟨x, h, rfl⟩
   · split at h
     · split at h
       · exact .inr ⟨x, List.mem_cons_of_mem _ h, rfl⟩
       · rcases List.mem_cons.1 h with rfl | h
         · exact .inr ⟨_, List.mem_cons_self, rfl⟩
         · exact .inr ⟨x, List.mem_cons_of_mem _ h, rfl⟩
     · rcases List.mem_cons.1 h with rfl | h
       · exact .inr ⟨_, List.mem_cons_self, rfl⟩
       · rcases ih h with h | ⟨y, hy, e⟩
         · exact .inl h
         · exact .inr ⟨y, List.mem_cons_of_mem _ hy, e⟩
theorem sins_can (c : Int) (m : Mo) (l : Sp) (h : SCan l) : SCan (sins c m l) := by
 induction l with
 | nil =>
   unfold sins
   split
   · exact trivial
   · rename_i hc; exact ⟨hc, fun _ hx => (by cases hx), trivial⟩
 | cons x r ih =>
   obtain ⟨d, n⟩ := x
   obtain ⟨h1, h2, h3⟩ := h
   unfold sins
   split
   · rename_i hlt
     split
     · exact ⟨h1, h2, h3⟩
     · rename_i hc
       refine ⟨hc, fun y hy => ?_, h1, h2, h3⟩
       rcases List.mem_cons.1 hy with rfl | hy
       · exact hlt
       · exact Mo.lt_trans (h2 y hy) hlt
   · rename_i hlt
     split
     · rename_i he
       split
       · exact h3
       · rename_i hc; exact ⟨hc, h2, h3⟩
     · rename_i hne
       refine ⟨h1, fun y hy => ?_, ih h3⟩
       rcases sins_mem hy with e | ⟨z, hz, e⟩
       · rw [e]
         rcases Mo.tri m n with h | h | h
         · exact h
         · exact absurd h hne
         · exact absurd h hlt
       · rw [← e]; exact h2 z hz
def snorm : Sp → Sp
 | [] => []
 | (c, m) :: r => if m.nonneg then sins c m (snorm r) else snorm r
theorem snorm_can (l : Sp) : SCan (snorm l) := by
 induction l with
 | nil => exact trivial
 | cons x r ih =>
   obtain ⟨c, m⟩ := x
   unfold snorm
   split
   · exact sins_can _ _ _ ih
   · exact ih
theorem snorm_coef (l : Sp) (k : Mo) : scoef (snorm l) k = if k.nonneg then scoef l k else 0 := by
 induction l with
 | nil => simp [snorm, scoef]
 | cons x r ih =>
   obtain ⟨c, m⟩ := x
   unfold snorm
   by_cases hm : m.nonneg
   · rw [if_pos hm, sins_coef, ih]
     by_cases hk : k.nonneg
     · rw [if_pos hk, if_pos hk]; simp only [scoef]
     · rw [if_neg hk, if_neg hk, if_neg (fun (e : m = k) => hk (e ▸ hm))]; rfl
   · rw [if_neg hm, ih]
     by_cases hk : k.nonneg
     · rw [if_pos hk, if_pos hk]; simp only [scoef]; rw [if_neg (fun (e : m = k) => hm (e ▸ hk))]; omega
     · rw [if_neg hk, if_neg hk]
theorem snorm_mem {l : Sp} {x : Int × Mo} (h : x ∈ snorm l) : x.2.nonneg ∧ ∃ y ∈ l, y.2 = x.2 := by
 induction l with
 | nil => cases h
 | cons y r ih =>
   obtain ⟨c, m⟩ := y
   unfold snorm at h
   split at h
   · rename_i hm
     rcases sins_mem h with e | ⟨z, hz, e⟩
     · exact ⟨by rw [e]; exact hm, _, List.mem_cons_self, e.symm⟩
     · suffices z.2.nonneg ∧ ∃ y ∈ r, y.2 = z.2 by
        obtain ⟨a, y, hy, e'⟩ := this
        exact ⟨by rw [← e]; exact a, y, List.mem_cons_of_mem _ hy, e'.trans e⟩
       clear ih h
       induction r generalizing z with
       | nil => cases hz
       | cons y r ih =>
         obtain ⟨c', m'⟩ := y
         unfold snorm at hz
         split at hz
         · rename_i hm'
           rcases sins_mem hz with e1 | ⟨z', hz', e1⟩
           · exact ⟨by rw [e1]; exact hm', _, List.mem_cons_self, e1.symm⟩
           · obtain ⟨a, y, hy, e'⟩ := ih z' hz' (e1.trans e)
             exact ⟨by rw [← e1]; exact a, y, List.mem_cons_of_mem _ hy, e'.trans e1⟩
         · obtain ⟨a, y, hy, e'⟩ := ih z hz e
           exact ⟨a, y, List.mem_cons_of_mem _ hy, e'⟩
   · obtain ⟨a, y, hy, e⟩ := ih h
     exact ⟨a, y, List.mem_cons_of_mem _ hy, e⟩
theorem snorm_coef_nn {l : Sp} (h : ∀ x ∈ l, x.2.nonneg) (k : Mo) : scoef (snorm l) k = scoef l k := by
 rw [snorm_coef]
 by_cases hk : k.nonneg
 · rw [if_pos hk]
 · rw [if_neg hk, scoef_above fun x hx (e : x.2 = k) => hk (e ▸ h x hx)]
theorem snorm_of_can {l : Sp} (h : SCan l) (hn : ∀ x ∈ l, x.2.nonneg) : snorm l = l := SCan.uniq _ _ (snorm_can l) h (snorm_coef_nn hn)
theorem snorm_congr {l l' : Sp} (h : ∀ k, k.nonneg → scoef l k = scoef l' k) : snorm l = snorm l' := SCan.uniq _ _ (snorm_can l) (snorm_can l') fun k => by
 rw [snorm_coef, snorm_coef]
 by_cases hk : k.nonneg
 · rw [if_pos hk, if_pos hk, h k hk]
 · rw [if_neg hk, if_neg hk]
theorem snorm_eq {l l' : Sp} (hc : SCan l') (hn : ∀ x ∈ l', x.2.nonneg) (h : ∀ k, k.nonneg → scoef l' k = scoef l k) : l' = snorm l := by
 rw [← snorm_of_can hc hn]; exact snorm_congr h
def snrm : Sp → Nat
 | [] => 0
 | (c, _) :: r => c.natAbs + snrm r
theorem snrm_append (l r : Sp) : snrm (l ++ r) = snrm l + snrm r := by
 induction l with
 | nil => simp [snrm]
 | cons x l ih => obtain ⟨c, m⟩ := x; simp only [List.cons_append, snrm, ih]; omega
theorem sins_nrm (c : Int) (m : Mo) (l : Sp) : snrm (sins c m l) ≤ c.natAbs + snrm l := by
 induction l with
 | nil => unfold sins; split <;> simp [snrm]
 | cons x r ih =>
   obtain ⟨d, n⟩ := x
   unfold sins
   split
   · split <;> simp only [snrm] <;> omega
   · split
     · split <;> simp only [snrm] <;> omega
     · simp only [snrm]; omega
theorem snorm_nrm (l : Sp) : snrm (snorm l) ≤ snrm l := by
 induction l with
 | nil => exact Nat.le_refl _
 | cons x r ih =>
   obtain ⟨c, m⟩ := x
   unfold snorm
   have := sins_nrm c m (snorm r)
   split <;> simp only [snrm] <;> omega
theorem snrm_mem {l : Sp} {x : Int × Mo} (h : x ∈ l) : x.1.natAbs ≤ snrm l := by
 induction l with
 | nil => cases h
 | cons y r ih =>
   obtain ⟨c, m⟩ := y
   rcases List.mem_cons.1 h with rfl | h
   · simp only [snrm]; omega
   · have := ih h; simp only [snrm]; omega
theorem snrm_filter (f : Int × Mo → Bool) (l : Sp) : snrm (l.filter f) ≤ snrm l := by
 induction l with
 | nil => exact Nat.le_refl _
 | cons x r ih =>
   obtain ⟨c, m⟩ := x
   rw [List.filter_cons]
   split <;> simp only [snrm] <;> omega
def Pl.ofS (l : Sp) : Pl := bld 4 (snorm l)
def Pl.nf (p : Pl) : Pl := Pl.ofS (p.terms Mo.one)
theorem Pl.ofS_can (l : Sp) : (Pl.ofS l).Can := (bld_all (snorm_can l) (fun _ hx => (snorm_mem hx).1)).1
theorem Pl.ofS_coef (l : Sp) (k : Mo) : scoef ((Pl.ofS l).terms Mo.one) k = if k.nonneg then scoef l k else 0 :=
 ((bld_all (snorm_can l) (fun _ hx => (snorm_mem hx).1)).2 k).trans (snorm_coef l k)
theorem Mo.put_nonneg {m : Mo} {i e : Int} (h : m.nonneg) (he : 0 ≤ e) : (m.put i e).nonneg := by
 unfold Mo.nonneg at *; unfold Mo.put; split <;> (try split) <;> (try split) <;> simp_all
theorem Mo.one_nonneg : Mo.one.nonneg := by unfold Mo.nonneg Mo.one; simp
theorem Mo.get_nonneg {m : Mo} (h : m.nonneg) (i : Int) : 0 ≤ m.get i := by
 unfold Mo.nonneg at h; unfold Mo.get; split <;> (try split) <;> (try split) <;> omega
mutual
theorem Pl.terms_nonneg : ∀ (p : Pl) (m : Mo), m.nonneg → ∀ x ∈ p.terms m, x.2.nonneg
 | .mk l n d cs, m, hm, x, hx => by
   rw [Pl.terms] at hx
   split at hx
   · rw [List.mem_singleton.1 hx]; exact hm
   · split at hx
     · cases hx
     · exact plTerms_nonneg cs m l (m.get l) hm (Mo.get_nonneg hm l) x hx
theorem plTerms_nonneg : ∀ (cs : List Pl) (m : Mo) (l e : Int), m.nonneg → 0 ≤ e → ∀ x ∈ plTerms m l e cs, x.2.nonneg
 | [], m, l, e, hm, he, x, hx => by rw [plTerms] at hx; cases hx
 | c :: r, m, l, e, hm, he, x, hx => by
   rw [plTerms] at hx
   rcases List.mem_append.1 hx with hx | hx
   · exact Pl.terms_nonneg c _ (Mo.put_nonneg hm he) x hx
   · exact plTerms_nonneg r m l (e + 1) hm (by omega) x hx
end
theorem Pl.terms_one_nonneg (p : Pl) : ∀ x ∈ p.terms Mo.one, x.2.nonneg := Pl.terms_nonneg p _ Mo.one_nonneg
theorem Pl.nf_can (p : Pl) : p.nf.Can := Pl.ofS_can _
theorem Pl.nf_coef (p : Pl) (k : Mo) : scoef (p.nf.terms Mo.one) k = scoef (p.terms Mo.one) k :=
 ((bld_all (snorm_can _) (fun _ hx => (snorm_mem hx).1)).2 k).trans (snorm_coef_nn p.terms_one_nonneg k)
theorem Pl.nf_of_can {p : Pl} (h : p.Can) : p.nf = p := Pl.can_eq p.nf_can h p.nf_coef
mutual
def Pl.sz : Pl → Nat
 | .mk _ _ _ cs => plSz cs + 1
def plSz : List Pl → Nat
 | [] => 0
 | c :: r => c.sz + plSz r
end
mutual
def Pl.dm : Pl → Nat
 | .mk _ _ d cs => max d.length (plDm cs)
def plDm : List Pl → Nat
 | [] => 0
 | c :: r => max c.dm (plDm r)
end
theorem plSz_mem {cs : List Pl} {c : Pl} (h : c ∈ cs) : c.sz ≤ plSz cs := by
 induction cs with
 | nil => cases h
 | cons x r ih =>
   rcases List.mem_cons.1 h with rfl | h
   · unfold plSz; omega
   · have := ih h; unfold plSz; omega
theorem Pl.sz_kid {p c : Pl} (h : c ∈ p.cs) : c.sz < p.sz := by
 cases p with
 | mk l n d cs =>
   have h1 : c.sz ≤ plSz cs := plSz_mem (cs := cs) h
   have h2 : (Pl.mk l n d cs).sz = plSz cs + 1 := by rw [Pl.sz]
   omega
theorem plSz_len (cs : List Pl) : cs.length ≤ plSz cs := by
 induction cs with
 | nil => exact Nat.le_refl _
 | cons x r ih => cases x; unfold plSz Pl.sz; simp only [List.length_cons]; omega
theorem Pl.sz_len (p : Pl) : p.cs.length < p.sz := by
 cases p with
 | mk l n d cs =>
   have h1 := plSz_len cs
   have h2 : (Pl.mk l n d cs).sz = plSz cs + 1 := by rw [Pl.sz]
   have h3 : (Pl.mk l n d cs).cs = cs := rfl
   rw [h3]; omega
theorem plDm_mem {cs : List Pl} {c : Pl} (h : c ∈ cs) : c.dm ≤ plDm cs := by
 induction cs with
 | nil => cases h
 | cons x r ih =>
   rcases List.mem_cons.1 h with rfl | h
   · unfold plDm; omega
   · have := ih h; unfold plDm; omega
theorem Pl.dm_ds (p : Pl) : p.ds.length ≤ p.dm := by
 cases p with
 | mk l n d cs =>
   have h2 : (Pl.mk l n d cs).dm = max d.length (plDm cs) := by rw [Pl.dm]
   have h3 : (Pl.mk l n d cs).ds = d := rfl
   rw [h3]; omega
theorem Mo.put_le {m : Mo} {l e E : Int} (h : m.a ≤ E ∧ m.b ≤ E ∧ m.c ≤ E ∧ m.d ≤ E) (he : e ≤ E) : (m.put l e).a ≤ E ∧ (m.put l e).b ≤ E ∧ (m.put l e).c ≤ E ∧ (m.put l e).d ≤ E := by
 unfold Mo.put; split <;> (try split) <;> (try split) <;> simp_all
def Mo.le (m : Mo) (E : Int) : Prop := m.a ≤ E ∧ m.b ≤ E ∧ m.c ≤ E ∧ m.d ≤ E
theorem Mo.le.get {m : Mo} {E : Int} (h : m.le E) (i : Int) : m.get i ≤ E := by
 unfold Mo.le at h; unfold Mo.get; split <;> (try split) <;> (try split) <;> omega
theorem Mo.le.put {m : Mo} {E : Int} (h : m.le E) (l e : Int) (he : e ≤ E) : (m.put l e).le E := Mo.put_le h he
theorem Mo.le.mono {m : Mo} {E E' : Int} (h : m.le E) (he : E ≤ E') : m.le E' := by unfold Mo.le at *; omega
end Go.Proofs.YtkbpnppiadaibaaGreatDoor
