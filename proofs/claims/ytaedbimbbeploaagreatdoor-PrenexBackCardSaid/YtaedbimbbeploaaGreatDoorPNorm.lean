/- The canonical form of a sum of terms, and of a recursive polynomial, plain, with its size. -/
import Derived.Test.YtaedbimbbeploaaGreatDoorMk6
set_option linter.unusedSimpArgs false
set_option linter.unusedVariables false

namespace Go.Proofs.YtaedbimbbeploaaGreatDoor
def gah (c : Int) (m : Mo) : Sp -> Sp
 | [] => if c = 0 then [] else [(c, m)]
 | (d, n) :: r => if n.lt m then (if c = 0 then (d, n) :: r else (c, m) :: (d, n) :: r) else if m = n then (if c + d = 0 then r else (c + d, n) :: r) else (d, n) :: gah c m r
theorem zb1 (c : Int) (m : Mo) (l : Sp) (k : Mo) : qc (gah c m l) k = (if m = k then c else 0) + qc l k := by
 induction l with
 | nil =>
   unfold gah
   by_cases h : c = 0
   · rw [if_pos h, h]; simp [qc]
   · rw [if_neg h]; simp [qc]
 | cons x r ih =>
   obtain ⟨d, n⟩ := x;unfold gah
   by_cases h1 : n.lt m
   · rw [if_pos h1]
     by_cases h : c = 0
     · rw [if_pos h, h]; simp
     · rw [if_neg h]; simp [qc]
   · rw [if_neg h1]
     by_cases h2 : m = n
     · rw [if_pos h2]; subst h2
       by_cases h : c + d = 0
       · rw [if_pos h]; simp only [qc]; split <;> omega
       · rw [if_neg h]; simp only [qc]; split <;> omega
     · rw [if_neg h2]; simp only [qc, ih]; omega
theorem za4 {c : Int} {m : Mo} {l : Sp} {x : Int × Mo} (h : x ∈ gah c m l) : x.2 = m \/ ∃ y ∈ l, y.2 = x.2 := by
 induction l with
 | nil =>
   unfold gah at h
   split at h
   · cases h
   · left; rw [List.mem_singleton.1 h]
 | cons y r ih =>
   obtain ⟨d, n⟩ := y;unfold gah at h
   split at h
   · split at h
     · exact .inr ⟨x, h, rfl⟩
     · rcases List.mem_cons.1 h with rfl | h
       · exact .inl rfl
       · exact .inr ⟨x, h, rfl⟩
   · split at h
     · split at h
       · exact .inr ⟨x, List.mem_cons_of_mem _ h, rfl⟩
       · rcases List.mem_cons.1 h with rfl | h
         · exact .inr ⟨_, List.mem_cons_self, rfl⟩
         · exact .inr ⟨x, List.mem_cons_of_mem _ h, rfl⟩
     · rcases List.mem_cons.1 h with rfl | h
       · exact .inr ⟨_, List.mem_cons_self, rfl⟩
       · rcases ih h with h | ⟨y, hy, e⟩
         · exact .inl h
         · exact .inr ⟨y, List.mem_cons_of_mem _ hy, e⟩
theorem jb9 (c : Int) (m : Mo) (l : Sp) (h : zy l) : zy (gah c m l) := by
 induction l with
 | nil =>
   unfold gah
   split
   · exact trivial
   · rename_i hc; exact ⟨hc, fun _ hx => (by cases hx), trivial⟩
 | cons x r ih =>
   obtain ⟨d, n⟩ := x;obtain ⟨h1, h2, h3⟩ := h;unfold gah
   split
   · rename_i hlt
     split
     · exact ⟨h1, h2, h3⟩
     · rename_i hc;refine ⟨hc, fun y hy => ?_, h1, h2, h3⟩;rcases List.mem_cons.1 hy with rfl | hy
       · exact hlt
       · exact Mo.lt_trans (h2 y hy) hlt
   · rename_i hlt
     split
     · rename_i he
       split
       · exact h3
       · rename_i hc; exact ⟨hc, h2, h3⟩
     · rename_i hne;refine ⟨h1, fun y hy => ?_, ih h3⟩;rcases za4 hy with e | ⟨z, hz, e⟩
       · rw [e];rcases Mo.tri m n with h | h | h
         · exact h
         · exact absurd h hne
         · exact absurd h hlt
       · rw [<- e]; exact h2 z hz
def je : Sp -> Sp
 | [] => []
 | (c, m) :: r => if m.nonneg then gah c m (je r) else je r
theorem kw (l : Sp) : zy (je l) := by
 induction l with
 | nil => exact trivial
 | cons x r ih =>
   obtain ⟨c, m⟩ := x;unfold je
   split
   · exact jb9 _ _ _ ih
   · exact ih
theorem vak (l : Sp) (k : Mo) : qc (je l) k = if k.nonneg then qc l k else 0 := by
 induction l with
 | nil => simp [je, qc]
 | cons x r ih =>
   obtain ⟨c, m⟩ := x;unfold je
   by_cases hm : m.nonneg
   · rw [if_pos hm, zb1, ih]
     by_cases hk : k.nonneg
     · rw [if_pos hk, if_pos hk]; simp only [qc]
     · rw [if_neg hk, if_neg hk, if_neg (fun (e : m = k) => hk (e ▸ hm))]; rfl
   · rw [if_neg hm, ih]
     by_cases hk : k.nonneg
     · rw [if_pos hk, if_pos hk]; simp only [qc]; rw [if_neg (fun (e : m = k) => hm (e ▸ hk))]; omega
     · rw [if_neg hk, if_neg hk]
theorem xy {l : Sp} {x : Int × Mo} (h : x ∈ je l) : x.2.nonneg /\ ∃ y ∈ l, y.2 = x.2 := by
 induction l with
 | nil => cases h
 | cons y r ih =>
   obtain ⟨c, m⟩ := y;unfold je at h
   split at h
   · rename_i hm;rcases za4 h with e | ⟨z, hz, e⟩
     · exact ⟨by rw [e]; exact hm, _, List.mem_cons_self, e.symm⟩
     · suffices z.2.nonneg /\ ∃ y ∈ r, y.2 = z.2 by
        obtain ⟨a, y, hy, e'⟩ := this;exact ⟨by rw [<- e]; exact a, y, List.mem_cons_of_mem _ hy, e'.trans e⟩
       clear ih h
       induction r generalizing z with
       | nil => cases hz
       | cons y r ih =>
         obtain ⟨c', m'⟩ := y;unfold je at hz
         split at hz
         · rename_i hm';rcases za4 hz with e1 | ⟨z', hz', e1⟩
           · exact ⟨by rw [e1]; exact hm', _, List.mem_cons_self, e1.symm⟩
           · obtain ⟨a, y, hy, e'⟩ := ih z' hz' (e1.trans e);exact ⟨by rw [<- e1]; exact a, y, List.mem_cons_of_mem _ hy, e'.trans e1⟩
         · obtain ⟨a, y, hy, e'⟩ := ih z hz e;exact ⟨a, y, List.mem_cons_of_mem _ hy, e'⟩
   · obtain ⟨a, y, hy, e⟩ := ih h;exact ⟨a, y, List.mem_cons_of_mem _ hy, e⟩
theorem vab {l : Sp} (h : ∀ x ∈ l, x.2.nonneg) (k : Mo) : qc (je l) k = qc l k := by
 rw [vak]
 by_cases hk : k.nonneg
 · rw [if_pos hk]
 · rw [if_neg hk, vaa fun x hx (e : x.2 = k) => hk (e ▸ h x hx)]
theorem xax {l : Sp} (h : zy l) (hn : ∀ x ∈ l, x.2.nonneg) : je l = l := zy.uniq _ _ (kw l) h (vab hn)
theorem ga0 {l l' : Sp} (h : ∀ k, k.nonneg -> qc l k = qc l' k) : je l = je l' := zy.uniq _ _ (kw l) (kw l') fun k => by
 rw [vak, vak]
 by_cases hk : k.nonneg
 · rw [if_pos hk, if_pos hk, h k hk]
 · rw [if_neg hk, if_neg hk]
theorem wb8 {l l' : Sp} (hc : zy l') (hn : ∀ x ∈ l', x.2.nonneg) (h : ∀ k, k.nonneg -> qc l' k = qc l k) : l' = je l := by
 rw [<- xax hc hn]; exact ga0 h
def qf : Sp -> Nat
 | [] => 0
 | (c, _) :: r => c.natAbs + qf r
theorem wag (l r : Sp) : qf (l ++ r) = qf l + qf r := by
 induction l with
 | nil => simp [qf]
 | cons x l ih => obtain ⟨c, m⟩ := x; simp only [List.cons_append, qf, ih]; omega
theorem xb9 (c : Int) (m : Mo) (l : Sp) : qf (gah c m l) <= c.natAbs + qf l := by
 induction l with
 | nil => unfold gah; split <;> simp [qf]
 | cons x r ih =>
   obtain ⟨d, n⟩ := x;unfold gah
   split
   · split <;> simp only [qf] <;> omega
   · split
     · split <;> simp only [qf] <;> omega
     · simp only [qf]; omega
theorem yas (l : Sp) : qf (je l) <= qf l := by
 induction l with
 | nil => exact Nat.le_refl _
 | cons x r ih =>
   obtain ⟨c, m⟩ := x;unfold je;have := xb9 c m (je r)
   split <;> simp only [qf] <;> omega
theorem qb9 (c : Int) (m : Mo) (l : Sp) : (gah c m l).length <= l.length + 1 := by
 induction l with
 | nil => unfold gah; split <;> simp
 | cons x r ih =>
   obtain ⟨d, n⟩ := x;unfold gah
   split
   · split <;> simp
   · split
     · split <;> simp <;> omega
     · simp; omega
theorem xbb (l : Sp) : (je l).length <= l.length := by
 induction l with
 | nil => exact Nat.le_refl _
 | cons x r ih =>
   obtain ⟨c, m⟩ := x;unfold je;have := qb9 c m (je r)
   split <;> simp only [List.length_cons] <;> omega
theorem ua3 {l : Sp} {x : Int × Mo} (h : x ∈ l) : x.1.natAbs <= qf l := by
 induction l with
 | nil => cases h
 | cons y r ih =>
   obtain ⟨c, m⟩ := y;rcases List.mem_cons.1 h with rfl | h
   · simp only [qf]; omega
   · have := ih h; simp only [qf]; omega
theorem ubn (f : Int × Mo -> Bool) (l : Sp) : qf (l.filter f) <= qf l := by
 induction l with
 | nil => exact Nat.le_refl _
 | cons x r ih =>
   obtain ⟨c, m⟩ := x;rw [List.filter_cons]
   split <;> simp only [qf] <;> omega
def Pl.ofS (l : Sp) : Pl := bld 4 (je l)
def Pl.nf (p : Pl) : Pl := Pl.ofS (p.terms Mo.one)
theorem Pl.ofS_can (l : Sp) : (Pl.ofS l).Can := (vba (kw l) (fun _ hx => (xy hx).1)).1
theorem Pl.ofS_coef (l : Sp) (k : Mo) : qc ((Pl.ofS l).terms Mo.one) k = if k.nonneg then qc l k else 0 :=
 ((vba (kw l) (fun _ hx => (xy hx).1)).2 k).trans (vak l k)
theorem Mo.put_nonneg {m : Mo} {i e : Int} (h : m.nonneg) (he : 0 <= e) : (m.put i e).nonneg := by
 unfold Mo.nonneg at *; unfold Mo.put; split <;> (try split) <;> (try split) <;> simp_all
theorem Mo.one_nonneg : Mo.one.nonneg := by unfold Mo.nonneg Mo.one; simp
theorem Mo.get_nonneg {m : Mo} (h : m.nonneg) (i : Int) : 0 <= m.get i := by
 unfold Mo.nonneg at h; unfold Mo.get; split <;> (try split) <;> (try split) <;> omega
mutual
theorem Pl.terms_nonneg : ∀ (p : Pl) (m : Mo), m.nonneg -> ∀ x ∈ p.terms m, x.2.nonneg
 | .mk l n d cs, m, hm, x, hx => by
   rw [Pl.terms] at hx
   split at hx
   · rw [List.mem_singleton.1 hx]; exact hm
   · split at hx
     · cases hx
     · exact jau cs m l (m.get l) hm (Mo.get_nonneg hm l) x hx
theorem jau : ∀ (cs : List Pl) (m : Mo) (l e : Int), m.nonneg -> 0 <= e -> ∀ x ∈ yc m l e cs, x.2.nonneg
 | [], m, l, e, hm, he, x, hx => by rw [yc] at hx; cases hx
 | c :: r, m, l, e, hm, he, x, hx => by
   rw [yc] at hx;rcases List.mem_append.1 hx with hx | hx
   · exact Pl.terms_nonneg c _ (Mo.put_nonneg hm he) x hx
   · exact jau r m l (e + 1) hm (by omega) x hx
end
theorem Pl.terms_one_nonneg (p : Pl) : ∀ x ∈ p.terms Mo.one, x.2.nonneg := Pl.terms_nonneg p _ Mo.one_nonneg
theorem Pl.nf_can (p : Pl) : p.nf.Can := Pl.ofS_can _
theorem Pl.nf_coef (p : Pl) (k : Mo) : qc (p.nf.terms Mo.one) k = qc (p.terms Mo.one) k :=
 ((vba (kw _) (fun _ hx => (xy hx).1)).2 k).trans (vab p.terms_one_nonneg k)
theorem Pl.nf_of_can {p : Pl} (h : p.Can) : p.nf = p := Pl.can_eq p.nf_can h p.nf_coef
theorem Pl.nf_val (ρ : Int -> Rat) (p : Pl) : p.nf.val ρ = p.val ρ := Pl.val_coef ρ p.nf_coef
mutual
def Pl.sz : Pl -> Nat
 | .mk _ _ _ cs => ji cs + 1
def ji : List Pl -> Nat
 | [] => 0
 | c :: r => c.sz + ji r
end
mutual
def Pl.dm : Pl -> Nat
 | .mk _ _ d cs => max d.length (waa cs)
def waa : List Pl -> Nat
 | [] => 0
 | c :: r => max c.dm (waa r)
end
theorem zak {cs : List Pl} {c : Pl} (h : c ∈ cs) : c.sz <= ji cs := by
 induction cs with
 | nil => cases h
 | cons x r ih =>
   rcases List.mem_cons.1 h with rfl | h
   · unfold ji; omega
   · have := ih h; unfold ji; omega
theorem Pl.sz_kid {p c : Pl} (h : c ∈ p.cs) : c.sz < p.sz := by
 cases p with
 | mk l n d cs =>
   have h1 : c.sz <= ji cs := zak (cs := cs) h;have h2 : (Pl.mk l n d cs).sz = ji cs + 1 := by rw [Pl.sz]
   omega
theorem gae (cs : List Pl) : cs.length <= ji cs := by
 induction cs with
 | nil => exact Nat.le_refl _
 | cons x r ih => cases x; unfold ji Pl.sz; simp only [List.length_cons]; omega
theorem Pl.sz_len (p : Pl) : p.cs.length < p.sz := by
 cases p with
 | mk l n d cs =>
   have h1 := gae cs;have h2 : (Pl.mk l n d cs).sz = ji cs + 1 := by rw [Pl.sz]
   have h3 : (Pl.mk l n d cs).cs = cs := rfl;rw [h3]; omega
theorem ua1 (a b : List Pl) : ji (a ++ b) = ji a + ji b := by
 induction a with
 | nil => simp [ji]
 | cons x r ih => simp only [List.cons_append, ji, ih]; omega
theorem yb3 (l : List Pl) (k : Nat) (h : k < l.length) : ji (l.drop k) = l[k].sz + ji (l.drop (k + 1)) := by
 rw [List.drop_eq_getElem_cons h]; simp only [ji]
theorem uaq {cs : List Pl} {c : Pl} (h : c ∈ cs) : c.dm <= waa cs := by
 induction cs with
 | nil => cases h
 | cons x r ih =>
   rcases List.mem_cons.1 h with rfl | h
   · unfold waa; omega
   · have := ih h; unfold waa; omega
theorem Pl.dm_ds (p : Pl) : p.ds.length <= p.dm := by
 cases p with
 | mk l n d cs =>
   have h2 : (Pl.mk l n d cs).dm = max d.length (waa cs) := by rw [Pl.dm]
   have h3 : (Pl.mk l n d cs).ds = d := rfl;rw [h3]; omega
mutual
theorem Pl.terms_len : ∀ (p : Pl) (m : Mo), (p.terms m).length <= p.sz
 | .mk l n d cs, m => by
   rw [Pl.terms, Pl.sz]
   split
   · simp
   · split
     · simp
     · have := yah cs m l (m.get l); omega
theorem yah : ∀ (cs : List Pl) (m : Mo) (l e : Int), (yc m l e cs).length <= ji cs
 | [], m, l, e => by rw [yc]; simp
 | c :: r, m, l, e => by
   rw [yc, List.length_append, ji];have := Pl.terms_len c (m.put l e);have := yah r m l (e + 1);omega
end
theorem Mo.put_le {m : Mo} {l e E : Int} (h : m.a <= E /\ m.b <= E /\ m.c <= E /\ m.d <= E) (he : e <= E) : (m.put l e).a <= E /\ (m.put l e).b <= E /\ (m.put l e).c <= E /\ (m.put l e).d <= E := by
 unfold Mo.put; split <;> (try split) <;> (try split) <;> simp_all
def Mo.le (m : Mo) (E : Int) : Prop := m.a <= E /\ m.b <= E /\ m.c <= E /\ m.d <= E
theorem Mo.le.get {m : Mo} {E : Int} (h : m.le E) (i : Int) : m.get i <= E := by
 unfold Mo.le at h; unfold Mo.get; split <;> (try split) <;> (try split) <;> omega
theorem Mo.le.put {m : Mo} {E : Int} (h : m.le E) (l e : Int) (he : e <= E) : (m.put l e).le E := Mo.put_le h he
theorem Mo.le.mono {m : Mo} {E E' : Int} (h : m.le E) (he : E <= E') : m.le E' := by unfold Mo.le at *; omega
theorem Mo.one_le : Mo.one.le 0 := by unfold Mo.le Mo.one; simp
mutual
theorem Pl.terms_le : ∀ (p : Pl) (m : Mo) (E : Int), m.le E -> ∀ x ∈ p.terms m, x.2.le (E + p.sz)
 | .mk l n d cs, m, E, hm, x, hx => by
   rw [Pl.terms] at hx
   split at hx
   · rw [List.mem_singleton.1 hx]; exact hm.mono (by omega)
   · split at hx
     · cases hx
     · have := qa6 cs m l (m.get l) E hm (hm.get l) x hx;refine this.mono ?_;rw [Pl.sz]; omega
theorem qa6 : ∀ (cs : List Pl) (m : Mo) (l e E : Int), m.le E -> e <= E -> ∀ x ∈ yc m l e cs, x.2.le (E + ji cs)
 | [], m, l, e, E, hm, he, x, hx => by rw [yc] at hx; cases hx
 | c :: r, m, l, e, E, hm, he, x, hx => by
   rw [yc] at hx;rcases List.mem_append.1 hx with hx | hx
   · refine (Pl.terms_le c _ E (hm.put l e he) x hx).mono ?_;rw [ji]; omega
   · refine (qa6 r m l (e + 1) (E + 1) (hm.mono (by omega)) (by omega) x hx).mono ?_;have : 1 <= c.sz := by cases c; rw [Pl.sz]; omega
     rw [ji]; omega
end
mutual
theorem Pl.terms_nrm : ∀ (p : Pl) (m : Mo) (L : Nat), p.dm <= L -> p.dig -> qf (p.terms m) <= p.sz * B32 ^ L
 | .mk l n d cs, m, L, hL, hd => by
   rw [Pl.dm] at hL;rw [Pl.dig] at hd;rw [Pl.terms, Pl.sz, Nat.add_mul, Nat.one_mul]
   split
   · simp only [qf, gu];have h1 := qaj hd.1;have h2 : B32 ^ d.length <= B32 ^ L := Nat.pow_le_pow_right jae (by omega);omega
   · split
     · simp [qf]
     · have := va1 cs m l (m.get l) L (by omega) hd.2; omega
theorem va1 : ∀ (cs : List Pl) (m : Mo) (l e : Int) (L : Nat), waa cs <= L -> yap cs -> qf (yc m l e cs) <= ji cs * B32 ^ L
 | [], m, l, e, L, hL, hd => by rw [yc]; simp [qf]
 | c :: r, m, l, e, L, hL, hd => by
   rw [waa] at hL;rw [yap] at hd;rw [yc, wag, ji, Nat.add_mul];have := Pl.terms_nrm c (m.put l e) L (by omega) hd.1;have := va1 r m l (e + 1) L (by omega) hd.2;omega
end
theorem gcr (E : Nat) (n : Nat) : ∀ l : Sp, (∀ x ∈ l, x.2.le E) -> (bld n l).sz <= (E + 2) ^ n := by
 induction n with
 | zero =>
   intro l _;cases l with
   | nil => simp [bld, Pl.zero, Pl.sz, ji]
   | cons x r => obtain ⟨c, m⟩ := x; simp [bld, Pl.const, Pl.sz, ji]
 | succ n ih =>
   intro l hl;have hpos : 1 <= (E + 2) ^ n := Nat.pow_pos (by omega);cases l with
   | nil => simp only [bld, Pl.zero, Pl.sz, ji]; exact Nat.pow_pos (by omega)
   | cons x r =>
     obtain ⟨c, m⟩ := x;rw [bld]
     split
     · have := ih _ hl;rw [Nat.pow_succ];exact Nat.le_trans this (Nat.le_mul_of_pos_right _ (by omega))
     · have hg : m.get ((n + 1 : Nat) : Int) <= E := (hl (c, m) (by simp)).get ((n + 1 : Nat) : Int);have key : ∀ k, ji ((List.range k).map fun (i : Nat) => bld n (((c, m) :: r).filter fun x => decide (x.2.get (n + 1 : Nat) = Int.ofNat i))) <= k * (E + 2) ^ n := by
        intro k
        induction k with
        | zero => simp [ji]
        | succ k ihk =>
          rw [List.range_succ, List.map_append, ua1, Nat.add_mul, Nat.one_mul];have := ih (((c, m) :: r).filter fun x => decide (x.2.get (n + 1 : Nat) = Int.ofNat k)) (fun x hx => hl x (List.mem_filter.1 hx).1);simp only [List.map_cons, List.map_nil, ji];omega
       rw [Pl.sz, Nat.pow_succ];have h1 := key ((m.get (n + 1 : Nat)).toNat + 1);have h2 : ((m.get (n + 1 : Nat)).toNat + 1) * (E + 2) ^ n <= (E + 1) * (E + 2) ^ n := Nat.mul_le_mul_right _ (by omega);have h3 : (E + 2) ^ n * (E + 2) = (E + 1) * (E + 2) ^ n + (E + 2) ^ n := by rw [Nat.mul_comm, <- Nat.succ_mul]
       omega
theorem ycs (L : Nat) (n : Nat) : ∀ l : Sp, (∀ x ∈ l, (dg x.1.natAbs).length <= L) -> (bld n l).dm <= L := by
 induction n with
 | zero =>
   intro l hl;cases l with
   | nil => simp [bld, Pl.zero, Pl.dm, waa]
   | cons x r => obtain ⟨c, m⟩ := x; have := hl (c, m) (by simp); simpa [bld, Pl.const, Pl.dm, waa] using this
 | succ n ih =>
   intro l hl;cases l with
   | nil => simp [bld, Pl.zero, Pl.dm, waa]
   | cons x r =>
     obtain ⟨c, m⟩ := x;rw [bld]
     split
     · exact ih _ hl
     · rw [Pl.dm];have key : ∀ cs : List Pl, (∀ c ∈ cs, c.dm <= L) -> waa cs <= L := by
        intro cs
        induction cs with
        | nil => intro _; simp [waa]
        | cons y r ihr => intro h; rw [waa]; have := h y (by simp); have := ihr (fun z hz => h z (by simp [hz])); omega
       have := key _ (fun (p : Pl) (hp : p ∈ (List.range ((m.get (n + 1 : Nat)).toNat + 1)).map fun (i : Nat) => bld n (((c, m) :: r).filter fun x => decide (x.2.get (n + 1 : Nat) = Int.ofNat i))) => by
        obtain ⟨i, -, rfl⟩ := List.mem_map.1 hp
        exact ih _ (fun x hx => hl x (List.mem_filter.1 hx).1))
       simp only [List.length_nil];omega
end Go.Proofs.YtaedbimbbeploaaGreatDoor
