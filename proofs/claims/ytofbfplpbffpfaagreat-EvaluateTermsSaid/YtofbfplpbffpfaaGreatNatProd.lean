/- Layer 1 (natural): copying digits; the product, divided into three. -/
import Derived.Test.YtofbfplpbffpfaaGreatNatInto

namespace Go.Proofs.YtofbfplpbffpfaaGreat
open Go.RowKit

theorem Only.setRow {g : Nat} (w : World) (cs : Array Value) : Only g w (w.setRow g cs) :=
  ⟨rfl, rfl, rfl, by simp [World.setRow], fun i _ hne => setRow_other w g i cs (fun e => hne (by rw [e]))⟩

theorem wpList_copyNat {w : World} {ops : Array Oper} {rest : List Oper} {o : Oper} {a : Act} {Q : Exit → Act → World → Prop} (hgd : o.guard = none) (d s : Operand)
    (ho : o.op = .call { callee := .builtin .copy, args := #[d, s], argTypes := #[23, 23] })
    (g off dLen dCap : Nat) (S : Option Addr) (sCap : Nat) (xs zs : List Nat) (hd : a.eval d = .slice (some ⟨g, off, none⟩) dLen dCap) (hs : a.eval s = .slice S xs.length sCap)
    (hrow : Row w g zs) (hx : DigAt w S xs) (hle : xs.length ≤ dLen) (hfit : off + xs.length ≤ zs.length)
    (h : ∀ w', Row w' g (zs.take off ++ (xs ++ zs.drop (off + xs.length))) → Only g w w' → wpList Tryz.prog ops Q rest (a.put o.dst (goInt xs.length)) w') : wpList Tryz.prog ops Q (o :: rest) a w := by
  by_cases h0 : xs.length = 0
  · have hxs : xs = [] := List.eq_nil_of_length_eq_zero h0
    subst hxs
    refine wpList_copy_nothing hgd d s _ _ ho 61 Tryz.underlying23 size_u32 _ _ _ _ _ _ hd hs (by simp) ?_
    exact h w (by simpa using hrow) (Only.refl _ _)
  · obtain ⟨ad, e, hb, hc⟩ := hx.2 (by omega)
    subst e
    have hcopy := wpList_copy_own (P := Tryz.prog) (w := w) (ops := ops) (rest := rest) (o := o) (a := a) (Q := Q) hgd d s _ _ ho 61 Tryz.underlying23 size_u32 g off dLen dCap ad xs.length sCap hd hs
      (u32s zs).toArray 61 hrow (u32s xs) (by rw [u32s_length]; exact (Nat.min_eq_left hle).symm)
      (fun j v hj => by
        have hjl : j < xs.length := by
          rcases Nat.lt_or_ge j xs.length with hj' | hj'
          · exact hj'
          · rw [List.getElem?_eq_none (by rw [u32s_length]; exact hj')] at hj; cases hj
        rw [u32s_get xs j hjl] at hj
        rw [hc j hjl, hj])
      (by rw [u32s_length]; simpa [u32s_length] using hfit) (u32s_one xs)
    apply hcopy
    rw [u32s_length]
    refine h _ ?_ (Only.setRow _ _)
    have := setRow_heap w g _ ((u32s zs).toArray.toList.take off ++ (u32s xs ++ (u32s zs).toArray.toList.drop (off + xs.length))).toArray 61 _ hrow
    unfold Row
    rw [this]
    simp [u32s]

theorem DigAt.natTake {w : World} {A : Option Addr} {ds : List Nat} (h : DigAt w A ds) (k c : Nat) (hk : k ≤ ds.length) (hc : ds.length ≤ c) (hc' : c ≤ 9223372036854775807) : NatV w (.slice A k c) (ds.take k) :=
  ⟨A, c, by rw [List.length_take, Nat.min_eq_left hk], by rw [List.length_take]; omega, hc', h.take k⟩
theorem DigAt.natDrop {w : World} {ad : Addr} {ds : List Nat} (h : DigAt w (some ad) ds) (k c : Nat) (hk : k < ds.length) (hc : ds.length ≤ c) (hc' : c ≤ 9223372036854775807) :
    NatV w (.slice (some (ad.add k)) (ds.length - k) (c - k)) (ds.drop k) := by
  have := h.drop k c (by omega) hc
  rw [if_neg (by omega)] at this
  exact ⟨_, c - k, by rw [List.length_drop]; rfl, by rw [List.length_drop]; omega, by omega, this⟩

/-- What a call of product gives, kept together. -/
def ProdRes (W w' : World) (v : Value) (l n : Nat) : Prop := ∃ zs, NatV w' v zs ∧ zs.length = l ∧ val zs = n ∧ Fresh W.heap.size v ∧ Ext W w'
theorem ProdRes.ext {W w' w'' : World} {v : Value} {l n : Nat} (h : ProdRes W w' v l n) (hx : Ext w' w'') : ProdRes W w'' v l n := by
  obtain ⟨zs, h1, h2, h3, h4, h5⟩ := h
  exact ⟨zs, h1.ext hx, h2, h3, h4, h5.trans hx⟩

/-- Adding the middle part: what is needed of the sizes, and what comes out. -/
theorem join_fit {zs : List Nat} {half L mid total : Nat} (hl : zs.length = L) (hh : half ≤ L) (he : val zs + B32 ^ half * mid = total) (ht : total < B32 ^ L) :
    val (zs.drop half) + mid < B32 ^ (L - half) := by
  have e := val_take_drop zs half (by omega)
  have e2 : B32 ^ L = B32 ^ half * B32 ^ (L - half) := by rw [← Nat.pow_add]; congr 1; omega
  have : B32 ^ half * (val (zs.drop half) + mid) < B32 ^ half * B32 ^ (L - half) := by
    rw [← e2, Nat.mul_add]; omega
  exact Nat.lt_of_mul_lt_mul_left this

theorem join_val {zs ys : List Nat} {half L mid total : Nat} (hl : zs.length = L) (hl' : ys.length = L) (hh : half ≤ L) (he : val zs + B32 ^ half * mid = total) (htk : ys.take half = zs.take half)
    (hv : val (ys.drop half) = val (zs.drop half) + mid) : val ys = total := by
  have e := val_take_drop zs half (by omega)
  have e' := val_take_drop ys half (by omega)
  rw [e', htk, hv, Nat.mul_add]
  omega

end Go.Proofs.YtofbfplpbffpfaaGreat
