/- Layer 20: the sparse form of a canonical polynomial; what sums and products of sparse forms are, and their sizes. -/
import Derived.Test.YtkbpnppiadaibaaGreatDoorMt28
import Derived.Test.YtkbpnppiadaibaaGreatDoorMt23
import Derived.Test.YtkbpnppiadaibaaGreatDoorMt9
import Derived.Test.YtkbpnppiadaibaaGreatDoorMt13
import Derived.Deep.CutBlock
set_option linter.unusedSimpArgs false
set_option linter.unusedVariables false

namespace Go.Proofs.YtkbpnppiadaibaaGreatDoor
def Pl.sp (p : Pl) : Sp := snorm (p.terms Mo.one)
theorem Pl.sp_can (p : Pl) : SCan p.sp := snorm_can _
theorem Pl.sp_nn (p : Pl) : ∀ x ∈ p.sp, x.2.nonneg := fun x hx => (snorm_mem hx).1
theorem Pl.sp_val (ρ : Int → Rat) (p : Pl) : sval ρ p.sp = p.val ρ := by
 rw [← Pl.terms_sval ρ p]
 exact sval_coef ρ (snorm_coef_nn p.terms_one_nonneg)
theorem Pl.sp_uniq {l : Sp} {p : Pl} (hc : SCan l) (hn : ∀ x ∈ l, x.2.nonneg) (h : ∀ ρ, sval ρ l = p.val ρ) : l = p.sp :=
 SCan.uniq _ _ hc p.sp_can (fun m => scoef_of_val hn p.sp_nn (fun ρ => by rw [h, Pl.sp_val]) m)
theorem Pl.sp_of {l : Sp} {p : Pl} (hn : ∀ x ∈ l, x.2.nonneg) (h : ∀ ρ, sval ρ l = p.val ρ) : snorm l = p.sp :=
 Pl.sp_uniq (snorm_can l) (fun _ hx => (snorm_mem hx).1) (fun ρ => by rw [← h]; exact sval_coef ρ (snorm_coef_nn hn))
theorem Pl.sp_self (p : Pl) : snorm p.sp = p.sp := snorm_of_can p.sp_can p.sp_nn
theorem Pl.sp_add (p q : Pl) : snorm (p.sp ++ q.sp) = (p.add q).sp :=
 Pl.sp_of (fun x hx => (List.mem_append.1 hx).elim (p.sp_nn x) (q.sp_nn x)) (fun ρ => by rw [sval_append, Pl.sp_val, Pl.sp_val, Pl.add_val])
theorem Pl.sp_mul (p q : Pl) : snorm (smul p.sp q.sp) = (p.mul q).sp :=
 Pl.sp_of (smul_nonneg p.sp_nn q.sp_nn) (fun ρ => by rw [smul_val ρ p.sp_nn q.sp_nn, Pl.sp_val, Pl.sp_val, Pl.mul_val])
theorem Pl.sp_ofS {p : Pl} (hp : p.Can) : Pl.ofS p.sp = p := Pl.val_uniq (Pl.ofS_can _) hp (fun ρ => by rw [Pl.ofS_val ρ p.sp_nn, Pl.sp_val])
theorem Pl.sp_zero : Pl.zero.sp = [] := (Pl.sp_uniq (by trivial) (by simp) (fun ρ => by rw [Pl.zero_val]; rfl)).symm
theorem Pl.sp_const {z : Int} (hz : z ≠ 0) : (Pl.const z).sp = [(z, Mo.one)] :=
 (Pl.sp_uniq (by unfold SCan; simp [hz, SCan]) (by intro x hx; rw [List.mem_singleton] at hx; rw [hx]; exact Mo.one_nonneg) (fun ρ => by rw [Pl.const_val]; simp only [sval, Mo.val_one]; grind)).symm
def sscl (c : Int) (l : Sp) : Sp := l.map fun x => (x.1 * c, x.2)
theorem sscl_mem {c : Int} {l : Sp} {x : Int × Mo} (h : x ∈ sscl c l) : ∃ y ∈ l, x = (y.1 * c, y.2) := by
 unfold sscl at h
 obtain ⟨y, hy, e⟩ := List.mem_map.1 h
 exact ⟨y, hy, e.symm⟩
theorem sscl_val (ρ : Int → Rat) (c : Int) (l : Sp) : sval ρ (sscl c l) = sval ρ l * (c : Rat) := by
 induction l with
 | nil => simp [sscl, sval]
 | cons x l ih =>
   obtain ⟨z, m⟩ := x
   have : sscl c ((z, m) :: l) = (z * c, m) :: sscl c l := rfl
   rw [this]
   simp only [sval, ih]
   push_cast
   grind
theorem sscl_can {c : Int} (hc : c ≠ 0) : ∀ l : Sp, SCan l → SCan (sscl c l)
 | [], _ => by trivial
 | (z, m) :: r, h => by
   have h' := h
   unfold SCan at h'
   have e : sscl c ((z, m) :: r) = (z * c, m) :: sscl c r := rfl
   rw [e]
   unfold SCan
   refine ⟨Int.mul_ne_zero h'.1 hc, fun x hx => ?_, sscl_can hc r h'.2.2⟩
   obtain ⟨y, hy, rfl⟩ := sscl_mem hx
   exact h'.2.1 y hy
theorem Pl.sp_scale (p : Pl) {c : Int} (hc : c ≠ 0) : sscl c p.sp = (p.mul (Pl.const c)).sp :=
 Pl.sp_uniq (sscl_can hc _ p.sp_can) (fun x hx => by obtain ⟨y, hy, rfl⟩ := sscl_mem hx; exact p.sp_nn y hy) (fun ρ => by rw [sscl_val, Pl.sp_val, Pl.mul_val, Pl.const_val])
def Mo.var (n : Int) : Mo := Mo.one.put n 1
theorem Pl.sp_var {n : Int} (h1 : 1 ≤ n) (h4 : n ≤ 4) : (Pl.var n).sp = [(1, Mo.var n)] := by
 refine (Pl.sp_uniq (by unfold SCan; simp [SCan]) (by intro x hx; rw [List.mem_singleton] at hx; rw [hx]; exact Mo.put_nonneg Mo.one_nonneg (by omega)) (fun ρ => ?_)).symm
 have hv := Mo.val_put ρ Mo.one n 0 (by omega) h4 (Int.le_refl _)
 have h0 : Mo.one.put n 0 = Mo.one := by unfold Mo.put Mo.one; split <;> (try split) <;> (try split) <;> rfl
 rw [h0, Mo.val_one] at hv
 rw [Pl.var, if_pos ⟨h1, h4⟩, Pl.mk_val ρ _ _ _ (by omega) h4]
 simp only [plVal, Pl.zero_val, Pl.const_val, sval, Mo.var]
 rw [show (1 : Int) = 0 + 1 from rfl, hv]
 push_cast
 grind
theorem Pl.sp_novar {n : Int} (h : ¬ (1 ≤ n ∧ n ≤ 4)) : (Pl.var n).sp = [] := by rw [Pl.var, if_neg h, Pl.sp_zero]
theorem one_less (N : Nat) (l : List Nat) (h : l.Pairwise (· ≠ ·)) : l.length ≤ (l.filter fun x => decide (x ≠ N)).length + 1 := by
 induction l with
 | nil => simp
 | cons a r ih =>
   rw [List.pairwise_cons] at h
   have := ih h.2
   by_cases ha : a = N
   · have hr : (r.filter fun x => decide (x ≠ N)) = r := List.filter_eq_self.2 fun x hx => by
      have := h.1 x hx
      simp; intro e; exact this (by omega)
     rw [List.filter_cons, if_neg (by simp [ha]), hr, List.length_cons]
     exact Nat.le_refl _
   · rw [List.filter_cons, if_pos (by simp [ha])]
     simp only [List.length_cons]
     omega
theorem nodup_lt : ∀ (N : Nat) (l : List Nat), l.Pairwise (· ≠ ·) → (∀ x ∈ l, x < N) → l.length ≤ N
 | 0, l, _, h => by
   cases l with
   | nil => simp
   | cons a r => exact absurd (h a (by simp)) (by omega)
 | N + 1, l, hp, h => by
   have h1 := nodup_lt N (l.filter fun x => decide (x ≠ N)) (hp.filter _) (fun x hx => by
    obtain ⟨h1, h2⟩ := List.mem_filter.1 hx
    have := h x h1
    simp at h2
    omega)
   have h2 := one_less N l hp
   omega
theorem mo_digit {x y E K : Nat} (hx : x < E) (hy : y < K) : x + E * y < E * K := by
 have h1 : E * (y + 1) ≤ E * K := Nat.mul_le_mul_left _ hy
 rw [Nat.mul_succ] at h1
 omega
theorem Mo.num_lt_pow {E : Nat} {m : Mo} (hn : m.nonneg) (h : m.le E) : m.num (E + 1) < (E + 1) ^ 4 := by
 unfold Mo.nonneg at hn
 unfold Mo.le at h
 unfold Mo.num
 have e4 : (E + 1) ^ 4 = (E + 1) * ((E + 1) * ((E + 1) * (E + 1))) := by simp only [Nat.pow_succ, Nat.pow_zero, Nat.one_mul, Nat.mul_assoc]
 rw [e4]
 exact mo_digit (by omega) (mo_digit (by omega) (mo_digit (by omega) (by omega)))
theorem apart_len {E : Nat} {l : Sp} (ha : Apart l) (hn : ∀ x ∈ l, x.2.nonneg) (hE : ∀ x ∈ l, x.2.le E) : l.length ≤ (E + 1) ^ 4 := by
 have h := nodup_lt ((E + 1) ^ 4) (l.map fun x => x.2.num (E + 1)) (by
  rw [List.pairwise_map]
  refine List.Pairwise.imp_of_mem (fun {x y} hx hy hne => ?_) ha
  have bx := hE x hx
  have bz := hE y hy
  unfold Mo.le at bx bz
  rcases Mo.tri x.2 y.2 with h | h | h
  · exact Nat.ne_of_lt (Mo.num_lt (hn x hx) (hn y hy) (by omega) h)
  · exact absurd h hne
  · exact (Nat.ne_of_lt (Mo.num_lt (hn y hy) (hn x hx) (by omega) h)).symm) (fun n hn' => by
  obtain ⟨x, hx, rfl⟩ := List.mem_map.1 hn'
  exact Mo.num_lt_pow (hn x hx) (hE x hx))
 rwa [List.length_map] at h
theorem scan_apart : ∀ l : Sp, SCan l → Apart l
 | [], _ => List.Pairwise.nil
 | (z, m) :: r, h => by
   unfold SCan at h
   refine List.Pairwise.cons (fun y hy e => ?_) (scan_apart r h.2.2)
   have := h.2.1 y hy
   rw [← e] at this
   exact Mo.lt_irrefl _ this
theorem Fit.sp_le {p : Pl} {E D : Nat} (h : Fit p E D) : ∀ x ∈ p.sp, x.2.le E := fun x hx => by
 obtain ⟨-, y, hy, e⟩ := snorm_mem hx
 rw [← e]
 exact h.exps y hy
theorem Fit.sp_nrm {p : Pl} {E D : Nat} (h : Fit p E D) : snrm p.sp < B32 ^ D := Nat.lt_of_le_of_lt (Nat.le_trans (snorm_nrm _) (Nat.le_of_eq h.nrm)) h.nr
theorem Fit.sp_len {p : Pl} {E D : Nat} (h : Fit p E D) : p.sp.length ≤ (E + 1) ^ 4 := apart_len (scan_apart _ p.sp_can) p.sp_nn h.sp_le
theorem pow4_le {E : Nat} (h : E ≤ 900) : (E + 1) ^ 4 ≤ 659020863601 := Nat.le_trans (Nat.pow_le_pow_left (show E + 1 ≤ 901 by omega) 4) (by decide)
theorem Fit.sp_dg {p : Pl} {E D : Nat} (h : Fit p E D) : ∀ x ∈ p.sp, (dg x.1.natAbs).length ≤ D := fun x hx => dg_length_le_of_lt (Nat.lt_of_le_of_lt (snrm_mem hx) h.sp_nrm)
theorem gfold_mem : ∀ (l acc : Sp) (x : Int × Mo), x ∈ gfold acc l → (∃ y ∈ acc, y.2 = x.2) ∨ ∃ y ∈ l, y.2 = x.2
 | [], acc, x, h => .inl ⟨x, h, rfl⟩
 | (c, m) :: r, acc, x, h => by
   rw [gfold] at h
   rcases gfold_mem r _ x h with ⟨y, hy, e⟩ | ⟨y, hy, e⟩
   · split at hy
     · rcases gput_mem hy with e' | ⟨z, hz, e'⟩
       · exact .inr ⟨(c, m), by simp, by rw [← e, e']⟩
       · exact .inl ⟨z, hz, by rw [e', e]⟩
     · exact .inl ⟨y, hy, e⟩
   · exact .inr ⟨y, by simp [hy], e⟩
theorem gfold_short {E : Nat} {l : Sp} (hE : ∀ x ∈ l, x.2.le E) (h9 : E ≤ 900) : (gfold [] l).length ≤ 659020863601 :=
 Nat.le_trans (apart_len (gfold_apart l [] List.Pairwise.nil) (gfold_nn l [] (by simp)) (fun x hx => by
  rcases gfold_mem l [] x hx with ⟨y, hy, -⟩ | ⟨y, hy, e⟩
  · cases hy
  · rw [← e]; exact hE y hy)) (pow4_le h9)
theorem gfold_snrm (l : Sp) : snrm (gfold [] l) ≤ snrm l := by have := gfold_nrm l []; simpa [snrm] using this
end Go.Proofs.YtkbpnppiadaibaaGreatDoor

/- Layer 22: recpoly.mul where the levels differ, or both are 0. -/
set_option maxRecDepth 100000
set_option maxHeartbeats 8000000
namespace Go.Proofs.YtkbpnppiadaibaaGreatDoor
open Go.RowKit
theorem Box4.set {W : World} {g : Nat} {p q : Pl} {s A s' A' : Value} (h : Box4 W g p s A) :
 Box4 ((((W.setCell ⟨g, 0, none⟩ (.int .i64 q.lv)).setCell ⟨g, 1, none⟩ (.bool q.neg)).setCell ⟨g, 2, none⟩ s').setCell ⟨g, 3, none⟩ A') g q s' A' := by
 obtain ⟨h0, h1, h2, h3⟩ := h
 have e : ∀ (W : World) (i j : Nat) (v : Value), i ≠ j → (W.setCell ⟨g, j, none⟩ v).cell? ⟨g, i, none⟩ = W.cell? ⟨g, i, none⟩ := fun W i j v hij => World.cell?_setCell_other _ _ _ _ (by intro e; injection e; omega)
 refine ⟨?_, ?_, ?_, ?_⟩
 · rw [e _ 0 3 _ (by omega), e _ 0 2 _ (by omega), e _ 0 1 _ (by omega)]
   exact World.cell?_setCell_same _ _ _ h0
 · rw [e _ 1 3 _ (by omega), e _ 1 2 _ (by omega)]
   exact World.cell?_setCell_same _ _ _ ((e _ 1 0 _ (by omega)).trans h1)
 · rw [e _ 2 3 _ (by omega)]
   exact World.cell?_setCell_same _ _ _ ((e _ 2 1 _ (by omega)).trans ((e _ 2 0 _ (by omega)).trans h2))
 · exact World.cell?_setCell_same _ _ _ ((e _ 3 2 _ (by omega)).trans ((e _ 3 1 _ (by omega)).trans ((e _ 3 0 _ (by omega)).trans h3)))
theorem set4_heap (W : World) (g : Nat) (a b c d : Value) (k : Nat) (h : k ≠ g) : ((((W.setCell ⟨g, 0, none⟩ a).setCell ⟨g, 1, none⟩ b).setCell ⟨g, 2, none⟩ c).setCell ⟨g, 3, none⟩ d).heap[k]? = W.heap[k]? := by
 rw [Below.heap_setCell _ _ _ k h, Below.heap_setCell _ _ _ k h, Below.heap_setCell _ _ _ k h, Below.heap_setCell _ _ _ k h]
theorem Box4.nat_ {W : World} {g : Nat} {p : Pl} {A0 A1 : Option Addr} {n0 c0 n1 c1 : Nat} (h : Box4 W g p (.slice A0 n0 c0) (.slice A1 n1 c1)) (x y z u : Value) {v : Value} {ds : List Nat} (hv : NatV W v ds) :
 NatV ((((W.setCell ⟨g, 0, none⟩ x).setCell ⟨g, 1, none⟩ y).setCell ⟨g, 2, none⟩ z).setCell ⟨g, 3, none⟩ u) v ds := by
 obtain ⟨h0, h1, h2, h3⟩ := h
 refine (((hv.box h0 rfl _).box (u := .bool p.neg) ?_ rfl _).box (u := .slice A0 n0 c0) ?_ rfl _).box (u := .slice A1 n1 c1) ?_ rfl _
 · rw [World.cell?_setCell_other _ _ _ _ (by simp)]; exact h1
 · rw [World.cell?_setCell_other _ _ _ _ (by simp), World.cell?_setCell_other _ _ _ _ (by simp)]; exact h2
 · rw [World.cell?_setCell_other _ _ _ _ (by simp), World.cell?_setCell_other _ _ _ _ (by simp), World.cell?_setCell_other _ _ _ _ (by simp)]; exact h3
theorem Box4.keep {W : World} {g : Nat} {p : Pl} {A0 A1 : Option Addr} {n0 c0 n1 c1 : Nat} (h : Box4 W g p (.slice A0 n0 c0) (.slice A1 n1 c1)) (x y z u : Value) {q q' : Nat → Prop} {t : Pl} {v : Value} (ht : PlV W q t v) (hq : ∀ b, b < W.heap.size → q b → b ≠ g ∧ q' b) :
 PlV ((((W.setCell ⟨g, 0, none⟩ x).setCell ⟨g, 1, none⟩ y).setCell ⟨g, 2, none⟩ z).setCell ⟨g, 3, none⟩ u) q' t v :=
 PlV.turn_ (by simp [World.setCell]) (fun _ _ hv => h.nat_ x y z u hv) (fun b hlt hb => ⟨(hq b hlt hb).2, set4_heap _ _ _ _ _ _ _ (hq b hlt hb).1⟩) ht
structure MulCut (w : World) (a b : Pl) (sa Aa sb Ab : Value) (wc : World) : Prop where
 ext : Ext w wc
 size : wc.heap.size = w.heap.size + 1 + 1 + 1
 box : Box4 wc w.heap.size a sa Aa
 box' : Box4 wc (w.heap.size + 1) b sb Ab
 zero : Zero4 wc (w.heap.size + 1 + 1)
theorem MulCut.swap {w W : World} {a b : Pl} {sa Aa sb Ab : Value} (h : MulCut w a b sa Aa sb Ab W) :
 MulCut w b a sb Ab sa Aa ((((((((W.setCell ⟨w.heap.size, 0, none⟩ (.int .i64 b.lv)).setCell ⟨w.heap.size, 1, none⟩ (.bool b.neg)).setCell ⟨w.heap.size, 2, none⟩ sb).setCell ⟨w.heap.size, 3, none⟩ Ab).setCell ⟨w.heap.size + 1, 0, none⟩ (.int .i64 a.lv)).setCell ⟨w.heap.size + 1, 1, none⟩ (.bool a.neg)).setCell ⟨w.heap.size + 1, 2, none⟩ sa).setCell ⟨w.heap.size + 1, 3, none⟩ Aa) := by
 obtain ⟨h1, h2, h3, h4, h5⟩ := h
 obtain ⟨W1, hW1⟩ : ∃ W1, ((((W.setCell ⟨w.heap.size, 0, none⟩ (.int .i64 b.lv)).setCell ⟨w.heap.size, 1, none⟩ (.bool b.neg)).setCell ⟨w.heap.size, 2, none⟩ sb).setCell ⟨w.heap.size, 3, none⟩ Ab) = W1 := ⟨_, rfl⟩
 rw [hW1]
 have k1 : Ext w W1 := by
  rw [← hW1]
  exact (((h1.setCell (Nat.le_refl _) _).setCell (Nat.le_refl _) _).setCell (Nat.le_refl _) _).setCell (Nat.le_refl _) _
 have kb : Box4 W1 w.heap.size b sb Ab := by rw [← hW1]; exact h3.set
 have kh : ∀ k, k ≠ w.heap.size → W1.heap[k]? = W.heap[k]? := fun k hk => by rw [← hW1]; exact set4_heap _ _ _ _ _ _ k hk
 have kf : ∀ a, W1.frozen? a = W.frozen? a := fun a => by rw [← hW1]; simp only [World.frozen?_setCell]
 have ks : W1.heap.size = W.heap.size := by rw [← hW1]; simp [World.setCell]
 have kb' : Box4 W1 (w.heap.size + 1) b sb Ab := h4.turn (kh _ (by omega))
 refine ⟨(((k1.setCell (by show w.heap.size ≤ w.heap.size + 1; omega) _).setCell (by show w.heap.size ≤ w.heap.size + 1; omega) _).setCell (by show w.heap.size ≤ w.heap.size + 1; omega) _).setCell (by show w.heap.size ≤ w.heap.size + 1; omega) _, by simp [World.setCell]; omega, kb.turn (set4_heap _ _ _ _ _ _ _ (by omega)), kb'.set, ?_⟩
 have hh : ((((W1.setCell ⟨w.heap.size + 1, 0, none⟩ (.int .i64 a.lv)).setCell ⟨w.heap.size + 1, 1, none⟩ (.bool a.neg)).setCell ⟨w.heap.size + 1, 2, none⟩ sa).setCell ⟨w.heap.size + 1, 3, none⟩ Aa).heap[w.heap.size + 1 + 1]? = W.heap[w.heap.size + 1 + 1]? := (set4_heap _ _ _ _ _ _ _ (by omega)).trans (kh _ (by omega))
 obtain ⟨⟨z0, z1, z2, z3⟩, zf⟩ := h5
 refine ⟨⟨(World.cell?_of_block (a := ⟨w.heap.size + 1 + 1, 0, none⟩) hh).trans z0, (World.cell?_of_block (a := ⟨w.heap.size + 1 + 1, 1, none⟩) hh).trans z1, (World.cell?_of_block (a := ⟨w.heap.size + 1 + 1, 2, none⟩) hh).trans z2, (World.cell?_of_block (a := ⟨w.heap.size + 1 + 1, 3, none⟩) hh).trans z3⟩, fun i => ?_⟩
 simp only [World.frozen?_setCell]
 rw [kf]
 exact zf i
structure MulHyp (w0 : World) (E L : Nat) (a b : Pl) (va vb : Value) : Prop where
 ca : a.Can
 cb : b.Can
 len : a.cs.length ≤ E
 dig : a.ds.length + b.ds.length ≤ L
 pa : PlV w0 (fun _ => True) a va
 pb : PlV w0 (fun _ => True) b vb
 ord : b.lv ≤ a.lv
 ne : a.lv = b.lv → a.lv = 0
 ih : ∀ k (hk : k < a.cs.length) x, PlV w0 (fun _ => True) a.cs[k] x → ∀ W', Ext w0 W' → Calls Tryz.prog 169 #[x, vb] W' (RetPl (fun i => W'.heap.size ≤ i) (a.cs[k].mul b) W')
theorem mul_low {w0 w : World} {E D F G : Nat} (p q : Pl) (v u : Value) (hp : Fit p E D) (hq : Fit q F G) (hE : E ≤ 1000000) (hF : F ≤ 1000000) (hD : D + G ≤ 35184372088000)
 (h : PlV w0 (fun _ => True) p v) (k : PlV w0 (fun _ => True) q u) (hx : Ext w0 w) (hne : p.lv = q.lv → p.lv = 0)
 (ihp : ∀ a ∈ p.cs, ∀ x, PlV w0 (fun _ => True) a x → ∀ W', Ext w0 W' → Calls Tryz.prog 169 #[x, u] W' (RetPl (fun i => W'.heap.size ≤ i) (a.mul q) W'))
 (ihq : ∀ a ∈ q.cs, ∀ x, PlV w0 (fun _ => True) a x → ∀ W', Ext w0 W' → Calls Tryz.prog 169 #[x, v] W' (RetPl (fun i => W'.heap.size ≤ i) (a.mul p) W')) :
 Calls Tryz.prog 169 #[v, u] w (RetPl (fun i => w.heap.size ≤ i) (p.mul q) w) := by
 have hlen : ∀ (r : Pl) (E D : Nat), Fit r E D → r.cs.length ≤ E + 1 := fun r E D hr => by
  obtain ⟨l, n, d, cs⟩ := r
  by_cases hl : 0 < l
  · exact hr.len hl
  · have := hr.can
    unfold Pl.Can at this
    rcases this with h | h
    · simp [Pl.cs, h.2.1]
    · omega
 have hd1 := Nat.le_trans p.dm_ds hp.dm
 have hd2 := Nat.le_trans q.dm_ds hq.dm
 have HH := Lib.hid h
 have HK := Lib.hid k
 obtain ⟨A0, n0, c0, A, c, rfl, -, -, -, -⟩ := h.open_
 obtain ⟨B0, m0, d0, B, d, rfl, -, -, -, -⟩ := k.open_
 have HPQ : Hid (q.lv ≤ p.lv → MulHyp w0 1000001 35184372088000 p q (plV p (.slice A0 n0 c0) (.slice A p.cs.length c)) (plV q (.slice B0 m0 d0) (.slice B q.cs.length d))) := by
  have : q.lv ≤ p.lv → MulHyp w0 1000001 35184372088000 p q (plV p (.slice A0 n0 c0) (.slice A p.cs.length c)) (plV q (.slice B0 m0 d0) (.slice B q.cs.length d)) := fun hl =>
   ⟨hp.can, hq.can, by have := hlen p E D hp; omega, by omega, HH.out, HK.out, hl, hne, fun k hk x hxv => ihp _ (List.getElem_mem hk) x hxv⟩
  exact this
 have HQP : Hid (p.lv < q.lv → MulHyp w0 1000001 35184372088000 q p (plV q (.slice B0 m0 d0) (.slice B q.cs.length d)) (plV p (.slice A0 n0 c0) (.slice A p.cs.length c))) := by
  have : p.lv < q.lv → MulHyp w0 1000001 35184372088000 q p (plV q (.slice B0 m0 d0) (.slice B q.cs.length d)) (plV p (.slice A0 n0 c0) (.slice A p.cs.length c)) := fun hl =>
   ⟨hq.can, hp.can, by have := hlen q F G hq; omega, by omega, HK.out, HH.out, by omega, fun e => by omega, fun k hk x hxv => ihq _ (List.getElem_mem hk) x hxv⟩
  exact this
 have HCM := Lib.hid (Pl.mul_comm p q)
 have HX0 := Lib.hid hx
 clear h k ihp ihq hne hlen hd1 hd2 hp hq hE hF hD hx HH HK
 obtain ⟨W, hW⟩ : ∃ W, ((w.alloc (.cells #[.int .i64 p.lv, .bool p.neg, .slice A0 n0 c0, .slice A p.cs.length c] 42)).alloc (.cells #[.int .i64 q.lv, .bool q.neg, .slice B0 m0 d0, .slice B q.cs.length d] 42)).alloc (.cells #[.int .i64 0, .bool false, .slice none 0 0, .slice none 0 0] 42) = W := ⟨_, rfl⟩
 have hcut : MulCut w p q (.slice A0 n0 c0) (.slice A p.cs.length c) (.slice B0 m0 d0) (.slice B q.cs.length d) W := by
  rw [← hW]
  refine ⟨(((Ext.refl w).alloc _).alloc _).alloc _, by simp, (Box4.new w p _ _ _).ext (((Ext.refl _).alloc _).alloc _) (by simp), ?_, ?_⟩
  · have h1 := Box4.new (w.alloc (.cells #[.int .i64 p.lv, .bool p.neg, .slice A0 n0 c0, .slice A p.cs.length c] 42)) q (.slice B0 m0 d0) (.slice B q.cs.length d) 42
    have h2 := h1.ext ((Ext.refl _).alloc (.cells #[.int .i64 0, .bool false, .slice none 0 0, .slice none 0 0] 42)) (by simp)
    simpa using h2
  · have h1 := Zero4.new ((w.alloc (.cells #[.int .i64 p.lv, .bool p.neg, .slice A0 n0 c0, .slice A p.cs.length c] 42)).alloc (.cells #[.int .i64 q.lv, .bool q.neg, .slice B0 m0 d0, .slice B q.cs.length d] 42)) 42
    simpa using h1
 have hf1 : ∀ i, W.frozen? ⟨w.heap.size, i, none⟩ = false := fun i => by rw [← hW]; simp [go_sem]
 have hf2 : ∀ i, W.frozen? ⟨w.heap.size + 1, i, none⟩ = false := fun i => by rw [← hW]; simp [go_sem]
 have HCUT := Lib.hid hcut
 obtain ⟨b0, b1, b2, b3⟩ := hcut.box
 obtain ⟨e0, e1, e2, e3⟩ := hcut.box'
 have hWs := hcut.size
 clear hcut
 unfold plV
 go_enter Tryz.func169, Tryz.ntmps169
 go_upto_if 21 with fail
 go_cut [] from 22 to 23 (fun wc => Hid ((p.lv < q.lv ∧ MulCut w q p (.slice B0 m0 d0) (.slice B q.cs.length d) (.slice A0 n0 c0) (.slice A p.cs.length c) wc) ∨ (q.lv ≤ p.lv ∧ MulCut w p q (.slice A0 n0 c0) (.slice A p.cs.length c) (.slice B0 m0 d0) (.slice B q.cs.length d) wc)))
 case first =>
  by_cases hlt : p.lv < q.lv
  · have HF := Lib.hid HCUT.out.swap
    have HL := Lib.hid hlt
    clear hW
    go_wp2_with fail
    go_meet
    exact Lib.hid (Or.inl ⟨HL.out, HF.out⟩)
  · have hle : q.lv ≤ p.lv := by omega
    have HL := Lib.hid hle
    clear hW
    go_wp2_with fail
    go_meet
    exact Lib.hid (Or.inr ⟨HL.out, HCUT.out⟩)
 case rest =>
 obtain ⟨a, b, sa1, sa2, sa3, A', ca, sb1, sb2, sb3, B', cb, hh, hm, hc⟩ : ∃ (a b : Pl) (sa1 : Option Addr) (sa2 sa3 : Nat) (A' : Option Addr) (ca : Nat) (sb1 : Option Addr) (sb2 sb3 : Nat) (B' : Option Addr) (cb : Nat), MulHyp w0 1000001 35184372088000 a b (plV a (.slice sa1 sa2 sa3) (.slice A' a.cs.length ca)) (plV b (.slice sb1 sb2 sb3) (.slice B' b.cs.length cb)) ∧ p.mul q = a.mul b ∧ MulCut w a b (.slice sa1 sa2 sa3) (.slice A' a.cs.length ca) (.slice sb1 sb2 sb3) (.slice B' b.cs.length cb) wc := by
  rcases hcut.out with ⟨h1, h2⟩ | ⟨h1, h2⟩
  · exact ⟨q, p, _, _, _, _, _, _, _, _, _, _, HQP.out h1, HCM.out, h2⟩
  · exact ⟨p, q, _, _, _, _, _, _, _, _, _, _, HPQ.out h1, rfl, h2⟩
 clear hcut HPQ HQP HCM HCUT b0 b1 b2 b3 e0 e1 e2 e3 hf1 hf2 hW hWs
 have HM := Lib.hid hm
 clear hm
 have HC := Lib.hid hc
 have HH := Lib.hid hh
 obtain ⟨b0, b1, b2, b3⟩ := hc.box
 obtain ⟨e0, e1, e2, e3⟩ := hc.box'
 have hcs := hc.size
 have HZA := Lib.hid (isZero_any a _ (hh.pa.ext (HX0.out.trans hc.ext)))
 clear hc hh
 unfold plV at HZA
 go_wp2_with fail
 clear b0 b1 b2 b3 e0 e1 e2 e3
 refine HZA.out.mono ?_
 rintro e w1 ⟨rfl, x1⟩
 have HZB : Hid (Calls Tryz.prog 195 #[plV b (.slice sb1 sb2 sb3) (.slice B' b.cs.length cb)] w1 fun e w' => e = .returned (.bool b.isZ) ∧ Ext w1 w') := isZero_any b _ (HH.out.pb.ext ((HX0.out.trans HC.out.ext).trans x1))
 unfold plV at HZB
 have hb1 := HC.out.box.ext x1 (by omega)
 have hb2 := HC.out.box'.ext x1 (by omega)
 have hz1 := HC.out.zero.ext x1 (by omega)
 have hs1 := x1.size
 have HB1 := Lib.hid hb1
 have HB2 := Lib.hid hb2
 have HZ1 := Lib.hid hz1
 have X1 := Lib.hid (HC.out.ext.trans x1)
 obtain ⟨b0, b1, b2, b3⟩ := hb1
 obtain ⟨e0, e1, e2, e3⟩ := hb2
 obtain ⟨⟨z0, z1, z2, z3⟩, zf⟩ := hz1
 clear x1 HZA
 by_cases ha0 : a.isZ = true
 · rw [ha0]
   have HF : Hid (RetPl (fun i => w.heap.size ≤ i) (p.mul q) w (.returned (plV Pl.zero (.slice none 0 0) (.slice none 0 0))) ((((w1.setCell ⟨w.heap.size + 1 + 1, 0, none⟩ (.int .i64 Pl.zero.lv)).setCell ⟨w.heap.size + 1 + 1, 1, none⟩ (.bool Pl.zero.neg)).setCell ⟨w.heap.size + 1 + 1, 2, none⟩ (.slice none 0 0)).setCell ⟨w.heap.size + 1 + 1, 3, none⟩ (.slice none 0 0))) := by
    have e : p.mul q = Pl.zero := by rw [HM.out, (Pl.zero_isZ HH.out.ca).1 ha0, Pl.mul_zero_l]
    rw [e]
    exact close_pl (p := Pl.zero) (q := fun _ => False) X1.out (by omega) HZ1.out (Pl.zero_v _ _ none 0 (by omega)) (fun b _ h => h.elim)
   simp only [Pl.zero, Pl.lv, Pl.neg] at HF
   clear ha0 HZB
   go_wp2_with fail
   exact bodyPost_ret (v := plV Pl.zero (.slice none 0 0) (.slice none 0 0)) (by simp [results, Tryz.results169, go_sem, z0, z1, z2, z3, plV, Pl.zero, Pl.lv, Pl.neg]) rfl HF.out
 have ha0' : a.isZ = false := by simpa using ha0
 rw [ha0']
 have HA0 := Lib.hid ha0
 clear ha0 ha0'
 go_wp2_with fail
 clear b0 b1 b2 b3 e0 e1 e2 e3 z0 z1 z2 z3 zf
 refine HZB.out.mono ?_
 rintro e w2 ⟨rfl, x2⟩
 have hb1 := HB1.out.ext x2 (by omega)
 have hb2 := HB2.out.ext x2 (by omega)
 have hz1 := HZ1.out.ext x2 (by omega)
 have hs2 := x2.size
 have HB3 := Lib.hid hb1
 have HB4 := Lib.hid hb2
 have HZ2 := Lib.hid hz1
 have X2 := Lib.hid (X1.out.trans x2)
 obtain ⟨b0, b1, b2, b3⟩ := hb1
 obtain ⟨e0, e1, e2, e3⟩ := hb2
 obtain ⟨⟨z0, z1, z2, z3⟩, zf⟩ := hz1
 clear x2 HZB HB1 HB2 HZ1 X1
 by_cases hb0 : b.isZ = true
 · rw [hb0]
   have HF : Hid (RetPl (fun i => w.heap.size ≤ i) (p.mul q) w (.returned (plV Pl.zero (.slice none 0 0) (.slice none 0 0))) ((((w2.setCell ⟨w.heap.size + 1 + 1, 0, none⟩ (.int .i64 Pl.zero.lv)).setCell ⟨w.heap.size + 1 + 1, 1, none⟩ (.bool Pl.zero.neg)).setCell ⟨w.heap.size + 1 + 1, 2, none⟩ (.slice none 0 0)).setCell ⟨w.heap.size + 1 + 1, 3, none⟩ (.slice none 0 0))) := by
    have e : p.mul q = Pl.zero := by rw [HM.out, (Pl.zero_isZ HH.out.cb).1 hb0, Pl.mul_zero_r]
    rw [e]
    exact close_pl (p := Pl.zero) (q := fun _ => False) X2.out (by omega) HZ2.out (Pl.zero_v _ _ none 0 (by omega)) (fun b _ h => h.elim)
   simp only [Pl.zero, Pl.lv, Pl.neg] at HF
   clear hb0
   go_wp2_with fail
   exact bodyPost_ret (v := plV Pl.zero (.slice none 0 0) (.slice none 0 0)) (by simp [results, Tryz.results169, go_sem, z0, z1, z2, z3, plV, Pl.zero, Pl.lv, Pl.neg]) rfl HF.out
 have hb0' : b.isZ = false := by simpa using hb0
 rw [hb0']
 have HB0 := Lib.hid hb0
 clear hb0 hb0'
 have halv := HH.out.ca.lv_nonneg
 have hblv := HH.out.cb.lv_nonneg
 have hord := HH.out.ord
 have hne := HH.out.ne
 by_cases hl : a.lv = 0
 · have hbl : b.lv = 0 := by omega
   have HAL := Lib.hid (pl_flat HH.out.ca hl)
   have HBL := Lib.hid (pl_flat HH.out.cb hbl)
   have hpa := HH.out.pa.ext (HX0.out.trans X2.out)
   have hpb := HH.out.pb.ext (HX0.out.trans X2.out)
   have hia : IntR w2 (.agg #[.bool a.neg, .slice sa1 sa2 sa3]) a.z a.ds.length := by
    obtain ⟨A1, n1, c1, A2, c2, e, hn, -⟩ := hpa.open_
    unfold plV at e
    simp only [Value.agg.injEq, Array.mk.injEq, List.cons.injEq, and_true, true_and] at e
    rw [e.1]
    exact ⟨_, _, _, rfl, hn, rfl, Nat.le_refl _⟩
   have hib : IntR w2 (.agg #[.bool b.neg, .slice sb1 sb2 sb3]) b.z b.ds.length := by
    obtain ⟨A1, n1, c1, A2, c2, e, hn, -⟩ := hpb.open_
    unfold plV at e
    simp only [Value.agg.injEq, Array.mk.injEq, List.cons.injEq, and_true, true_and] at e
    rw [e.1]
    exact ⟨_, _, _, rfl, hn, rfl, Nat.le_refl _⟩
   have HMU := Lib.hid (mul_int _ _ a.z b.z _ _ w2 hia hib HH.out.dig)
   have q1 : (a.lv == 0) = true := by simpa using hl
   have hlz : a.lv = 0 := hl
   have HLA := Lib.hid hl
   clear hpa hpb hia hib hbl hl halv hblv hord hne hlz
   go_wp2_with fail
   clear b0 b1 b2 b3 e0 e1 e2 e3 z0 z1 z2 z3 zf
   refine HMU.out.mono ?_
   rintro e w3 ⟨x, rfl, ⟨v1, rfl, hv1⟩, x3⟩
   obtain ⟨A1, d1, rfl, -⟩ := id hv1
   have hz3 := HZ2.out.ext x3 (by omega)
   have HF : Hid (RetPl (fun i => w.heap.size ≤ i) (p.mul q) w (.returned (plV (Pl.const (a.z * b.z)) (.slice A1 (dg (a.z * b.z).natAbs).length d1) (.slice none 0 0))) ((((w3.setCell ⟨w.heap.size + 1 + 1, 0, none⟩ (.int .i64 0)).setCell ⟨w.heap.size + 1 + 1, 1, none⟩ (.bool (decide (a.z * b.z < 0)))).setCell ⟨w.heap.size + 1 + 1, 2, none⟩ (.slice A1 (dg (a.z * b.z).natAbs).length d1)).setCell ⟨w.heap.size + 1 + 1, 3, none⟩ (.slice none 0 0))) := by
    have e : p.mul q = Pl.const (a.z * b.z) := by rw [HM.out, ← Pl.const_mul, ← HAL.out, ← HBL.out]
    rw [e]
    exact close_pl (p := Pl.const (a.z * b.z)) (q := fun _ => False) (X2.out.trans x3) (by omega) hz3 (PlV.mk (t := Pl.const (a.z * b.z)) hv1 (Nat.le_refl _) (by simp [Pl.cs, Pl.const]) (by unfold Pl.const Pl.cs PlsAt; trivial)) (fun b _ h => h.elim)
   obtain ⟨⟨z0, z1, z2, z3⟩, zf⟩ := hz3
   clear x3 HMU hv1
   generalize a.z * b.z = z at *
   go_wp2_with fail
   exact bodyPost_ret (v := plV (Pl.const z) (.slice A1 (dg z.natAbs).length d1) (.slice none 0 0)) (by simp [results, Tryz.results169, go_sem, z0, z1, z2, z3, plV, Pl.const, Pl.lv, Pl.neg]) rfl HF.out
 · have hlt : b.lv < a.lv := by
    have : a.lv ≠ b.lv := fun e => hl (hne e)
    omega
   have HUP := Lib.hid (Pl.mul_up_ HH.out.ca HH.out.cb hlt (fun e => HB0.out ((Pl.zero_isZ HH.out.cb).2 e)))
   have q1 : (a.lv == 0) = false := by simpa using hl
   have hlen := HH.out.len
   obtain ⟨A1, n1, c1, A2, c2, e, -, hl1, hl2, hat⟩ := HH.out.pa.open_
   unfold plV at e
   simp only [Value.agg.injEq, Array.mk.injEq, List.cons.injEq, and_true, true_and, Value.slice.injEq] at e
   obtain ⟨-, rfl, rfl⟩ := e
   have HAT := Lib.hid hat
   obtain ⟨V, hmk, hVx, hVs, hrow⟩ := run_makePls (a.cs.length : Int) (by omega) (by omega) w2
   rw [Int.toNat_natCast] at hmk hrow
   have HROW := Lib.hid (hrow (fun i => w2.heap.size ≤ i))
   have HVX := Lib.hid hVx
   obtain ⟨f0, f1, f2, f3⟩ := HB3.out.ext hVx (by omega)
   clear hat hrow hVx hl halv hblv hord hne HA0
   go_wp2_with fail
   clear hmk b0 b1 b2 b3 e0 e1 e2 e3 f0 f1 f2 f3 z0 z1 z2 z3 zf
   go_loopw [55] (fun iv wr => ∃ k : Nat, k ≤ a.cs.length ∧ iv = .int .i64 k ∧ Hid ((∃ L : List Pl, L.length = a.cs.length ∧ L.take k = (a.cs.map fun c => c.mul b).take k ∧ PRow wr (fun i => w2.heap.size ≤ i) w2.heap.size L) ∧ Ext w2 wr)) (fun iv _ => a.cs.length - (intOf iv).toNat)
   case atStart => exact ⟨0, Nat.zero_le _, rfl, ⟨⟨_, List.length_replicate, by simp, HROW.out⟩, HVX.out⟩⟩
   case round =>
    obtain ⟨k, hk, rfl, ⟨⟨L, hLl, hLt, hrow⟩, hx⟩⟩ := hrel
    have HX := Lib.hid hx
    have HROWk := Lib.hid hrow
    have HLT := Lib.hid hLt
    have hws := hx.size
    obtain ⟨b0, b1, b2, b3⟩ := HB3.out.ext hx (by omega)
    have hRlt : w2.heap.size < wr.heap.size := hrow.1
    clear hx hrow hLt HVX HROW
    by_cases hlt : k < a.cs.length
    · obtain ⟨ad, C0, j0, g0, C1, j1, g1, rfl, hadb, hnd, hkt⟩ := PlsAt.kid HAT.out k hlt
      have hxx : Ext w0 wr := (HX0.out.trans X2.out).trans HX.out
      obtain ⟨a0, a1, a2, a3⟩ := hnd.ext hxx (by rw [block_of_add]; exact hadb)
      have HC2 := Lib.hid (fun W' (hxW : Ext wr W') => HH.out.ih k hlt _ hkt W' (hxx.trans hxW))
      have HSET : Hid ((L.set k (a.cs[k].mul b)).take (k + 1) = (a.cs.map fun c => c.mul b).take (k + 1)) := by
       have h1 := take_set_next L (a.cs.map fun c => c.mul b) k HLT.out (by omega) (by rw [List.length_map]; exact hlt)
       rw [List.getElem_map] at h1
       exact h1
      unfold plV at HC2
      obtain ⟨U, hU⟩ : ∃ U, wr.alloc (.cells #[.int .i64 a.cs[k].lv, .bool a.cs[k].neg, .slice C0 j0 g0, .slice C1 j1 g1] 42) = U := ⟨_, rfl⟩
      have hUx : Ext wr U := by rw [← hU]; exact (Ext.refl _).alloc _
      have hUs : U.heap.size = wr.heap.size + 1 := by rw [← hU]; simp
      obtain ⟨y0, y1, y2, y3⟩ : Box4 U wr.heap.size a.cs[k] (.slice C0 j0 g0) (.slice C1 j1 g1) := by rw [← hU]; exact Box4.new wr a.cs[k] _ _ _
      obtain ⟨e0, e1, e2, e3⟩ := HB4.out.ext (HX.out.trans hUx) (by omega)
      have HUX := Lib.hid hUx
      generalize hres : a.cs[k].mul b = res at *
      generalize a.cs[k] = ck at *
      clear hnd hkt hadb hxx HLT hres hUx
      go_wp2_with fail
      clear hU y0 y1 y2 y3
      refine (HC2.out _ HUX.out).mono ?_
      rintro e w3 ⟨v3, rfl, p3, x3⟩
      have x3' : Ext wr w3 := HUX.out.trans x3
      obtain ⟨C0, j0, f0, C1, f1, rfl, -⟩ := id p3.open_
      have hr3 := HROWk.out.ext x3'
      obtain ⟨D0, n2, g0, D1, n3, g1, ⟨r0, r1, r2, r3⟩, -⟩ := hr3.2.2 k (by omega)
      have hfr := hr3.2.1
      have hst := (hr3.set_ k (by omega) res (p3.mono fun i hi => by
       have hi' : wr.heap.size + 1 ≤ i := by rw [← hUs]; exact hi
       exact ⟨by omega, by omega⟩)).1
      simp only at r0 r1 r2 r3
      have HST := Lib.hid hst
      have X3 := Lib.hid (HX.out.trans x3')
      unfold plV
      clear hr3 hst p3 x3 x3' HC2 HROWk a0 a1 a2 a3 b0 b1 b2 b3 e0 e1 e2 e3 HUX hUs
      go_wp2_with fail
      go_roundw
      case rel => exact ⟨k + 1, by omega, by go_num, ⟨_, by rw [List.length_set]; exact hLl, HSET.out, HST.out⟩, (((X3.out.setCell (Nat.le_refl _) _).setCell (Nat.le_refl _) _).setCell (Nat.le_refl _) _).setCell (Nat.le_refl _) _⟩
      case measure => simp [intOf]; omega
    · have hke : k = a.cs.length := by omega
      have hLe : L = a.cs.map fun c => c.mul b := by
       have h := HLT.out
       rw [hke, show a.cs.length = (a.cs.map fun c => c.mul b).length by rw [List.length_map], List.take_length, List.length_map, ← hLl, List.take_length] at h
       exact h
      have hz3 := HZ2.out.ext HX.out (by omega)
      have hfin := HROWk.out.fin (Nat.le_refl _)
      rw [hLe] at hfin
      have HF : Hid (RetPl (fun i => w.heap.size ≤ i) (p.mul q) w (.returned (plV (.mk a.lv false [] (a.cs.map fun c => c.mul b)) (.slice none 0 0) (.slice (some ⟨w2.heap.size, 0, none⟩) a.cs.length a.cs.length))) ((((wr.setCell ⟨w.heap.size + 1 + 1, 0, none⟩ (.int .i64 a.lv)).setCell ⟨w.heap.size + 1 + 1, 1, none⟩ (.bool false)).setCell ⟨w.heap.size + 1 + 1, 2, none⟩ (.slice none 0 0)).setCell ⟨w.heap.size + 1 + 1, 3, none⟩ (.slice (some ⟨w2.heap.size, 0, none⟩) a.cs.length a.cs.length))) := by
       rw [HM.out, HUP.out]
       have h1 := PlV.mk (t := .mk a.lv false [] (a.cs.map fun c => c.mul b)) (c := a.cs.length) (NatV.nil wr) (by simp [Pl.cs]) (by omega) hfin
       rw [show (Pl.mk a.lv false [] (a.cs.map fun c => c.mul b)).cs.length = a.cs.length by simp [Pl.cs]] at h1
       exact close_pl (p := .mk a.lv false [] (a.cs.map fun c => c.mul b)) (q' := fun i => w.heap.size ≤ i) (X2.out.trans HX.out) (by omega) hz3 h1 (fun b _ hb => ⟨by omega, by omega⟩)
      obtain ⟨⟨z0, z1, z2, z3⟩, zf⟩ := hz3
      clear hfin HROWk HLT hLe
      go_wp2_with fail
      exact bodyPost_ret (v := plV (.mk a.lv false [] (a.cs.map fun c => c.mul b)) (.slice none 0 0) (.slice (some ⟨w2.heap.size, 0, none⟩) a.cs.length a.cs.length)) (by simp [results, Tryz.results169, go_sem, z0, z1, z2, z3, plV, Pl.lv, Pl.neg]) rfl HF.out
end Go.Proofs.YtkbpnppiadaibaaGreatDoor
