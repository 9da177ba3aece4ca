/- Layer 40: evaluate.replaced: a tree of one's own with numbers for names, in place. -/
import Derived.Test.YtofbfplpbffpfaaGreatPlain
import Derived.Test.YtofbfplpbffpfaaGreatFirst
import Derived.Test.YtofbfplpbffpfaaGreatMf46
import Derived.Laws.IdiomCopy
import Derived.Test.YtofbfplpbffpfaaGreatMf49
import Derived.Test.YtofbfplpbffpfaaGreatMf48
import Derived.Deep.CutBlock

namespace Go.Proofs.YtofbfplpbffpfaaGreat
open Go.RowKit

mutual
/-- A tree with numbers for names. -/
def Tr.sub (g : ByteArray → Option Int) : Tr → Tr
  | .mk d ks => match (if d.kind = 2 then g d.name else none) with
    | some z => .mk { nd0 with kind := 1, neg := decide (z < 0), ds := dg z.natAbs } []
    | none => .mk d (subL g ks)
def subL (g : ByteArray → Option Int) : List Tr → List Tr
  | [] => []
  | t :: r => t.sub g :: subL g r
end
theorem subL_map (g : ByteArray → Option Int) (l : List Tr) : subL g l = l.map (Tr.sub g) := by
  induction l with
  | nil => rfl
  | cons t r ih => rw [subL, ih]; rfl
theorem Tr.sub_none {g : ByteArray → Option Int} {t : Tr} (h : (if t.d.kind = 2 then g t.d.name else none) = none) : t.sub g = .mk t.d (t.ks.map (Tr.sub g)) := by
  cases t with
  | mk d ks =>
    change (if d.kind = 2 then g d.name else none) = none at h
    rw [Tr.sub, h, subL_map]; rfl
theorem Tr.sub_some {g : ByteArray → Option Int} {t : Tr} {z : Int} (h : (if t.d.kind = 2 then g t.d.name else none) = some z) : t.sub g = .mk { nd0 with kind := 1, neg := decide (z < 0), ds := dg z.natAbs } [] := by
  cases t with
  | mk d ks =>
    change (if d.kind = 2 then g d.name else none) = some z at h
    rw [Tr.sub, h]

/-- Block b is a map of names to integers. -/
def NMap (w : World) (b : Nat) (g : ByteArray → Option Int) : Prop :=
  ∃ l, SMap w b l ∧ ∀ s, (g s = none ∧ mget l s = none) ∨ ∃ z A n c, g s = some z ∧ mget l s = some (.agg #[.bool (decide (z < 0)), .slice A n c]) ∧ NatV w (.slice A n c) (dg z.natAbs)
theorem NMap.turn {w w' : World} {b : Nat} {g : ByteArray → Option Int} (h : NMap w b g) (hb : w'.heap[b]? = w.heap[b]?) (hn : ∀ v ds, NatV w v ds → NatV w' v ds) : NMap w' b g := by
  obtain ⟨l, ⟨es, k, e1, e2⟩, h2⟩ := h
  refine ⟨l, ⟨es, k, hb.trans e1, e2⟩, fun s => ?_⟩
  rcases h2 s with h | ⟨z, A, n, c, e1, e2, e3⟩
  · exact .inl h
  · exact .inr ⟨z, A, n, c, e1, e2, hn _ _ e3⟩
theorem NMap.lt {w : World} {b : Nat} {g : ByteArray → Option Int} (h : NMap w b g) : b < w.heap.size := by
  obtain ⟨l, h1, -⟩ := h; exact h1.lt
theorem NMap.ext {w w' : World} {b : Nat} {g : ByteArray → Option Int} (h : NMap w b g) (hx : Ext w w') : NMap w' b g := h.turn (hx.below.block b h.lt) (fun _ _ h => h.ext hx)
theorem info_intg : (Tryz.prog.info? 25).map (·.zero) = some (some (.agg #[.bool false, .slice none 0 0])) := by kernel_rfl
theorem NMap.look {w : World} {b : Nat} {g : ByteArray → Option Int} (h : NMap w b g) (s : ByteArray) : ∃ bb A n c, (Instr.lookup 104 (.map (some b)) (.string s) true).run Tryz.prog w = .ok (.tuple #[.agg #[.bool bb, .slice A n c], .bool (g s).isSome]) w ∧ ∀ z, g s = some z → bb = decide (z < 0) ∧ NatV w (.slice A n c) (dg z.natAbs) := by
  obtain ⟨l, h1, h2⟩ := h
  have hk := h1.look (P := Tryz.prog) Tryz.underlying104 Tryz.underlying9 info_intg s true
  rcases h2 s with ⟨e1, e2⟩ | ⟨z, A, n, c, e1, e2, e3⟩
  · refine ⟨false, none, 0, 0, ?_, fun q hq => by rw [e1] at hq; cases hq⟩
    rw [hk, e1, e2]; rfl
  · refine ⟨_, A, n, c, ?_, fun q' hq => by rw [e1] at hq; injection hq with hq; rw [← hq]; exact ⟨rfl, e3⟩⟩
    rw [hk, e1, e2]; rfl

/-- Only blocks from lo to hi and new ones have turned, and all digits stay. -/
def Mut (lo hi : Nat) (w w' : World) : Prop := Below lo w w' ∧ (∀ i, hi ≤ i → i < w.heap.size → w'.heap[i]? = w.heap[i]?) ∧ ∀ v ds, NatV w v ds → NatV w' v ds
theorem Mut.refl (lo hi : Nat) (w : World) : Mut lo hi w w := ⟨Below.refl _ _, fun _ _ _ => rfl, fun _ _ h => h⟩
theorem Mut.size {lo hi : Nat} {w w' : World} (h : Mut lo hi w w') : w.heap.size ≤ w'.heap.size := h.1.size
theorem Mut.trans {lo hi : Nat} {a b c : World} (h : Mut lo hi a b) (k : Mut lo hi b c) : Mut lo hi a c := ⟨h.1.trans k.1, fun i h1 h2 => (k.2.1 i h1 (Nat.lt_of_lt_of_le h2 h.size)).trans (h.2.1 i h1 h2), fun v ds hv => k.2.2 v ds (h.2.2 v ds hv)⟩
theorem Mut.mono {lo hi lo' hi' : Nat} {a b : World} (h : Mut lo hi a b) (hl : lo' ≤ lo) (hh : hi ≤ hi') : Mut lo' hi' a b := ⟨h.1.mono hl, fun i h1 h2 => h.2.1 i (by omega) h2, h.2.2⟩
theorem Mut.of_ext {lo hi : Nat} {w w' : World} (hx : Ext w w') (hl : lo ≤ w.heap.size) : Mut lo hi w w' := ⟨hx.below.mono hl, fun i _ h2 => hx.below.block i h2, fun _ _ h => h.ext hx⟩
theorem Mut.out {lo hi : Nat} {w w' : World} (h : Mut lo hi w w') {i : Nat} (hi' : i < w.heap.size) (ho : i < lo ∨ hi ≤ i) : w'.heap[i]? = w.heap[i]? := by
  rcases ho with ho | ho
  · exact h.1.block i ho
  · exact h.2.1 i ho hi'
theorem natV_setCells (b : Nat) : ∀ (vs : List Value) (o : Nat) (w : World), (∀ j, j < vs.length → ∃ u, w.cell? ⟨b, o + j, none⟩ = some u ∧ isDig u = false) → ∀ x ds, NatV w x ds → NatV (w.setCells b o vs) x ds
  | [], o, w, _, x, ds, h => h
  | v :: vs, o, w, hu, x, ds, h => by
    obtain ⟨u, h1, h2⟩ := hu 0 (by simp)
    refine natV_setCells b vs (o + 1) (w.setCell ⟨b, o, none⟩ v) (fun j hj => ?_) x ds (h.box h1 h2 v)
    obtain ⟨u', h3, h4⟩ := hu (j + 1) (by simpa using hj)
    refine ⟨u', ?_, h4⟩
    rw [World.cell?_setCell_other _ _ _ _ (by intro e; injection e; omega), ← h3]
    congr 2; omega
theorem below_setCells {B b : Nat} (hb : B ≤ b) : ∀ (vs : List Value) (o : Nat) (w : World), Below B w (w.setCells b o vs)
  | [], o, w => Below.refl _ _
  | v :: vs, o, w => (Below.setCell (Below.refl B w) hb v).trans (below_setCells hb vs (o + 1) (w.setCell ⟨b, o, none⟩ v))
theorem block_setCells {b i : Nat} (hne : i ≠ b) : ∀ (vs : List Value) (o : Nat) (w : World), (w.setCells b o vs).heap[i]? = w.heap[i]?
  | [], o, w => rfl
  | v :: vs, o, w => (block_setCells hne vs (o + 1) (w.setCell ⟨b, o, none⟩ v)).trans (Below.heap_setCell w _ v i hne)
theorem frozen_setCells {b : Nat} : ∀ (vs : List Value) (o : Nat) (w : World) (a : Addr), (w.setCells b o vs).frozen? a = w.frozen? a
  | [], o, w, a => rfl
  | v :: vs, o, w, a => (frozen_setCells vs (o + 1) (w.setCell ⟨b, o, none⟩ v) a).trans (by simp [go_sem])
/-- Nine cells turn into those of another tree. -/
theorem nd_setCells {w : World} {b o : Nat} {d d' : Nd} {s K s' K' : Value} (h : NdAt w ⟨b, o, none⟩ d s K) (hs : isDig s = false) (hK : isDig K = false) :
    NdAt (w.setCells b o [.int .i64 d'.kind, .bool d'.neg, s', .string d'.name, .int .i64 d'.exp, .int .i64 d'.rel, .bool d'.truth, .bool d'.all, K']) ⟨b, o, none⟩ d' s' K' ∧
    (∀ j, j < 9 → ∃ u, w.cell? ⟨b, o + j, none⟩ = some u ∧ isDig u = false) := by
  obtain ⟨h0, h1, h2, h3, h4, h5, h6, h7, h8⟩ := h
  have hall : ∀ j, j < 9 → ∃ u, w.cell? ⟨b, o + j, none⟩ = some u ∧ isDig u = false := by
    intro j hj
    rcases (show j = 0 ∨ j = 1 ∨ j = 2 ∨ j = 3 ∨ j = 4 ∨ j = 5 ∨ j = 6 ∨ j = 7 ∨ j = 8 by omega) with rfl | rfl | rfl | rfl | rfl | rfl | rfl | rfl | rfl
    · exact ⟨_, h0, rfl⟩
    · exact ⟨_, h1, rfl⟩
    · exact ⟨_, h2, hs⟩
    · exact ⟨_, h3, rfl⟩
    · exact ⟨_, h4, rfl⟩
    · exact ⟨_, h5, rfl⟩
    · exact ⟨_, h6, rfl⟩
    · exact ⟨_, h7, rfl⟩
    · exact ⟨_, h8, hK⟩
  have key := World.cell?_setCells_in b [.int .i64 d'.kind, .bool d'.neg, s', .string d'.name, .int .i64 d'.exp, .int .i64 d'.rel, .bool d'.truth, .bool d'.all, K'] o w (fun j hj => by
    obtain ⟨u, hu, -⟩ := hall j (by simpa using hj)
    rw [hu]; rfl)
  exact ⟨⟨key 0 (by simp), key 1 (by simp), key 2 (by simp), key 3 (by simp), key 4 (by simp), key 5 (by simp), key 6 (by simp), key 7 (by simp), key 8 (by simp)⟩, hall⟩
/-- One tree out of a row, its cells spelt out. -/
theorem TrsO.kid {w : World} {l : List Tr} {b lo hi : Nat} (h : TrsO w lo hi l b 0) (hle : lo ≤ hi) (k : Nat) (hk : k < l.length) : ∃ m1 m2 A0 n0 c0 A1 n1 c1, lo ≤ m1 ∧ m1 ≤ m2 ∧ m2 ≤ hi ∧ NdAt w ⟨b, k * 9, none⟩ l[k].d (.slice A0 n0 c0) (.slice A1 n1 c1) ∧ TrO w m1 m2 l[k] (ndV l[k].d (.slice A0 n0 c0) (.slice A1 n1 c1)) ∧
    ∀ (w' : World) (t' : Tr) (s' K' : Value), w.heap.size ≤ w'.heap.size → (∀ v ds, NatV w v ds → NatV w' v ds) → (∀ i, lo ≤ i → i < hi → ¬ (m1 ≤ i ∧ i < m2) → i < w.heap.size → w'.heap[i]? = w.heap[i]?) → (∀ o, ¬ (k * 9 ≤ o ∧ o < k * 9 + 9) → w'.cell? ⟨b, o, none⟩ = w.cell? ⟨b, o, none⟩) →
      NdAt w' ⟨b, k * 9, none⟩ t'.d s' K' → TrO w' m1 m2 t' (ndV t'.d s' K') → TrsO w' lo hi (l.set k t') b 0 := by
  obtain ⟨m1, m2, s, K, h1, h2, h3, h4, h5, h6⟩ := TrsO.focus l b 0 lo hi h hle k hk
  rw [Nat.zero_add] at h4 h6
  obtain ⟨A0, n0, c0, A1, c1, e2, -, -⟩ := h5.open_
  unfold ndV at e2
  simp only [Value.agg.injEq, Array.mk.injEq, List.cons.injEq, and_true, true_and] at e2
  obtain ⟨rfl, rfl⟩ := e2
  exact ⟨m1, m2, A0, n0, c0, A1, _, c1, h1, h2, h3, h4, h5, h6⟩
/-- Nine cells are stored. -/
def setA (W : World) (a : Addr) (u0 u1 u2 u3 u4 u5 u6 u7 u8 : Value) : World :=
  ((((((((W.setCell a u0).setCell ⟨a.block, a.off + 1, none⟩ u1).setCell ⟨a.block, a.off + 2, none⟩ u2).setCell ⟨a.block, a.off + 3, none⟩ u3).setCell ⟨a.block, a.off + 4, none⟩ u4).setCell ⟨a.block, a.off + 5, none⟩ u5).setCell ⟨a.block, a.off + 6, none⟩ u6).setCell ⟨a.block, a.off + 7, none⟩ u7).setCell ⟨a.block, a.off + 8, none⟩ u8
theorem setA_cells (W : World) (b o : Nat) (u0 u1 u2 u3 u4 u5 u6 u7 u8 : Value) : setA W ⟨b, o, none⟩ u0 u1 u2 u3 u4 u5 u6 u7 u8 = W.setCells b o [u0, u1, u2, u3, u4, u5, u6, u7, u8] := rfl

/-- What is kept while the kids are replaced. -/
def KidsR (g : ByteArray → Option Int) (lo hi : Nat) (ks : List Tr) (A : Option Addr) (k : Nat) (V wr : World) : Prop :=
  (ks = [] ∨ ∃ b, A = some ⟨b, 0, none⟩ ∧ lo ≤ b ∧ b < hi ∧ b < wr.heap.size ∧ (∀ o, wr.frozen? ⟨b, o, none⟩ = false) ∧ TrsO wr lo b ((ks.take k).map (Tr.sub g) ++ ks.drop k) b 0) ∧ Mut lo hi V wr
theorem list_mid {α : Type} (f : α → α) (l : List α) (k : Nat) (hk : k < l.length) : ((l.take k).map f ++ l.drop k)[k]? = some l[k] ∧ ((l.take k).map f ++ l.drop k).set k (f l[k]) = (l.take (k + 1)).map f ++ l.drop (k + 1) := by
  have h1 : ((l.take k).map f).length = k := by rw [List.length_map, List.length_take]; omega
  constructor
  · rw [List.getElem?_append_right (by omega), h1, Nat.sub_self, List.getElem?_drop]; simp [hk]
  · rw [List.set_append_right _ _ (by omega), h1, Nat.sub_self, List.take_succ_eq_append_getElem hk, List.map_append, List.append_assoc]
    congr 1
    rw [List.drop_eq_getElem_cons hk]; rfl
/-- The step at one kid: what the call asks, and what the store leaves. -/
theorem KidsR.step {g : ByteArray → Option Int} {lo hi : Nat} {ks : List Tr} {A : Option Addr} {k : Nat} {V wr : World} (h : KidsR g lo hi ks A k V wr) (hk : k < ks.length) (hle : lo ≤ hi) : ∃ ad bb oo m1 m2 A0 n0 c0 A1 n1 c1, A = some ad ∧ ad.add (k * 9) = ⟨bb, oo, none⟩ ∧ lo ≤ bb ∧ bb < hi ∧ bb < wr.heap.size ∧ lo ≤ m1 ∧ m1 ≤ m2 ∧ m2 ≤ bb ∧ NdAt wr ⟨bb, oo, none⟩ ks[k].d (.slice A0 n0 c0) (.slice A1 n1 c1) ∧ TrO wr m1 m2 ks[k] (ndV ks[k].d (.slice A0 n0 c0) (.slice A1 n1 c1)) ∧
    ∀ (w1 w2 : World) (s' K' : Value) (W2 : World), Ext wr w1 → hi ≤ wr.heap.size → Mut m1 m2 w1 w2 → isDig s' = false → isDig K' = false → TrO w2 m1 m2 (ks[k].sub g) (ndV (ks[k].sub g).d s' K') → W2 = setA w2 ⟨bb, oo, none⟩ (.int .i64 (ks[k].sub g).d.kind) (.bool (ks[k].sub g).d.neg) s' (.string (ks[k].sub g).d.name) (.int .i64 (ks[k].sub g).d.exp) (.int .i64 (ks[k].sub g).d.rel) (.bool (ks[k].sub g).d.truth) (.bool (ks[k].sub g).d.all) K' →
      NdAt w2 ⟨bb, oo, none⟩ ks[k].d (.slice A0 n0 c0) (.slice A1 n1 c1) ∧ (∀ o, w2.frozen? ⟨bb, o, none⟩ = false) ∧ KidsR g lo hi ks A (k + 1) V W2 := by
  obtain ⟨h1 | ⟨b, rfl, hb1, hb2, hb3, hfz, hT⟩, hM⟩ := h
  · rw [h1] at hk; simp at hk
  · obtain ⟨e1, e2⟩ := list_mid (Tr.sub g) ks k hk
    have hkl : k < ((ks.take k).map (Tr.sub g) ++ ks.drop k).length := by simp; omega
    obtain ⟨m1, m2, A0, n0, c0, A1, n1, c1, g1, g2, g3, g4, g5, g6⟩ := hT.kid hb1 k hkl
    have e3 : ((ks.take k).map (Tr.sub g) ++ ks.drop k)[k] = ks[k] := by
      rw [List.getElem?_eq_getElem hkl] at e1; injection e1
    rw [e3] at g4 g5
    refine ⟨⟨b, 0, none⟩, b, k * 9, m1, m2, A0, n0, c0, A1, n1, c1, rfl, by rw [add_mk, Nat.zero_add], hb1, hb2, hb3, g1, g2, g3, g4, g5, ?_⟩
    intro w1 w2 s' K' W2 hx hhi hm hs hK ht hW2
    rw [setA_cells] at hW2
    have hw1 := hx.size
    have hbk : w2.heap[b]? = wr.heap[b]? := (hm.out (i := b) (by omega) (.inr g3)).trans (hx.below.block b hb3)
    have hnd : NdAt w2 ⟨b, k * 9, none⟩ ks[k].d (.slice A0 n0 c0) (.slice A1 n1 c1) := g4.same (World.cell?_of_block hbk) (fun n _ => World.cell?_of_block hbk)
    obtain ⟨q1, q2⟩ := nd_setCells (d' := (ks[k].sub g).d) (s' := s') (K' := K') hnd rfl rfl
    rw [← hW2] at q1
    have hw2 := hm.size
    have hsz : W2.heap.size = w2.heap.size := by rw [hW2]; simp [World.setCells]
    have hblk : ∀ i, i ≠ b → W2.heap[i]? = w2.heap[i]? := fun i hne => by rw [hW2]; exact block_setCells hne _ _ _
    have hnat : ∀ v ds, NatV w2 v ds → NatV W2 v ds := fun v ds hv => by
      rw [hW2]; exact natV_setCells b _ _ _ (fun j hj => q2 j (by simpa using hj)) v ds hv
    have hfz2 : ∀ o, w2.frozen? ⟨b, o, none⟩ = false := fun o => (frozen_of_block (a := ⟨b, o, none⟩) hbk).trans (hfz o)
    refine ⟨hnd, hfz2, .inr ⟨b, rfl, hb1, hb2, by omega, fun o => by rw [hW2, frozen_setCells]; exact hfz2 o, ?_⟩, ?_⟩
    · rw [← e2]
      refine g6 W2 (ks[k].sub g) s' K' (by omega) (fun v ds hv => hnat v ds (hm.2.2 v ds (hv.ext hx))) (fun i a1 a2 a3 a4 => ?_) (fun o ho => ?_) q1 (TrO.turn (by omega) hnat _ _ m1 m2 m1 m2 (Nat.le_refl _) (Nat.le_refl _) (fun i a1 a2 _ => hblk i (by omega)) ht)
      · rw [hblk i (by omega), hm.out (by omega) (by omega), hx.below.block i a4]
      · rw [hW2, World.cell?_setCells_out _ _ _ _ _ (fun _ _ => by simp only [List.length_cons, List.length_nil]; omega)]
        exact World.cell?_of_block hbk
    · refine hM.trans ((Mut.of_ext hx (by omega)).trans ((hm.mono g1 (by omega)).trans ⟨by rw [hW2]; exact below_setCells hb1 _ _ _, fun i a1 a2 => hblk i (by omega), hnat⟩))
end Go.Proofs.YtofbfplpbffpfaaGreat

/- Layer 40: evaluate.replaced. -/
namespace Go.Proofs.YtofbfplpbffpfaaGreat
open Go.RowKit

/-- The call returns the tree, changed in its own blocks. -/
def RetSub (lo hi : Nat) (t' : Tr) (w : World) (e : Ending) (w' : World) : Prop := ∃ v', e = .returned v' ∧ TrO w' lo hi t' v' ∧ Mut lo hi w w'
def SubIH (g : ByteArray → Option Int) (n : Nat) : Prop := ∀ (t : Tr) (v : Value) (w : World) (lo hi b : Nat), t.sz < n → TrO w lo hi t v → NMap w b g → b < lo → hi ≤ w.heap.size → lo ≤ hi → Calls Tryz.prog 47 #[v, .map (some b)] w (RetSub lo hi (t.sub g) w)

theorem Box9.turn {w w' : World} {B : Nat} {d : Nd} {s K : Value} (h : Box9 w B d s K) (hb : w'.heap[B]? = w.heap[B]?) : Box9 w' B d s K := by
  obtain ⟨h0, h1, h2, h3, h4, h5, h6, h7, h8⟩ := h
  have k : ∀ i, w'.cell? ⟨B, i, none⟩ = w.cell? ⟨B, i, none⟩ := fun i => World.cell?_of_block (a := ⟨B, i, none⟩) hb
  exact ⟨(k _).trans h0, (k _).trans h1, (k _).trans h2, (k _).trans h3, (k _).trans h4, (k _).trans h5, (k _).trans h6, (k _).trans h7, (k _).trans h8⟩
theorem Zero9.turn {w w' : World} {B : Nat} (h : Zero9 w B) (hb : w'.heap[B]? = w.heap[B]?) : Zero9 w' B := by
  obtain ⟨⟨h0, h1, h2, h3, h4, h5, h6, h7, h8⟩, hf⟩ := h
  have k : ∀ i, w'.cell? ⟨B, i, none⟩ = w.cell? ⟨B, i, none⟩ := fun i => World.cell?_of_block (a := ⟨B, i, none⟩) hb
  exact ⟨⟨(k _).trans h0, (k _).trans h1, (k _).trans h2, (k _).trans h3, (k _).trans h4, (k _).trans h5, (k _).trans h6, (k _).trans h7, (k _).trans h8⟩, fun i => (frozen_of_block (a := ⟨B, i, none⟩) hb).trans (hf i)⟩
theorem set9_cells (W : World) (g : Nat) (u0 u1 u2 u3 u4 u5 u6 u7 u8 : Value) : set9 W g u0 u1 u2 u3 u4 u5 u6 u7 u8 = W.setCells g 0 [u0, u1, u2, u3, u4, u5, u6, u7, u8] := rfl
theorem natV_set9 {wr : World} {g : Nat} {v : Value} {ds : List Nat} {u0 u1 u2 u3 u4 u5 u6 u7 u8 : Value} (hz : Zero9 wr g) (hv : NatV wr v ds) : NatV (set9 wr g u0 u1 u2 u3 u4 u5 u6 u7 u8) v ds := by
  rw [set9_cells]
  obtain ⟨⟨h0, h1, h2, h3, h4, h5, h6, h7, h8⟩, -⟩ := hz
  refine natV_setCells _ _ _ _ (fun j hj => ?_) v ds hv
  rcases (show j = 0 ∨ j = 1 ∨ j = 2 ∨ j = 3 ∨ j = 4 ∨ j = 5 ∨ j = 6 ∨ j = 7 ∨ j = 8 by simp at hj; omega) with rfl | rfl | rfl | rfl | rfl | rfl | rfl | rfl | rfl
  · exact ⟨_, h0, rfl⟩
  · exact ⟨_, h1, rfl⟩
  · exact ⟨_, h2, rfl⟩
  · exact ⟨_, h3, rfl⟩
  · exact ⟨_, h4, rfl⟩
  · exact ⟨_, h5, rfl⟩
  · exact ⟨_, h6, rfl⟩
  · exact ⟨_, h7, rfl⟩
  · exact ⟨_, h8, rfl⟩
/-- The result is stored. -/
theorem ret_sub {w wr : World} {lo hi : Nat} {t' : Tr} {u0 u1 u2 u3 u4 u5 u6 u7 u8 : Value} (hm : Mut lo hi w wr) (hz : Zero9 wr (w.heap.size + 1)) (hhi : hi ≤ w.heap.size) (hle : lo ≤ hi) (h : TrO wr lo hi t' (.agg #[u0, u1, u2, u3, u4, u5, u6, u7, u8])) :
    RetSub lo hi t' w (.returned (.agg #[u0, u1, u2, u3, u4, u5, u6, u7, u8])) (set9 wr (w.heap.size + 1) u0 u1 u2 u3 u4 u5 u6 u7 u8) := by
  refine ⟨_, rfl, TrO.set9 hz (by omega) h _ _ _ _ _ _ _ _ _, hm.1.trans ?_, fun i h1 h2 => ?_, ?_⟩
  · rw [set9_cells]; exact below_setCells (by omega) _ _ _
  · rw [set9_cells, block_setCells (by omega)]; exact hm.2.1 i h1 h2
  · exact fun v ds hv => natV_set9 hz (hm.2.2 v ds hv)

set_option maxRecDepth 100000 in
set_option maxHeartbeats 4000000 in
theorem replaced_ih (g : ByteArray → Option Int) (n : Nat) : SubIH g n := by
  induction n with
  | zero => intro t v w lo hi b h; omega
  | succ n ih =>
  intro t v w lo hi b hn h hm hb hhi hle
  have IH := Lib.hid ih
  have HM := Lib.hid hm
  have HSZ := Lib.hid (fun k hk => t.kid_sz k hk)
  obtain ⟨A0, n0, c0, A, c, rfl, hds, hl1, hl2, h4⟩ := h.open_
  have HDS := Lib.hid hds
  have H4 := Lib.hid h4
  clear h ih hm h4 hds
  unfold ndV
  obtain ⟨W, hW⟩ : ∃ W, (w.alloc (.cells #[.int .i64 t.d.kind, .bool t.d.neg, .slice A0 n0 c0, .string t.d.name, .int .i64 t.d.exp, .int .i64 t.d.rel, .bool t.d.truth, .bool t.d.all, .slice A t.ks.length c] 29)).alloc (.cells #[.int .i64 0, .bool false, .slice none 0 0, .string ⟨#[]⟩, .int .i64 0, .int .i64 0, .bool false, .bool false, .slice none 0 0] 29) = W := ⟨_, rfl⟩
  have hWx : Ext w W := by rw [← hW]; exact ((Ext.refl w).alloc _).alloc _
  have hWs : W.heap.size = w.heap.size + 1 + 1 := by rw [← hW]; simp
  have hbx : Box9 W w.heap.size t.d (.slice A0 n0 c0) (.slice A t.ks.length c) := by rw [← hW]; exact (Box9.new w t.d _ _ _).ext ((Ext.refl _).alloc _) (by simp)
  have hz : Zero9 W (w.heap.size + 1) := by
    have := zero9_new (w.alloc (.cells #[.int .i64 t.d.kind, .bool t.d.neg, .slice A0 n0 c0, .string t.d.name, .int .i64 t.d.exp, .int .i64 t.d.rel, .bool t.d.truth, .bool t.d.all, .slice A t.ks.length c] 29)) 29
    rw [hW] at this
    simpa using this
  obtain ⟨b0, b1, b2, b3, b4, b5, b6, b7, b8⟩ := id hbx
  have HBX := Lib.hid hbx
  have HZ := Lib.hid hz
  have HWX := Lib.hid hWx
  clear hbx hz hWx
  by_cases hk2 : t.d.kind = 2
  · have hke : (t.d.kind == 2) = true := by simpa using hk2
    obtain ⟨lb, LA, ln, lc, hlook, hval⟩ := (HM.out.ext HWX.out).look t.d.name
    obtain ⟨V, hV⟩ : ∃ V, W.alloc (.cells #[.bool lb, .slice LA ln lc] 25) = V := ⟨_, rfl⟩
    have hVx : Ext W V := by rw [← hV]; exact (Ext.refl W).alloc _
    have hVs : V.heap.size = W.heap.size + 1 := by rw [← hV]; simp
    have l0 : V.cell? ⟨w.heap.size + 1 + 1, 0, none⟩ = some (.bool lb) := by rw [← hWs, ← hV]; simp [go_sem]
    have l1 : V.cell? ⟨w.heap.size + 1 + 1, 1, none⟩ = some (.slice LA ln lc) := by rw [← hWs, ← hV]; simp [go_sem]
    have HVX := Lib.hid hVx
    cases hg : g t.d.name with
    | none =>
      rw [hg] at hlook
      simp only [Option.isSome_none] at hlook
      have HSUB := Lib.hid (Tr.sub_none (g := g) (t := t) (by rw [if_pos hk2]; exact hg))
      have v8 : V.cell? ⟨w.heap.size, 8, none⟩ = some (.slice A t.ks.length c) := (HBX.out.ext hVx (by omega)).2.2.2.2.2.2.2.2
      clear hVx hval hg hk2
      go_enter Tryz.func47, Tryz.ntmps47
      go_wp2_with fail
      clear hW hV v8 hlook l0 l1
      clear b0 b1 b2 b3 b4 b5 b6 b7 b8
      have H0 : Hid (KidsR g lo hi t.ks A 0 V V) := by
        refine ⟨?_, Mut.refl _ _ _⟩
        rcases H4.out with h4 | ⟨bb, e, q1, q2, q3, q4, q5⟩
        · exact .inl h4
        · have hvw := HWX.out.trans HVX.out
          have hvs := hvw.size
          exact .inr ⟨bb, e, q1, q2, by omega, fun o => (hvw.frozen (p := ⟨bb, o, none⟩) q3).trans (q4 o), by simpa using TrsO.turn hvs (fun _ _ h => h.ext hvw) _ _ _ lo bb lo bb (Nat.le_refl _) (Nat.le_refl _) (fun i _ _ a3 => hvw.below.block i a3) (hvw.below.block bb q3) q5⟩
      go_loopw [25] (fun iv wr => ∃ k : Nat, k ≤ t.ks.length ∧ iv = .int .i64 k ∧ Hid (KidsR g lo hi t.ks A k V wr)) (fun iv _ => t.ks.length - (intOf iv).toNat)
      case atStart => exact ⟨0, Nat.zero_le _, rfl, H0⟩
      case round =>
        obtain ⟨k, hk, rfl, HK⟩ := hrel
        by_cases hlt : k < t.ks.length
        · obtain ⟨ad, bb, oo, m1, m2, B0, k0, d0, B1, k1, d1, hA, hadd, p1, p2, p3, q1, q2, q3, hnd, hto, hstep⟩ := HK.out.step hlt hle
          subst hA
          obtain ⟨e0, e1, e2, e3, e4, e5, e6, e7, e8⟩ := hnd
          have hmw := HK.out.2
          have hms := hmw.size
          have hvs := HVX.out.size
          have hblk : wr.heap[w.heap.size]? = V.heap[w.heap.size]? := hmw.out (by omega) (.inr hhi)
          have a8 : wr.cell? ⟨w.heap.size, 8, none⟩ = some (.slice (some ad) t.ks.length c) := (World.cell?_of_block (a := ⟨w.heap.size, 8, none⟩) hblk).trans (HBX.out.ext HVX.out (by omega)).2.2.2.2.2.2.2.2
          obtain ⟨wr1, hwr1⟩ : ∃ W1, wr.alloc (.cells #[.int .i64 t.ks[k].d.kind, .bool t.ks[k].d.neg, .slice B0 k0 d0, .string t.ks[k].d.name, .int .i64 t.ks[k].d.exp, .int .i64 t.ks[k].d.rel, .bool t.ks[k].d.truth, .bool t.ks[k].d.all, .slice B1 k1 d1] 29) = W1 := ⟨_, rfl⟩
          have hwx : Ext wr wr1 := by rw [← hwr1]; exact (Ext.refl wr).alloc _
          have hws : wr1.heap.size = wr.heap.size + 1 := by rw [← hwr1]; simp
          have hb9 : Box9 wr1 wr.heap.size t.ks[k].d (.slice B0 k0 d0) (.slice B1 k1 d1) := by rw [← hwr1]; exact Box9.new wr _ _ _ _
          have a8' : wr1.cell? ⟨w.heap.size, 8, none⟩ = some (.slice (some ad) t.ks.length c) := (hwx.cell (p := ⟨w.heap.size, 8, none⟩) (by show w.heap.size < _; omega)).trans a8
          have HB : Hid (∀ W', Mut lo hi wr1 W' → (W'.cell? ⟨w.heap.size, 8, none⟩ = some (.slice (some ad) t.ks.length c) ∧ W'.cell? ⟨wr.heap.size, 0, none⟩ = some (.int .i64 t.ks[k].d.kind) ∧ W'.cell? ⟨wr.heap.size, 1, none⟩ = some (.bool t.ks[k].d.neg) ∧ W'.cell? ⟨wr.heap.size, 2, none⟩ = some (.slice B0 k0 d0) ∧ W'.cell? ⟨wr.heap.size, 3, none⟩ = some (.string t.ks[k].d.name) ∧ W'.cell? ⟨wr.heap.size, 4, none⟩ = some (.int .i64 t.ks[k].d.exp) ∧ W'.cell? ⟨wr.heap.size, 5, none⟩ = some (.int .i64 t.ks[k].d.rel) ∧ W'.cell? ⟨wr.heap.size, 6, none⟩ = some (.bool t.ks[k].d.truth) ∧ W'.cell? ⟨wr.heap.size, 7, none⟩ = some (.bool t.ks[k].d.all) ∧ W'.cell? ⟨wr.heap.size, 8, none⟩ = some (.slice B1 k1 d1))) := by
            intro W' hm
            obtain ⟨x0, x1, x2, x3, x4, x5, x6, x7, x8⟩ := hb9
            have hk1 : ∀ i, W'.cell? ⟨wr.heap.size, i, none⟩ = wr1.cell? ⟨wr.heap.size, i, none⟩ := fun i => World.cell?_of_block (a := ⟨wr.heap.size, i, none⟩) (hm.out (i := wr.heap.size) (by omega) (.inr (by omega)))
            have hk2 : W'.cell? ⟨w.heap.size, 8, none⟩ = wr1.cell? ⟨w.heap.size, 8, none⟩ := World.cell?_of_block (a := ⟨w.heap.size, 8, none⟩) (hm.out (i := w.heap.size) (by omega) (.inr hhi))
            exact ⟨hk2.trans a8', (hk1 _).trans x0, (hk1 _).trans x1, (hk1 _).trans x2, (hk1 _).trans x3, (hk1 _).trans x4, (hk1 _).trans x5, (hk1 _).trans x6, (hk1 _).trans x7, (hk1 _).trans x8⟩
          have HB2 : Hid (∀ W', Mut lo hi wr1 W' → ∀ u0 u1 u2 u3 u4 u5 u6 u7 u8 W2, W2 = setA W' ⟨bb, oo, none⟩ u0 u1 u2 u3 u4 u5 u6 u7 u8 → (W2.cell? ⟨w.heap.size, 8, none⟩ = some (.slice (some ad) t.ks.length c) ∧ W2.cell? ⟨wr.heap.size, 0, none⟩ = some (.int .i64 t.ks[k].d.kind) ∧ W2.cell? ⟨wr.heap.size, 1, none⟩ = some (.bool t.ks[k].d.neg) ∧ W2.cell? ⟨wr.heap.size, 2, none⟩ = some (.slice B0 k0 d0) ∧ W2.cell? ⟨wr.heap.size, 3, none⟩ = some (.string t.ks[k].d.name) ∧ W2.cell? ⟨wr.heap.size, 4, none⟩ = some (.int .i64 t.ks[k].d.exp) ∧ W2.cell? ⟨wr.heap.size, 5, none⟩ = some (.int .i64 t.ks[k].d.rel) ∧ W2.cell? ⟨wr.heap.size, 6, none⟩ = some (.bool t.ks[k].d.truth) ∧ W2.cell? ⟨wr.heap.size, 7, none⟩ = some (.bool t.ks[k].d.all) ∧ W2.cell? ⟨wr.heap.size, 8, none⟩ = some (.slice B1 k1 d1))) := by
            intro W' hm u0 u1 u2 u3 u4 u5 u6 u7 u8 W2 e
            obtain ⟨z0, z1, z2, z3, z4, z5, z6, z7, z8, z9⟩ := HB.out W' hm
            rw [setA_cells] at e
            have hfar : ∀ i j, i ≠ bb → W2.cell? ⟨i, j, none⟩ = W'.cell? ⟨i, j, none⟩ := fun i j hne => by rw [e]; exact World.cell?_of_block (a := ⟨i, j, none⟩) (block_setCells hne _ _ _)
            have n1 : w.heap.size ≠ bb := by omega
            have n2 : wr.heap.size ≠ bb := by omega
            exact ⟨(hfar _ _ n1).trans z0, (hfar _ _ n2).trans z1, (hfar _ _ n2).trans z2, (hfar _ _ n2).trans z3, (hfar _ _ n2).trans z4, (hfar _ _ n2).trans z5, (hfar _ _ n2).trans z6, (hfar _ _ n2).trans z7, (hfar _ _ n2).trans z8, (hfar _ _ n2).trans z9⟩
          have hsz := HSZ.out k hlt
          have hxd : Ext wr wr1.drew := hwx.drew
          have HC : Hid (Calls Tryz.prog 47 #[.agg #[.int .i64 t.ks[k].d.kind, .bool t.ks[k].d.neg, .slice B0 k0 d0, .string t.ks[k].d.name, .int .i64 t.ks[k].d.exp, .int .i64 t.ks[k].d.rel, .bool t.ks[k].d.truth, .bool t.ks[k].d.all, .slice B1 k1 d1], .map (some b)] wr1.drew (RetSub m1 m2 (t.ks[k].sub g) wr1.drew)) := by
            have hnm : NMap wr b g := ((HM.out.ext HWX.out).ext HVX.out).turn (hmw.1.block b hb) hmw.2.2
            exact IH.out t.ks[k] _ wr1.drew m1 m2 b (by omega) (hto.ext hxd) (hnm.ext hxd) (by omega) (by have := hxd.size; omega) q2
          have HSTEP : Hid (∀ (w2 : World) (s' K' : Value) (W2 : World), Mut m1 m2 wr1.drew w2 → isDig s' = false → isDig K' = false → TrO w2 m1 m2 (t.ks[k].sub g) (ndV (t.ks[k].sub g).d s' K') → W2 = setA w2 ⟨bb, oo, none⟩ (.int .i64 (t.ks[k].sub g).d.kind) (.bool (t.ks[k].sub g).d.neg) s' (.string (t.ks[k].sub g).d.name) (.int .i64 (t.ks[k].sub g).d.exp) (.int .i64 (t.ks[k].sub g).d.rel) (.bool (t.ks[k].sub g).d.truth) (.bool (t.ks[k].sub g).d.all) K' →
              NdAt w2 ⟨bb, oo, none⟩ t.ks[k].d (.slice B0 k0 d0) (.slice B1 k1 d1) ∧ (∀ o, w2.frozen? ⟨bb, o, none⟩ = false) ∧ KidsR g lo hi t.ks (some ad) (k + 1) V W2) := by
            intro w2 s' K' W2 hm hs hK ht hW2
            exact hstep wr1.drew w2 s' K' W2 hxd (by omega) hm hs hK ht hW2
          have Y0 : Hid (Mut lo hi wr1 wr1.drew) := by
            have : Mut lo hi wr1 wr1.drew := Mut.of_ext ((Ext.refl wr1).drew) (by omega)
            exact this
          have HQ : Hid (∀ w2, Mut m1 m2 wr1.drew w2 → Mut lo hi wr1 w2) := by
            intro w2 hm
            exact Y0.out.trans (hm.mono q1 (by omega))
          clear hstep hmw hblk hto HK hwx hb9 a8' hxd p1 p2 p3 q1 q2 q3
          go_upto_region 8 with fail
          clear hwr1 e0 e1 e2 e3 e4 e5 e6 e7 e8 a8
          generalize t.ks[k].sub g = tk at *
          go_region_held3 (fun W' => W'.cell? ⟨w.heap.size, 8, none⟩ = some (.slice (some ad) t.ks.length c) ∧ W'.cell? ⟨wr.heap.size, 0, none⟩ = some (.int .i64 t.ks[k].d.kind) ∧ W'.cell? ⟨wr.heap.size, 1, none⟩ = some (.bool t.ks[k].d.neg) ∧ W'.cell? ⟨wr.heap.size, 2, none⟩ = some (.slice B0 k0 d0) ∧ W'.cell? ⟨wr.heap.size, 3, none⟩ = some (.string t.ks[k].d.name) ∧ W'.cell? ⟨wr.heap.size, 4, none⟩ = some (.int .i64 t.ks[k].d.exp) ∧ W'.cell? ⟨wr.heap.size, 5, none⟩ = some (.int .i64 t.ks[k].d.rel) ∧ W'.cell? ⟨wr.heap.size, 6, none⟩ = some (.bool t.ks[k].d.truth) ∧ W'.cell? ⟨wr.heap.size, 7, none⟩ = some (.bool t.ks[k].d.all) ∧ W'.cell? ⟨wr.heap.size, 8, none⟩ = some (.slice B1 k1 d1))
            (first | with_reducible exact HB.out _ Y0.out | with_reducible exact HB.out _ y1 | exact HB2.out _ y1 _ _ _ _ _ _ _ _ _ _ rfl)
            (first
              | (go_at_call 47
                 refine HC.out.mono ?_
                 rintro e w3 ⟨v3, rfl, t3, m3⟩
                 have T3 := Lib.hid t3
                 obtain ⟨C0, j0, f0, C1, f1, rfl, -⟩ := t3.open_
                 obtain ⟨⟨g0, g1, g2, g3, g4, g5, g6, g7, g8⟩, fzn, -⟩ := HSTEP.out w3 _ _ _ m3 rfl rfl T3.out rfl
                 unfold ndV
                 unfold ndV at T3
                 have y1 : Mut lo hi wr1 w3 := HQ.out w3 m3))
          have HN := Lib.hid ((HSTEP.out w3 _ _ _ m3 rfl rfl T3.out rfl).2.2)
          clear HSTEP HB HB2 HC HQ T3 y1 m3 g0 g1 g2 g3 g4 g5 g6 g7 g8 fzn
          go_wp2_with fail
          go_roundw
          case rel => exact ⟨k + 1, by omega, by go_num, HN⟩
          case measure => simp [intOf]; omega
        · have hke : k = t.ks.length := by omega
          subst hke
          have hmw := HK.out.2
          have hms := hmw.size
          have hvs := HVX.out.size
          have hbx : Box9 wr w.heap.size t.d (.slice A0 n0 c0) (.slice A t.ks.length c) := (HBX.out.ext HVX.out (by omega)).turn (hmw.out (i := w.heap.size) (by omega) (.inr hhi))
          have hzr : Zero9 wr (w.heap.size + 1) := (HZ.out.ext HVX.out (by omega)).turn (hmw.out (i := w.heap.size + 1) (by omega) (.inr (by omega)))
          obtain ⟨x0, x1, x2, x3, x4, x5, x6, x7, x8⟩ := id hbx
          obtain ⟨⟨r0, r1, r2, r3, r4, r5, r6, r7, r8⟩, rf⟩ := id hzr
          have hds2 : NatV wr (.slice A0 n0 c0) t.d.ds := hmw.2.2 _ _ (HDS.out.ext (HWX.out.trans HVX.out))
          have HF : Hid (RetSub lo hi (t.sub g) w (.returned (ndV t.d (.slice A0 n0 c0) (.slice A t.ks.length c))) (set9 wr (w.heap.size + 1) (.int .i64 t.d.kind) (.bool t.d.neg) (.slice A0 n0 c0) (.string t.d.name) (.int .i64 t.d.exp) (.int .i64 t.d.rel) (.bool t.d.truth) (.bool t.d.all) (.slice A t.ks.length c))) := by
            rw [HSUB.out]
            refine ret_sub (Mut.trans (Mut.of_ext (HWX.out.trans HVX.out) (by omega)) hmw) hzr hhi hle ?_
            have hlen : (t.ks.map (Tr.sub g)).length = t.ks.length := List.length_map _
            have h5 : TrO wr lo hi (.mk t.d (t.ks.map (Tr.sub g))) (ndV (Tr.mk t.d (t.ks.map (Tr.sub g))).d (.slice A0 n0 c0) (.slice A (Tr.mk t.d (t.ks.map (Tr.sub g))).ks.length c)) := by
              refine TrO.mk hds2 (by show (t.ks.map (Tr.sub g)).length ≤ c; omega) hl2 ?_
              rcases HK.out.1 with h6 | ⟨bb, e, q1, q2, q3, q4, q5⟩
              · left; show t.ks.map (Tr.sub g) = []; rw [h6]; rfl
              · right
                rw [List.take_length, List.drop_length, List.append_nil] at q5
                exact ⟨bb, e, q1, q2, q3, q4, q5⟩
            have e6 : (Tr.mk t.d (t.ks.map (Tr.sub g))).ks.length = t.ks.length := hlen
            rw [e6] at h5
            exact h5
          clear hbx hzr hds2 hmw HK H0
          go_wp2_with fail
          exact bodyPost_ret (v := ndV t.d (.slice A0 n0 c0) (.slice A t.ks.length c)) (by simp [results, Tryz.results47, go_sem, r0, r1, r2, r3, r4, r5, r6, r7, r8, ndV]) rfl HF.out
    | some z =>
      rw [hg] at hlook
      simp only [Option.isSome_some] at hlook
      obtain ⟨hlb, hln⟩ := hval z hg
      have HSUB := Lib.hid (Tr.sub_some (g := g) (t := t) (z := z) (by rw [if_pos hk2]; exact hg))
      have hzr : Zero9 V (w.heap.size + 1) := HZ.out.ext hVx (by omega)
      obtain ⟨⟨r0, r1, r2, r3, r4, r5, r6, r7, r8⟩, rf⟩ := id hzr
      have HF : Hid (RetSub lo hi (t.sub g) w (.returned (ndV { nd0 with kind := 1, neg := lb, ds := dg z.natAbs } (.slice LA ln lc) (.slice none 0 0))) (set9 V (w.heap.size + 1) (.int .i64 1) (.bool lb) (.slice LA ln lc) (.string ⟨#[]⟩) (.int .i64 0) (.int .i64 0) (.bool false) (.bool false) (.slice none 0 0))) := by
        rw [HSUB.out, hlb]
        refine ret_sub (Mut.of_ext (HWX.out.trans hVx) (by omega)) hzr hhi hle ?_
        exact TrO.mk (t := .mk { nd0 with kind := 1, neg := decide (z < 0), ds := dg z.natAbs } []) (A := none) (c := 0) (hln.ext hVx) (Nat.le_refl _) (by omega) (.inl rfl)
      clear hVx hg hlb hln hzr hk2
      go_enter Tryz.func47, Tryz.ntmps47
      go_wp2_with fail
      exact bodyPost_ret (v := ndV { nd0 with kind := 1, neg := lb, ds := dg z.natAbs } (.slice LA ln lc) (.slice none 0 0)) (by simp [results, Tryz.results47, go_sem, r0, r1, r2, r3, r4, r5, r6, r7, r8, ndV, nd0]) rfl HF.out
  · have hke : (t.d.kind == 2) = false := by simpa using hk2
    have HSUB := Lib.hid (Tr.sub_none (g := g) (t := t) (by rw [if_neg hk2]))
    have HVX : Hid (Ext W W) := by
      have : Ext W W := Ext.refl W
      exact this
    go_enter Tryz.func47, Tryz.ntmps47
    go_wp2_with fail
    clear hW
    clear b0 b1 b2 b3 b4 b5 b6 b7 b8
    have H0 : Hid (KidsR g lo hi t.ks A 0 W W) := by
      refine ⟨?_, Mut.refl _ _ _⟩
      rcases H4.out with h4 | ⟨bb, e, q1, q2, q3, q4, q5⟩
      · exact .inl h4
      · have hvw := HWX.out.trans HVX.out
        have hvs := hvw.size
        exact .inr ⟨bb, e, q1, q2, by omega, fun o => (hvw.frozen (p := ⟨bb, o, none⟩) q3).trans (q4 o), by simpa using TrsO.turn hvs (fun _ _ h => h.ext hvw) _ _ _ lo bb lo bb (Nat.le_refl _) (Nat.le_refl _) (fun i _ _ a3 => hvw.below.block i a3) (hvw.below.block bb q3) q5⟩
    go_loopw [25] (fun iv wr => ∃ k : Nat, k ≤ t.ks.length ∧ iv = .int .i64 k ∧ Hid (KidsR g lo hi t.ks A k W wr)) (fun iv _ => t.ks.length - (intOf iv).toNat)
    case atStart => exact ⟨0, Nat.zero_le _, rfl, H0⟩
    case round =>
      obtain ⟨k, hk, rfl, HK⟩ := hrel
      by_cases hlt : k < t.ks.length
      · obtain ⟨ad, bb, oo, m1, m2, B0, k0, d0, B1, k1, d1, hA, hadd, p1, p2, p3, q1, q2, q3, hnd, hto, hstep⟩ := HK.out.step hlt hle
        subst hA
        obtain ⟨e0, e1, e2, e3, e4, e5, e6, e7, e8⟩ := hnd
        have hmw := HK.out.2
        have hms := hmw.size
        have hvs := HVX.out.size
        have hblk : wr.heap[w.heap.size]? = W.heap[w.heap.size]? := hmw.out (by omega) (.inr hhi)
        have a8 : wr.cell? ⟨w.heap.size, 8, none⟩ = some (.slice (some ad) t.ks.length c) := (World.cell?_of_block (a := ⟨w.heap.size, 8, none⟩) hblk).trans (HBX.out.ext HVX.out (by omega)).2.2.2.2.2.2.2.2
        obtain ⟨wr1, hwr1⟩ : ∃ W1, wr.alloc (.cells #[.int .i64 t.ks[k].d.kind, .bool t.ks[k].d.neg, .slice B0 k0 d0, .string t.ks[k].d.name, .int .i64 t.ks[k].d.exp, .int .i64 t.ks[k].d.rel, .bool t.ks[k].d.truth, .bool t.ks[k].d.all, .slice B1 k1 d1] 29) = W1 := ⟨_, rfl⟩
        have hwx : Ext wr wr1 := by rw [← hwr1]; exact (Ext.refl wr).alloc _
        have hws : wr1.heap.size = wr.heap.size + 1 := by rw [← hwr1]; simp
        have hb9 : Box9 wr1 wr.heap.size t.ks[k].d (.slice B0 k0 d0) (.slice B1 k1 d1) := by rw [← hwr1]; exact Box9.new wr _ _ _ _
        have a8' : wr1.cell? ⟨w.heap.size, 8, none⟩ = some (.slice (some ad) t.ks.length c) := (hwx.cell (p := ⟨w.heap.size, 8, none⟩) (by show w.heap.size < _; omega)).trans a8
        have HB : Hid (∀ W', Mut lo hi wr1 W' → (W'.cell? ⟨w.heap.size, 8, none⟩ = some (.slice (some ad) t.ks.length c) ∧ W'.cell? ⟨wr.heap.size, 0, none⟩ = some (.int .i64 t.ks[k].d.kind) ∧ W'.cell? ⟨wr.heap.size, 1, none⟩ = some (.bool t.ks[k].d.neg) ∧ W'.cell? ⟨wr.heap.size, 2, none⟩ = some (.slice B0 k0 d0) ∧ W'.cell? ⟨wr.heap.size, 3, none⟩ = some (.string t.ks[k].d.name) ∧ W'.cell? ⟨wr.heap.size, 4, none⟩ = some (.int .i64 t.ks[k].d.exp) ∧ W'.cell? ⟨wr.heap.size, 5, none⟩ = some (.int .i64 t.ks[k].d.rel) ∧ W'.cell? ⟨wr.heap.size, 6, none⟩ = some (.bool t.ks[k].d.truth) ∧ W'.cell? ⟨wr.heap.size, 7, none⟩ = some (.bool t.ks[k].d.all) ∧ W'.cell? ⟨wr.heap.size, 8, none⟩ = some (.slice B1 k1 d1))) := by
          intro W' hm
          obtain ⟨x0, x1, x2, x3, x4, x5, x6, x7, x8⟩ := hb9
          have hk1 : ∀ i, W'.cell? ⟨wr.heap.size, i, none⟩ = wr1.cell? ⟨wr.heap.size, i, none⟩ := fun i => World.cell?_of_block (a := ⟨wr.heap.size, i, none⟩) (hm.out (i := wr.heap.size) (by omega) (.inr (by omega)))
          have hk2 : W'.cell? ⟨w.heap.size, 8, none⟩ = wr1.cell? ⟨w.heap.size, 8, none⟩ := World.cell?_of_block (a := ⟨w.heap.size, 8, none⟩) (hm.out (i := w.heap.size) (by omega) (.inr hhi))
          exact ⟨hk2.trans a8', (hk1 _).trans x0, (hk1 _).trans x1, (hk1 _).trans x2, (hk1 _).trans x3, (hk1 _).trans x4, (hk1 _).trans x5, (hk1 _).trans x6, (hk1 _).trans x7, (hk1 _).trans x8⟩
        have HB2 : Hid (∀ W', Mut lo hi wr1 W' → ∀ u0 u1 u2 u3 u4 u5 u6 u7 u8 W2, W2 = setA W' ⟨bb, oo, none⟩ u0 u1 u2 u3 u4 u5 u6 u7 u8 → (W2.cell? ⟨w.heap.size, 8, none⟩ = some (.slice (some ad) t.ks.length c) ∧ W2.cell? ⟨wr.heap.size, 0, none⟩ = some (.int .i64 t.ks[k].d.kind) ∧ W2.cell? ⟨wr.heap.size, 1, none⟩ = some (.bool t.ks[k].d.neg) ∧ W2.cell? ⟨wr.heap.size, 2, none⟩ = some (.slice B0 k0 d0) ∧ W2.cell? ⟨wr.heap.size, 3, none⟩ = some (.string t.ks[k].d.name) ∧ W2.cell? ⟨wr.heap.size, 4, none⟩ = some (.int .i64 t.ks[k].d.exp) ∧ W2.cell? ⟨wr.heap.size, 5, none⟩ = some (.int .i64 t.ks[k].d.rel) ∧ W2.cell? ⟨wr.heap.size, 6, none⟩ = some (.bool t.ks[k].d.truth) ∧ W2.cell? ⟨wr.heap.size, 7, none⟩ = some (.bool t.ks[k].d.all) ∧ W2.cell? ⟨wr.heap.size, 8, none⟩ = some (.slice B1 k1 d1))) := by
          intro W' hm u0 u1 u2 u3 u4 u5 u6 u7 u8 W2 e
          obtain ⟨z0, z1, z2, z3, z4, z5, z6, z7, z8, z9⟩ := HB.out W' hm
          rw [setA_cells] at e
          have hfar : ∀ i j, i ≠ bb → W2.cell? ⟨i, j, none⟩ = W'.cell? ⟨i, j, none⟩ := fun i j hne => by rw [e]; exact World.cell?_of_block (a := ⟨i, j, none⟩) (block_setCells hne _ _ _)
          have n1 : w.heap.size ≠ bb := by omega
          have n2 : wr.heap.size ≠ bb := by omega
          exact ⟨(hfar _ _ n1).trans z0, (hfar _ _ n2).trans z1, (hfar _ _ n2).trans z2, (hfar _ _ n2).trans z3, (hfar _ _ n2).trans z4, (hfar _ _ n2).trans z5, (hfar _ _ n2).trans z6, (hfar _ _ n2).trans z7, (hfar _ _ n2).trans z8, (hfar _ _ n2).trans z9⟩
        have hsz := HSZ.out k hlt
        have hxd : Ext wr wr1.drew := hwx.drew
        have HC : Hid (Calls Tryz.prog 47 #[.agg #[.int .i64 t.ks[k].d.kind, .bool t.ks[k].d.neg, .slice B0 k0 d0, .string t.ks[k].d.name, .int .i64 t.ks[k].d.exp, .int .i64 t.ks[k].d.rel, .bool t.ks[k].d.truth, .bool t.ks[k].d.all, .slice B1 k1 d1], .map (some b)] wr1.drew (RetSub m1 m2 (t.ks[k].sub g) wr1.drew)) := by
          have hnm : NMap wr b g := ((HM.out.ext HWX.out).ext HVX.out).turn (hmw.1.block b hb) hmw.2.2
          exact IH.out t.ks[k] _ wr1.drew m1 m2 b (by omega) (hto.ext hxd) (hnm.ext hxd) (by omega) (by have := hxd.size; omega) q2
        have HSTEP : Hid (∀ (w2 : World) (s' K' : Value) (W2 : World), Mut m1 m2 wr1.drew w2 → isDig s' = false → isDig K' = false → TrO w2 m1 m2 (t.ks[k].sub g) (ndV (t.ks[k].sub g).d s' K') → W2 = setA w2 ⟨bb, oo, none⟩ (.int .i64 (t.ks[k].sub g).d.kind) (.bool (t.ks[k].sub g).d.neg) s' (.string (t.ks[k].sub g).d.name) (.int .i64 (t.ks[k].sub g).d.exp) (.int .i64 (t.ks[k].sub g).d.rel) (.bool (t.ks[k].sub g).d.truth) (.bool (t.ks[k].sub g).d.all) K' →
            NdAt w2 ⟨bb, oo, none⟩ t.ks[k].d (.slice B0 k0 d0) (.slice B1 k1 d1) ∧ (∀ o, w2.frozen? ⟨bb, o, none⟩ = false) ∧ KidsR g lo hi t.ks (some ad) (k + 1) W W2) := by
          intro w2 s' K' W2 hm hs hK ht hW2
          exact hstep wr1.drew w2 s' K' W2 hxd (by omega) hm hs hK ht hW2
        have Y0 : Hid (Mut lo hi wr1 wr1.drew) := by
          have : Mut lo hi wr1 wr1.drew := Mut.of_ext ((Ext.refl wr1).drew) (by omega)
          exact this
        have HQ : Hid (∀ w2, Mut m1 m2 wr1.drew w2 → Mut lo hi wr1 w2) := by
          intro w2 hm
          exact Y0.out.trans (hm.mono q1 (by omega))
        clear hstep hmw hblk hto HK hwx hb9 a8' hxd p1 p2 p3 q1 q2 q3
        go_upto_region 8 with fail
        clear hwr1 e0 e1 e2 e3 e4 e5 e6 e7 e8 a8
        generalize t.ks[k].sub g = tk at *
        go_region_held3 (fun W' => W'.cell? ⟨w.heap.size, 8, none⟩ = some (.slice (some ad) t.ks.length c) ∧ W'.cell? ⟨wr.heap.size, 0, none⟩ = some (.int .i64 t.ks[k].d.kind) ∧ W'.cell? ⟨wr.heap.size, 1, none⟩ = some (.bool t.ks[k].d.neg) ∧ W'.cell? ⟨wr.heap.size, 2, none⟩ = some (.slice B0 k0 d0) ∧ W'.cell? ⟨wr.heap.size, 3, none⟩ = some (.string t.ks[k].d.name) ∧ W'.cell? ⟨wr.heap.size, 4, none⟩ = some (.int .i64 t.ks[k].d.exp) ∧ W'.cell? ⟨wr.heap.size, 5, none⟩ = some (.int .i64 t.ks[k].d.rel) ∧ W'.cell? ⟨wr.heap.size, 6, none⟩ = some (.bool t.ks[k].d.truth) ∧ W'.cell? ⟨wr.heap.size, 7, none⟩ = some (.bool t.ks[k].d.all) ∧ W'.cell? ⟨wr.heap.size, 8, none⟩ = some (.slice B1 k1 d1))
          (first | with_reducible exact HB.out _ Y0.out | with_reducible exact HB.out _ y1 | exact HB2.out _ y1 _ _ _ _ _ _ _ _ _ _ rfl)
          (first
            | (go_at_call 47
               refine HC.out.mono ?_
               rintro e w3 ⟨v3, rfl, t3, m3⟩
               have T3 := Lib.hid t3
               obtain ⟨C0, j0, f0, C1, f1, rfl, -⟩ := t3.open_
               obtain ⟨⟨g0, g1, g2, g3, g4, g5, g6, g7, g8⟩, fzn, -⟩ := HSTEP.out w3 _ _ _ m3 rfl rfl T3.out rfl
               unfold ndV
               unfold ndV at T3
               have y1 : Mut lo hi wr1 w3 := HQ.out w3 m3))
        have HN := Lib.hid ((HSTEP.out w3 _ _ _ m3 rfl rfl T3.out rfl).2.2)
        clear HSTEP HB HB2 HC HQ T3 y1 m3 g0 g1 g2 g3 g4 g5 g6 g7 g8 fzn
        go_wp2_with fail
        go_roundw
        case rel => exact ⟨k + 1, by omega, by go_num, HN⟩
        case measure => simp [intOf]; omega
      · have hke : k = t.ks.length := by omega
        subst hke
        have hmw := HK.out.2
        have hms := hmw.size
        have hvs := HVX.out.size
        have hbx : Box9 wr w.heap.size t.d (.slice A0 n0 c0) (.slice A t.ks.length c) := (HBX.out.ext HVX.out (by omega)).turn (hmw.out (i := w.heap.size) (by omega) (.inr hhi))
        have hzr : Zero9 wr (w.heap.size + 1) := (HZ.out.ext HVX.out (by omega)).turn (hmw.out (i := w.heap.size + 1) (by omega) (.inr (by omega)))
        obtain ⟨x0, x1, x2, x3, x4, x5, x6, x7, x8⟩ := id hbx
        obtain ⟨⟨r0, r1, r2, r3, r4, r5, r6, r7, r8⟩, rf⟩ := id hzr
        have hds2 : NatV wr (.slice A0 n0 c0) t.d.ds := hmw.2.2 _ _ (HDS.out.ext (HWX.out.trans HVX.out))
        have HF : Hid (RetSub lo hi (t.sub g) w (.returned (ndV t.d (.slice A0 n0 c0) (.slice A t.ks.length c))) (set9 wr (w.heap.size + 1) (.int .i64 t.d.kind) (.bool t.d.neg) (.slice A0 n0 c0) (.string t.d.name) (.int .i64 t.d.exp) (.int .i64 t.d.rel) (.bool t.d.truth) (.bool t.d.all) (.slice A t.ks.length c))) := by
          rw [HSUB.out]
          refine ret_sub (Mut.trans (Mut.of_ext (HWX.out.trans HVX.out) (by omega)) hmw) hzr hhi hle ?_
          have hlen : (t.ks.map (Tr.sub g)).length = t.ks.length := List.length_map _
          have h5 : TrO wr lo hi (.mk t.d (t.ks.map (Tr.sub g))) (ndV (Tr.mk t.d (t.ks.map (Tr.sub g))).d (.slice A0 n0 c0) (.slice A (Tr.mk t.d (t.ks.map (Tr.sub g))).ks.length c)) := by
            refine TrO.mk hds2 (by show (t.ks.map (Tr.sub g)).length ≤ c; omega) hl2 ?_
            rcases HK.out.1 with h6 | ⟨bb, e, q1, q2, q3, q4, q5⟩
            · left; show t.ks.map (Tr.sub g) = []; rw [h6]; rfl
            · right
              rw [List.take_length, List.drop_length, List.append_nil] at q5
              exact ⟨bb, e, q1, q2, q3, q4, q5⟩
          have e6 : (Tr.mk t.d (t.ks.map (Tr.sub g))).ks.length = t.ks.length := hlen
          rw [e6] at h5
          exact h5
        clear hbx hzr hds2 hmw HK H0
        go_wp2_with fail
        exact bodyPost_ret (v := ndV t.d (.slice A0 n0 c0) (.slice A t.ks.length c)) (by simp [results, Tryz.results47, go_sem, r0, r1, r2, r3, r4, r5, r6, r7, r8, ndV]) rfl HF.out
end Go.Proofs.YtofbfplpbffpfaaGreat

/- Layer 34: rows of trees that grow. -/
namespace Go.Proofs.YtofbfplpbffpfaaGreat
open Go.RowKit

/-- The row's block holds no digit. -/
def NoDig (W : World) (v : Value) : Prop := ∀ R cur T fr, v.ownBlock = some R → W.heap[R]? = some (.cells cur T fr) → ∀ u ∈ cur.toList, isDig u = false
theorem natV_grown {W W' : World} {v s : Value} {ds : List Nat} (h : NatV W s ds) (hg : W.grownBy W' v.ownBlock) (hn : NoDig W v) (hr : ∀ R, v.ownBlock = some R → ∃ cur T fr, W.heap[R]? = some (.cells cur T fr)) : NatV W' s ds := by
  obtain ⟨A, c, e, h1, h2, h3, h4⟩ := h
  refine ⟨A, c, e, h1, h2, h3, fun hd => ?_⟩
  obtain ⟨ad, e4, hlt, hc⟩ := h4 hd
  refine ⟨ad, e4, Nat.lt_of_lt_of_le hlt hg.size, fun j hj => ?_⟩
  have hne : v.ownBlock ≠ some ad.block := fun e => by
    obtain ⟨cur, T, fr, hb⟩ := hr _ e
    have h0 := hc 0 hd
    rw [World.cell?, block_of_add, hb] at h0
    have hmem : ∃ k : Nat, cur[k]? = some (.int .u32 (ds[0] : Nat)) := by
      revert h0
      simp only
      split <;> intro h0
      · cases h0
      · exact ⟨_, h0⟩
    obtain ⟨k, hk⟩ := hmem
    have := hn _ _ _ _ e hb (.int .u32 (ds[0] : Nat)) (by
      obtain ⟨hk1, hk2⟩ := Array.getElem?_eq_some_iff.1 hk
      rw [← hk2]; simp)
    cases this
  exact (World.cell?_of_block (a := ad.add j) (by rw [block_of_add]; exact World.grownBy.block hg _ hlt (fun e => hne e.symm))).trans (hc j hj)
theorem ownsRow_obj {W : World} {base size n : Nat} {e : TypeId} {v : Value} {xs : List Value} (h : W.ownsRow base e size v n xs) : ∀ R, v.ownBlock = some R → ∃ cur T fr, W.heap[R]? = some (.cells cur T fr) := by
  intro R hR
  obtain ⟨-, ⟨rfl, -⟩ | ⟨g, cap, cur, rfl, -, hg, -⟩⟩ := h
  · cases hR
  · have : g = R := by simpa [Value.ownBlock] using hR
    subst this
    exact ⟨cur, _, _, hg⟩
theorem NoDig.ext {W W' : World} {v : Value} (h : NoDig W v) (hx : ∀ R, v.ownBlock = some R → W'.heap[R]? = W.heap[R]?) : NoDig W' v := fun R cur T fr e hb => h R cur T fr e ((hx R e).symm.trans hb)
theorem zero_nodig (n : Nat) : ∀ u ∈ (Builtin.zeroCells (Value.agg #[.int .i64 0, .bool false, .slice none 0 0, .string ByteArray.empty, .int .i64 0, .int .i64 0, .bool false, .bool false, .slice none 0 0]).cells n).toList, isDig u = false := by
  intro u hu
  unfold Builtin.zeroCells at hu
  simp only [Array.toList_map, List.mem_map] at hu
  obtain ⟨i, -, rfl⟩ := hu
  have hc : (Value.agg #[.int .i64 0, .bool false, .slice none 0 0, .string ByteArray.empty, .int .i64 0, .int .i64 0, .bool false, .bool false, .slice none 0 0]).cells = #[.int .i64 0, .bool false, .slice none 0 0, .string ByteArray.empty, .int .i64 0, .int .i64 0, .bool false, .bool false, .slice none 0 0] := rfl
  rw [hc]
  have hlt : i % 9 < 9 := Nat.mod_lt _ (by omega)
  show isDig (#[Value.int .i64 0, .bool false, .slice none 0 0, .string ByteArray.empty, .int .i64 0, .int .i64 0, .bool false, .bool false, .slice none 0 0][i % 9]!) = false
  generalize i % 9 = j at hlt
  rcases (show j = 0 ∨ j = 1 ∨ j = 2 ∨ j = 3 ∨ j = 4 ∨ j = 5 ∨ j = 6 ∨ j = 7 ∨ j = 8 by omega) with rfl | rfl | rfl | rfl | rfl | rfl | rfl | rfl | rfl <;> rfl

mutual
theorem TrV.turn2 {w w' : World} {p q : Nat → Prop} (hs : w.heap.size ≤ w'.heap.size) (hn : ∀ v ds, NatV w v ds → NatV w' v ds) (hc : ∀ b, b < w.heap.size → p b → q b ∧ w'.heap[b]? = w.heap[b]?) : ∀ (t : Tr) (v : Value), TrV w p t v → TrV w' q t v
  | .mk d ks, v, h => by
    unfold TrV at h ⊢
    obtain ⟨s, A, c, e, h1, h2, h3, h4⟩ := h
    exact ⟨s, A, c, e, hn _ _ h1, h2, h3, TrsAt.turn2 hs hn hc ks A 0 h4⟩
theorem TrsAt.turn2 {w w' : World} {p q : Nat → Prop} (hs : w.heap.size ≤ w'.heap.size) (hn : ∀ v ds, NatV w v ds → NatV w' v ds) (hc : ∀ b, b < w.heap.size → p b → q b ∧ w'.heap[b]? = w.heap[b]?) : ∀ (l : List Tr) (A : Option Addr) (j : Nat), TrsAt w p l A j → TrsAt w' q l A j
  | [], A, j, h => by unfold TrsAt; trivial
  | t :: r, A, j, h => by
    unfold TrsAt at h ⊢
    obtain ⟨⟨ad, s, K, e, hb, hpb, h1, h2⟩, h3⟩ := h
    obtain ⟨hq, hk⟩ := hc _ hb hpb
    exact ⟨⟨ad, s, K, e, Nat.lt_of_lt_of_le hb hs, hq, h1.same (World.cell?_of_block (by rw [block_of_add]; exact hk)) (fun n _ => World.cell?_of_block (a := ⟨(ad.add (j * 9)).block, (ad.add (j * 9)).off + n, none⟩) (by show w'.heap[(ad.add (j * 9)).block]? = _; rw [block_of_add]; exact hk)), TrV.turn2 hs hn hc t _ h2⟩, TrsAt.turn2 hs hn hc r A (j + 1) h3⟩
end
theorem TrV.turn_ {w w' : World} {p q : Nat → Prop} {t : Tr} {v : Value} (hs : w.heap.size ≤ w'.heap.size) (hn : ∀ v ds, NatV w v ds → NatV w' v ds) (hc : ∀ b, b < w.heap.size → p b → q b ∧ w'.heap[b]? = w.heap[b]?) (h : TrV w p t v) : TrV w' q t v := TrV.turn2 hs hn hc t v h
/-- A growing row of trees of the call's own, from block base on; the trees' rows lie from base on, outside this row. -/
def KidsV (base : Nat) (W : World) (v : Value) (l : List Tr) : Prop :=
  ∃ rs : List (Tr × Value × Value), rs.map (fun r => r.1) = l ∧ W.ownsRow base 29 9 v rs.length (flatR rs) ∧ NoDig W v ∧ ∀ r ∈ rs, TrV W (fun b => v.ownBlock ≠ some b ∧ base ≤ b) r.1 (ndV r.1.d r.2.1 r.2.2)
theorem KidsV.nil (base : Nat) (W : World) : KidsV base W (.slice none 0 0) [] := ⟨[], rfl, World.ownsRow_nil _ _ _ _, (fun R _ _ _ e => (by cases e)), by simp⟩
theorem KidsV.own {base : Nat} {W : World} {v : Value} {l : List Tr} (h : KidsV base W v l) {R : Nat} (hR : v.ownBlock = some R) : base ≤ R ∧ R < W.heap.size := by
  obtain ⟨rs, -, h2, -⟩ := h
  exact World.ownsRow.lt h2 R hR
theorem KidsV.len {base : Nat} {W : World} {v : Value} {l : List Tr} (h : KidsV base W v l) : ∃ A c, v = .slice A l.length c ∧ l.length ≤ c ∧ c ≤ 9223372036854775807 := by
  obtain ⟨rs, rfl, h2, -⟩ := h
  obtain ⟨h3, ⟨rfl, h0⟩ | ⟨g, cap, cur, rfl, hb, hg, hc, hm, -⟩⟩ := h2
  · exact ⟨none, 0, by simp [h0], by simp [h0], by omega⟩
  · exact ⟨some ⟨g, 0, none⟩, cap, by simp, by simpa using hc, by unfold maxLen at hm; omega⟩
/-- Blocks ahead of base turn, but no digits. -/
theorem KidsV.turn {base : Nat} {W W' : World} {v : Value} {l : List Tr} (h : KidsV base W v l) (hs : W.heap.size ≤ W'.heap.size) (hb : ∀ b, base ≤ b → b < W.heap.size → W'.heap[b]? = W.heap[b]?) (hn : ∀ v ds, NatV W v ds → NatV W' v ds) : KidsV base W' v l := by
  have hown : ∀ R, v.ownBlock = some R → base ≤ R ∧ R < W.heap.size := fun R hR => h.own hR
  obtain ⟨rs, e, h2, hnd, h3⟩ := h
  refine ⟨rs, e, ?_, hnd.ext (fun R e => hb R (hown R e).1 (hown R e).2), fun r hr => TrV.turn hs (fun _ h => h) hn (fun ad d s A hlt hp hnd => hnd.same (World.cell?_of_block (hb _ hp.2 hlt)) (fun n _ => World.cell?_of_block (a := ⟨ad.block, ad.off + n, none⟩) (hb _ hp.2 hlt))) _ _ (h3 r hr)⟩
  obtain ⟨h4, h5⟩ := h2
  refine ⟨h4, ?_⟩
  rcases h5 with h5 | ⟨g, cap, cur, rfl, hbg, hg, h6⟩
  · exact .inl h5
  · exact .inr ⟨g, cap, cur, rfl, hbg, (hb g hbg (Array.getElem?_eq_some_iff.1 hg).1).trans hg, h6⟩

set_option maxRecDepth 100000 in
/-- One tree more. -/
theorem KidsV.step {base : Nat} {wr w3 : World} {ov : Value} {l : List Tr} {x : Tr} {s K : Value} (h : KidsV base wr ov l) (hx : Ext wr w3) (hbase : base ≤ wr.heap.size) (ht : TrV w3 (fun b => wr.heap.size ≤ b) x (ndV x.d s K)) (hlen : l.length ≤ 1000000) (ty : TypeId) :
    ∃ v4 w4, (Builtin.append_ #[27, 27] ty #[ov, .slice (some ⟨w3.heap.size, 0, none⟩) 1 1]).run Tryz.prog (w3.alloc (.cells #[.int .i64 x.d.kind, .bool x.d.neg, s, .string x.d.name, .int .i64 x.d.exp, .int .i64 x.d.rel, .bool x.d.truth, .bool x.d.all, K] 29)) = .ok v4 w4 ∧ Below base w3 w4 ∧ (∀ v ds, NatV w3 v ds → NatV w4 v ds) ∧ KidsV base w4 v4 (l ++ [x]) := by
  have hw3 := hx.size
  have hown : ∀ R, ov.ownBlock = some R → base ≤ R ∧ R < wr.heap.size := fun R hR => h.own hR
  obtain ⟨rs, rfl, o1, hnd, t1⟩ := h
  obtain ⟨A0, n0, c0, A1, c1, e2, -, -⟩ := ht.open_
  unfold ndV at e2
  simp only [Value.agg.injEq, Array.mk.injEq, List.cons.injEq, and_true, true_and] at e2
  obtain ⟨rfl, rfl⟩ := e2
  obtain ⟨W1, hW1⟩ : ∃ W1, w3.alloc (.cells #[.int .i64 x.d.kind, .bool x.d.neg, .slice A0 n0 c0, .string x.d.name, .int .i64 x.d.exp, .int .i64 x.d.rel, .bool x.d.truth, .bool x.d.all, .slice A1 x.ks.length c1] 29) = W1 := ⟨_, rfl⟩
  have hx1 : Ext w3 W1 := by rw [← hW1]; exact (Ext.refl w3).alloc _
  have hs1 : W1.heap.size = w3.heap.size + 1 := by rw [← hW1]; simp
  have o2 : W1.ownsRow w3.heap.size 29 9 (.slice (some ⟨w3.heap.size, 0, none⟩) 1 1) 1 (flatR [(x, .slice A0 n0 c0, .slice A1 x.ks.length c1)]) := by
    rw [← hW1]
    exact ⟨rfl, .inr ⟨w3.heap.size, 1, #[.int .i64 x.d.kind, .bool x.d.neg, .slice A0 n0 c0, .string x.d.name, .int .i64 x.d.exp, .int .i64 x.d.rel, .bool x.d.truth, .bool x.d.all, .slice A1 x.ks.length c1], rfl, Nat.le_refl _, heap_alloc_new w3 _, Nat.le_refl _, by unfold maxLen; omega, rfl, rfl⟩⟩
  have o1' : W1.ownsRow base 29 9 ov rs.length (flatR rs) := World.ownsRow.kept o1 (hx.trans hx1).grownN (by cases ov.ownBlock <;> simp)
  have hnd1 : NoDig W1 ov := hnd.ext (fun R e => (hx.trans hx1).below.block R (hown R e).2)
  have c2 : ∀ u ∈ flatR [(x, .slice A0 n0 c0, .slice A1 x.ks.length c1)], u.oneCell' = true ∧ isDig u = false := by
    intro u hu
    simp only [flatR, rowCells, List.flatMap_cons, List.flatMap_nil, List.append_nil] at hu
    simp only [List.mem_cons, List.not_mem_nil, or_false] at hu
    rcases hu with rfl | rfl | rfl | rfl | rfl | rfl | rfl | rfl | rfl <;> exact ⟨rfl, rfl⟩
  obtain ⟨i0, hi, hz0, hz1, hz2⟩ := info_parts info_tree
  simp only [List.length_map] at hlen
  generalize hnw : flatR [(x, Value.slice A0 n0 c0, Value.slice A1 x.ks.length c1)] = news at *
  have hnl : news.length = 1 * 9 := by rw [← hnw]; exact flatR_len _
  have hnc := fun j u hu => World.ownsRow.cells o2 rfl j u hu
  obtain ⟨v4, w4, hrun, r1, r2, -, r3⟩ := run_append_own_at (P := Tryz.prog) W1 base 27 ty 29 i0 _ 9 104 Tryz.underlying27 hi hz0 hz1 hz2 rfl (by omega) ov rs.length (flatR rs) o1' ⟨w3.heap.size, 0, none⟩ 1 1 news hnl hnc (fun u hu => (c2 u hu).1) (by unfold maxLen; omega) (by omega) (by omega)
  have hnat : ∀ v ds, NatV W1 v ds → NatV w4 v ds := fun v ds hv => natV_grown hv r2 hnd1 (ownsRow_obj o1')
  have hnd4 : NoDig w4 v4 := by
    have fin : ∀ (xs : List Value) (k : Nat) (w5 : World) (cap : Nat), (∀ u ∈ xs, isDig u = false) → w5.heap.size = W1.heap.size → NoDig (w5.alloc (.cells (xs.toArray ++ news.toArray ++ Builtin.zeroCells (Value.agg #[.int .i64 0, .bool false, .slice none 0 0, .string ByteArray.empty, .int .i64 0, .int .i64 0, .bool false, .bool false, .slice none 0 0]).cells k) 29)) (.slice (some ⟨W1.heap.size, 0, none⟩) (rs.length + 1) cap) := by
      intro xs k w5 cap hxs h5 R cur T fr hR hb u hu
      have hR' : W1.heap.size = R := by simpa [Value.ownBlock] using hR
      rw [← hR', ← h5, heap_alloc_new] at hb
      injection hb with hb
      injection hb with hb
      rw [← hb] at hu
      simp only [Array.toList_append, List.mem_append] at hu
      rcases hu with (hu | hu) | hu
      · exact hxs u hu
      · exact (c2 u hu).2
      · exact zero_nodig k u hu
    have hold : ∀ g cur, ov.ownBlock = some g → W1.heap[g]? = some (.cells cur 29 (0, 0)) → ∀ u ∈ cur.toList, isDig u = false := fun g cur e hb => hnd1 g cur _ _ e hb
    rcases o1'.2 with ⟨rfl, hn0⟩ | ⟨g, cap, cur, rfl, hbg, hg, hncap, hcm, hcs, htake⟩
    · have hr := run_append_nil (P := Tryz.prog) W1 27 ty 29 i0 _ Tryz.underlying27 hi hz0 ⟨w3.heap.size, 0, none⟩ 1 1 news (by rw [hz1]; exact hnl) hnc (by omega) (by omega) (by rw [hz2]; omega)
      rw [hrun] at hr
      injection hr with e1 e2
      subst e1 e2
      have := fin [] (grownCap W1 1 0 29 - 1) W1.drew (grownCap W1 1 0 29) (by simp) rfl
      rw [hn0] at this
      simpa using this
    · by_cases hroom : rs.length + 1 ≤ cap
      · have hr := run_append_room (P := Tryz.prog) W1 27 ty 29 i0 Tryz.underlying27 hi g rs.length cap cur hg ⟨w3.heap.size, 0, none⟩ 1 1 news (by rw [hz1]; exact hnl) hnc (fun u hu => (c2 u hu).1) hroom (by rw [hz1, hnl, hcs]; omega)
        rw [hrun] at hr
        injection hr with e1 e2
        subst e1 e2
        intro R cur' T fr hR hb u hu
        have hR' : g = R := by simpa [Value.ownBlock] using hR
        rw [← hR', setRow_heap W1 g cur _ _ _ hg] at hb
        injection hb with hb
        injection hb with hb
        rw [← hb] at hu
        simp only [List.mem_append] at hu
        rcases hu with (hu | hu) | hu
        · exact hold g cur rfl hg u (List.mem_of_mem_take hu)
        · exact (c2 u hu).2
        · exact hold g cur rfl hg u (List.mem_of_mem_drop hu)
      · have hr := run_append_grow (P := Tryz.prog) W1 27 ty 29 i0 _ Tryz.underlying27 hi hz0 ⟨g, 0, none⟩ rs.length cap (flatR rs) (by rw [hz1]; exact o1'.1) (o1'.cells (g := g) rfl) ⟨w3.heap.size, 0, none⟩ 1 1 news (by rw [hz1]; exact hnl) hnc (by omega) (by omega) (growslice_fits (by omega) (by rw [hz2]; omega))
        rw [hrun] at hr
        injection hr with e1 e2
        subst e1 e2
        exact fin (flatR rs) _ W1.drew _ (fun u hu => hold g cur rfl hg u (List.mem_of_mem_take (by rw [htake]; exact hu))) rfl
  have hw4 := r2.size
  have hblk : ∀ b, b < w3.heap.size → ov.ownBlock ≠ some b → w4.heap[b]? = w3.heap[b]? := fun b hb hne => (World.grownBy.block r2 b (by omega) (fun e => hne e.symm)).trans (hx1.below.block b hb)
  rw [hW1]
  refine ⟨v4, w4, hrun, Below.grown (Below.mono hx1 (by omega)) r2 (by omega) (fun g e => (hown g e).1), fun v ds hv => hnat v ds (hv.ext hx1), rs ++ [(x, .slice A0 n0 c0, .slice A1 x.ks.length c1)], by simp, by rw [flatR_append, List.length_append, hnw]; exact r1, hnd4, fun r hr => ?_⟩
  have hv4 : ∀ b, b < w3.heap.size → ov.ownBlock ≠ some b → v4.ownBlock ≠ some b := by
    intro b hb hne e
    rcases r3 with r3 | r3
    · exact hne (by rw [← r3]; exact e)
    · rw [r3] at e; injection e with e; omega
  rcases List.mem_append.1 hr with hr | hr
  · exact TrV.turn_ (by omega) (fun v ds hv => hnat v ds (hv.ext (hx.trans hx1))) (fun b hb hp => ⟨⟨hv4 b (by omega) hp.1, hp.2⟩, (hblk b (by omega) hp.1).trans (hx.below.block b hb)⟩) (t1 r hr)
  · obtain rfl : r = (x, .slice A0 n0 c0, .slice A1 x.ks.length c1) := by simpa using hr
    have hne : ∀ b, wr.heap.size ≤ b → ov.ownBlock ≠ some b := fun b hb e => by have := hown b e; omega
    exact TrV.turn_ (by omega) (fun v ds hv => hnat v ds (hv.ext hx1)) (fun b hb hp => ⟨⟨hv4 b hb (hne b hp), by omega⟩, hblk b hb (hne b hp)⟩) ht
/-- The call returns a tree whose rows are new. -/
def RetNew (t' : Tr) (w : World) (e : Ending) (w' : World) : Prop := ∃ v', e = .returned v' ∧ TrV w' (fun b => w.heap.size ≤ b) t' v' ∧ Ext w w'
/-- Nine cells that may be written. -/
def Open9 (w : World) (g : Nat) (d : Nd) (s A : Value) : Prop := Box9 w g d s A ∧ ∀ i, w.frozen? ⟨g, i, none⟩ = false
theorem Open9.ext {w w' : World} {g : Nat} {d : Nd} {s A : Value} (h : Open9 w g d s A) (hx : Ext w w') (hg : g < w.heap.size) : Open9 w' g d s A := ⟨h.1.ext hx hg, fun i => (hx.frozen (p := ⟨g, i, none⟩) hg).trans (h.2 i)⟩
theorem Open9.turn {w w' : World} {B : Nat} {d : Nd} {s K : Value} (h : Open9 w B d s K) (hb : w'.heap[B]? = w.heap[B]?) : Open9 w' B d s K := ⟨h.1.turn hb, fun i => (frozen_of_block (a := ⟨B, i, none⟩) hb).trans (h.2 i)⟩
theorem Open9.set8 {w : World} {g : Nat} {d : Nd} {s K : Value} (h : Open9 w g d s K) (K' : Value) : Open9 (w.setCell ⟨g, 8, none⟩ K') g d s K' := by
  obtain ⟨⟨h0, h1, h2, h3, h4, h5, h6, h7, h8⟩, hf⟩ := h
  have o : ∀ i, i ≠ 8 → (w.setCell ⟨g, 8, none⟩ K').cell? ⟨g, i, none⟩ = w.cell? ⟨g, i, none⟩ := fun i hi => World.cell?_setCell_other _ _ _ _ (by intro e; injection e; omega)
  exact ⟨⟨(o 0 (by omega)).trans h0, (o 1 (by omega)).trans h1, (o 2 (by omega)).trans h2, (o 3 (by omega)).trans h3, (o 4 (by omega)).trans h4, (o 5 (by omega)).trans h5, (o 6 (by omega)).trans h6, (o 7 (by omega)).trans h7, World.cell?_setCell_same _ _ _ h8⟩, fun i => by simpa [go_sem] using hf i⟩
/-- A tree in the making: the parameter's box, the result's cells, the tree's cells and the row of its kids. -/
def Grow (w : World) (g1 g2 gO base : Nat) (d dO : Nd) (s K sO : Value) (l : List Tr) (wr : World) : Prop :=
  (w.heap.size ≤ g1 ∧ w.heap.size ≤ g2 ∧ w.heap.size ≤ gO ∧ g1 < base ∧ g2 < base ∧ gO < base ∧ g1 ≠ gO ∧ g2 ≠ gO ∧ g1 ≠ g2) ∧ Ext w wr ∧ base ≤ wr.heap.size ∧ Box9 wr g1 d s K ∧ Zero9 wr g2 ∧ ∃ ov, Open9 wr gO dO sO ov ∧ NatV wr sO dO.ds ∧ KidsV base wr ov l
theorem Grow.step {w : World} {g1 g2 gO base : Nat} {d dO : Nd} {s K sO : Value} {l : List Tr} {wr : World} (h : Grow w g1 g2 gO base d dO s K sO l wr) (hlen : l.length ≤ 1000000) : ∃ AV cv, wr.cell? ⟨gO, 8, none⟩ = some (.slice AV l.length cv) ∧ l.length ≤ cv ∧ cv ≤ 9223372036854775807 ∧
    ∀ (w3 : World) (x : Tr) (s' K' : Value) (ty : TypeId), Ext wr w3 → TrV w3 (fun b => wr.heap.size ≤ b) x (ndV x.d s' K') → ∃ AV' cv' w4,
      (Builtin.append_ #[27, 27] ty #[.slice AV l.length cv, .slice (some ⟨w3.heap.size, 0, none⟩) 1 1]).run Tryz.prog (w3.alloc (.cells #[.int .i64 x.d.kind, .bool x.d.neg, s', .string x.d.name, .int .i64 x.d.exp, .int .i64 x.d.rel, .bool x.d.truth, .bool x.d.all, K'] 29)) = .ok (.slice AV' (l.length + 1) cv') w4 ∧
      w4.cell? ⟨gO, 8, none⟩ = some (.slice AV l.length cv) ∧ w4.frozen? ⟨gO, 8, none⟩ = false ∧ Grow w g1 g2 gO base d dO s K sO (l ++ [x]) (w4.setCell ⟨gO, 8, none⟩ (.slice AV' (l.length + 1) cv')) := by
  obtain ⟨⟨a1, a2, a3, a4, a5, a6, a7, a8, a9⟩, hx, hb, hbx, hz, ov, hO, hn, hk⟩ := h
  obtain ⟨AV, cv, rfl, hc1, hc2⟩ := hk.len
  refine ⟨AV, cv, hO.1.2.2.2.2.2.2.2.2, hc1, hc2, ?_⟩
  intro w3 x s' K' ty h3 ht
  have hs3 := h3.size
  obtain ⟨v4, w4, hrun, hbe, hnat, hk4⟩ := hk.step h3 hb ht hlen ty
  obtain ⟨AV', cv', rfl, hc1', hc2'⟩ := hk4.len
  have el : (l ++ [x]).length = l.length + 1 := by simp
  rw [el] at hrun hk4
  have hblk : ∀ i, i < base → w4.heap[i]? = wr.heap[i]? := fun i hi => (hbe.block i hi).trans (h3.below.block i (by omega))
  have hO4 : Open9 w4 gO dO sO (.slice AV l.length cv) := hO.turn (hblk gO a6)
  have hs4 := hbe.size
  refine ⟨AV', cv', w4, hrun, hO4.1.2.2.2.2.2.2.2.2, hO4.2 8, ⟨a1, a2, a3, a4, a5, a6, a7, a8, a9⟩, ?_, ?_, ?_, ?_, _, hO4.set8 _, ?_, ?_⟩
  · exact Below.setCell ((hx.trans h3).below.trans (hbe.mono (by omega))) a3 _
  · simp; omega
  · exact hbx.turn ((Below.heap_setCell w4 _ _ g1 a7).trans (hblk g1 a4))
  · exact hz.turn ((Below.heap_setCell w4 _ _ g2 a8).trans (hblk g2 a5))
  · exact NatV.box (hnat _ _ (hn.ext h3)) hO4.1.2.2.2.2.2.2.2.2 rfl _
  · exact hk4.turn (by simp) (fun b hb' hlt => Below.heap_setCell w4 _ _ b (by show b ≠ gO; omega)) (fun v ds hv => hv.box hO4.1.2.2.2.2.2.2.2.2 rfl _)
/-- The tree is made: it is read out of its cells. -/
theorem Grow.fin {w : World} {g1 g2 gO base : Nat} {d dO : Nd} {s K sO : Value} {l : List Tr} {wr : World} (h : Grow w g1 g2 gO base d dO s K sO l wr) : ∃ AV cv, Box9 wr gO dO sO (.slice AV l.length cv) ∧ Zero9 wr g2 ∧
    RetNew (.mk dO l) w (.returned (ndV dO sO (.slice AV l.length cv))) (set9 wr g2 (.int .i64 dO.kind) (.bool dO.neg) sO (.string dO.name) (.int .i64 dO.exp) (.int .i64 dO.rel) (.bool dO.truth) (.bool dO.all) (.slice AV l.length cv)) := by
  obtain ⟨⟨a1, a2, a3, a4, a5, a6, a7, a8, a9⟩, hx, hb, hbx, hz, ov, hO, hn, hk⟩ := h
  obtain ⟨AV, cv, rfl, hc1, hc2⟩ := hk.len
  refine ⟨AV, cv, hO.1, hz, ndV dO sO (.slice AV l.length cv), rfl, ?_, set9_ext hx a2 _ _ _ _ _ _ _ _ _⟩
  obtain ⟨rs, rfl, h2, -, h3⟩ := hk
  have hown : ∀ R, (Value.slice AV (rs.map fun r => r.1).length cv).ownBlock = some R → base ≤ R ∧ R < wr.heap.size := fun R hR => World.ownsRow.lt h2 R hR
  have key : TrV wr (fun b => base ≤ b) (.mk dO (rs.map fun r => r.1)) (ndV dO sO (.slice AV (rs.map fun r => r.1).length cv)) := by
    refine TrV.mk (t := .mk dO (rs.map fun r => r.1)) hn hc1 hc2 (TrsAt.of _ _ _ fun i hi => ?_)
    have hi' : i < rs.length := by simpa [Tr.ks] using hi
    obtain ⟨hl, ⟨e0, h0⟩ | ⟨g, cap, cur, e, hbg, hg, -, -, hcs, htk⟩⟩ := h2
    · omega
    · injection e with e1 e2 e3
      subst e1
      have hel : (Tr.mk dO (rs.map fun r => r.1)).ks[i] = rs[i].1 := by simp [Tr.ks]
      rw [hel, Nat.zero_add]
      refine ⟨⟨g, 0, none⟩, rs[i].2.1, rs[i].2.2, rfl, (Array.getElem?_eq_some_iff.1 hg).1, hbg, ?_, (h3 rs[i] (List.getElem_mem hi')).mono (fun b hb => hb.2)⟩
      have hcell : ∀ j, j < 9 → wr.cell? ⟨g, i * 9 + j, none⟩ = (rowCells rs[i])[j]? := by
        intro j hj
        have hlt : i * 9 + j < rs.length * 9 := by omega
        rw [← flatR_get rs i hi' j hj, ← htk]
        simp only [World.cell?, hg, Option.isSome_none, Bool.false_eq_true, if_false]
        rw [List.getElem?_take_of_lt hlt, Array.getElem?_toList]
      rw [add_mk, Nat.zero_add]
      exact ⟨hcell 0 (by omega), hcell 1 (by omega), hcell 2 (by omega), hcell 3 (by omega), hcell 4 (by omega), hcell 5 (by omega), hcell 6 (by omega), hcell 7 (by omega), hcell 8 (by omega)⟩
  have hset := TrV.turn_ (q := fun b => w.heap.size ≤ b) (w' := set9 wr g2 (.int .i64 dO.kind) (.bool dO.neg) sO (.string dO.name) (.int .i64 dO.exp) (.int .i64 dO.rel) (.bool dO.truth) (.bool dO.all) (.slice AV (rs.map fun r => r.1).length cv)) (by rw [set9_size]; exact Nat.le_refl _) (fun v ds hv => natV_set9 hz hv) (fun b _ hp => ⟨by omega, by rw [set9_cells]; exact block_setCells (by omega) _ _ _⟩) key
  exact hset
end Go.Proofs.YtofbfplpbffpfaaGreat

/- Reference 34: Canon. -/
namespace Go.Proofs.YtofbfplpbffpfaaGreat
open Go.RowKit

/-- What a canonical tree has beside its kids. -/
def Nd.canon (d : Nd) : Nd :=
  if d.kind = 1 then { nd0 with kind := 1, neg := decide (sgn d.neg (val d.ds) < 0), ds := dg (sgn d.neg (val d.ds)).natAbs }
  else if d.kind = 2 then { nd0 with kind := 2, name := d.name }
  else if d.kind = 7 then { nd0 with kind := 7, exp := d.exp }
  else if d.kind = 8 then { nd0 with kind := 8, truth := d.truth }
  else if d.kind = 9 then { nd0 with kind := 9, rel := d.rel }
  else if d.kind = 15 then { nd0 with kind := 15, name := d.name, all := d.all }
  else { nd0 with kind := d.kind }
mutual
def Tr.canon : Tr → Tr
  | .mk d ks => .mk d.canon (canonL ks)
def canonL : List Tr → List Tr
  | [] => []
  | t :: r => t.canon :: canonL r
end
theorem canonL_map (l : List Tr) : canonL l = l.map Tr.canon := by
  induction l with
  | nil => rfl
  | cons t r ih => rw [canonL, ih]; rfl
theorem Tr.canon_eq (t : Tr) : t.canon = .mk t.d.canon (t.ks.map Tr.canon) := by
  cases t with
  | mk d ks => rw [Tr.canon, canonL_map]; rfl
/-- What lies ready behind the kinds. -/
def CanR (w : World) (d : Nd) (s K : Value) (wc : World) : Prop := ∃ A1 n1 c1, Grow w w.heap.size (w.heap.size + 1) (w.heap.size + 1 + 1) (w.heap.size + 1 + 1 + 1) d d.canon s K (.slice A1 n1 c1) [] wc
theorem CanR.mk {w W W' : World} {d : Nd} {s K : Value} (hx : Ext w W') (hs : w.heap.size + 1 + 1 + 1 ≤ W'.heap.size) (hbx : Box9 W w.heap.size d s K) (hz : Zero9 W (w.heap.size + 1)) (hblk : ∀ i, i < w.heap.size + 1 + 1 → W'.heap[i]? = W.heap[i]?) {A1 : Option Addr} {n1 c1 : Nat} (hO : Open9 W' (w.heap.size + 1 + 1) d.canon (.slice A1 n1 c1) (.slice none 0 0)) (hn : NatV W' (.slice A1 n1 c1) d.canon.ds) : CanR w d s K W' :=
  ⟨A1, n1, c1, ⟨by omega, by omega, by omega, by omega, by omega, by omega, by omega, by omega, by omega⟩, hx, hs, hbx.turn (hblk _ (by omega)), hz.turn (hblk _ (by omega)), _, hO, hn, KidsV.nil _ _⟩
theorem Open9.set3 {w : World} {g : Nat} {d : Nd} {s K : Value} (h : Open9 w g d s K) (x : ByteArray) : Open9 (w.setCell ⟨g, 3, none⟩ (.string x)) g { d with name := x } s K := by
  obtain ⟨⟨h0, h1, h2, h3, h4, h5, h6, h7, h8⟩, hf⟩ := h
  have o : ∀ i, i ≠ 3 → (w.setCell ⟨g, 3, none⟩ (.string x)).cell? ⟨g, i, none⟩ = w.cell? ⟨g, i, none⟩ := fun i hi => World.cell?_setCell_other _ _ _ _ (by intro e; injection e; omega)
  exact ⟨⟨(o 0 (by omega)).trans h0, (o 1 (by omega)).trans h1, (o 2 (by omega)).trans h2, World.cell?_setCell_same _ _ _ h3, (o 4 (by omega)).trans h4, (o 5 (by omega)).trans h5, (o 6 (by omega)).trans h6, (o 7 (by omega)).trans h7, (o 8 (by omega)).trans h8⟩, fun i => by simpa [go_sem] using hf i⟩
theorem Open9.set4 {w : World} {g : Nat} {d : Nd} {s K : Value} (h : Open9 w g d s K) (x : Int) : Open9 (w.setCell ⟨g, 4, none⟩ (.int .i64 x)) g { d with exp := x } s K := by
  obtain ⟨⟨h0, h1, h2, h3, h4, h5, h6, h7, h8⟩, hf⟩ := h
  have o : ∀ i, i ≠ 4 → (w.setCell ⟨g, 4, none⟩ (.int .i64 x)).cell? ⟨g, i, none⟩ = w.cell? ⟨g, i, none⟩ := fun i hi => World.cell?_setCell_other _ _ _ _ (by intro e; injection e; omega)
  exact ⟨⟨(o 0 (by omega)).trans h0, (o 1 (by omega)).trans h1, (o 2 (by omega)).trans h2, (o 3 (by omega)).trans h3, World.cell?_setCell_same _ _ _ h4, (o 5 (by omega)).trans h5, (o 6 (by omega)).trans h6, (o 7 (by omega)).trans h7, (o 8 (by omega)).trans h8⟩, fun i => by simpa [go_sem] using hf i⟩
theorem Open9.set5 {w : World} {g : Nat} {d : Nd} {s K : Value} (h : Open9 w g d s K) (x : Int) : Open9 (w.setCell ⟨g, 5, none⟩ (.int .i64 x)) g { d with rel := x } s K := by
  obtain ⟨⟨h0, h1, h2, h3, h4, h5, h6, h7, h8⟩, hf⟩ := h
  have o : ∀ i, i ≠ 5 → (w.setCell ⟨g, 5, none⟩ (.int .i64 x)).cell? ⟨g, i, none⟩ = w.cell? ⟨g, i, none⟩ := fun i hi => World.cell?_setCell_other _ _ _ _ (by intro e; injection e; omega)
  exact ⟨⟨(o 0 (by omega)).trans h0, (o 1 (by omega)).trans h1, (o 2 (by omega)).trans h2, (o 3 (by omega)).trans h3, (o 4 (by omega)).trans h4, World.cell?_setCell_same _ _ _ h5, (o 6 (by omega)).trans h6, (o 7 (by omega)).trans h7, (o 8 (by omega)).trans h8⟩, fun i => by simpa [go_sem] using hf i⟩
theorem Open9.set6 {w : World} {g : Nat} {d : Nd} {s K : Value} (h : Open9 w g d s K) (x : Bool) : Open9 (w.setCell ⟨g, 6, none⟩ (.bool x)) g { d with truth := x } s K := by
  obtain ⟨⟨h0, h1, h2, h3, h4, h5, h6, h7, h8⟩, hf⟩ := h
  have o : ∀ i, i ≠ 6 → (w.setCell ⟨g, 6, none⟩ (.bool x)).cell? ⟨g, i, none⟩ = w.cell? ⟨g, i, none⟩ := fun i hi => World.cell?_setCell_other _ _ _ _ (by intro e; injection e; omega)
  exact ⟨⟨(o 0 (by omega)).trans h0, (o 1 (by omega)).trans h1, (o 2 (by omega)).trans h2, (o 3 (by omega)).trans h3, (o 4 (by omega)).trans h4, (o 5 (by omega)).trans h5, World.cell?_setCell_same _ _ _ h6, (o 7 (by omega)).trans h7, (o 8 (by omega)).trans h8⟩, fun i => by simpa [go_sem] using hf i⟩
theorem Open9.set7 {w : World} {g : Nat} {d : Nd} {s K : Value} (h : Open9 w g d s K) (x : Bool) : Open9 (w.setCell ⟨g, 7, none⟩ (.bool x)) g { d with all := x } s K := by
  obtain ⟨⟨h0, h1, h2, h3, h4, h5, h6, h7, h8⟩, hf⟩ := h
  have o : ∀ i, i ≠ 7 → (w.setCell ⟨g, 7, none⟩ (.bool x)).cell? ⟨g, i, none⟩ = w.cell? ⟨g, i, none⟩ := fun i hi => World.cell?_setCell_other _ _ _ _ (by intro e; injection e; omega)
  exact ⟨⟨(o 0 (by omega)).trans h0, (o 1 (by omega)).trans h1, (o 2 (by omega)).trans h2, (o 3 (by omega)).trans h3, (o 4 (by omega)).trans h4, (o 5 (by omega)).trans h5, (o 6 (by omega)).trans h6, World.cell?_setCell_same _ _ _ h7, (o 8 (by omega)).trans h8⟩, fun i => by simpa [go_sem] using hf i⟩
theorem trsSz_len (l : List Tr) : l.length ≤ trsSz l := by
  induction l with
  | nil => simp
  | cons t r ih => rw [trsSz, List.length_cons]; have := t.sz_pos; omega
def CanonIH (w0 : World) (p : Nat → Prop) (n : Nat) : Prop := ∀ (t : Tr) (v : Value) (w : World), t.sz < n → t.sz ≤ 1000000 → TrV w0 p t v → Ext w0 w → (∀ x ∈ t.list, x.d.ds.length ≤ 1000) → Calls Tryz.prog 52 #[v] w (RetNew t.canon w)

set_option maxRecDepth 100000 in
set_option maxHeartbeats 8000000 in
theorem canon_ih (w0 : World) (p : Nat → Prop) (n : Nat) : CanonIH w0 p n := by
  induction n with
  | zero => intro t v w h; omega
  | succ n ih =>
  intro t v w hn hbig h hx0 hds
  have hkl : t.ks.length ≤ 1000000 := by have := trsSz_len t.ks; have := t.sz_ks; omega
  have IH := Lib.hid ih
  have HSZ := Lib.hid (fun k hk => t.kid_sz k hk)
  have HDS := Lib.hid hds
  have HX0 := Lib.hid hx0
  obtain ⟨A0, n0, c0, A, c, rfl, hnat, hl1, hl2, h4⟩ := h.open_
  have HNAT := Lib.hid hnat
  have H4 := Lib.hid h4
  clear h ih h4 hnat hds hx0
  unfold ndV
  rw [Tr.canon_eq]
  go_enter Tryz.func52, Tryz.ntmps52
  go_upto_block 0 with fail
  generalize hW : ((w.alloc (.cells #[.int .i64 t.d.kind, .bool t.d.neg, .slice A0 n0 c0, .string t.d.name, .int .i64 t.d.exp, .int .i64 t.d.rel, .bool t.d.truth, .bool t.d.all, .slice A t.ks.length c] 29)).alloc (.cells #[.int .i64 0, .bool false, .slice none 0 0, .string ⟨#[]⟩, .int .i64 0, .int .i64 0, .bool false, .bool false, .slice none 0 0] 29)).alloc (.cells #[.int .i64 t.d.kind, .bool false, .slice none 0 0, .string ⟨#[]⟩, .int .i64 0, .int .i64 0, .bool false, .bool false, .slice none 0 0] 29) = W
  have hWx : Ext w W := by rw [← hW]; exact (((Ext.refl w).alloc _).alloc _).alloc _
  have hWs : W.heap.size = w.heap.size + 1 + 1 + 1 := by rw [← hW]; simp
  have hbx : Box9 W w.heap.size t.d (.slice A0 n0 c0) (.slice A t.ks.length c) := by
    rw [← hW]; exact (Box9.new w t.d _ _ _).ext (((Ext.refl _).alloc _).alloc _) (by simp)
  have hz : Zero9 W (w.heap.size + 1) := by
    have := zero9_new (w.alloc (.cells #[.int .i64 t.d.kind, .bool t.d.neg, .slice A0 n0 c0, .string t.d.name, .int .i64 t.d.exp, .int .i64 t.d.rel, .bool t.d.truth, .bool t.d.all, .slice A t.ks.length c] 29)) 29
    rw [World.size_alloc] at this
    rw [← hW]; exact this.ext ((Ext.refl _).alloc _) (by simp)
  have hob : Open9 W (w.heap.size + 1 + 1) { nd0 with kind := t.d.kind } (.slice none 0 0) (.slice none 0 0) := by
    rw [← hW]
    refine ⟨⟨?_, ?_, ?_, ?_, ?_, ?_, ?_, ?_, ?_⟩, fun i => ?_⟩ <;> simp [go_sem] <;> rfl
  clear hW
  have hblk1 : ∀ (j : Nat) (u : Value) i, i < w.heap.size + 1 + 1 → (W.setCell ⟨w.heap.size + 1 + 1, j, none⟩ u).heap[i]? = W.heap[i]? := fun j u i hi => Below.heap_setCell W _ _ i (by show i ≠ w.heap.size + 1 + 1; omega)
  have HB1 := Lib.hid hblk1
  have HBX := Lib.hid hbx
  have HZ := Lib.hid hz
  have HOB := Lib.hid hob
  have HWX := Lib.hid hWx
  clear hblk1 hWx
  obtain ⟨b0, b1, b2, b3, b4, b5, b6, b7, b8⟩ := id hbx
  obtain ⟨⟨o0, o1, o2, o3, o4, o5, o6, o7, o8⟩, of⟩ := id hob
  clear hbx hz hob
  go_cut [] from 10 to 43 (fun wc => Hid (CanR w t.d (.slice A0 n0 c0) (.slice A t.ks.length c) wc))
  case first =>
    by_cases k1 : t.d.kind = 1
    · have q1 : (t.d.kind == 1) = true := by simpa using k1
      have HCN : Hid (t.d.canon = { nd0 with kind := 1, neg := decide (sgn t.d.neg (val t.d.ds) < 0), ds := dg (sgn t.d.neg (val t.d.ds)).natAbs }) := by
        have : t.d.canon = { nd0 with kind := 1, neg := decide (sgn t.d.neg (val t.d.ds) < 0), ds := dg (sgn t.d.neg (val t.d.ds)).natAbs } := if_pos k1
        exact this
      have HK1 := Lib.hid k1
      have HRI := Lib.hid (refInt_any t.d.neg _ t.d.ds W (HNAT.out.ext (HX0.out.trans HWX.out)) (by have := HDS.out t (by cases t; simp [Tr.list]); omega))
      clear k1
      go_wp2_with fail
      refine HRI.out.mono ?_
      rintro e w2 ⟨v2, rfl, n2, x2⟩
      generalize sgn t.d.neg (val t.d.ds) = z at *
      have N2 := Lib.hid n2
      obtain ⟨A1, c1, rfl, -⟩ := n2
      have X2 := Lib.hid x2
      obtain ⟨⟨p0, p1, p2, p3, p4, p5, p6, p7, p8⟩, pf⟩ := HOB.out.ext x2 (by omega)
      have HF : Hid (CanR w t.d (.slice A0 n0 c0) (.slice A t.ks.length c) ((w2.setCell ⟨w.heap.size + 1 + 1, 1, none⟩ (.bool (decide (z < 0)))).setCell ⟨w.heap.size + 1 + 1, 2, none⟩ (.slice A1 (dg z.natAbs).length c1))) := by
        have hs2 := X2.out.size
        have j2 : (w2.setCell ⟨w.heap.size + 1 + 1, 1, none⟩ (.bool (decide (z < 0)))).cell? ⟨w.heap.size + 1 + 1, 2, none⟩ = some (.slice none 0 0) := by rw [World.cell?_setCell_other _ _ _ _ (by simp)]; exact p2
        have far : ∀ i, i ≠ 1 → i ≠ 2 → ((w2.setCell ⟨w.heap.size + 1 + 1, 1, none⟩ (.bool (decide (z < 0)))).setCell ⟨w.heap.size + 1 + 1, 2, none⟩ (.slice A1 (dg z.natAbs).length c1)).cell? ⟨w.heap.size + 1 + 1, i, none⟩ = w2.cell? ⟨w.heap.size + 1 + 1, i, none⟩ := fun i h1 h2 => by rw [World.cell?_setCell_other _ _ _ _ (by intro e; injection e; omega), World.cell?_setCell_other _ _ _ _ (by intro e; injection e; omega)]
        refine CanR.mk (W := W) (A1 := A1) (n1 := (dg z.natAbs).length) (c1 := c1) (((HWX.out.trans X2.out).setCell (by show w.heap.size ≤ w.heap.size + 1 + 1; omega) _).setCell (by show w.heap.size ≤ w.heap.size + 1 + 1; omega) _) (by simp; omega) HBX.out HZ.out (fun i hi => ?_) ?_ ?_
        · rw [Below.heap_setCell _ _ _ i (by show i ≠ w.heap.size + 1 + 1; omega), Below.heap_setCell _ _ _ i (by show i ≠ w.heap.size + 1 + 1; omega)]
          exact X2.out.below.block i (by omega)
        · rw [HCN.out]
          refine ⟨⟨by rw [far 0 (by omega) (by omega), p0, HK1.out], ?_, World.cell?_setCell_same _ _ _ j2, (far 3 (by omega) (by omega)).trans p3, (far 4 (by omega) (by omega)).trans p4, (far 5 (by omega) (by omega)).trans p5, (far 6 (by omega) (by omega)).trans p6, (far 7 (by omega) (by omega)).trans p7, (far 8 (by omega) (by omega)).trans p8⟩, fun i => by simpa [go_sem] using pf i⟩
          rw [World.cell?_setCell_other _ _ _ _ (by simp)]
          exact World.cell?_setCell_same _ _ _ p1
        · rw [HCN.out]
          exact (N2.out.box p1 rfl _).box j2 rfl _
      clear N2 x2 X2 HRI
      go_wp2_with fail
      go_meet
      exact HF
    · by_cases k2 : t.d.kind = 2
      · have HCN : Hid (t.d.canon = { nd0 with kind := 2, name := t.d.name }) := by
          have : t.d.canon = { nd0 with kind := 2, name := t.d.name } := by
            unfold Nd.canon
            rw [if_neg k1]
            rw [if_pos k2]
          exact this
        have HF : Hid (CanR w t.d (.slice A0 n0 c0) (.slice A t.ks.length c) (W.setCell ⟨w.heap.size + 1 + 1, 3, none⟩ (.string t.d.name))) := by
          refine CanR.mk (W := W) (A1 := none) (n1 := 0) (c1 := 0) (HWX.out.setCell (by show w.heap.size ≤ w.heap.size + 1 + 1; omega) _) (by simp; omega) HBX.out HZ.out (fun i hi => HB1.out _ _ i hi) ?_ ?_
          · rw [HCN.out]
            have h := (HOB.out).set3 t.d.name
            rw [k2] at h
            exact h
          · rw [HCN.out]
            exact NatV.nil _
        have q2 : (t.d.kind == 2) = true := by simpa using k2
        have q1 : (t.d.kind == 1) = false := by simpa using k1
        clear k1 k2
        go_wp2_with fail
        go_meet
        exact HF
      · by_cases k7 : t.d.kind = 7
        · have HCN : Hid (t.d.canon = { nd0 with kind := 7, exp := t.d.exp }) := by
            have : t.d.canon = { nd0 with kind := 7, exp := t.d.exp } := by
              unfold Nd.canon
              rw [if_neg k1]
              rw [if_neg k2]
              rw [if_pos k7]
            exact this
          have HF : Hid (CanR w t.d (.slice A0 n0 c0) (.slice A t.ks.length c) (W.setCell ⟨w.heap.size + 1 + 1, 4, none⟩ (.int .i64 t.d.exp))) := by
            refine CanR.mk (W := W) (A1 := none) (n1 := 0) (c1 := 0) (HWX.out.setCell (by show w.heap.size ≤ w.heap.size + 1 + 1; omega) _) (by simp; omega) HBX.out HZ.out (fun i hi => HB1.out _ _ i hi) ?_ ?_
            · rw [HCN.out]
              have h := (HOB.out).set4 t.d.exp
              rw [k7] at h
              exact h
            · rw [HCN.out]
              exact NatV.nil _
          have q7 : (t.d.kind == 7) = true := by simpa using k7
          have q1 : (t.d.kind == 1) = false := by simpa using k1
          have q2 : (t.d.kind == 2) = false := by simpa using k2
          clear k1 k2 k7
          go_wp2_with fail
          go_meet
          exact HF
        · by_cases k8 : t.d.kind = 8
          · have HCN : Hid (t.d.canon = { nd0 with kind := 8, truth := t.d.truth }) := by
              have : t.d.canon = { nd0 with kind := 8, truth := t.d.truth } := by
                unfold Nd.canon
                rw [if_neg k1]
                rw [if_neg k2]
                rw [if_neg k7]
                rw [if_pos k8]
              exact this
            have HF : Hid (CanR w t.d (.slice A0 n0 c0) (.slice A t.ks.length c) (W.setCell ⟨w.heap.size + 1 + 1, 6, none⟩ (.bool t.d.truth))) := by
              refine CanR.mk (W := W) (A1 := none) (n1 := 0) (c1 := 0) (HWX.out.setCell (by show w.heap.size ≤ w.heap.size + 1 + 1; omega) _) (by simp; omega) HBX.out HZ.out (fun i hi => HB1.out _ _ i hi) ?_ ?_
              · rw [HCN.out]
                have h := (HOB.out).set6 t.d.truth
                rw [k8] at h
                exact h
              · rw [HCN.out]
                exact NatV.nil _
            have q8 : (t.d.kind == 8) = true := by simpa using k8
            have q1 : (t.d.kind == 1) = false := by simpa using k1
            have q2 : (t.d.kind == 2) = false := by simpa using k2
            have q7 : (t.d.kind == 7) = false := by simpa using k7
            clear k1 k2 k7 k8
            go_wp2_with fail
            go_meet
            exact HF
          · by_cases k9 : t.d.kind = 9
            · have HCN : Hid (t.d.canon = { nd0 with kind := 9, rel := t.d.rel }) := by
                have : t.d.canon = { nd0 with kind := 9, rel := t.d.rel } := by
                  unfold Nd.canon
                  rw [if_neg k1]
                  rw [if_neg k2]
                  rw [if_neg k7]
                  rw [if_neg k8]
                  rw [if_pos k9]
                exact this
              have HF : Hid (CanR w t.d (.slice A0 n0 c0) (.slice A t.ks.length c) (W.setCell ⟨w.heap.size + 1 + 1, 5, none⟩ (.int .i64 t.d.rel))) := by
                refine CanR.mk (W := W) (A1 := none) (n1 := 0) (c1 := 0) (HWX.out.setCell (by show w.heap.size ≤ w.heap.size + 1 + 1; omega) _) (by simp; omega) HBX.out HZ.out (fun i hi => HB1.out _ _ i hi) ?_ ?_
                · rw [HCN.out]
                  have h := (HOB.out).set5 t.d.rel
                  rw [k9] at h
                  exact h
                · rw [HCN.out]
                  exact NatV.nil _
              have q9 : (t.d.kind == 9) = true := by simpa using k9
              have q1 : (t.d.kind == 1) = false := by simpa using k1
              have q2 : (t.d.kind == 2) = false := by simpa using k2
              have q7 : (t.d.kind == 7) = false := by simpa using k7
              have q8 : (t.d.kind == 8) = false := by simpa using k8
              clear k1 k2 k7 k8 k9
              go_wp2_with fail
              go_meet
              exact HF
            · by_cases k15 : t.d.kind = 15
              · have HCN : Hid (t.d.canon = { nd0 with kind := 15, name := t.d.name, all := t.d.all }) := by
                  have : t.d.canon = { nd0 with kind := 15, name := t.d.name, all := t.d.all } := by
                    unfold Nd.canon
                    rw [if_neg k1]
                    rw [if_neg k2]
                    rw [if_neg k7]
                    rw [if_neg k8]
                    rw [if_neg k9]
                    rw [if_pos k15]
                  exact this
                have HF : Hid (CanR w t.d (.slice A0 n0 c0) (.slice A t.ks.length c) ((W.setCell ⟨w.heap.size + 1 + 1, 7, none⟩ (.bool t.d.all)).setCell ⟨w.heap.size + 1 + 1, 3, none⟩ (.string t.d.name))) := by
                  refine CanR.mk (W := W) (A1 := none) (n1 := 0) (c1 := 0) ((HWX.out.setCell (by show w.heap.size ≤ w.heap.size + 1 + 1; omega) _).setCell (by show w.heap.size ≤ w.heap.size + 1 + 1; omega) _) (by simp; omega) HBX.out HZ.out (fun i hi => (Below.heap_setCell _ _ _ i (by show i ≠ w.heap.size + 1 + 1; omega)).trans (HB1.out _ _ i hi)) ?_ ?_
                  · rw [HCN.out]
                    have h := ((HOB.out).set7 t.d.all).set3 t.d.name
                    rw [k15] at h
                    exact h
                  · rw [HCN.out]
                    exact NatV.nil _
                have q15 : (t.d.kind == 15) = true := by simpa using k15
                have q1 : (t.d.kind == 1) = false := by simpa using k1
                have q2 : (t.d.kind == 2) = false := by simpa using k2
                have q7 : (t.d.kind == 7) = false := by simpa using k7
                have q8 : (t.d.kind == 8) = false := by simpa using k8
                have q9 : (t.d.kind == 9) = false := by simpa using k9
                clear k1 k2 k7 k8 k9 k15
                go_wp2_with fail
                go_meet
                exact HF
              · have HCN : Hid (t.d.canon = { nd0 with kind := t.d.kind }) := by
                  have : t.d.canon = { nd0 with kind := t.d.kind } := by
                    unfold Nd.canon
                    rw [if_neg k1]
                    rw [if_neg k2]
                    rw [if_neg k7]
                    rw [if_neg k8]
                    rw [if_neg k9]
                    rw [if_neg k15]
                  exact this
                have HF : Hid (CanR w t.d (.slice A0 n0 c0) (.slice A t.ks.length c) W) := by
                  refine CanR.mk (W := W) (A1 := none) (n1 := 0) (c1 := 0) HWX.out (by omega) HBX.out HZ.out (fun i hi => rfl) ?_ ?_
                  · rw [HCN.out]
                    exact HOB.out
                  · rw [HCN.out]
                    exact NatV.nil _
                have q1 : (t.d.kind == 1) = false := by simpa using k1
                have q2 : (t.d.kind == 2) = false := by simpa using k2
                have q7 : (t.d.kind == 7) = false := by simpa using k7
                have q8 : (t.d.kind == 8) = false := by simpa using k8
                have q9 : (t.d.kind == 9) = false := by simpa using k9
                have q15 : (t.d.kind == 15) = false := by simpa using k15
                clear k1 k2 k7 k8 k9 k15
                go_wp2_with fail
                go_meet
                exact HF
  case rest =>
    clear HBX HZ HOB HWX HB1 b0 b1 b2 b3 b4 b5 b6 b7 b8 o0 o1 o2 o3 o4 o5 o6 o7 o8 of hWs
    obtain ⟨A1, n1, c1, hgr⟩ := hcut.out
    clear hcut
    generalize t.d.canon = dc at *
    have HG0 := Lib.hid hgr
    have b8 : wc.cell? ⟨w.heap.size, 8, none⟩ = some (.slice A t.ks.length c) := hgr.2.2.2.1.2.2.2.2.2.2.2.2
    clear hgr
    go_wp2_with fail
    clear b8
    go_loopw [47] (fun iv wr => ∃ k : Nat, k ≤ t.ks.length ∧ iv = .int .i64 k ∧ Hid (Grow w w.heap.size (w.heap.size + 1) (w.heap.size + 1 + 1) (w.heap.size + 1 + 1 + 1) t.d dc (.slice A0 n0 c0) (.slice A t.ks.length c) (.slice A1 n1 c1) ((t.ks.take k).map Tr.canon) wr)) (fun iv _ => t.ks.length - (intOf iv).toNat)
    case atStart => exact ⟨0, Nat.zero_le _, rfl, HG0⟩
    case round =>
      obtain ⟨k, hk, rfl, HG⟩ := hrel
      by_cases hlt : k < t.ks.length
      · have hln : ((t.ks.take k).map Tr.canon).length = k := by rw [List.length_map, List.length_take]; omega
        obtain ⟨AV, cv, hv8, hcv1, hcv2, hnext⟩ := HG.out.step (by omega)
        rw [hln] at hv8 hcv1 hnext
        obtain ⟨⟨-, -, -, -, -, -, -, -, -⟩, hxw, hbs, hbx, -⟩ := HG.out
        obtain ⟨ad, B0, m0, d0, B1, m1, d1, hA, hadb, hnd, hkt⟩ := TrsAt.kid H4.out k hlt
        subst hA
        have hx0 : Ext w0 wr := HX0.out.trans hxw
        obtain ⟨e0, e1, e2, e3, e4, e5, e6, e7, e8⟩ := hnd.ext hx0 (by rw [block_of_add]; exact hadb)
        have b8 : wr.cell? ⟨w.heap.size, 8, none⟩ = some (.slice (some ad) t.ks.length c) := hbx.2.2.2.2.2.2.2.2
        have hsz := HSZ.out k hlt
        have HC : Hid (Calls Tryz.prog 52 #[.agg #[.int .i64 t.ks[k].d.kind, .bool t.ks[k].d.neg, .slice B0 m0 d0, .string t.ks[k].d.name, .int .i64 t.ks[k].d.exp, .int .i64 t.ks[k].d.rel, .bool t.ks[k].d.truth, .bool t.ks[k].d.all, .slice B1 m1 d1]] wr.drew (RetNew t.ks[k].canon wr.drew)) :=
          IH.out t.ks[k] _ wr.drew (by omega) (by omega) hkt hx0.drew (fun x hx => HDS.out x (list_kid (List.getElem_mem hlt) hx))
        have HNEXT := Lib.hid hnext
        have HTK : Hid ((t.ks.take (k + 1)).map Tr.canon = (t.ks.take k).map Tr.canon ++ [t.ks[k].canon]) := by
          have : (t.ks.take (k + 1)).map Tr.canon = (t.ks.take k).map Tr.canon ++ [t.ks[k].canon] := by rw [List.take_succ_eq_append_getElem hlt, List.map_append]; rfl
          exact this
        clear hnext hxw hbx hx0 hnd hkt hadb hsz hln
        generalize t.ks[k].canon = tk at *
        go_upto_region 19 with fail
        go_region_law (first
          | (go_simp
             go_at_call 52
             refine HC.out.mono ?_
             rintro e w3 ⟨v3, rfl, t3, x3⟩
             have y3 : Ext wr w3 := Ext.trans ((Ext.refl wr).drew) x3
             obtain ⟨C0, j0, f0, C1, f1, rfl, -⟩ := id t3.open_
             obtain ⟨AV', cv', w4, hrun, h8, hf8, hgn⟩ := HNEXT.out w3 _ _ _ 27 y3 t3
             have HGN := Lib.hid hgn
             have g8 : w3.cell? ⟨w.heap.size + 1 + 1, 8, none⟩ = some (.slice AV k cv) := (y3.cell (p := ⟨w.heap.size + 1 + 1, 8, none⟩) (by show w.heap.size + 1 + 1 < _; omega)).trans hv8
             have hs3 : w.heap.size + 1 + 1 < w3.heap.size := by have := y3.size; omega
             unfold ndV
             clear hgn t3 x3 y3)
          | (refine step_append_run rfl (.tmp 51) (.tmp 58) 27 27 rfl _ _ _ _ (by simp [Act.eval, Act.put]) (by simp [Act.eval, Act.put]) hrun ?_))
        all_goals
          have hgn2 := HGN.out
          rw [← HTK.out] at hgn2
          have HN := Lib.hid hgn2
          clear hgn2 HGN hrun h8 hf8 g8 hs3 HNEXT HC HTK
          go_wp2_with fail
          go_roundw
          case rel => exact ⟨k + 1, by omega, by go_num, HN⟩
          case measure => simp [intOf]; omega
      · have hke : k = t.ks.length := by omega
        subst hke
        have hg := HG.out
        rw [List.take_length] at hg
        obtain ⟨AV, cv, ⟨x0, x1, x2, x3, x4, x5, x6, x7, x8⟩, ⟨⟨r0, r1, r2, r3, r4, r5, r6, r7, r8⟩, rf⟩, hf⟩ := hg.fin
        have hlm : (t.ks.map Tr.canon).length = t.ks.length := List.length_map _
        rw [hlm] at hf x8
        have HF := Lib.hid hf
        clear hf hg HG HG0 hlm
        go_wp2_with fail
        exact bodyPost_ret (v := ndV dc (.slice A1 n1 c1) (.slice AV t.ks.length cv)) (by simp [results, Tryz.results52, go_sem, r0, r1, r2, r3, r4, r5, r6, r7, r8, ndV]) rfl HF.out
theorem canon_any {w : World} {p : Nat → Prop} (t : Tr) (v : Value) (hbig : t.sz ≤ 1000000) (h : TrV w p t v) (hds : ∀ x ∈ t.list, x.d.ds.length ≤ 1000) : Calls Tryz.prog 52 #[v] w (RetNew t.canon w) :=
  canon_ih w p (t.sz + 1) t v w (Nat.lt_succ_self _) hbig h (Ext.refl w) hds
end Go.Proofs.YtofbfplpbffpfaaGreat
