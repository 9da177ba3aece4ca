/- Layer 38: matrices as values. -/
import Derived.Test.YtdcapcpchcnidaaGreatMm38
import Derived.Test.YtdcapcpchcnidaaGreatMm39

namespace Go.Proofs.YtdcapcpchcnidaaGreat
open Go.RowKit

/-- A matrix: kind, relation, polynomial, parts. -/
inductive Mx where
  | mk (kind rel : Int) (p : Pl) (ks : List Mx)
def Mx.kind : Mx → Int
  | .mk k _ _ _ => k
def Mx.rel : Mx → Int
  | .mk _ r _ _ => r
def Mx.p : Mx → Pl
  | .mk _ _ p _ => p
def Mx.ks : Mx → List Mx
  | .mk _ _ _ ks => ks
/-- The value of a matrix. -/
def mxV (m : Mx) (s A K : Value) : Value := .agg #[.int .i64 m.kind, .int .i64 m.rel, .int .i64 m.p.lv, .bool m.p.neg, s, A, K]
/-- The cells of a matrix lie at ad. -/
def MxAt (w : World) (ad : Addr) (m : Mx) (s A K : Value) : Prop :=
  w.cell? ad = some (.int .i64 m.kind) ∧ w.cell? ⟨ad.block, ad.off + 1, none⟩ = some (.int .i64 m.rel) ∧ w.cell? ⟨ad.block, ad.off + 2, none⟩ = some (.int .i64 m.p.lv) ∧ w.cell? ⟨ad.block, ad.off + 3, none⟩ = some (.bool m.p.neg) ∧ w.cell? ⟨ad.block, ad.off + 4, none⟩ = some s ∧ w.cell? ⟨ad.block, ad.off + 5, none⟩ = some A ∧ w.cell? ⟨ad.block, ad.off + 6, none⟩ = some K
mutual
/-- v is a matrix whose parts and coefficients lie in blocks of q. -/
def MxV (w : World) (q : Nat → Prop) : Mx → Value → Prop
  | .mk k r p ks, v => ∃ s A K c, v = .agg #[.int .i64 k, .int .i64 r, .int .i64 p.lv, .bool p.neg, s, A, .slice K ks.length c] ∧ PlV w q p (plV p s A) ∧ ks.length ≤ c ∧ c ≤ 9223372036854775807 ∧ MxsAt w q ks K 0
def MxsAt (w : World) (q : Nat → Prop) : List Mx → Option Addr → Nat → Prop
  | [], _, _ => True
  | t :: r, A, j => (∃ ad s B K, A = some ad ∧ ad.block < w.heap.size ∧ q ad.block ∧ MxAt w (ad.add (j * 7)) t s B K ∧ MxV w q t (mxV t s B K)) ∧ MxsAt w q r A (j + 1)
end
section
variable {w w' : World} {p q : Nat → Prop}
theorem MxsAt.get_ (l : List Mx) : ∀ (A : Option Addr) (j : Nat), MxsAt w p l A j → ∀ i (h : i < l.length), ∃ ad s B K, A = some ad ∧ ad.block < w.heap.size ∧ p ad.block ∧ MxAt w (ad.add ((j + i) * 7)) l[i] s B K ∧ MxV w p l[i] (mxV l[i] s B K) := by
  induction l with
  | nil => intro A j h i hi; simp at hi
  | cons t r ih =>
    intro A j h i hi
    unfold MxsAt at h
    cases i with
    | zero => exact h.1
    | succ i =>
      have := ih A (j + 1) h.2 i (by simpa using hi)
      rw [show j + (i + 1) = j + 1 + i by omega]
      exact this
theorem MxsAt.of (l : List Mx) : ∀ (A : Option Addr) (j : Nat), (∀ i (h : i < l.length), ∃ ad s B K, A = some ad ∧ ad.block < w.heap.size ∧ p ad.block ∧ MxAt w (ad.add ((j + i) * 7)) l[i] s B K ∧ MxV w p l[i] (mxV l[i] s B K)) → MxsAt w p l A j := by
  induction l with
  | nil => intro A j h; unfold MxsAt; trivial
  | cons t r ih =>
    intro A j h
    unfold MxsAt
    refine ⟨h 0 (by simp), ih A (j + 1) fun i hi => ?_⟩
    have := h (i + 1) (by simpa using hi)
    rw [show j + (i + 1) = j + 1 + i by omega] at this
    exact this
theorem MxAt.same {ad : Addr} {t : Mx} {s A K : Value} (h : MxAt w ad t s A K) (k0 : w'.cell? ad = w.cell? ad) (k : ∀ n, n < 7 → w'.cell? ⟨ad.block, ad.off + n, none⟩ = w.cell? ⟨ad.block, ad.off + n, none⟩) : MxAt w' ad t s A K := by
  obtain ⟨h0, h1, h2, h3, h4, h5, h6⟩ := h
  exact ⟨k0.trans h0, (k 1 (by omega)).trans h1, (k 2 (by omega)).trans h2, (k 3 (by omega)).trans h3, (k 4 (by omega)).trans h4, (k 5 (by omega)).trans h5, (k 6 (by omega)).trans h6⟩
theorem MxAt.ext {ad : Addr} {t : Mx} {s A K : Value} (h : MxAt w ad t s A K) (hx : Ext w w') (hb : ad.block < w.heap.size) : MxAt w' ad t s A K := h.same (hx.cell hb) (fun n _ => hx.cell (p := ⟨ad.block, ad.off + n, none⟩) hb)
mutual
theorem MxV.turn (hs : w.heap.size ≤ w'.heap.size) (hn : ∀ v ds, NatV w v ds → NatV w' v ds) (hc : ∀ b, b < w.heap.size → p b → q b ∧ w'.heap[b]? = w.heap[b]?) : ∀ (t : Mx) (v : Value), MxV w p t v → MxV w' q t v
  | .mk k r pl ks, v, h => by
    unfold MxV at h ⊢
    obtain ⟨s, A, K, c, e, h1, h2, h3, h4⟩ := h
    exact ⟨s, A, K, c, e, PlV.turn_ hs hn hc h1, h2, h3, MxsAt.turn hs hn hc ks K 0 h4⟩
theorem MxsAt.turn (hs : w.heap.size ≤ w'.heap.size) (hn : ∀ v ds, NatV w v ds → NatV w' v ds) (hc : ∀ b, b < w.heap.size → p b → q b ∧ w'.heap[b]? = w.heap[b]?) : ∀ (l : List Mx) (A : Option Addr) (j : Nat), MxsAt w p l A j → MxsAt w' q l A j
  | [], A, j, h => by unfold MxsAt; trivial
  | t :: r, A, j, h => by
    unfold MxsAt at h ⊢
    obtain ⟨⟨ad, s, B, K, e, hb, hpb, h1, h2⟩, h3⟩ := h
    obtain ⟨hq, hk⟩ := hc _ hb hpb
    exact ⟨⟨ad, s, B, K, e, Nat.lt_of_lt_of_le hb hs, hq, h1.same (World.cell?_of_block (by rw [block_of_add]; exact hk)) (fun n _ => World.cell?_of_block (a := ⟨(ad.add (j * 7)).block, (ad.add (j * 7)).off + n, none⟩) (by show w'.heap[(ad.add (j * 7)).block]? = _; rw [block_of_add]; exact hk)), MxV.turn hs hn hc t _ h2⟩, MxsAt.turn hs hn hc r A (j + 1) h3⟩
end
theorem MxV.turn_ {t : Mx} {v : Value} (hs : w.heap.size ≤ w'.heap.size) (hn : ∀ v ds, NatV w v ds → NatV w' v ds) (hc : ∀ b, b < w.heap.size → p b → q b ∧ w'.heap[b]? = w.heap[b]?) (h : MxV w p t v) : MxV w' q t v := MxV.turn hs hn hc t v h
theorem MxV.ext {t : Mx} {v : Value} (h : MxV w p t v) (hx : Ext w w') : MxV w' p t v := MxV.turn hx.size (fun _ _ h => h.ext hx) (fun b hb hp => ⟨hp, hx.below.block b hb⟩) t v h
theorem MxsAt.ext {l : List Mx} {A : Option Addr} {j : Nat} (h : MxsAt w p l A j) (hx : Ext w w') : MxsAt w' p l A j := MxsAt.turn hx.size (fun _ _ h => h.ext hx) (fun b hb hp => ⟨hp, hx.below.block b hb⟩) l A j h
theorem MxV.mono {t : Mx} {v : Value} (h : MxV w p t v) (hp : ∀ b, p b → q b) : MxV w q t v := MxV.turn (Nat.le_refl _) (fun _ _ h => h) (fun b _ h => ⟨hp b h, rfl⟩) t v h
theorem MxV.open_ {t : Mx} {v : Value} (h : MxV w p t v) : ∃ A0 n0 c0 A n1 c1 K c, v = mxV t (.slice A0 n0 c0) (.slice A n1 c1) (.slice K t.ks.length c) ∧ PlV w p t.p (plV t.p (.slice A0 n0 c0) (.slice A n1 c1)) ∧ t.ks.length ≤ c ∧ c ≤ 9223372036854775807 ∧ MxsAt w p t.ks K 0 := by
  cases t with
  | mk k r pl ks =>
    unfold MxV at h
    obtain ⟨s, A, K, c, e, h1, h2, h3, h4⟩ := h
    obtain ⟨A0, n0, c0, A1, c1, e2, -, -⟩ := h1.open_
    unfold plV at e2
    simp only [Value.agg.injEq, Array.mk.injEq, List.cons.injEq, and_true, true_and] at e2
    obtain ⟨rfl, rfl⟩ := e2
    exact ⟨A0, n0, c0, A1, _, c1, K, c, e, h1, h2, h3, h4⟩
theorem MxV.mk {t : Mx} {s A : Value} {K : Option Addr} {c : Nat} (h1 : PlV w p t.p (plV t.p s A)) (h2 : t.ks.length ≤ c) (h3 : c ≤ 9223372036854775807) (h4 : MxsAt w p t.ks K 0) : MxV w p t (mxV t s A (.slice K t.ks.length c)) := by
  cases t with
  | mk k r pl ks => unfold MxV; exact ⟨s, A, K, c, rfl, h1, h2, h3, h4⟩
/-- The part at k, cell by cell. -/
theorem MxsAt.kid {l : List Mx} {A : Option Addr} (h : MxsAt w p l A 0) (k : Nat) (hk : k < l.length) : ∃ ad A0 n0 c0 A1 n1 c1 K n2 c2, A = some ad ∧ ad.block < w.heap.size ∧ MxAt w (ad.add (k * 7)) l[k] (.slice A0 n0 c0) (.slice A1 n1 c1) (.slice K n2 c2) ∧ MxV w p l[k] (mxV l[k] (.slice A0 n0 c0) (.slice A1 n1 c1) (.slice K n2 c2)) := by
  obtain ⟨ad, s, B, K, e, hb, -, h1, h2⟩ := MxsAt.get_ l A 0 h k hk
  rw [Nat.zero_add] at h1
  obtain ⟨A0, n0, c0, A1, n1, c1, K', c', e2, -, -⟩ := h2.open_
  unfold mxV at e2
  simp only [Value.agg.injEq, Array.mk.injEq, List.cons.injEq, and_true, true_and] at e2
  obtain ⟨rfl, rfl, rfl⟩ := e2
  exact ⟨ad, A0, n0, c0, A1, n1, c1, K', _, c', e, hb, h1, h2⟩
end
end Go.Proofs.YtdcapcpchcnidaaGreat

/- Reference 38: room, Few: how many nodes a matrix has, up to a limit, and that its polynomials are small. -/
namespace Go.Proofs.YtdcapcpchcnidaaGreat
open Go.RowKit

mutual
/-- What is left of n when a matrix, at most so deep, is counted; negative if it is too great. -/
def Mx.room : Mx → Int → Nat → Int
  | .mk _ _ p ks, n, deep => match deep with
    | 0 => -1
    | d + 1 => if p.few 40 4 = true then roomM ks (n - 1) d else -1
def roomM : List Mx → Int → Nat → Int
  | [], n, _ => n
  | t :: r, n, d => if n < 0 then -1 else roomM r (t.room n d) d
end
mutual
theorem Mx.room_bd : ∀ (t : Mx) (n : Int) (d : Nat), 0 ≤ n → -1 ≤ t.room n d ∧ t.room n d ≤ n
  | .mk _ _ p ks, n, deep, h => by
    cases deep with
    | zero => simp only [Mx.room]; omega
    | succ d =>
      simp only [Mx.room]
      split
      · have := roomM_bd ks (n - 1) d (by omega); omega
      · omega
theorem roomM_bd : ∀ (l : List Mx) (n : Int) (d : Nat), -1 ≤ n → -1 ≤ roomM l n d ∧ roomM l n d ≤ n
  | [], n, d, h => by simp only [roomM]; omega
  | t :: r, n, d, h => by
    simp only [roomM]
    split
    · omega
    · have h1 := Mx.room_bd t n d (by omega)
      have h2 := roomM_bd r (t.room n d) d h1.1
      omega
end
theorem roomM_neg (l : List Mx) (d : Nat) : roomM l (-1) d = -1 := by cases l <;> simp [roomM]
theorem roomM_append (l r : List Mx) (n : Int) (d : Nat) (hn : -1 ≤ n) : roomM (l ++ r) n d = roomM r (roomM l n d) d := by
  induction l generalizing n with
  | nil => simp [roomM]
  | cons t l ih =>
    simp only [List.cons_append, roomM]
    split
    · rw [roomM_neg]
    · exact ih _ (Mx.room_bd t n d (by omega)).1
theorem roomM_take (l : List Mx) (k : Nat) (hk : k < l.length) (n : Int) (d : Nat) (hn : -1 ≤ n) : roomM (l.take (k + 1)) n d = if roomM (l.take k) n d < 0 then -1 else (l[k]).room (roomM (l.take k) n d) d := by
  rw [List.take_succ_eq_append_getElem hk, roomM_append _ _ _ _ hn]
  simp [roomM]
theorem roomM_cut (l : List Mx) (k : Nat) (n : Int) (d : Nat) (hn : -1 ≤ n) (hk : k < l.length) (h : roomM (l.take k) n d < 0) : roomM l n d = -1 := by
  have h1 : l = l.take k ++ l.drop k := (List.take_append_drop k l).symm
  have hb := (roomM_bd (l.take k) n d hn).1
  have h2 : roomM (l.take k) n d = -1 := by omega
  rw [h1, roomM_append _ _ _ _ hn, h2, roomM_neg]
mutual
/-- How many nodes. -/
def Mx.sz : Mx → Nat
  | .mk _ _ _ ks => mxSz ks + 1
def mxSz : List Mx → Nat
  | [] => 0
  | t :: r => t.sz + mxSz r
end
mutual
/-- All polynomials are small. -/
def Mx.small : Mx → Prop
  | .mk _ _ p ks => (p.sz ≤ 40 ∧ p.dm ≤ 4) ∧ mxSmall ks
def mxSmall : List Mx → Prop
  | [] => True
  | t :: r => t.small ∧ mxSmall r
end
theorem mxSmall_mem {l : List Mx} {t : Mx} (h : mxSmall l) (ht : t ∈ l) : t.small := by
  induction l with
  | nil => cases ht
  | cons x r ih =>
    rw [mxSmall] at h
    rcases List.mem_cons.1 ht with rfl | ht
    · exact h.1
    · exact ih h.2 ht
theorem mxSz_mem {l : List Mx} {t : Mx} (h : t ∈ l) : t.sz ≤ mxSz l := by
  induction l with
  | nil => cases h
  | cons x r ih =>
    rcases List.mem_cons.1 h with rfl | h
    · rw [mxSz]; omega
    · have := ih h; rw [mxSz]; omega
theorem mxSz_len (l : List Mx) : l.length ≤ mxSz l := by
  induction l with
  | nil => exact Nat.le_refl _
  | cons x r ih => cases x; rw [mxSz, Mx.sz]; simp only [List.length_cons]; omega
theorem mxSz_append (a b : List Mx) : mxSz (a ++ b) = mxSz a + mxSz b := by
  induction a with
  | nil => simp [mxSz]
  | cons x r ih => simp only [List.cons_append, mxSz, ih]; omega
theorem mxSz_take (l : List Mx) (k : Nat) (hk : k < l.length) : mxSz (l.take (k + 1)) = mxSz (l.take k) + l[k].sz := by
  rw [List.take_succ_eq_append_getElem hk, mxSz_append]; simp [mxSz]
mutual
theorem Mx.room_sz : ∀ (t : Mx) (n : Int) (d : Nat), 0 ≤ n → 0 ≤ t.room n d → t.room n d = n - t.sz ∧ t.small
  | .mk _ _ p ks, n, deep, h, h' => by
    cases deep with
    | zero => simp only [Mx.room] at h'; omega
    | succ d =>
      simp only [Mx.room, Mx.sz, Mx.small] at h' ⊢
      split at h'
      · rename_i hc
        rw [if_pos hc]
        have h1 := roomM_sz ks (n - 1) d (by omega) h'
        exact ⟨by omega, Pl.few_le hc, h1.2⟩
      · omega
theorem roomM_sz : ∀ (l : List Mx) (n : Int) (d : Nat), -1 ≤ n → 0 ≤ roomM l n d → roomM l n d = n - mxSz l ∧ mxSmall l
  | [], n, d, h, h' => by simp only [roomM, mxSz, mxSmall]; exact ⟨by omega, trivial⟩
  | t :: r, n, d, h, h' => by
    simp only [roomM] at h' ⊢
    split at h'
    · omega
    · rename_i hn
      rw [if_neg hn]
      have hb := Mx.room_bd t n d (by omega)
      have h2 := roomM_sz r (t.room n d) d hb.1 h'
      have hb2 := roomM_bd r (t.room n d) d hb.1
      have h1 := Mx.room_sz t n d (by omega) (by omega)
      simp only [mxSz, mxSmall]
      exact ⟨by omega, h1.2, h2.2⟩
end
/-- cylinderref38.Few -/
def Mx.few (m : Mx) (n : Nat) : Bool := decide (0 ≤ m.room n 12)
theorem Mx.few_le {m : Mx} {n : Nat} (h : m.few n = true) : m.sz ≤ n ∧ m.small := by
  have h1 := Mx.room_sz m n 12 (by omega) (of_decide_eq_true h)
  have h2 := of_decide_eq_true h
  exact ⟨by omega, h1.2⟩
/-- The seven cells of a matrix's box. -/
def Box7 (w : World) (g : Nat) (m : Mx) (s A K : Value) : Prop :=
  w.cell? ⟨g, 0, none⟩ = some (.int .i64 m.kind) ∧ w.cell? ⟨g, 1, none⟩ = some (.int .i64 m.rel) ∧ w.cell? ⟨g, 2, none⟩ = some (.int .i64 m.p.lv) ∧ w.cell? ⟨g, 3, none⟩ = some (.bool m.p.neg) ∧ w.cell? ⟨g, 4, none⟩ = some s ∧ w.cell? ⟨g, 5, none⟩ = some A ∧ w.cell? ⟨g, 6, none⟩ = some K
theorem Box7.turn {w w' : World} {g : Nat} {m : Mx} {s A K : Value} (h : Box7 w g m s A K) (hb : w'.heap[g]? = w.heap[g]?) : Box7 w' g m s A K := by
  obtain ⟨h0, h1, h2, h3, h4, h5, h6⟩ := h
  have k : ∀ i, w'.cell? ⟨g, i, none⟩ = w.cell? ⟨g, i, none⟩ := fun i => World.cell?_of_block (a := ⟨g, i, none⟩) hb
  exact ⟨(k _).trans h0, (k _).trans h1, (k _).trans h2, (k _).trans h3, (k _).trans h4, (k _).trans h5, (k _).trans h6⟩
theorem Box7.ext {w w' : World} {g : Nat} {m : Mx} {s A K : Value} (h : Box7 w g m s A K) (hx : Ext w w') (hg : g < w.heap.size) : Box7 w' g m s A K := h.turn (hx.below.block g hg)
theorem Box7.new (w : World) (m : Mx) (s A K : Value) (T : TypeId) : Box7 (w.alloc (.cells #[.int .i64 m.kind, .int .i64 m.rel, .int .i64 m.p.lv, .bool m.p.neg, s, A, K] T)) w.heap.size m s A K := by
  refine ⟨?_, ?_, ?_, ?_, ?_, ?_, ?_⟩ <;> simp [go_sem]

set_option maxRecDepth 100000 in
set_option maxHeartbeats 1000000 in
theorem roomMx_ih {p : Nat → Prop} (dd : Nat) : ∀ (t : Mx) (v : Value) (w : World) (n : Int) (deep : Nat), deep < dd → MxV w p t v → 0 ≤ n → n ≤ 1000000 → deep ≤ 1000000 →
    Calls Tryz.prog 23 #[v, .int .i64 n, .int .i64 deep] w (RetI (t.room n deep) w) := by
  induction dd with
  | zero => intro t v w n deep h; omega
  | succ dd ih =>
  intro t v w n deep hdd h hn hn' hd'
  have IH := Lib.hid ih
  obtain ⟨A0, n0, c0, A, n1, c1, K, c, rfl, hp, hl1, hl2, h4⟩ := h.open_
  have HP := Lib.hid hp
  have H4 := Lib.hid h4
  clear h4 ih h hp
  unfold mxV
  cases deep with
  | zero =>
    obtain ⟨kd, rl, pl, ks⟩ := t
    show Calls _ _ _ _ (RetI (-1) w)
    go_enter Tryz.func23, Tryz.ntmps23
    go_wp2_with fail
    go_ret
    exact ⟨rfl, (Ext.refl w).alloc _⟩
  | succ deep =>
    have hde : (((deep + 1 : Nat) : Int) == 0) = false := by simp; omega
    have hroom : t.room n (deep + 1) = if t.p.few 40 4 = true then roomM t.ks (n - 1) deep else -1 := by cases t; rfl
    obtain ⟨dI, hdI⟩ : ∃ dI : Int, ((deep + 1 : Nat) : Int) = dI := ⟨_, rfl⟩
    rw [hdI] at hde ⊢
    have hdI1 : 1 ≤ dI := by omega
    have hdI2 : dI ≤ 1000000 := by omega
    have HDI : Hid (dI - 1 = (deep : Int)) := by
      have : dI - 1 = (deep : Int) := by omega
      exact this
    clear hdI
    obtain ⟨W, hW⟩ : ∃ W, w.alloc (.cells #[.int .i64 t.kind, .int .i64 t.rel, .int .i64 t.p.lv, .bool t.p.neg, .slice A0 n0 c0, .slice A n1 c1, .slice K t.ks.length c] 32) = W := ⟨_, rfl⟩
    have hWx : Ext w W := by rw [← hW]; exact (Ext.refl w).alloc _
    have hWs : w.heap.size < W.heap.size := by rw [← hW]; simp
    have hbx : Box7 W w.heap.size t (.slice A0 n0 c0) (.slice A n1 c1) (.slice K t.ks.length c) := by rw [← hW]; exact Box7.new w t _ _ _ _
    have HBX := Lib.hid hbx
    obtain ⟨b0, b1, b2, b3, b4, b5, b6⟩ := hbx
    have HFEW := Lib.hid (fewPoly_any 4 40 (by omega) (by omega) t.p _ W (HP.out.ext hWx))
    have HRM := Lib.hid hroom
    clear hroom
    unfold plV at HFEW
    have HWX := Lib.hid hWx
    clear hWx
    generalize t.p.few 40 4 = fw at *
    go_enter Tryz.func23, Tryz.ntmps23
    go_wp2_with fail
    clear hW b0 b1 b2 b3 b4 b5 b6
    refine HFEW.out.mono ?_
    rintro e w1 ⟨rfl, x1⟩
    have X01 := Lib.hid x1
    obtain ⟨b0, b1, b2, b3, b4, b5, b6⟩ := HBX.out.ext x1 hWs
    have hWs1 : w.heap.size < w1.heap.size := by have := x1.size; omega
    have D8 := Lib.hid b6
    clear x1 HFEW
    cases fw
    · have hr := HRM.out
      rw [if_neg (by decide)] at hr
      have HR := Lib.hid hr
      clear hr
      go_wp2_with fail
      go_ret
      exact ⟨by rw [HR.out]; rfl, HWX.out.trans X01.out⟩
    have hr := HRM.out
    rw [if_pos rfl] at hr
    have HR := Lib.hid hr
    clear hr
    go_wp2_with fail
    clear b0 b1 b2 b3 b4 b5 b6
    go_loopw [1, 21] (fun nv iv wr => ∃ (k : Nat) (m : Int), k ≤ t.ks.length ∧ iv = .int .i64 k ∧ nv = .int .i64 m ∧ -1 ≤ m ∧ m ≤ 1000000 ∧ Hid (roomM (t.ks.take k) (n - 1) deep = m ∧ Ext w1 wr)) (fun _ iv _ => t.ks.length - (intOf iv).toNat)
    case atStart => exact ⟨0, n - 1, Nat.zero_le _, rfl, rfl, by omega, by omega, ⟨by simp [roomM], Ext.refl w1⟩⟩
    case round =>
      obtain ⟨k, m, hk, rfl, rfl, hm1, hm2, ⟨hm, hxw⟩⟩ := hrel
      have HM := Lib.hid hm
      have HXW := Lib.hid hxw
      have d8 : wr.cell? ⟨w.heap.size, 6, none⟩ = some (.slice K t.ks.length c) := (hxw.cell (p := ⟨w.heap.size, 6, none⟩) hWs1).trans D8.out
      by_cases hlt : k < t.ks.length
      · by_cases hneg : m < 0
        · have HF : Hid (roomM t.ks (n - 1) deep = -1) := by
            have : roomM t.ks (n - 1) deep = -1 := roomM_cut t.ks k (n - 1) deep (by omega) hlt (by omega)
            exact this
          clear hm hxw
          go_wp2_with fail
          go_ret
          exact ⟨by rw [HR.out, HF.out]; rfl, (HWX.out.trans X01.out).trans HXW.out⟩
        · obtain ⟨ad, B0, m0, d0, B1, m1, d1, K2, n2, c2, rfl, hadb, ⟨e0, e1, e2, e3, e4, e5, e6⟩, hkt⟩ := MxsAt.kid (MxsAt.ext H4.out ((HWX.out.trans X01.out).trans hxw)) k hlt
          have HKT := Lib.hid hkt
          have HSTEP : Hid (roomM (t.ks.take (k + 1)) (n - 1) deep = (t.ks[k]).room m deep) := by
            have : roomM (t.ks.take (k + 1)) (n - 1) deep = (t.ks[k]).room m deep := by rw [roomM_take _ _ hlt _ _ (by omega), hm, if_neg hneg]
            exact this
          clear hkt hm hxw hadb
          have hm0 : decide (m < 0) = false := by simpa using hneg
          go_wp2_with fail
          rw [HDI.out]
          have hbd := Mx.room_bd (t.ks[k]) m deep (by omega)
          refine (IH.out (t.ks[k]) _ wr m deep (by omega) HKT.out (by omega) (by omega) (by omega)).mono ?_
          rintro e w2 ⟨rfl, x2⟩
          have X2 := Lib.hid x2
          clear x2 e0 e1 e2 e3 e4 e5 e6 d8
          generalize hrm : (t.ks[k]).room m deep = m2 at *
          have HRM := Lib.hid hrm
          clear hrm
          go_wp2_with fail
          go_roundw
          case rel => exact ⟨k + 1, m2, by omega, by go_num, rfl, by omega, by omega, ⟨HSTEP.out, HXW.out.trans X2.out⟩⟩
          case measure => simp [intOf]; omega
      · have hke : k = t.ks.length := by omega
        have HF : Hid (roomM t.ks (n - 1) deep = m) := by
          rw [hke, List.take_length] at hm
          exact hm
        clear hm hxw hke
        go_wp2_with fail
        go_ret
        exact ⟨by rw [HR.out, HF.out]; rfl, (HWX.out.trans X01.out).trans HXW.out⟩

theorem roomMx_any {p : Nat → Prop} (t : Mx) (v : Value) (w : World) (n : Int) (deep : Nat) (h : MxV w p t v) (hn : 0 ≤ n) (hn' : n ≤ 1000000) (hd : deep ≤ 1000000) :
    Calls Tryz.prog 23 #[v, .int .i64 n, .int .i64 deep] w (RetI (t.room n deep) w) := roomMx_ih (deep + 1) t v w n deep (Nat.lt_succ_self _) h hn hn' hd
theorem fewMx_any {p : Nat → Prop} (n : Nat) (hn : n ≤ 1000000) (t : Mx) (v : Value) (w : World) (h : MxV w p t v) : Calls Tryz.prog 6 #[v, .int .i64 n] w fun e w' => e = .returned (.bool (t.few n)) ∧ Ext w w' := by
  have HH := Lib.hid h
  obtain ⟨A0, n0, c0, A, n1, c1, K, c, rfl, hp, hl1, hl2, h4⟩ := h.open_
  obtain ⟨W, hW⟩ : ∃ W, w.alloc (.cells #[.int .i64 t.kind, .int .i64 t.rel, .int .i64 t.p.lv, .bool t.p.neg, .slice A0 n0 c0, .slice A n1 c1, .slice K t.ks.length c] 32) = W := ⟨_, rfl⟩
  have hWx : Ext w W := by rw [← hW]; exact (Ext.refl w).alloc _
  obtain ⟨b0, b1, b2, b3, b4, b5, b6⟩ : Box7 W w.heap.size t (.slice A0 n0 c0) (.slice A n1 c1) (.slice K t.ks.length c) := by rw [← hW]; exact Box7.new w t _ _ _ _
  have HWX := Lib.hid hWx
  have HC := Lib.hid (roomMx_any t _ W n 12 (HH.out.ext hWx) (by omega) (by omega) (by omega))
  have HE : Hid (t.few n = decide (t.room n 12 ≥ 0)) := rfl
  clear h hp h4 hWx
  generalize t.room n 12 = rr at *
  unfold mxV at *
  go_enter Tryz.func6, Tryz.ntmps6
  go_wp2_with fail
  clear hW b0 b1 b2 b3 b4 b5 b6
  refine HC.out.mono ?_
  rintro e w2 ⟨rfl, x2⟩
  have X2 := Lib.hid (HWX.out.trans x2)
  clear x2
  go_wp2_with fail
  go_ret
  exact ⟨by rw [HE.out]; rfl, X2.out⟩
end Go.Proofs.YtdcapcpchcnidaaGreat

/- Matrices that a call makes: rows of them that grow, results. -/
namespace Go.Proofs.YtdcapcpchcnidaaGreat
open Go.RowKit

/-- The call returns this matrix, whose parts lie in blocks of q. -/
def RetMx (q : Nat → Prop) (m : Mx) (w : World) (e : Ending) (w' : World) : Prop := ∃ v, e = .returned v ∧ MxV w' q m v ∧ Ext w w'
/-- Seven cells of the zero value, which may be written. -/
def Zero7 (w : World) (g : Nat) : Prop := Box7 w g (.mk 0 0 Pl.zero []) (.slice none 0 0) (.slice none 0 0) (.slice none 0 0) ∧ ∀ i, w.frozen? ⟨g, i, none⟩ = false
theorem Zero7.ext {w w' : World} {g : Nat} (h : Zero7 w g) (hx : Ext w w') (hg : g < w.heap.size) : Zero7 w' g := ⟨h.1.ext hx hg, fun i => (hx.frozen (p := ⟨g, i, none⟩) hg).trans (h.2 i)⟩
theorem Zero7.new (w : World) (T : TypeId) : Zero7 (w.alloc (.cells #[.int .i64 0, .int .i64 0, .int .i64 0, .bool false, .slice none 0 0, .slice none 0 0, .slice none 0 0] T)) w.heap.size :=
  ⟨Box7.new w (.mk 0 0 Pl.zero []) _ _ _ T, fun i => by simp [go_sem]⟩
/-- Seven cells are written. -/
theorem box7_store {W : World} {g : Nat} {m m' : Mx} {A0 A1 K0 B0 B1 K1 : Option Addr} {n0 c0 n1 c1 n2 c2 m0 d0 m1 d1 m2 d2 : Nat} (h : Box7 W g m (.slice A0 n0 c0) (.slice A1 n1 c1) (.slice K0 n2 c2)) :
    (∀ v ds, NatV W v ds → NatV (((((((W.setCell ⟨g, 0, none⟩ (.int .i64 m'.kind)).setCell ⟨g, 1, none⟩ (.int .i64 m'.rel)).setCell ⟨g, 2, none⟩ (.int .i64 m'.p.lv)).setCell ⟨g, 3, none⟩ (.bool m'.p.neg)).setCell ⟨g, 4, none⟩ (.slice B0 m0 d0)).setCell ⟨g, 5, none⟩ (.slice B1 m1 d1)).setCell ⟨g, 6, none⟩ (.slice K1 m2 d2)) v ds) ∧
    (∀ b, b ≠ g → (((((((W.setCell ⟨g, 0, none⟩ (.int .i64 m'.kind)).setCell ⟨g, 1, none⟩ (.int .i64 m'.rel)).setCell ⟨g, 2, none⟩ (.int .i64 m'.p.lv)).setCell ⟨g, 3, none⟩ (.bool m'.p.neg)).setCell ⟨g, 4, none⟩ (.slice B0 m0 d0)).setCell ⟨g, 5, none⟩ (.slice B1 m1 d1)).setCell ⟨g, 6, none⟩ (.slice K1 m2 d2)).heap[b]? = W.heap[b]?) := by
  obtain ⟨h0, h1, h2, h3, h4, h5, h6⟩ := h
  refine ⟨fun v ds hv => ?_, fun b hb => ?_⟩
  · refine ((((((hv.box h0 rfl _).box (u := .int .i64 m.rel) ?_ rfl _).box (u := .int .i64 m.p.lv) ?_ rfl _).box (u := .bool m.p.neg) ?_ rfl _).box (u := .slice A0 n0 c0) ?_ rfl _).box (u := .slice A1 n1 c1) ?_ rfl _).box (u := .slice K0 n2 c2) ?_ rfl _
    all_goals
      repeat rw [World.cell?_setCell_other _ _ _ _ (by simp)]
      first | exact h1 | exact h2 | exact h3 | exact h4 | exact h5 | exact h6
  · have hb' : b ≠ (⟨g, 0, none⟩ : Addr).block := hb
    repeat rw [Below.heap_setCell _ _ _ b (by exact hb)]
/-- A matrix is stored into the cell of the result. -/
theorem close_mx {w W : World} {g : Nat} {m : Mx} {q q' : Nat → Prop} {A0 A1 K : Option Addr} {n0 c0 n1 c1 n2 c2 : Nat} (hx : Ext w W) (hg : w.heap.size ≤ g) (hz : Zero7 W g) (hp : MxV W q m (mxV m (.slice A0 n0 c0) (.slice A1 n1 c1) (.slice K n2 c2))) (hq : ∀ b, b < W.heap.size → q b → b ≠ g ∧ q' b) :
    RetMx q' m w (.returned (mxV m (.slice A0 n0 c0) (.slice A1 n1 c1) (.slice K n2 c2))) (((((((W.setCell ⟨g, 0, none⟩ (.int .i64 m.kind)).setCell ⟨g, 1, none⟩ (.int .i64 m.rel)).setCell ⟨g, 2, none⟩ (.int .i64 m.p.lv)).setCell ⟨g, 3, none⟩ (.bool m.p.neg)).setCell ⟨g, 4, none⟩ (.slice A0 n0 c0)).setCell ⟨g, 5, none⟩ (.slice A1 n1 c1)).setCell ⟨g, 6, none⟩ (.slice K n2 c2)) := by
  obtain ⟨hn, hb⟩ := box7_store (m' := m) (B0 := A0) (m0 := n0) (d0 := c0) (B1 := A1) (m1 := n1) (d1 := c1) (K1 := K) (m2 := n2) (d2 := c2) hz.1
  refine ⟨_, rfl, MxV.turn_ (by simp [World.setCell]) hn (fun b hlt hqb => ⟨(hq b hlt hqb).2, hb b (hq b hlt hqb).1⟩) hp, ((((((hx.setCell hg _).setCell hg _).setCell hg _).setCell hg _).setCell hg _).setCell hg _).setCell hg _⟩
theorem info_matrix : (Tryz.prog.info? 32).map (fun i => (i.zero, i.size, i.bytes)) = some (some (.agg #[.int .i64 0, .int .i64 0, .int .i64 0, .bool false, .slice none 0 0, .slice none 0 0, .slice none 0 0]), 7, 104) := by kernel_rfl
theorem matrix_row : RowTy 30 32 7 104 (.agg #[.int .i64 0, .int .i64 0, .int .i64 0, .bool false, .slice none 0 0, .slice none 0 0, .slice none 0 0]) where
  und := Tryz.underlying30
  info := info_matrix
  cells := rfl
  pos := by omega
  nodig := by
    intro u hu
    simp only [Value.cells] at hu
    simp only [List.mem_cons, List.not_mem_nil, or_false] at hu
    rcases hu with rfl | rfl | rfl | rfl | rfl | rfl | rfl <;> rfl
def mxC (r : Mx × Value × Value × Value) : List Value := [.int .i64 r.1.kind, .int .i64 r.1.rel, .int .i64 r.1.p.lv, .bool r.1.p.neg, r.2.1, r.2.2.1, r.2.2.2]
def flatM (rs : List (Mx × Value × Value × Value)) : List Value := rs.flatMap mxC
theorem flatM_append (a b : List (Mx × Value × Value × Value)) : flatM (a ++ b) = flatM a ++ flatM b := by simp [flatM]
theorem flatM_get (rs : List (Mx × Value × Value × Value)) (k : Nat) (hk : k < rs.length) (j : Nat) (hj : j < 7) : (flatM rs)[k * 7 + j]? = (mxC rs[k])[j]? := by
  induction rs generalizing k with
  | nil => simp at hk
  | cons r rs ih =>
    have hl : (mxC r).length = 7 := rfl
    simp only [flatM, List.flatMap_cons]
    cases k with
    | zero => simp only [Nat.zero_mul, Nat.zero_add, List.getElem_cons_zero]; rw [List.getElem?_append_left (by omega)]
    | succ k =>
      rw [List.getElem?_append_right (by omega), hl, show (k + 1) * 7 + j - 7 = k * 7 + j by omega]
      exact ih k (by simpa using hk)
/-- A growing row of matrices of the call's own, from block base on; what they consist of lies from base on, outside this row. -/
def MRow (base : Nat) (W : World) (v : Value) (l : List Mx) : Prop :=
  ∃ rs : List (Mx × Value × Value × Value), rs.map (fun r => r.1) = l ∧ GRow 32 7 base W v rs.length (flatM rs) ∧ ∀ r ∈ rs, MxV W (fun b => v.ownBlock ≠ some b ∧ base ≤ b) r.1 (mxV r.1 r.2.1 r.2.2.1 r.2.2.2)
section
variable {base : Nat} {W W' : World} {v : Value} {l : List Mx}
theorem MRow.nil (base : Nat) (W : World) : MRow base W (.slice none 0 0) [] := ⟨[], rfl, GRow.nil _ _ _ _, by simp⟩
theorem MRow.own (h : MRow base W v l) {R : Nat} (hR : v.ownBlock = some R) : base ≤ R ∧ R < W.heap.size := by
  obtain ⟨rs, -, h2, -⟩ := h
  exact h2.own hR
theorem MRow.len (h : MRow base W v l) : ∃ A c, v = .slice A l.length c ∧ l.length ≤ c ∧ c ≤ 9223372036854775807 := by
  obtain ⟨rs, rfl, h2, -⟩ := h
  rw [List.length_map]
  exact h2.len
theorem MRow.turn (h : MRow base W v l) (hs : W.heap.size ≤ W'.heap.size) (hb : ∀ b, base ≤ b → b < W.heap.size → W'.heap[b]? = W.heap[b]?) (hn : ∀ v ds, NatV W v ds → NatV W' v ds) : MRow base W' v l := by
  have hown : ∀ R, v.ownBlock = some R → base ≤ R ∧ R < W.heap.size := fun R hR => h.own hR
  obtain ⟨rs, e, h2, h3⟩ := h
  exact ⟨rs, e, h2.turn (fun R hR => hb R (hown R hR).1 (hown R hR).2), fun r hr => MxV.turn_ hs hn (fun b hlt hp => ⟨hp, hb b hp.2 hlt⟩) (h3 r hr)⟩
/-- Read as the parts of a matrix. -/
theorem MRow.at_ {A : Option Addr} {n c : Nat} (h : MRow base W (.slice A n c) l) : MxsAt W (fun b => base ≤ b) l A 0 := by
  obtain ⟨rs, rfl, h2, h3⟩ := h
  refine MxsAt.of _ _ 0 fun i hi => ?_
  rw [List.length_map] at hi
  obtain ⟨g, c', e', -, -, hbg, hlt, -⟩ := h2.pos (by omega)
  injection e' with e1 e2 e3
  subst e1 e2 e3
  have hcell : ∀ j, j < 7 → W.cell? ⟨g, i * 7 + j, none⟩ = (mxC rs[i])[j]? := by
    intro j hj
    rw [h2.cell (i * 7 + j) (by omega)]
    exact flatM_get rs i hi j hj
  refine ⟨⟨g, 0, none⟩, rs[i].2.1, rs[i].2.2.1, rs[i].2.2.2, rfl, hlt, hbg, ?_, ?_⟩
  · rw [add_mk, Nat.zero_add, Nat.zero_add, List.getElem_map]
    exact ⟨hcell 0 (by omega), hcell 1 (by omega), hcell 2 (by omega), hcell 3 (by omega), hcell 4 (by omega), hcell 5 (by omega), hcell 6 (by omega)⟩
  · rw [List.getElem_map]; exact (h3 rs[i] (List.getElem_mem hi)).mono fun b hb => hb.2
end
/-- One matrix more. -/
theorem MRow.step {base : Nat} {wr w3 : World} {ov : Value} {l : List Mx} {x : Mx} {A0 A1 K : Option Addr} {n0 c0 n1 c1 n2 c2 : Nat} (h : MRow base wr ov l) (hx : Ext wr w3) (hbase : base ≤ wr.heap.size) (ht : MxV w3 (fun b => wr.heap.size ≤ b) x (mxV x (.slice A0 n0 c0) (.slice A1 n1 c1) (.slice K n2 c2))) (hlen : l.length ≤ 1000000) (ty : TypeId) :
    ∃ v4 w4, (Builtin.append_ #[30, 30] ty #[ov, .slice (some ⟨w3.heap.size, 0, none⟩) 1 1]).run Tryz.prog (w3.alloc (.cells #[.int .i64 x.kind, .int .i64 x.rel, .int .i64 x.p.lv, .bool x.p.neg, .slice A0 n0 c0, .slice A1 n1 c1, .slice K n2 c2] 32)) = .ok v4 w4 ∧ w3.grownBy w4 ov.ownBlock ∧ (∀ v ds, NatV w3 v ds → NatV w4 v ds) ∧ MRow base w4 v4 (l ++ [x]) := by
  have hown : ∀ R, ov.ownBlock = some R → base ≤ R ∧ R < wr.heap.size := fun R hR => h.own hR
  have hw3 := hx.size
  obtain ⟨rs, rfl, h2, h3⟩ := h
  rw [List.length_map] at hlen
  obtain ⟨v4, w4, e, r1, r2, r3, r4⟩ := (h2.ext hx).push matrix_row (by omega) (mxC (x, .slice A0 n0 c0, .slice A1 n1 c1, .slice K n2 c2)) rfl (by
    intro u hu
    simp only [mxC, List.mem_cons, List.not_mem_nil, or_false] at hu
    rcases hu with rfl | rfl | rfl | rfl | rfl | rfl | rfl <;> exact ⟨rfl, rfl⟩) (by omega) (by omega) ty
  refine ⟨v4, w4, e, r2, r3, rs ++ [(x, .slice A0 n0 c0, .slice A1 n1 c1, .slice K n2 c2)], by simp, ?_, fun r hr => ?_⟩
  · rw [flatM_append, List.length_append]; exact r1
  · have hv4 : ∀ b, b < w3.heap.size → ov.ownBlock ≠ some b → v4.ownBlock ≠ some b := by
      intro b hb hne e
      rcases r4 with r4 | r4
      · exact hne (by rw [← r4]; exact e)
      · rw [r4] at e; injection e with e; omega
    have hblk : ∀ b, b < w3.heap.size → ov.ownBlock ≠ some b → w4.heap[b]? = w3.heap[b]? := fun b hb hne => World.grownBy.block r2 b hb (fun e => hne e.symm)
    have hs4 := r2.size
    rcases List.mem_append.1 hr with hr | hr
    · exact MxV.turn_ (by omega) (fun v ds hv => r3 v ds (hv.ext hx)) (fun b hb hp => ⟨⟨hv4 b (by omega) hp.1, hp.2⟩, (hblk b (by omega) hp.1).trans (hx.below.block b hb)⟩) (h3 r hr)
    · obtain rfl : r = (x, .slice A0 n0 c0, .slice A1 n1 c1, .slice K n2 c2) := by simpa using hr
      exact MxV.turn_ (by omega) r3 (fun b hb hp => ⟨⟨hv4 b hb (fun e => by have := hown b e; omega), by omega⟩, hblk b hb (fun e => by have := hown b e; omega)⟩) ht
end Go.Proofs.YtdcapcpchcnidaaGreat

/- Layer 22: recpoly.copyOf. -/
namespace Go.Proofs.YtdcapcpchcnidaaGreat
open Go.RowKit

def CopyIH (w0 : World) (q : Nat → Prop) (n : Nat) : Prop := ∀ (p : Pl) (v : Value) (w : World), p.sz < n → p.Can → p.sz ≤ 1099511627776 → p.dm ≤ 35184372088832 → PlV w0 q p v → Ext w0 w → Calls Tryz.prog 51 #[v] w (RetPl (fun b => w.heap.size ≤ b) p w)

set_option maxRecDepth 100000 in
set_option maxHeartbeats 4000000 in
theorem copy_flat {w0 w : World} {q : Nat → Prop} (p : Pl) (v : Value) (hcan : p.Can) (hdm : p.dm ≤ 35184372088832) (h : PlV w0 q p v) (hx0 : Ext w0 w) (hl : p.lv = 0) : Calls Tryz.prog 51 #[v] w (RetPl (fun b => w.heap.size ≤ b) p w) := by
  have hds := p.dm_ds
  obtain ⟨A0, n0, c0, A, c, rfl, hnat, hl1, hl2, h4⟩ := h.open_
  obtain ⟨l, ng, ds, cs⟩ := p
  change l = 0 at hl
  subst hl
  simp only [Pl.cs, Pl.ds, Pl.lv, Pl.neg, plV] at *
  have hc2 : cs = [] ∧ ds = dg (val ds) ∧ (ds = [] → ng = false) := by
    unfold Pl.Can at hcan
    rcases hcan with h | h
    · exact h.2
    · omega
  obtain ⟨rfl, hdg, hng⟩ := hc2
  have hngz : ng = decide (sgn ng (val ds) < 0) := by
    rw [sgn_neg_iff, ← hdg]
    cases ng
    · rfl
    · have : 0 < ds.length := List.length_pos_iff.2 (fun e => by have := hng e; cases this)
      simp [this]
  have HNG := Lib.hid hngz
  have HDG := Lib.hid hdg
  obtain ⟨W, hW⟩ : ∃ W, (w.alloc (.cells #[.int .i64 0, .bool ng, .slice A0 n0 c0, .slice A ([] : List Pl).length c] 29)).alloc (.cells #[.int .i64 0, .bool false, .slice none 0 0, .slice none 0 0] 29) = W := ⟨_, rfl⟩
  have hWx : Ext w W := by rw [← hW]; exact ((Ext.refl w).alloc _).alloc _
  have hWs : W.heap.size = w.heap.size + 1 + 1 := by rw [← hW]; simp
  have hz : Zero4 W (w.heap.size + 1) := by
    have := Zero4.new (w.alloc (.cells #[.int .i64 0, .bool ng, .slice A0 n0 c0, .slice A ([] : List Pl).length c] 29)) 29
    rw [hW] at this
    simpa using this
  have HNAT := Lib.hid (hnat.ext (hx0.trans hWx))
  have HWX := Lib.hid hWx
  have HZ := Lib.hid hz
  clear h h4 hnat hx0 hcan hng hdg hngz hWx hz
  go_enter Tryz.func51, Tryz.ntmps51
  go_wp2_with fail
  rw [List.length_nil] at hW
  rw [hW]
  clear hW
  refine (normal_int _ (sgn ng (val ds)) ds.length W ⟨ng, _, ds, rfl, HNAT.out, rfl, Nat.le_refl _⟩ (by omega)).mono ?_
  rintro e w1 ⟨x, rfl, ⟨v1, rfl, hv1⟩, x1⟩
  rw [sgn_natAbs, ← HDG.out] at hv1
  rw [← HNG.out]
  obtain ⟨⟨z0, z1, z2, z3⟩, zf⟩ := HZ.out.ext x1 (by omega)
  have hws := x1.size
  have HF : Hid (∀ A' n' c', v1 = .slice A' n' c' → RetPl (fun b => w.heap.size ≤ b) (.mk 0 ng ds []) w (.returned (plV (.mk 0 ng ds []) (.slice A' n' c') (.slice none 0 0))) ((((w1.setCell ⟨w.heap.size + 1, 0, none⟩ (.int .i64 0)).setCell ⟨w.heap.size + 1, 1, none⟩ (.bool ng)).setCell ⟨w.heap.size + 1, 2, none⟩ (.slice A' n' c')).setCell ⟨w.heap.size + 1, 3, none⟩ (.slice none 0 0))) := by
    intro A' n' c' e
    subst e
    exact close_pl (p := .mk 0 ng ds []) (q := fun _ => False) (HWX.out.trans x1) (by omega) (HZ.out.ext x1 (by omega)) (PlV.mk (t := .mk 0 ng ds []) hv1 (Nat.le_refl _) (by simp [Pl.cs]) (by unfold Pl.cs PlsAt; trivial)) (fun b _ h => h.elim)
  obtain ⟨A1, d1, rfl, -⟩ := hv1
  have HF2 := Lib.hid (HF.out _ _ _ rfl)
  clear HF x1 HZ
  go_wp2_with fail
  exact bodyPost_ret (v := plV (.mk 0 ng ds []) (.slice A1 ds.length d1) (.slice none 0 0)) (by simp [results, Tryz.results51, go_sem, z0, z1, z2, z3, plV, Pl.lv, Pl.neg]) rfl HF2.out

set_option maxRecDepth 100000 in
set_option maxHeartbeats 4000000 in
theorem copy_ih (w0 : World) (q : Nat → Prop) (n : Nat) : CopyIH w0 q n := by
  induction n with
  | zero => intro p v w h; omega
  | succ n ih =>
  intro p v w hn hcan hbig hdm h hx0
  by_cases hl : p.lv = 0
  · exact copy_flat p v hcan hdm h hx0 hl
  obtain ⟨A0, n0, c0, A, c, rfl, hnat, hl1, hl2, h4⟩ := h.open_
  obtain ⟨l, ng, ds, cs⟩ := p
  simp only [Pl.cs, Pl.ds, Pl.lv, Pl.neg, plV] at *
  have hk := hcan.kids (by have := hcan.lv_nonneg.1; simp only [Pl.lv] at this; omega)
  obtain ⟨rfl, rfl, hlen, hcs, -⟩ := hk
  have hszp : (Pl.mk l false [] cs).sz = plSz cs + 1 := by rw [Pl.sz]
  have hdmp : plDm cs ≤ (Pl.mk l false [] cs).dm := by rw [Pl.dm]; exact Nat.le_max_right _ _
  have hlb := plSz_len cs
  have IH := Lib.hid ih
  have H4 := Lib.hid h4
  have HX0 := Lib.hid hx0
  have HSZ : Hid (∀ k (hk : k < cs.length), cs[k].sz < n ∧ cs[k].Can ∧ cs[k].sz ≤ 1099511627776 ∧ cs[k].dm ≤ 35184372088832) := by
    have : ∀ k (hk : k < cs.length), cs[k].sz < n ∧ cs[k].Can ∧ cs[k].sz ≤ 1099511627776 ∧ cs[k].dm ≤ 35184372088832 := fun k hk => by
      have h1 := plSz_mem (List.getElem_mem hk)
      have h2 := plDm_mem (List.getElem_mem hk)
      exact ⟨by omega, (hcs.mem _ (List.getElem_mem hk)).2, by omega, by omega⟩
    exact this
  have hlz : (l == 0) = false := by simpa using hl
  have hcb : cs.length ≤ 1099511627776 := by omega
  clear h h4 ih hx0 hnat hcan hcs hdmp hdm hlb
  obtain ⟨W, hW⟩ : ∃ W, (w.alloc (.cells #[.int .i64 l, .bool false, .slice A0 n0 c0, .slice A cs.length c] 29)).alloc (.cells #[.int .i64 0, .bool false, .slice none 0 0, .slice none 0 0] 29) = W := ⟨_, rfl⟩
  have hWx : Ext w W := by rw [← hW]; exact ((Ext.refl w).alloc _).alloc _
  have hWs : W.heap.size = w.heap.size + 1 + 1 := by rw [← hW]; simp
  have hbx : Box4 W w.heap.size (.mk l false [] cs) (.slice A0 n0 c0) (.slice A cs.length c) := by rw [← hW]; exact (Box4.new w (.mk l false [] cs) _ _ _).ext ((Ext.refl _).alloc _) (by simp)
  have hz : Zero4 W (w.heap.size + 1) := by
    have := Zero4.new (w.alloc (.cells #[.int .i64 l, .bool false, .slice A0 n0 c0, .slice A cs.length c] 29)) 29
    rw [hW] at this
    simpa using this
  obtain ⟨V, hmk, hVx, hVs, hrow⟩ := run_makePls (cs.length : Int) (by omega) (by omega) W
  rw [Int.toNat_natCast] at hmk hrow
  have HWX := Lib.hid hWx
  have HVX := Lib.hid hVx
  have hrow0 := hrow (fun b => w.heap.size + 1 + 1 ≤ b)
  rw [hWs] at hmk hrow0
  have HROW := Lib.hid hrow0
  have HBX := Lib.hid hbx
  have HZ := Lib.hid hz
  obtain ⟨b0, b1, b2, b3⟩ := id hbx
  obtain ⟨d0, d1, d2, d3⟩ := hbx.ext hVx (by omega)
  simp only [Pl.lv, Pl.neg] at b0 b1 d0 d1
  clear hWx hVx hrow hrow0 hbx hz
  go_enter Tryz.func51, Tryz.ntmps51
  go_wp2_with fail
  clear hW hmk b0 b1 b2 b3 d0 d1 d2 d3
  go_loopw [20] (fun iv wr => ∃ k : Nat, k ≤ cs.length ∧ iv = .int .i64 k ∧ Hid ((∃ L : List Pl, L.length = cs.length ∧ L.take k = cs.take k ∧ PRow wr (fun b => w.heap.size + 1 + 1 ≤ b) (w.heap.size + 1 + 1) L) ∧ Ext W wr)) (fun iv _ => cs.length - (intOf iv).toNat)
  case atStart => exact ⟨0, Nat.zero_le _, rfl, ⟨⟨_, List.length_replicate, by simp, HROW.out⟩, HVX.out⟩⟩
  case round =>
    obtain ⟨k, hk, rfl, ⟨⟨L, hLl, hLt, hrow⟩, hx⟩⟩ := hrel
    have HX := Lib.hid hx
    have HROWk := Lib.hid hrow
    have HLT := Lib.hid hLt
    obtain ⟨b0, b1, b2, b3⟩ := HBX.out.ext hx (by omega)
    simp only [Pl.lv, Pl.neg] at b0 b1
    have hRlt : w.heap.size + 1 + 1 < wr.heap.size := hrow.1
    clear hx hrow hLt HVX HROW
    by_cases hlt : k < cs.length
    · obtain ⟨ad, B0, m0, e0, B1, m1, e1, rfl, hadb, hnd, hkt⟩ := PlsAt.kid H4.out k hlt
      have hxx : Ext w0 wr := (HX0.out.trans HWX.out).trans HX.out
      obtain ⟨a0, a1, a2, a3⟩ := hnd.ext hxx (by rw [block_of_add]; exact hadb)
      obtain ⟨hsz1, hsz2, hsz3, hsz4⟩ := HSZ.out k hlt
      have HC := Lib.hid (fun W' (hxW : Ext wr W') => IH.out cs[k] _ W' hsz1 hsz2 hsz3 hsz4 hkt (hxx.trans hxW))
      have HSET : Hid ((L.set k cs[k]).take (k + 1) = cs.take (k + 1)) := take_set_next L cs k HLT.out (by omega) hlt
      generalize cs[k] = ck at *
      clear hnd hkt hadb hsz1 hsz2 hsz3 hsz4 hxx HLT
      go_wp2_with fail
      refine (HC.out _ ((Ext.refl _).alloc _)).mono ?_
      rintro e w2 ⟨v2, rfl, p2, x2⟩
      have x2' : Ext wr w2 := ((Ext.refl wr).alloc _).trans x2
      obtain ⟨C0, j0, f0, C1, f1, rfl, -⟩ := id p2.open_
      have hr2 := HROWk.out.ext x2'
      obtain ⟨D0, n2, g0, D1, n3, g1, ⟨r0, r1, r2, r3⟩, -⟩ := hr2.2.2 k (by omega)
      have hfr := hr2.2.1
      have hst := (hr2.set_ k (by omega) ck (p2.mono fun b hb => by
        have hb' : wr.heap.size + 1 ≤ b := by simpa using hb
        exact ⟨by omega, by omega⟩)).1
      simp only at r0 r1 r2 r3
      have HST := Lib.hid hst
      have X2 := Lib.hid (HX.out.trans x2')
      unfold plV
      clear hr2 hst p2 x2 x2' HC HROWk a0 a1 a2 a3 b0 b1 b2 b3
      go_wp2_with fail
      go_roundw
      case rel => exact ⟨k + 1, by omega, by go_num, ⟨_, by rw [List.length_set]; exact hLl, HSET.out, HST.out⟩, (((X2.out.setCell (by show W.heap.size ≤ w.heap.size + 1 + 1; omega) _).setCell (by show W.heap.size ≤ w.heap.size + 1 + 1; omega) _).setCell (by show W.heap.size ≤ w.heap.size + 1 + 1; omega) _).setCell (by show W.heap.size ≤ w.heap.size + 1 + 1; omega) _⟩
      case measure => simp [intOf]; omega
    · have hke : k = cs.length := by omega
      have hLe : L = cs := by
        have h := HLT.out
        rw [hke, List.take_length, ← hLl, List.take_length] at h
        exact h
      obtain ⟨⟨z0, z1, z2, z3⟩, zf⟩ := HZ.out.ext HX.out (by omega)
      have hfin := HROWk.out.fin (Nat.le_refl _)
      rw [hLe] at hfin
      have HF := Lib.hid (close_pl (p := .mk l false [] cs) (q' := fun b => w.heap.size ≤ b) (HWX.out.trans HX.out) (Nat.le_succ _) (HZ.out.ext HX.out (by omega)) (PlV.mk (t := .mk l false [] cs) (c := cs.length) (NatV.nil _) (Nat.le_refl _) (by omega) hfin) (fun b _ hb => ⟨by omega, by omega⟩))
      clear hfin HROWk HLT hLe HZ
      go_wp2_with fail
      exact bodyPost_ret (v := plV (.mk l false [] cs) (.slice none 0 0) (.slice (some ⟨w.heap.size + 1 + 1, 0, none⟩) cs.length cs.length)) (by simp [results, Tryz.results51, go_sem, z0, z1, z2, z3, plV, Pl.lv, Pl.neg]) rfl HF.out
theorem copy_any {w : World} {q : Nat → Prop} (p : Pl) (v : Value) (hcan : p.Can) (hsz : p.sz ≤ 1099511627776) (hdm : p.dm ≤ 35184372088832) (h : PlV w q p v) : Calls Tryz.prog 51 #[v] w (RetPl (fun b => w.heap.size ≤ b) p w) :=
  copy_ih w q (p.sz + 1) p v w (Nat.lt_succ_self _) hcan hsz hdm h (Ext.refl w)
end Go.Proofs.YtdcapcpchcnidaaGreat
