/- Reference 38: roomPoly, FewPoly: how many coefficients a polynomial has, up to a limit. -/
import Derived.Test.YtkbpnppiadaibaaGreatDoorMt13
import Derived.Test.YtkbpnppiadaibaaGreatDoorDeg
import Derived.Test.YtkbpnppiadaibaaGreatDoorMt11
set_option linter.unusedSimpArgs false
set_option linter.unusedVariables false

namespace Go.Proofs.YtkbpnppiadaibaaGreatDoor
open Go.RowKit
end Go.Proofs.YtkbpnppiadaibaaGreatDoor

/- Layer 38: matrices as values. -/
namespace Go.Proofs.YtkbpnppiadaibaaGreatDoor
open Go.RowKit
inductive Mx where
 | mk (kind rel : Int) (p : Pl) (ks : List Mx)
def Mx.kind : Mx → Int
 | .mk k _ _ _ => k
def Mx.rel : Mx → Int
 | .mk _ r _ _ => r
def Mx.p : Mx → Pl
 | .mk _ _ p _ => p
def Mx.ks : Mx → List Mx
 | .mk _ _ _ ks => ks
def mxV (m : Mx) (s A K : Value) : Value := .agg #[.int .i64 m.kind, .int .i64 m.rel, .int .i64 m.p.lv, .bool m.p.neg, s, A, K]
def MxAt (w : World) (ad : Addr) (m : Mx) (s A K : Value) : Prop :=
 w.cell? ad = some (.int .i64 m.kind) ∧ w.cell? ⟨ad.block, ad.off + 1, none⟩ = some (.int .i64 m.rel) ∧ w.cell? ⟨ad.block, ad.off + 2, none⟩ = some (.int .i64 m.p.lv) ∧ w.cell? ⟨ad.block, ad.off + 3, none⟩ = some (.bool m.p.neg) ∧ w.cell? ⟨ad.block, ad.off + 4, none⟩ = some s ∧ w.cell? ⟨ad.block, ad.off + 5, none⟩ = some A ∧ w.cell? ⟨ad.block, ad.off + 6, none⟩ = some K
mutual
def MxV (w : World) (q : Nat → Prop) : Mx → Value → Prop
 | .mk k r p ks, v => ∃ s A K c, v = .agg #[.int .i64 k, .int .i64 r, .int .i64 p.lv, .bool p.neg, s, A, .slice K ks.length c] ∧ PlV w q p (plV p s A) ∧ ks.length ≤ c ∧ c ≤ 9223372036854775807 ∧ MxsAt w q ks K 0
def MxsAt (w : World) (q : Nat → Prop) : List Mx → Option Addr → Nat → Prop
 | [], _, _ => True
 | t :: r, A, j => (∃ ad s B K, A = some ad ∧ ad.block < w.heap.size ∧ q ad.block ∧ MxAt w (ad.add (j * 7)) t s B K ∧ MxV w q t (mxV t s B K)) ∧ MxsAt w q r A (j + 1)
end
section
variable {w w' : World} {p q : Nat → Prop}
theorem MxAt.same {ad : Addr} {t : Mx} {s A K : Value} (h : MxAt w ad t s A K) (k0 : w'.cell? ad = w.cell? ad) (k : ∀ n, n < 7 → w'.cell? ⟨ad.block, ad.off + n, none⟩ = w.cell? ⟨ad.block, ad.off + n, none⟩) : MxAt w' ad t s A K := by
 obtain ⟨h0, h1, h2, h3, h4, h5, h6⟩ := h
 exact ⟨k0.trans h0, (k 1 (by omega)).trans h1, (k 2 (by omega)).trans h2, (k 3 (by omega)).trans h3, (k 4 (by omega)).trans h4, (k 5 (by omega)).trans h5, (k 6 (by omega)).trans h6⟩
mutual
theorem MxV.turn (hs : w.heap.size ≤ w'.heap.size) (hn : ∀ v ds, NatV w v ds → NatV w' v ds) (hc : ∀ b, b < w.heap.size → p b → q b ∧ w'.heap[b]? = w.heap[b]?) : ∀ (t : Mx) (v : Value), MxV w p t v → MxV w' q t v
 | .mk k r pl ks, v, h => by
   unfold MxV at h ⊢
   obtain ⟨s, A, K, c, e, h1, h2, h3, h4⟩ := h
   exact ⟨s, A, K, c, e, PlV.turn_ hs hn hc h1, h2, h3, MxsAt.turn hs hn hc ks K 0 h4⟩
theorem MxsAt.turn (hs : w.heap.size ≤ w'.heap.size) (hn : ∀ v ds, NatV w v ds → NatV w' v ds) (hc : ∀ b, b < w.heap.size → p b → q b ∧ w'.heap[b]? = w.heap[b]?) : ∀ (l : List Mx) (A : Option Addr) (j : Nat), MxsAt w p l A j → MxsAt w' q l A j
 | [], A, j, h => by unfold MxsAt; trivial
 | t :: r, A, j, h => by
   unfold MxsAt at h ⊢
   obtain ⟨⟨ad, s, B, K, e, hb, hpb, h1, h2⟩, h3⟩ := h
   obtain ⟨hq, hk⟩ := hc _ hb hpb
   exact ⟨⟨ad, s, B, K, e, Nat.lt_of_lt_of_le hb hs, hq, h1.same (World.cell?_of_block (by rw [block_of_add]; exact hk)) (fun n _ => World.cell?_of_block (a := ⟨(ad.add (j * 7)).block, (ad.add (j * 7)).off + n, none⟩) (by show w'.heap[(ad.add (j * 7)).block]? = _; rw [block_of_add]; exact hk)), MxV.turn hs hn hc t _ h2⟩, MxsAt.turn hs hn hc r A (j + 1) h3⟩
end
theorem MxV.turn_ {t : Mx} {v : Value} (hs : w.heap.size ≤ w'.heap.size) (hn : ∀ v ds, NatV w v ds → NatV w' v ds) (hc : ∀ b, b < w.heap.size → p b → q b ∧ w'.heap[b]? = w.heap[b]?) (h : MxV w p t v) : MxV w' q t v := MxV.turn hs hn hc t v h
theorem MxV.ext {t : Mx} {v : Value} (h : MxV w p t v) (hx : Ext w w') : MxV w' p t v := MxV.turn hx.size (fun _ _ h => h.ext hx) (fun b hb hp => ⟨hp, hx.below.block b hb⟩) t v h
theorem MxV.mono {t : Mx} {v : Value} (h : MxV w p t v) (hp : ∀ b, p b → q b) : MxV w q t v := MxV.turn (Nat.le_refl _) (fun _ _ h => h) (fun b _ h => ⟨hp b h, rfl⟩) t v h
theorem MxV.open_ {t : Mx} {v : Value} (h : MxV w p t v) : ∃ A0 n0 c0 A n1 c1 K c, v = mxV t (.slice A0 n0 c0) (.slice A n1 c1) (.slice K t.ks.length c) ∧ PlV w p t.p (plV t.p (.slice A0 n0 c0) (.slice A n1 c1)) ∧ t.ks.length ≤ c ∧ c ≤ 9223372036854775807 ∧ MxsAt w p t.ks K 0 := by
 cases t with
 | mk k r pl ks =>
   unfold MxV at h
   obtain ⟨s, A, K, c, e, h1, h2, h3, h4⟩ := h
   obtain ⟨A0, n0, c0, A1, c1, e2, -, -⟩ := h1.open_
   unfold plV at e2
   simp only [Value.agg.injEq, Array.mk.injEq, List.cons.injEq, and_true, true_and] at e2
   obtain ⟨rfl, rfl⟩ := e2
   exact ⟨A0, n0, c0, A1, _, c1, K, c, e, h1, h2, h3, h4⟩
theorem MxV.mk {t : Mx} {s A : Value} {K : Option Addr} {c : Nat} (h1 : PlV w p t.p (plV t.p s A)) (h2 : t.ks.length ≤ c) (h3 : c ≤ 9223372036854775807) (h4 : MxsAt w p t.ks K 0) : MxV w p t (mxV t s A (.slice K t.ks.length c)) := by
 cases t with
 | mk k r pl ks => unfold MxV; exact ⟨s, A, K, c, rfl, h1, h2, h3, h4⟩
end
end Go.Proofs.YtkbpnppiadaibaaGreatDoor

/- Reference 38: room, Few: how many nodes a matrix has, up to a limit, and that its polynomials are small. -/
namespace Go.Proofs.YtkbpnppiadaibaaGreatDoor
open Go.RowKit
def Box7 (w : World) (g : Nat) (m : Mx) (s A K : Value) : Prop :=
 w.cell? ⟨g, 0, none⟩ = some (.int .i64 m.kind) ∧ w.cell? ⟨g, 1, none⟩ = some (.int .i64 m.rel) ∧ w.cell? ⟨g, 2, none⟩ = some (.int .i64 m.p.lv) ∧ w.cell? ⟨g, 3, none⟩ = some (.bool m.p.neg) ∧ w.cell? ⟨g, 4, none⟩ = some s ∧ w.cell? ⟨g, 5, none⟩ = some A ∧ w.cell? ⟨g, 6, none⟩ = some K
theorem Box7.turn {w w' : World} {g : Nat} {m : Mx} {s A K : Value} (h : Box7 w g m s A K) (hb : w'.heap[g]? = w.heap[g]?) : Box7 w' g m s A K := by
 obtain ⟨h0, h1, h2, h3, h4, h5, h6⟩ := h
 have k : ∀ i, w'.cell? ⟨g, i, none⟩ = w.cell? ⟨g, i, none⟩ := fun i => World.cell?_of_block (a := ⟨g, i, none⟩) hb
 exact ⟨(k _).trans h0, (k _).trans h1, (k _).trans h2, (k _).trans h3, (k _).trans h4, (k _).trans h5, (k _).trans h6⟩
theorem Box7.ext {w w' : World} {g : Nat} {m : Mx} {s A K : Value} (h : Box7 w g m s A K) (hx : Ext w w') (hg : g < w.heap.size) : Box7 w' g m s A K := h.turn (hx.below.block g hg)
theorem Box7.new (w : World) (m : Mx) (s A K : Value) (T : TypeId) : Box7 (w.alloc (.cells #[.int .i64 m.kind, .int .i64 m.rel, .int .i64 m.p.lv, .bool m.p.neg, s, A, K] T)) w.heap.size m s A K := by
 refine ⟨?_, ?_, ?_, ?_, ?_, ?_, ?_⟩ <;> simp [go_sem]
end Go.Proofs.YtkbpnppiadaibaaGreatDoor
