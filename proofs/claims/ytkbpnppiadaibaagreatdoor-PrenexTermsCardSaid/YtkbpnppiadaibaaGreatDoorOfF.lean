/- Layer 34: formula.Of: the formula of a tree. -/
import Derived.Test.YtkbpnppiadaibaaGreatDoorOfT
import Derived.Test.YtkbpnppiadaibaaGreatDoorMt37
set_option linter.unusedSimpArgs false
set_option linter.unusedVariables false

namespace Go.Proofs.YtkbpnppiadaibaaGreatDoor
open Go.RowKit
theorem TrsAt.kid0 {w : World} {p : Nat → Prop} {l : List Tr} {A : Option Addr} (h : TrsAt w p l A 0) (hk : 0 < l.length) : ∃ ad A0 n0 c0 A1 n1 c1, A = some ad ∧ ad.block < w.heap.size ∧ NdAt w ad l[0].d (.slice A0 n0 c0) (.slice A1 n1 c1) ∧ TrV w p l[0] (ndV l[0].d (.slice A0 n0 c0) (.slice A1 n1 c1)) := by
 obtain ⟨ad, A0, n0, c0, A1, n1, c1, e, hb, h1, h2⟩ := h.kid 0 hk
 exact ⟨ad, A0, n0, c0, A1, n1, c1, e, hb, h1, h2⟩
theorem NdAt.nine {w : World} {ad : Addr} {d : Nd} {s A : Value} (h : NdAt w (ad.add (1 * 9)) d s A) : w.cell? ⟨ad.block, ad.off + 9, none⟩ = some (.int .i64 d.kind) ∧ w.cell? ⟨ad.block, ad.off + 9 + 1, none⟩ = some (.bool d.neg) ∧ w.cell? ⟨ad.block, ad.off + 9 + 2, none⟩ = some s ∧ w.cell? ⟨ad.block, ad.off + 9 + 3, none⟩ = some (.string d.name) ∧ w.cell? ⟨ad.block, ad.off + 9 + 4, none⟩ = some (.int .i64 d.exp) ∧ w.cell? ⟨ad.block, ad.off + 9 + 5, none⟩ = some (.int .i64 d.rel) ∧ w.cell? ⟨ad.block, ad.off + 9 + 6, none⟩ = some (.bool d.truth) ∧ w.cell? ⟨ad.block, ad.off + 9 + 7, none⟩ = some (.bool d.all) ∧ w.cell? ⟨ad.block, ad.off + 9 + 8, none⟩ = some A := h
end Go.Proofs.YtkbpnppiadaibaaGreatDoor
