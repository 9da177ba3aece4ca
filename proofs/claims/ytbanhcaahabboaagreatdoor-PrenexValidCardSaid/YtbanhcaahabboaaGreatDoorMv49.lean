/- Reading the arguments: polynomials and matrices that came in. -/
import Derived.Test.YtbanhcaahabboaaGreatDoorMRow
import Derived.Test.YtbanhcaahabboaaGreatDoorMv22
import Derived.Deep.Slices
import Derived.ChangeSlices
import Derived.Carry
import Derived.OpenShut
import Derived.ProofKit
import Derived.Test.YtbanhcaahabboaaGreatDoorMv42
import Derived.Test.YtbanhcaahabboaaGreatDoorMv41
import Derived.Test.YtbanhcaahabboaaGreatDoorMv0
import Derived.WalkKit
import Derived.Below
import Derived.ChangeSame
set_option linter.unusedSimpArgs false
set_option linter.unusedVariables false

namespace Go.Proofs.YtbanhcaahabboaaGreatDoor
open Go.ChangeShapes Go.WideShapes Go.RowKit

theorem cell_lt {w : World} {a : Addr} {v : Value} (h : w.cell? a = some v) : a.block < w.heap.size := by
  unfold World.cell? at h
  split at h
  · rename_i hh
    exact (Array.getElem?_eq_some_iff.1 hh).1
  · cases h
theorem add_succ_ (a : Addr) (n : Nat) : a.add (n + 1) = ⟨a.block, a.off + (n + 1), none⟩ := by simp [Addr.add]
theorem add_zero_ (a : Addr) : a.add 0 = a := by simp [Addr.add]
theorem len2 {α : Type} {l : List α} (h : l.length = 2) : ∃ x y, l = [x, y] := by
  match l, h with
  | [x, y], _ => exact ⟨x, y, rfl⟩
theorem len3 {α : Type} {l : List α} (h : l.length = 3) : ∃ x y z, l = [x, y, z] := by
  cases l with
  | nil => simp at h
  | cons x r =>
    obtain ⟨y, z, rfl⟩ := len2 (l := r) (by simpa using h)
    exact ⟨x, y, z, rfl⟩
theorem len4 {α : Type} {l : List α} (h : l.length = 4) : ∃ x y z u, l = [x, y, z, u] := by
  cases l with
  | nil => simp at h
  | cons x r =>
    obtain ⟨y, z, u, rfl⟩ := len3 (l := r) (by simpa using h)
    exact ⟨x, y, z, u, rfl⟩
theorem len8 {α : Type} {l : List α} (h : l.length = 8) : ∃ a b c d e f g i, l = [a, b, c, d, e, f, g, i] := by
  obtain ⟨a, b, c, d, h1⟩ := len4 (l := l.take 4) (by rw [List.length_take]; omega)
  obtain ⟨e, f, g, i, h2⟩ := len4 (l := l.drop 4) (by rw [List.length_drop]; omega)
  exact ⟨a, b, c, d, e, f, g, i, by rw [← List.take_append_drop 4 l, h1, h2]; rfl⟩
theorem len9 {α : Type} {l : List α} (h : l.length = 9) : ∃ a b c d e f g i j, l = [a, b, c, d, e, f, g, i, j] := by
  cases l with
  | nil => simp at h
  | cons x r =>
    obtain ⟨a, b, c, d, e, f, g, i, rfl⟩ := len8 (l := r) (by simpa using h)
    exact ⟨x, a, b, c, d, e, f, g, i, rfl⟩

section
variable {H : Type} {enc : TypeId × Value → H} {w : World} {sp : Nat → Bool} {held : Bool}
theorem trod_nat {fuel : Nat} {cs : List Value} {x : DataW H × List MemPlace} (h : DataW.trod enc Tryz.prog w 0 sp held fuel 26 cs = some x) : ∃ A ds c, cs = [.slice A ds.length c] ∧ NatV w (.slice A ds.length c) ds := by
  rcases open_ints Tryz.underlying26 Tryz.underlying180 (by kernel_rfl) h with ⟨rfl, -⟩ | ⟨a, len, cap, zs, rfl, -, hlc, hcm, hzl, -, hcell, hwf⟩
  · exact ⟨none, [], 0, rfl, NatV.nil w⟩
  · have hle : len ≤ zs.length := by rw [hzl]; split <;> omega
    have hlen : ((zs.take len).map Int.toNat).length = len := by rw [List.length_map, List.length_take]; omega
    refine ⟨some a, (zs.take len).map Int.toNat, cap, by rw [hlen], ?_⟩
    refine ⟨some a, cap, rfl, by rw [hlen]; exact hlc, by unfold maxLen at hcm; omega, ?_, fun hp => ⟨a, rfl, ?_, ?_⟩⟩
    · intro d hd
      obtain ⟨z, hz, rfl⟩ := List.mem_map.1 hd
      have := bounds_u32 (hwf z (List.mem_of_mem_take hz))
      show z.toNat < 4294967296
      omega
    · rw [hlen] at hp
      have := cell_lt (hcell 0 (by omega))
      rwa [add_zero_] at this
    · intro j hj
      rw [hlen] at hj
      have hj2 : j < zs.length := by omega
      rw [hcell j hj2]
      have hb := bounds_u32 (hwf zs[j] (List.getElem_mem hj2))
      simp only [List.getElem_map, List.getElem_take]
      rw [List.getD_eq_getElem?_getD, List.getElem?_eq_getElem hj2]
      simp only [Option.getD_some]
      congr 2
      omega
theorem trod_intS {fuel : Nat} {cs : List Value} {x : DataW H × List MemPlace} (h : DataW.trod enc Tryz.prog w 0 sp held fuel 28 cs = some x) : ∃ neg A ds c, cs = [.bool neg, .slice A ds.length c] ∧ NatV w (.slice A ds.length c) ds := by
  obtain ⟨xs, n, rfl, -, hl, hx, hf⟩ := DataW.trod_struct Tryz.underlying28 h
  have hl2 : cs.length = 2 := hl.trans (by kernel_rfl)
  have hx2 : xs.length = 2 := hx
  obtain ⟨c0, c1, rfl⟩ := len2 hl2
  obtain ⟨x0, x1, rfl⟩ := len2 hx2
  have f0 : DataW.trod enc Tryz.prog w 0 sp held n 4 ((List.drop 0 [c0, c1]).take (Tryz.prog.cellsOf 4)) = some x0 := hf 0 _ rfl
  have f1 : DataW.trod enc Tryz.prog w 0 sp held n 26 ((List.drop 1 [c0, c1]).take (Tryz.prog.cellsOf 26)) = some x1 := hf 1 _ rfl
  rw [show Tryz.prog.cellsOf 4 = 1 by kernel_rfl] at f0
  rw [show Tryz.prog.cellsOf 26 = 1 by kernel_rfl] at f1
  simp only [List.drop_zero, List.drop_succ_cons, List.take_succ_cons, List.take_zero, List.getElem?_cons_zero, List.getElem?_cons_succ] at f0 f1
  obtain ⟨b, e, -⟩ := DataW.trod_bool Tryz.underlying4 f0
  obtain ⟨A, ds, c, e1, hn⟩ := trod_nat f1
  simp only [List.cons.injEq, and_true] at e e1
  exact ⟨b, A, ds, c, by rw [e, e1], hn⟩
theorem cells_pl {a : Addr} {r : Pl × Value × Value} (h : w.cells? 0 a 4 = some (plC r)) : PlAt w a r.1 r.2.1 r.2.2 ∧ a.block < w.heap.size := by
  have hc := (World.cells?_some h).2.2
  have c0 := hc 0 (by omega)
  have c1 := hc 1 (by omega)
  have c2 := hc 2 (by omega)
  have c3 := hc 3 (by omega)
  rw [add_zero_] at c0
  rw [add_succ_] at c1 c2 c3
  exact ⟨⟨c0, c1, c2, c3⟩, cell_lt c0⟩
theorem trod_poly (fuel : Nat) : ∀ (cs : List Value) (x : DataW H × List MemPlace), DataW.trod enc Tryz.prog w 0 sp held fuel 31 cs = some x → ∃ r : Pl × Value × Value, cs = plC r ∧ PlV w (fun _ => True) r.1 (plV r.1 r.2.1 r.2.2) := by
  induction fuel using Nat.strongRecOn with
  | _ fuel ih =>
  intro cs x h
  obtain ⟨xs, n, rfl, -, hl, hx, hf⟩ := DataW.trod_struct Tryz.underlying31 h
  have hk : Tryz.prog.cellsOf 31 = 4 := by kernel_rfl
  have hl2 : cs.length = 4 := hl.trans hk
  have hx2 : xs.length = 3 := hx
  obtain ⟨c0, c1, c2, c3, rfl⟩ := len4 hl2
  obtain ⟨x0, x1, x2, rfl⟩ := len3 hx2
  have f0 : DataW.trod enc Tryz.prog w 0 sp held n 3 ((List.drop 0 [c0, c1, c2, c3]).take (Tryz.prog.cellsOf 3)) = some x0 := hf 0 _ rfl
  have f1 : DataW.trod enc Tryz.prog w 0 sp held n 28 ((List.drop 1 [c0, c1, c2, c3]).take (Tryz.prog.cellsOf 28)) = some x1 := hf 1 _ rfl
  have f2 : DataW.trod enc Tryz.prog w 0 sp held n 29 ((List.drop 3 [c0, c1, c2, c3]).take (Tryz.prog.cellsOf 29)) = some x2 := hf 2 _ rfl
  rw [show Tryz.prog.cellsOf 3 = 1 by kernel_rfl] at f0
  rw [show Tryz.prog.cellsOf 28 = 2 by kernel_rfl] at f1
  rw [show Tryz.prog.cellsOf 29 = 1 by kernel_rfl] at f2
  simp only [List.drop_zero, List.drop_succ_cons, List.take_succ_cons, List.take_zero, List.getElem?_cons_zero, List.getElem?_cons_succ] at f0 f1 f2
  obtain ⟨lv, e0, -⟩ := DataW.trod_int Tryz.underlying3 f0
  obtain ⟨neg, A, ds, c, e1, hn⟩ := trod_intS f1
  simp only [List.cons.injEq, and_true] at e0 e1
  obtain ⟨e1, e2⟩ := e1
  have hkids : ∃ ks B m, c3 = .slice B ks.length m ∧ ks.length ≤ m ∧ m ≤ 9223372036854775807 ∧ PlsAt w (fun _ => True) ks B 0 := by
    rcases DataW.trod_slice Tryz.underlying29 f2 with ⟨e8, -⟩ | ⟨a, len, cap, elems, rest, n', hfu, e8, -, -, hlc, hcm, hel, hat, -⟩
    · simp only [List.cons.injEq, and_true] at e8
      exact ⟨[], none, 0, e8, by simp, by omega, by unfold PlsAt; trivial⟩
    · simp only [List.cons.injEq, and_true] at e8
      rw [hk] at hat
      have each : ∀ i : Nat, ∃ t : Pl, i < len → ∃ s K, PlAt w (a.add (i * 4)) t s K ∧ a.block < w.heap.size ∧ PlV w (fun _ => True) t (plV t s K) := by
        intro i
        by_cases hi : i < len
        · have h1 := hat i hi
          rw [List.getElem?_eq_getElem (by omega)] at h1
          obtain ⟨cs', hc, ht⟩ := Option.bind_eq_some_iff.1 h1
          obtain ⟨r, rfl, hr⟩ := ih n' (by omega) cs' _ ht
          obtain ⟨h2, h3⟩ := cells_pl hc
          rw [block_of_add] at h3
          exact ⟨r.1, fun _ => ⟨r.2.1, r.2.2, h2, h3, hr⟩⟩
        · exact ⟨Pl.zero, fun h => absurd h hi⟩
      refine ⟨(List.range len).map (fun i => Classical.choose (each i)), some a, cap, by simpa using e8, by simpa using hlc, by unfold maxLen at hcm; omega, PlsAt.of _ _ _ fun i hi => ?_⟩
      simp only [List.length_map, List.length_range] at hi
      obtain ⟨s, K, h1, h2, h3⟩ := Classical.choose_spec (each i) hi
      simp only [List.getElem_map, List.getElem_range, Nat.zero_add]
      exact ⟨a, s, K, rfl, h2, trivial, h1, h3⟩
  obtain ⟨ks, B, m, e8, hm1, hm2, hat⟩ := hkids
  refine ⟨(.mk lv neg ds ks, c2, c3), ?_, ?_⟩
  · unfold plC
    rw [e0, e1]
    rfl
  · have := PlV.mk (w := w) (p := fun _ => True) (t := .mk lv neg ds ks) (s := c2) (A := B) (c := m) (by rw [e2]; exact hn) hm1 hm2 hat
    rw [e8]
    exact this
theorem cells_mx {a : Addr} {r : Mx × Value × Value × Value} (h : w.cells? 0 a 7 = some (mxC r)) : MxAt w a r.1 r.2.1 r.2.2.1 r.2.2.2 ∧ a.block < w.heap.size := by
  have hc := (World.cells?_some h).2.2
  have c0 := hc 0 (by omega)
  have c1 := hc 1 (by omega)
  have c2 := hc 2 (by omega)
  have c3 := hc 3 (by omega)
  have c4 := hc 4 (by omega)
  have c5 := hc 5 (by omega)
  have c6 := hc 6 (by omega)
  rw [add_zero_] at c0
  rw [add_succ_] at c1 c2 c3 c4 c5 c6
  exact ⟨⟨c0, c1, c2, c3, c4, c5, c6⟩, cell_lt c0⟩
theorem len7 {α : Type} {l : List α} (h : l.length = 7) : ∃ a b c d e f g, l = [a, b, c, d, e, f, g] := by
  obtain ⟨a, b, c, d, h1⟩ := len4 (l := l.take 4) (by rw [List.length_take]; omega)
  obtain ⟨e, f, g, h2⟩ := len3 (l := l.drop 4) (by rw [List.length_drop]; omega)
  exact ⟨a, b, c, d, e, f, g, by rw [← List.take_append_drop 4 l, h1, h2]; rfl⟩
theorem trod_matrix (fuel : Nat) : ∀ (cs : List Value) (x : DataW H × List MemPlace), DataW.trod enc Tryz.prog w 0 sp held fuel 34 cs = some x → ∃ r : Mx × Value × Value × Value, cs = mxC r ∧ MxV w (fun _ => True) r.1 (mxV r.1 r.2.1 r.2.2.1 r.2.2.2) := by
  induction fuel using Nat.strongRecOn with
  | _ fuel ih =>
  intro cs x h
  obtain ⟨xs, n, rfl, -, hl, hx, hf⟩ := DataW.trod_struct Tryz.underlying34 h
  have hk : Tryz.prog.cellsOf 34 = 7 := by kernel_rfl
  have hl2 : cs.length = 7 := hl.trans hk
  have hx2 : xs.length = 4 := hx
  obtain ⟨c0, c1, c2, c3, c4, c5, c6, rfl⟩ := len7 hl2
  obtain ⟨x0, x1, x2, x3, rfl⟩ := len4 hx2
  have f0 : DataW.trod enc Tryz.prog w 0 sp held n 3 ((List.drop 0 [c0, c1, c2, c3, c4, c5, c6]).take (Tryz.prog.cellsOf 3)) = some x0 := hf 0 _ rfl
  have f1 : DataW.trod enc Tryz.prog w 0 sp held n 24 ((List.drop 1 [c0, c1, c2, c3, c4, c5, c6]).take (Tryz.prog.cellsOf 24)) = some x1 := hf 1 _ rfl
  have f2 : DataW.trod enc Tryz.prog w 0 sp held n 31 ((List.drop 2 [c0, c1, c2, c3, c4, c5, c6]).take (Tryz.prog.cellsOf 31)) = some x2 := hf 2 _ rfl
  have f3 : DataW.trod enc Tryz.prog w 0 sp held n 32 ((List.drop 6 [c0, c1, c2, c3, c4, c5, c6]).take (Tryz.prog.cellsOf 32)) = some x3 := hf 3 _ rfl
  rw [show Tryz.prog.cellsOf 3 = 1 by kernel_rfl] at f0
  rw [show Tryz.prog.cellsOf 24 = 1 by kernel_rfl] at f1
  rw [show Tryz.prog.cellsOf 31 = 4 by kernel_rfl] at f2
  rw [show Tryz.prog.cellsOf 32 = 1 by kernel_rfl] at f3
  simp only [List.drop_zero, List.drop_succ_cons, List.take_succ_cons, List.take_zero, List.getElem?_cons_zero, List.getElem?_cons_succ] at f0 f1 f2 f3
  obtain ⟨kind, e0, -⟩ := DataW.trod_int Tryz.underlying3 f0
  obtain ⟨rel, e1, -⟩ := DataW.trod_int Tryz.underlying24 f1
  obtain ⟨⟨pl, ps, pA⟩, e2, hp⟩ := trod_poly n _ _ f2
  simp only [plC, List.cons.injEq, and_true] at e0 e1 e2
  obtain ⟨e2, e3, e4, e5⟩ := e2
  have hkids : ∃ ks B m, c6 = .slice B ks.length m ∧ ks.length ≤ m ∧ m ≤ 9223372036854775807 ∧ MxsAt w (fun _ => True) ks B 0 := by
    rcases DataW.trod_slice Tryz.underlying32 f3 with ⟨e8, -⟩ | ⟨a, len, cap, elems, rest, n', hfu, e8, -, -, hlc, hcm, hel, hat, -⟩
    · simp only [List.cons.injEq, and_true] at e8
      exact ⟨[], none, 0, e8, by simp, by omega, by unfold MxsAt; trivial⟩
    · simp only [List.cons.injEq, and_true] at e8
      rw [hk] at hat
      have each : ∀ i : Nat, ∃ t : Mx, i < len → ∃ s A K, MxAt w (a.add (i * 7)) t s A K ∧ a.block < w.heap.size ∧ MxV w (fun _ => True) t (mxV t s A K) := by
        intro i
        by_cases hi : i < len
        · have h1 := hat i hi
          rw [List.getElem?_eq_getElem (by omega)] at h1
          obtain ⟨cs', hc, ht⟩ := Option.bind_eq_some_iff.1 h1
          obtain ⟨r, rfl, hr⟩ := ih n' (by omega) cs' _ ht
          obtain ⟨h2, h3⟩ := cells_mx hc
          rw [block_of_add] at h3
          exact ⟨r.1, fun _ => ⟨r.2.1, r.2.2.1, r.2.2.2, h2, h3, hr⟩⟩
        · exact ⟨.mk 0 0 Pl.zero [], fun h => absurd h hi⟩
      refine ⟨(List.range len).map (fun i => Classical.choose (each i)), some a, cap, by simpa using e8, by simpa using hlc, by unfold maxLen at hcm; omega, MxsAt.of _ _ _ fun i hi => ?_⟩
      simp only [List.length_map, List.length_range] at hi
      obtain ⟨s, A, K, h1, h2, h3⟩ := Classical.choose_spec (each i) hi
      simp only [List.getElem_map, List.getElem_range, Nat.zero_add]
      exact ⟨a, s, A, K, rfl, h2, trivial, h1, h3⟩
  obtain ⟨ks, B, m, e8, hm1, hm2, hat⟩ := hkids
  refine ⟨(.mk kind rel pl ks, c4, c5, c6), ?_, ?_⟩
  · unfold mxC
    rw [e0, e1, e2, e3]
    rfl
  · have := MxV.mk (w := w) (p := fun _ => True) (t := .mk kind rel pl ks) (s := c4) (A := c5) (K := B) (c := m) (by rw [e4, e5]; exact hp) hm1 hm2 hat
    rw [e8]
    exact this
set_option maxRecDepth 100000 in
/-- The matrix that came in. -/
theorem open_matrix {r : Reach} {b0 : Nat} {v : Value} {d : DataW H} {ps : List MemPlace} (hval : Value.okWide Tryz.prog w r b0 34 v) (h : DataW.Trod enc Tryz.prog w 0 sp held 34 v d ps) : ∃ t, MxV w (fun _ => True) t v := by
  obtain ⟨fuel, h⟩ := h
  obtain ⟨r, e, ht⟩ := trod_matrix fuel _ _ h
  simp only [Value.okWide, Tryz.underlying34] at hval
  obtain ⟨cs, rfl, -⟩ := hval
  refine ⟨r.1, ?_⟩
  have : Value.agg cs = mxV r.1 r.2.1 r.2.2.1 r.2.2.2 := by
    unfold mxV
    congr 1
    exact Array.toList_inj.1 e
  rw [this]; exact ht
end
end Go.Proofs.YtbanhcaahabboaaGreatDoor

/- Law 38: awake: the prenex form of forall x. x < y. -/
namespace Go.Proofs.YtbanhcaahabboaaGreatDoor
open Go.RowKit

def nx : ByteArray := ⟨#[120]⟩
def ny : ByteArray := ⟨#[121]⟩
def f38 : Fm := .quant true nx (.atom (.name nx) 1 (.name ny))
theorem f38_chk : f38.nmE = 0 := by decide +kernel
theorem f38_free : f38.free = [ny] := by decide +kernel
def Tm.justName : Tm → Prop
  | .name _ => True
  | _ => False
theorem justName_poly (w : World) (L gb bl : Nat) (t : Tm) (h : t.justName) (g : ByteArray → Int) : PolyIH w L gb bl g t := by
  cases t with
  | name s => exact poly_name
  | _ => exact h.elim
/-- x_2 - x_1. -/
def pl38 : Pl := .mk 2 false [] [.mk 1 false [] [Pl.zero, Pl.const (-1)], Pl.const 1]
theorem pl38_low : (Pl.mk 1 false [] [Pl.zero, Pl.const (-1)]).Can := by
  refine mk_can (by omega) (by omega) (by simp) (plCan_of fun c hc => ?_) (by
    have h1 := dg_length_pos (n := 1) (by decide)
    simp [Pl.const, Pl.zero])
  simp only [List.mem_cons, List.not_mem_nil, or_false] at hc
  rcases hc with rfl | rfl
  · exact ⟨by simp [Pl.zero, Pl.lv], Pl.zero_can⟩
  · exact ⟨by simp [Pl.const, Pl.lv], const_can _⟩
theorem pl38_can : pl38.Can := by
  refine mk_can (by omega) (by omega) (by simp) (plCan_of fun c hc => ?_) (by
    have h1 := dg_length_pos (n := 1) (by decide)
    simp [Pl.const, Pl.zero]
    intro e
    rw [e] at h1
    simp at h1)
  simp only [List.mem_cons, List.not_mem_nil, or_false] at hc
  rcases hc with rfl | rfl
  · exact ⟨by simp [Pl.lv], pl38_low⟩
  · exact ⟨by simp [Pl.const, Pl.lv], const_can _⟩
theorem var_val (ρ : Int → Rat) (n : Int) (h : 1 ≤ n ∧ n ≤ 4) : (Pl.var n).val ρ = ρ n := by
  unfold Pl.var
  rw [if_pos h, Pl.mk_val ρ _ _ _ (by omega) h.2, plVal, plVal, plVal, Pl.zero_val, Pl.const_val]
  push_cast
  grind
theorem pl38_eq : (Pl.var 2).add (Pl.var 1).opp = pl38 := Pl.val_uniq (Pl.add_can _ _) pl38_can fun ρ => by
  rw [Pl.add_val, Pl.opp_val, var_val ρ 2 (by omega), var_val ρ 1 (by omega)]
  unfold pl38
  rw [Pl.mk_val ρ _ _ _ (by omega) (by omega), plVal, plVal, plVal, Pl.mk_val ρ _ _ _ (by omega) (by omega), plVal, plVal, plVal, Pl.zero_val, Pl.const_val, Pl.const_val]
  push_cast
  grind
theorem f38_mat : (matF f38 true f38.st).1 = mxAt 1 pl38 ∧ (matF f38 true f38.st).2.all = [true] ∧ (matF f38 true f38.st).2.names = [ny, nx] := by
  unfold Fm.st
  rw [f38_free]
  refine ⟨?_, rfl, rfl⟩
  rw [← pl38_eq]
  rfl

set_option maxRecDepth 100000 in
set_option maxHeartbeats 2000000 in
theorem awake38_any (w : World) : Calls Tryz.prog 12 #[] w (RetB true w) := by
  go_enter Tryz.func12, Tryz.ntmps12
  go_wp2_with fail
  obtain ⟨W, hW⟩ : ∃ W, w.alloc (.cells #[.bool true, .string ⟨#[120]⟩, .iface 97 (.agg #[.iface 95 (.agg #[.string ⟨#[120]⟩]), .int .i64 1, .iface 95 (.agg #[.string ⟨#[121]⟩])])] 99) = W := ⟨_, rfl⟩
  have hWx : Ext w W := by rw [← hW]; exact (Ext.refl w).alloc _
  have hfv : FmV W 0 f38 (.iface 99 (.agg #[.bool true, .string ⟨#[120]⟩, .iface 97 (.agg #[.iface 95 (.agg #[.string ⟨#[120]⟩]), .int .i64 1, .iface 95 (.agg #[.string ⟨#[121]⟩])])])) :=
    ⟨_, rfl, _, _, rfl, rfl, rfl⟩
  have HWX := Lib.hid hWx
  rw [hW]
  clear hW hWx
  refine (of_any (w0 := W) (P := Tm.justName) (L := 0) (by omega) f38 (Ext.refl W) hfv (by decide) rfl f38_chk ⟨by decide, by decide⟩ (by rw [f38_free]; decide) (fun w gb bl t ht g => justName_poly w 0 gb bl t ht g) ⟨trivial, trivial⟩).mono ?_
  rintro e w1 ⟨u, rfl, x1, hp⟩
  rw [f38_free, f38_mat.1, f38_mat.2.1, f38_mat.2.2] at hp
  obtain ⟨A1, c1, A2, c2, A0, n0, c0, B, n1, c3, K, n2, c4, rfl, hA, hN, -⟩ := hp
  obtain ⟨a1, y1, rfl, k1, rfl⟩ := SlR.get_ hA 0 (by simp)
  obtain ⟨a2, y2, rfl, k2, rfl⟩ := SlR.get_ hN 0 (by simp)
  obtain ⟨a2', y3, e2, k3, rfl⟩ := SlR.get_ hN 1 (by simp)
  injection e2 with e2
  subst e2
  simp only [List.getElem_cons_zero, List.getElem_cons_succ] at k1 k2 k3
  have hb1 := cell_lt k1
  have hb2 := cell_lt k2
  have hb3 := cell_lt k3
  rw [block_of_add] at hb1 hb2 hb3
  rw [add_zero_] at k1 k2
  rw [show (1 : Nat) = 0 + 1 from rfl, add_succ_] at k3
  simp only [Nat.zero_add] at k3
  have j2 : ny = ⟨#[121]⟩ := rfl
  have j3 : nx = ⟨#[120]⟩ := rfl
  rw [j2] at k2
  rw [j3] at k3
  clear j2 j3
  have X1 := Lib.hid (HWX.out.trans x1)
  clear hA hN x1 hfv
  unfold pxC
  simp only [List.length_cons, List.length_nil, Nat.zero_add, Nat.reduceAdd, mxAt, Mx.kind, Mx.rel, Mx.p, pl38, Pl.lv, Pl.neg]
  go_wp2_with fail
  go_ret
  exact ⟨rfl, X1.out.alloc _⟩
end Go.Proofs.YtbanhcaahabboaaGreatDoor

/- Reading the arguments: a prenex form that came in. -/
namespace Go.Proofs.YtbanhcaahabboaaGreatDoor
open Go.ChangeShapes Go.WideShapes Go.RowKit
section
variable {H : Type} {enc : TypeId × Value → H} {w : World} {sp : Nat → Bool} {held : Bool}
/-- A slice whose elements are one cell each. -/
theorem slr_of_trod {α : Type} {P : α → Value → Prop} {S T : TypeId} (dflt : α) (hS : Tryz.prog.underlying S = some (.slice T)) (hk : Tryz.prog.cellsOf T = 1)
    (hel : ∀ (fuel : Nat) (cs : List Value) (x : DataW H × List MemPlace), DataW.trod enc Tryz.prog w 0 sp held fuel T cs = some x → ∃ a v, cs = [v] ∧ P a v)
    {fuel : Nat} {cs : List Value} {x : DataW H × List MemPlace} (h : DataW.trod enc Tryz.prog w 0 sp held fuel S cs = some x) : ∃ (l : List α) (A : Option Addr) (c : Nat), cs = [.slice A l.length c] ∧ SlR (fun _ => P) w (.slice A l.length c) l := by
  rcases DataW.trod_slice hS h with ⟨e8, -⟩ | ⟨a, len, cap, elems, rest, n', hfu, e8, -, -, hlc, hcm, hel', hat, -⟩
  · exact ⟨[], none, 0, e8, none, 0, rfl, by simp, by omega, fun j hj => absurd hj (by simp)⟩
  · rw [hk] at hat
    have each : ∀ i : Nat, ∃ t : α, i < len → ∃ v, w.cell? (a.add i) = some v ∧ a.block < w.heap.size ∧ P t v := by
      intro i
      by_cases hi : i < len
      · have h1 := hat i hi
        rw [List.getElem?_eq_getElem (by omega), Nat.mul_one] at h1
        obtain ⟨cs', hc, ht⟩ := Option.bind_eq_some_iff.1 h1
        obtain ⟨t, v, rfl, hp⟩ := hel n' cs' _ ht
        have c0 := (World.cells?_some hc).2.2 0 (by omega)
        rw [add_zero_] at c0
        have h3 := cell_lt c0
        rw [block_of_add] at h3
        exact ⟨t, fun _ => ⟨v, c0, h3, hp⟩⟩
      · exact ⟨dflt, fun h => absurd h hi⟩
    refine ⟨(List.range len).map (fun i => Classical.choose (each i)), some a, cap, by simpa using e8, some a, cap, rfl, by simpa using hlc, by unfold maxLen at hcm; omega, fun j hj => ?_⟩
    simp only [List.length_map, List.length_range] at hj
    obtain ⟨v, h1, h2, h3⟩ := Classical.choose_spec (each j) hj
    simp only [List.getElem_map, List.getElem_range]
    exact ⟨a, v, rfl, h2, h1, h3⟩
theorem len10 {α : Type} {l : List α} (h : l.length = 10) : ∃ a b c d e f g i j k, l = [a, b, c, d, e, f, g, i, j, k] := by
  cases l with
  | nil => simp at h
  | cons x r =>
    obtain ⟨a, b, c, d, e, f, g, i, j, rfl⟩ := len9 (l := r) (by simpa using h)
    exact ⟨x, a, b, c, d, e, f, g, i, j, rfl⟩
set_option maxRecDepth 100000 in
/-- The prenex form that came in. -/
theorem open_prenex2 {r : Reach} {b0 : Nat} {v : Value} {d : DataW H} {ps : List MemPlace} (hval : Value.okWide Tryz.prog w r b0 36 v) (h : DataW.Trod enc Tryz.prog w 0 sp held 36 v d ps) : ∃ fr all nms m, PxV w (fun _ => True) fr all nms m v ∧ fr ≤ 9223372036854775807 := by
  obtain ⟨fuel, h⟩ := h
  simp only [Value.okWide, Tryz.underlying36] at hval
  obtain ⟨cs, rfl, -⟩ := hval
  obtain ⟨xs, n, rfl, -, hl, hx, hf⟩ := DataW.trod_struct Tryz.underlying36 h
  have hk : Tryz.prog.cellsOf 36 = 10 := by kernel_rfl
  have hx2 : xs.length = 4 := hx
  obtain ⟨x0, x1, x2, x3, rfl⟩ := len4 hx2
  have hl2 : cs.toList.length = 10 := hl.trans hk
  obtain ⟨c0, c1, c2, c3, c4, c5, c6, c7, c8, c9, hcs⟩ := len10 hl2
  obtain rfl : cs = #[c0, c1, c2, c3, c4, c5, c6, c7, c8, c9] := Array.toList_inj.1 hcs
  have f0 : DataW.trod enc Tryz.prog w 0 sp held n 3 ((List.drop 0 [c0, c1, c2, c3, c4, c5, c6, c7, c8, c9]).take (Tryz.prog.cellsOf 3)) = some x0 := hf 0 _ rfl
  have f1 : DataW.trod enc Tryz.prog w 0 sp held n 22 ((List.drop 1 [c0, c1, c2, c3, c4, c5, c6, c7, c8, c9]).take (Tryz.prog.cellsOf 22)) = some x1 := hf 1 _ rfl
  have f2 : DataW.trod enc Tryz.prog w 0 sp held n 23 ((List.drop 2 [c0, c1, c2, c3, c4, c5, c6, c7, c8, c9]).take (Tryz.prog.cellsOf 23)) = some x2 := hf 2 _ rfl
  have f3 : DataW.trod enc Tryz.prog w 0 sp held n 34 ((List.drop 3 [c0, c1, c2, c3, c4, c5, c6, c7, c8, c9]).take (Tryz.prog.cellsOf 34)) = some x3 := hf 3 _ rfl
  rw [show Tryz.prog.cellsOf 3 = 1 by kernel_rfl] at f0
  rw [show Tryz.prog.cellsOf 22 = 1 by kernel_rfl] at f1
  rw [show Tryz.prog.cellsOf 23 = 1 by kernel_rfl] at f2
  rw [show Tryz.prog.cellsOf 34 = 7 by kernel_rfl] at f3
  simp only [List.drop_zero, List.drop_succ_cons, List.take_succ_cons, List.take_zero, List.getElem?_cons_zero, List.getElem?_cons_succ] at f0 f1 f2 f3
  obtain ⟨fr, e0, -, hwf⟩ := DataW.trod_int Tryz.underlying3 f0
  have hfr : fr ≤ 9223372036854775807 := by
    simp only [Lit.wf, Bool.and_eq_true, decide_eq_true_eq] at hwf
    exact hwf.2
  obtain ⟨all, A1, k1, e1, h1⟩ := slr_of_trod (P := fun (s : Bool) x => x = .bool s) false Tryz.underlying22 (by kernel_rfl) (fun fuel cs x h => by
    obtain ⟨b, e, -⟩ := DataW.trod_bool Tryz.underlying4 h
    exact ⟨b, _, e, rfl⟩) f1
  obtain ⟨nms, A2, k2, e2, h2⟩ := slr_of_trod (P := fun (s : ByteArray) x => x = .string s) ByteArray.empty Tryz.underlying23 (by kernel_rfl) (fun fuel cs x h => by
    obtain ⟨b, e, -⟩ := DataW.trod_string Tryz.underlying9 h
    exact ⟨b, _, e, rfl⟩) f2
  obtain ⟨⟨m, s, A, K⟩, e3, hm⟩ := trod_matrix n _ _ f3
  simp only [mxC, List.cons.injEq, and_true] at e0 e1 e2 e3
  obtain ⟨e3, e4, e5, e6, e7, e8, e9⟩ := e3
  subst e0 e1 e2 e3 e4 e5 e6 e7 e8 e9
  obtain ⟨B0, n0, d0, B1, n1, d1, B2, d2, ee, -⟩ := hm.open_
  simp only [mxV, Value.agg.injEq, Array.mk.injEq, List.cons.injEq, and_true, true_and] at ee
  obtain ⟨rfl, rfl, rfl⟩ := ee
  exact ⟨fr, all, nms, m, ⟨A1, k1, A2, k2, B0, n0, d0, B1, n1, d1, B2, m.ks.length, d2, rfl, h1, h2, hm⟩, hfr⟩
set_option maxRecDepth 100000 in
theorem open_prenex {r : Reach} {b0 : Nat} {v : Value} {d : DataW H} {ps : List MemPlace} (hval : Value.okWide Tryz.prog w r b0 36 v) (h : DataW.Trod enc Tryz.prog w 0 sp held 36 v d ps) : ∃ fr all nms m, PxV w (fun _ => True) fr all nms m v := by
  obtain ⟨fr, all, nms, m, hp, -⟩ := open_prenex2 hval h
  exact ⟨fr, all, nms, m, hp⟩
end
end Go.Proofs.YtbanhcaahabboaaGreatDoor

/- The last step of every law that leaves its arguments alone. -/
namespace Go.Proofs.YtbanhcaahabboaaGreatDoor
open Go.ChangeShapes Go.WideShapes Go.ChangeAt Go.RowKit

/-- A law whose call only makes new blocks: what the row asks behind the call. -/
theorem post_law {H : Type} {enc : TypeId × Value → H} {P : Program} {f : Func} {s : ChangeSpec} {apart fresh handsOn again : Bool} {W W' : World} {args : Array Value} {v : Value} {ds gs : List (DataW H)} {before pa pv : List MemPlace}
    (hW : DataW.Whole enc P f.params.toList s.vars apart W args.toList ds gs before) (hx : Ext W W')
    (hres : ∀ (b : Nat) (sp : Nat → Bool) (hd : Bool), DataW.TrodAll enc P W' b sp hd f.resultTypes.toList (v.resultList f.resultTypes.size) (s.fn H (ds ++ gs)).results [])
    (hargs : ∀ sp : Nat → Bool, (∀ p ∈ before, sp p.block = true) → DataW.TrodAll enc P W' 0 sp true f.params.toList args.toList (s.fn H (ds ++ gs)).args pa)
    (hvars : ∀ sp : Nat → Bool, (∀ p ∈ before, sp p.block = true) → DataW.TrodVars enc P W' sp s.vars (s.fn H (ds ++ gs)).vars pv) (hps : before = pa ++ pv)
    (hok : ∀ (j : Nat) (t : TypeId) (r : Value), f.resultTypes[j]? = some t → (v.resultList f.resultTypes.size)[j]? = some r → Value.okWide P W' .any 0 t r) :
    s.post enc P f apart fresh handsOn again W args v W' := by
  have low : ∀ p ∈ before, p.block < W.heap.size := fun p hp => hW.lt p hp
  have old : ∀ p ∈ before, (fun b => decide (b < W.heap.size)) p.block = true := fun p hp => by simpa using low p hp
  refine ⟨ds, gs, before, [], pa, pv, hW, hres _ _ _, hargs _ old, hvars _ old, World.keptBut_mono (fun p hp => ⟨hp, ?_⟩) (Below.frame hx (· ∈ before)), fun _ => ?_⟩
  · exact .inr (List.mem_append.1 (hps ▸ hp))
  · obtain ⟨_, _, _, _, _, hz, hn⟩ := hW
    refine ⟨hok, _, _, ([] ++ pa) ++ pv, ⟨[] ++ pa, pv, trodAll_append (hargs _ (fun _ _ => rfl)) (hres _ _ _), hvars _ (fun _ _ => rfl), rfl, fun b off hp => ?_, fun ha => ?_⟩, ?_⟩
    · have hin : MemPlace.cell b off ∈ before := by rw [hps]; simpa using hp
      rw [hx.frozen (low _ hin)]
      exact hz b off hin
    · have h := hn ha
      rw [hps] at h
      simpa using h
    · exact fun p hp _ => by rw [hps]; simpa using hp

theorem own_knob : ownKnob Tryz.prog.godebug = none := by kernel_rfl
theorem laid_out : laidOutB Tryz.prog = true := by kernel_rfl
/-- An argument reads behind the call as it did. -/
theorem arg_stays {H : Type} {enc : TypeId × Value → H} {W W' : World} {t : TypeId} (hr : Tryz.prog.readableRec t = true) (hrow : t < Tryz.prog.types.size) {v : Value} {d : DataW H} {ps : List MemPlace} (h : DataW.Trod enc Tryz.prog W 0 (fun _ => true) true t v d ps) (hx : Ext W W') (hlt : ∀ x ∈ ps, x.block < W.heap.size) {sp : Nat → Bool} (hs : ∀ x ∈ ps, sp x.block = true) : DataW.Trod enc Tryz.prog W' 0 sp true t v d ps :=
  WideElems.Trod_stays laid_out hr hrow h (fun x hx' => Below.same hx (hlt x hx')) hs
end Go.Proofs.YtbanhcaahabboaaGreatDoor
