/- Reading the arguments: a matrix and a row of fractions that came in. -/
import Derived.Test.YtdcapcpchcnidaaGreatMm54
import Derived.Deep.Slices
import Derived.ChangeSlices
import Derived.Carry
import Derived.OpenShut
import Derived.ProofKit
import Derived.Test.YtdcapcpchcnidaaGreatBase
import Derived.WalkKit
import Derived.Below
import Derived.ChangeSame
import Derived.Test.YtdcapcpchcnidaaGreatRows

namespace Go.Proofs.YtdcapcpchcnidaaGreat
open Go.ChangeShapes Go.WideShapes Go.RowKit

theorem cell_lt {w : World} {a : Addr} {v : Value} (h : w.cell? a = some v) : a.block < w.heap.size := by
  unfold World.cell? at h
  split at h
  · rename_i hh
    exact (Array.getElem?_eq_some_iff.1 hh).1
  · cases h
theorem add_succ_ (a : Addr) (n : Nat) : a.add (n + 1) = ⟨a.block, a.off + (n + 1), none⟩ := by simp [Addr.add]
theorem add_zero_ (a : Addr) : a.add 0 = a := by simp [Addr.add]
theorem len2 {α : Type} {l : List α} (h : l.length = 2) : ∃ x y, l = [x, y] := by
  match l, h with
  | [x, y], _ => exact ⟨x, y, rfl⟩
theorem len3 {α : Type} {l : List α} (h : l.length = 3) : ∃ x y z, l = [x, y, z] := by
  cases l with
  | nil => simp at h
  | cons x r =>
    obtain ⟨y, z, rfl⟩ := len2 (l := r) (by simpa using h)
    exact ⟨x, y, z, rfl⟩
theorem len4 {α : Type} {l : List α} (h : l.length = 4) : ∃ x y z u, l = [x, y, z, u] := by
  cases l with
  | nil => simp at h
  | cons x r =>
    obtain ⟨y, z, u, rfl⟩ := len3 (l := r) (by simpa using h)
    exact ⟨x, y, z, u, rfl⟩
theorem len8 {α : Type} {l : List α} (h : l.length = 8) : ∃ a b c d e f g i, l = [a, b, c, d, e, f, g, i] := by
  obtain ⟨a, b, c, d, h1⟩ := len4 (l := l.take 4) (by rw [List.length_take]; omega)
  obtain ⟨e, f, g, i, h2⟩ := len4 (l := l.drop 4) (by rw [List.length_drop]; omega)
  exact ⟨a, b, c, d, e, f, g, i, by rw [← List.take_append_drop 4 l, h1, h2]; rfl⟩
theorem len9 {α : Type} {l : List α} (h : l.length = 9) : ∃ a b c d e f g i j, l = [a, b, c, d, e, f, g, i, j] := by
  cases l with
  | nil => simp at h
  | cons x r =>
    obtain ⟨a, b, c, d, e, f, g, i, rfl⟩ := len8 (l := r) (by simpa using h)
    exact ⟨x, a, b, c, d, e, f, g, i, rfl⟩

section
variable {H : Type} {enc : TypeId × Value → H} {w : World} {sp : Nat → Bool} {held : Bool}
theorem trod_nat {fuel : Nat} {cs : List Value} {x : DataW H × List MemPlace} (h : DataW.trod enc Tryz.prog w 0 sp held fuel 24 cs = some x) : ∃ A ds c, cs = [.slice A ds.length c] ∧ NatV w (.slice A ds.length c) ds := by
  rcases open_ints Tryz.underlying24 Tryz.underlying57 (by kernel_rfl) h with ⟨rfl, -⟩ | ⟨a, len, cap, zs, rfl, -, hlc, hcm, hzl, -, hcell, hwf⟩
  · exact ⟨none, [], 0, rfl, NatV.nil w⟩
  · have hle : len ≤ zs.length := by rw [hzl]; split <;> omega
    have hlen : ((zs.take len).map Int.toNat).length = len := by rw [List.length_map, List.length_take]; omega
    refine ⟨some a, (zs.take len).map Int.toNat, cap, by rw [hlen], ?_⟩
    refine ⟨some a, cap, rfl, by rw [hlen]; exact hlc, by unfold maxLen at hcm; omega, ?_, fun hp => ⟨a, rfl, ?_, ?_⟩⟩
    · intro d hd
      obtain ⟨z, hz, rfl⟩ := List.mem_map.1 hd
      have := bounds_u32 (hwf z (List.mem_of_mem_take hz))
      show z.toNat < 4294967296
      omega
    · rw [hlen] at hp
      have := cell_lt (hcell 0 (by omega))
      rwa [add_zero_] at this
    · intro j hj
      rw [hlen] at hj
      have hj2 : j < zs.length := by omega
      rw [hcell j hj2]
      have hb := bounds_u32 (hwf zs[j] (List.getElem_mem hj2))
      simp only [List.getElem_map, List.getElem_take]
      rw [List.getD_eq_getElem?_getD, List.getElem?_eq_getElem hj2]
      simp only [Option.getD_some]
      congr 2
      omega
theorem trod_intS {fuel : Nat} {cs : List Value} {x : DataW H × List MemPlace} (h : DataW.trod enc Tryz.prog w 0 sp held fuel 26 cs = some x) : ∃ neg A ds c, cs = [.bool neg, .slice A ds.length c] ∧ NatV w (.slice A ds.length c) ds := by
  obtain ⟨xs, n, rfl, -, hl, hx, hf⟩ := DataW.trod_struct Tryz.underlying26 h
  have hl2 : cs.length = 2 := hl.trans (by kernel_rfl)
  have hx2 : xs.length = 2 := hx
  obtain ⟨c0, c1, rfl⟩ := len2 hl2
  obtain ⟨x0, x1, rfl⟩ := len2 hx2
  have f0 : DataW.trod enc Tryz.prog w 0 sp held n 4 ((List.drop 0 [c0, c1]).take (Tryz.prog.cellsOf 4)) = some x0 := hf 0 _ rfl
  have f1 : DataW.trod enc Tryz.prog w 0 sp held n 24 ((List.drop 1 [c0, c1]).take (Tryz.prog.cellsOf 24)) = some x1 := hf 1 _ rfl
  rw [show Tryz.prog.cellsOf 4 = 1 by kernel_rfl] at f0
  rw [show Tryz.prog.cellsOf 24 = 1 by kernel_rfl] at f1
  simp only [List.drop_zero, List.drop_succ_cons, List.take_succ_cons, List.take_zero, List.getElem?_cons_zero, List.getElem?_cons_succ] at f0 f1
  obtain ⟨b, e, -⟩ := DataW.trod_bool Tryz.underlying4 f0
  obtain ⟨A, ds, c, e1, hn⟩ := trod_nat f1
  simp only [List.cons.injEq, and_true] at e e1
  exact ⟨b, A, ds, c, by rw [e, e1], hn⟩
theorem trod_rat {fuel : Nat} {cs : List Value} {x : DataW H × List MemPlace} (h : DataW.trod enc Tryz.prog w 0 sp held fuel 45 cs = some x) : ∃ neg A ds c B es d, cs = [.bool neg, .slice A ds.length c, .slice B es.length d] ∧ NatV w (.slice A ds.length c) ds ∧ NatV w (.slice B es.length d) es := by
  obtain ⟨xs, n, rfl, -, hl, hx, hf⟩ := DataW.trod_struct Tryz.underlying45 h
  have hl2 : cs.length = 3 := hl.trans (by kernel_rfl)
  have hx2 : xs.length = 2 := hx
  obtain ⟨c0, c1, c2, rfl⟩ := len3 hl2
  obtain ⟨x0, x1, rfl⟩ := len2 hx2
  have f0 : DataW.trod enc Tryz.prog w 0 sp held n 26 ((List.drop 0 [c0, c1, c2]).take (Tryz.prog.cellsOf 26)) = some x0 := hf 0 _ rfl
  have f1 : DataW.trod enc Tryz.prog w 0 sp held n 24 ((List.drop 2 [c0, c1, c2]).take (Tryz.prog.cellsOf 24)) = some x1 := hf 1 _ rfl
  rw [show Tryz.prog.cellsOf 26 = 2 by kernel_rfl] at f0
  rw [show Tryz.prog.cellsOf 24 = 1 by kernel_rfl] at f1
  simp only [List.drop_zero, List.drop_succ_cons, List.take_succ_cons, List.take_zero, List.getElem?_cons_zero, List.getElem?_cons_succ] at f0 f1
  obtain ⟨neg, A, ds, c, e, hn⟩ := trod_intS f0
  obtain ⟨B, es, d, e1, hn1⟩ := trod_nat f1
  simp only [List.cons.injEq, and_true] at e e1
  exact ⟨neg, A, ds, c, B, es, d, by rw [e.1, e.2, e1], hn, hn1⟩
theorem cells_pl {a : Addr} {r : Pl × Value × Value} (h : w.cells? 0 a 4 = some (plC r)) : PlAt w a r.1 r.2.1 r.2.2 ∧ a.block < w.heap.size := by
  have hc := (World.cells?_some h).2.2
  have c0 := hc 0 (by omega)
  have c1 := hc 1 (by omega)
  have c2 := hc 2 (by omega)
  have c3 := hc 3 (by omega)
  rw [add_zero_] at c0
  rw [add_succ_] at c1 c2 c3
  exact ⟨⟨c0, c1, c2, c3⟩, cell_lt c0⟩
theorem trod_poly (fuel : Nat) : ∀ (cs : List Value) (x : DataW H × List MemPlace), DataW.trod enc Tryz.prog w 0 sp held fuel 29 cs = some x → ∃ r : Pl × Value × Value, cs = plC r ∧ PlV w (fun _ => True) r.1 (plV r.1 r.2.1 r.2.2) := by
  induction fuel using Nat.strongRecOn with
  | _ fuel ih =>
  intro cs x h
  obtain ⟨xs, n, rfl, -, hl, hx, hf⟩ := DataW.trod_struct Tryz.underlying29 h
  have hk : Tryz.prog.cellsOf 29 = 4 := by kernel_rfl
  have hl2 : cs.length = 4 := hl.trans hk
  have hx2 : xs.length = 3 := hx
  obtain ⟨c0, c1, c2, c3, rfl⟩ := len4 hl2
  obtain ⟨x0, x1, x2, rfl⟩ := len3 hx2
  have f0 : DataW.trod enc Tryz.prog w 0 sp held n 3 ((List.drop 0 [c0, c1, c2, c3]).take (Tryz.prog.cellsOf 3)) = some x0 := hf 0 _ rfl
  have f1 : DataW.trod enc Tryz.prog w 0 sp held n 26 ((List.drop 1 [c0, c1, c2, c3]).take (Tryz.prog.cellsOf 26)) = some x1 := hf 1 _ rfl
  have f2 : DataW.trod enc Tryz.prog w 0 sp held n 27 ((List.drop 3 [c0, c1, c2, c3]).take (Tryz.prog.cellsOf 27)) = some x2 := hf 2 _ rfl
  rw [show Tryz.prog.cellsOf 3 = 1 by kernel_rfl] at f0
  rw [show Tryz.prog.cellsOf 26 = 2 by kernel_rfl] at f1
  rw [show Tryz.prog.cellsOf 27 = 1 by kernel_rfl] at f2
  simp only [List.drop_zero, List.drop_succ_cons, List.take_succ_cons, List.take_zero, List.getElem?_cons_zero, List.getElem?_cons_succ] at f0 f1 f2
  obtain ⟨lv, e0, -⟩ := DataW.trod_int Tryz.underlying3 f0
  obtain ⟨neg, A, ds, c, e1, hn⟩ := trod_intS f1
  simp only [List.cons.injEq, and_true] at e0 e1
  obtain ⟨e1, e2⟩ := e1
  have hkids : ∃ ks B m, c3 = .slice B ks.length m ∧ ks.length ≤ m ∧ m ≤ 9223372036854775807 ∧ PlsAt w (fun _ => True) ks B 0 := by
    rcases DataW.trod_slice Tryz.underlying27 f2 with ⟨e8, -⟩ | ⟨a, len, cap, elems, rest, n', hfu, e8, -, -, hlc, hcm, hel, hat, -⟩
    · simp only [List.cons.injEq, and_true] at e8
      exact ⟨[], none, 0, e8, by simp, by omega, by unfold PlsAt; trivial⟩
    · simp only [List.cons.injEq, and_true] at e8
      rw [hk] at hat
      have each : ∀ i : Nat, ∃ t : Pl, i < len → ∃ s K, PlAt w (a.add (i * 4)) t s K ∧ a.block < w.heap.size ∧ PlV w (fun _ => True) t (plV t s K) := by
        intro i
        by_cases hi : i < len
        · have h1 := hat i hi
          rw [List.getElem?_eq_getElem (by omega)] at h1
          obtain ⟨cs', hc, ht⟩ := Option.bind_eq_some_iff.1 h1
          obtain ⟨r, rfl, hr⟩ := ih n' (by omega) cs' _ ht
          obtain ⟨h2, h3⟩ := cells_pl hc
          rw [block_of_add] at h3
          exact ⟨r.1, fun _ => ⟨r.2.1, r.2.2, h2, h3, hr⟩⟩
        · exact ⟨Pl.zero, fun h => absurd h hi⟩
      refine ⟨(List.range len).map (fun i => Classical.choose (each i)), some a, cap, by simpa using e8, by simpa using hlc, by unfold maxLen at hcm; omega, PlsAt.of _ _ _ fun i hi => ?_⟩
      simp only [List.length_map, List.length_range] at hi
      obtain ⟨s, K, h1, h2, h3⟩ := Classical.choose_spec (each i) hi
      simp only [List.getElem_map, List.getElem_range, Nat.zero_add]
      exact ⟨a, s, K, rfl, h2, trivial, h1, h3⟩
  obtain ⟨ks, B, m, e8, hm1, hm2, hat⟩ := hkids
  refine ⟨(.mk lv neg ds ks, c2, c3), ?_, ?_⟩
  · unfold plC
    rw [e0, e1]
    rfl
  · have := PlV.mk (w := w) (p := fun _ => True) (t := .mk lv neg ds ks) (s := c2) (A := B) (c := m) (by rw [e2]; exact hn) hm1 hm2 hat
    rw [e8]
    exact this
theorem cells_mx {a : Addr} {r : Mx × Value × Value × Value} (h : w.cells? 0 a 7 = some (mxC r)) : MxAt w a r.1 r.2.1 r.2.2.1 r.2.2.2 ∧ a.block < w.heap.size := by
  have hc := (World.cells?_some h).2.2
  have c0 := hc 0 (by omega)
  have c1 := hc 1 (by omega)
  have c2 := hc 2 (by omega)
  have c3 := hc 3 (by omega)
  have c4 := hc 4 (by omega)
  have c5 := hc 5 (by omega)
  have c6 := hc 6 (by omega)
  rw [add_zero_] at c0
  rw [add_succ_] at c1 c2 c3 c4 c5 c6
  exact ⟨⟨c0, c1, c2, c3, c4, c5, c6⟩, cell_lt c0⟩
theorem len7 {α : Type} {l : List α} (h : l.length = 7) : ∃ a b c d e f g, l = [a, b, c, d, e, f, g] := by
  obtain ⟨a, b, c, d, h1⟩ := len4 (l := l.take 4) (by rw [List.length_take]; omega)
  obtain ⟨e, f, g, h2⟩ := len3 (l := l.drop 4) (by rw [List.length_drop]; omega)
  exact ⟨a, b, c, d, e, f, g, by rw [← List.take_append_drop 4 l, h1, h2]; rfl⟩
theorem trod_matrix (fuel : Nat) : ∀ (cs : List Value) (x : DataW H × List MemPlace), DataW.trod enc Tryz.prog w 0 sp held fuel 32 cs = some x → ∃ r : Mx × Value × Value × Value, cs = mxC r ∧ MxV w (fun _ => True) r.1 (mxV r.1 r.2.1 r.2.2.1 r.2.2.2) := by
  induction fuel using Nat.strongRecOn with
  | _ fuel ih =>
  intro cs x h
  obtain ⟨xs, n, rfl, -, hl, hx, hf⟩ := DataW.trod_struct Tryz.underlying32 h
  have hk : Tryz.prog.cellsOf 32 = 7 := by kernel_rfl
  have hl2 : cs.length = 7 := hl.trans hk
  have hx2 : xs.length = 4 := hx
  obtain ⟨c0, c1, c2, c3, c4, c5, c6, rfl⟩ := len7 hl2
  obtain ⟨x0, x1, x2, x3, rfl⟩ := len4 hx2
  have f0 : DataW.trod enc Tryz.prog w 0 sp held n 3 ((List.drop 0 [c0, c1, c2, c3, c4, c5, c6]).take (Tryz.prog.cellsOf 3)) = some x0 := hf 0 _ rfl
  have f1 : DataW.trod enc Tryz.prog w 0 sp held n 22 ((List.drop 1 [c0, c1, c2, c3, c4, c5, c6]).take (Tryz.prog.cellsOf 22)) = some x1 := hf 1 _ rfl
  have f2 : DataW.trod enc Tryz.prog w 0 sp held n 29 ((List.drop 2 [c0, c1, c2, c3, c4, c5, c6]).take (Tryz.prog.cellsOf 29)) = some x2 := hf 2 _ rfl
  have f3 : DataW.trod enc Tryz.prog w 0 sp held n 30 ((List.drop 6 [c0, c1, c2, c3, c4, c5, c6]).take (Tryz.prog.cellsOf 30)) = some x3 := hf 3 _ rfl
  rw [show Tryz.prog.cellsOf 3 = 1 by kernel_rfl] at f0
  rw [show Tryz.prog.cellsOf 22 = 1 by kernel_rfl] at f1
  rw [show Tryz.prog.cellsOf 29 = 4 by kernel_rfl] at f2
  rw [show Tryz.prog.cellsOf 30 = 1 by kernel_rfl] at f3
  simp only [List.drop_zero, List.drop_succ_cons, List.take_succ_cons, List.take_zero, List.getElem?_cons_zero, List.getElem?_cons_succ] at f0 f1 f2 f3
  obtain ⟨kind, e0, -⟩ := DataW.trod_int Tryz.underlying3 f0
  obtain ⟨rel, e1, -⟩ := DataW.trod_int Tryz.underlying22 f1
  obtain ⟨⟨pl, ps, pA⟩, e2, hp⟩ := trod_poly n _ _ f2
  simp only [plC, List.cons.injEq, and_true] at e0 e1 e2
  obtain ⟨e2, e3, e4, e5⟩ := e2
  have hkids : ∃ ks B m, c6 = .slice B ks.length m ∧ ks.length ≤ m ∧ m ≤ 9223372036854775807 ∧ MxsAt w (fun _ => True) ks B 0 := by
    rcases DataW.trod_slice Tryz.underlying30 f3 with ⟨e8, -⟩ | ⟨a, len, cap, elems, rest, n', hfu, e8, -, -, hlc, hcm, hel, hat, -⟩
    · simp only [List.cons.injEq, and_true] at e8
      exact ⟨[], none, 0, e8, by simp, by omega, by unfold MxsAt; trivial⟩
    · simp only [List.cons.injEq, and_true] at e8
      rw [hk] at hat
      have each : ∀ i : Nat, ∃ t : Mx, i < len → ∃ s A K, MxAt w (a.add (i * 7)) t s A K ∧ a.block < w.heap.size ∧ MxV w (fun _ => True) t (mxV t s A K) := by
        intro i
        by_cases hi : i < len
        · have h1 := hat i hi
          rw [List.getElem?_eq_getElem (by omega)] at h1
          obtain ⟨cs', hc, ht⟩ := Option.bind_eq_some_iff.1 h1
          obtain ⟨r, rfl, hr⟩ := ih n' (by omega) cs' _ ht
          obtain ⟨h2, h3⟩ := cells_mx hc
          rw [block_of_add] at h3
          exact ⟨r.1, fun _ => ⟨r.2.1, r.2.2.1, r.2.2.2, h2, h3, hr⟩⟩
        · exact ⟨.mk 0 0 Pl.zero [], fun h => absurd h hi⟩
      refine ⟨(List.range len).map (fun i => Classical.choose (each i)), some a, cap, by simpa using e8, by simpa using hlc, by unfold maxLen at hcm; omega, MxsAt.of _ _ _ fun i hi => ?_⟩
      simp only [List.length_map, List.length_range] at hi
      obtain ⟨s, A, K, h1, h2, h3⟩ := Classical.choose_spec (each i) hi
      simp only [List.getElem_map, List.getElem_range, Nat.zero_add]
      exact ⟨a, s, A, K, rfl, h2, trivial, h1, h3⟩
  obtain ⟨ks, B, m, e8, hm1, hm2, hat⟩ := hkids
  refine ⟨(.mk kind rel pl ks, c4, c5, c6), ?_, ?_⟩
  · unfold mxC
    rw [e0, e1, e2, e3]
    rfl
  · have := MxV.mk (w := w) (p := fun _ => True) (t := .mk kind rel pl ks) (s := c4) (A := c5) (K := B) (c := m) (by rw [e4, e5]; exact hp) hm1 hm2 hat
    rw [e8]
    exact this
set_option maxRecDepth 100000 in
/-- The matrix that came in. -/
theorem open_matrix {r : Reach} {b0 : Nat} {v : Value} {d : DataW H} {ps : List MemPlace} (hval : Value.okWide Tryz.prog w r b0 32 v) (h : DataW.Trod enc Tryz.prog w 0 sp held 32 v d ps) : ∃ t, MxV w (fun _ => True) t v := by
  obtain ⟨fuel, h⟩ := h
  obtain ⟨r, e, ht⟩ := trod_matrix fuel _ _ h
  simp only [Value.okWide, Tryz.underlying32] at hval
  obtain ⟨cs, rfl, -⟩ := hval
  refine ⟨r.1, ?_⟩
  have : Value.agg cs = mxV r.1 r.2.1 r.2.2.1 r.2.2.2 := by
    unfold mxV
    congr 1
    exact Array.toList_inj.1 e
  rw [this]; exact ht
set_option maxRecDepth 100000 in
/-- The point that came in. -/
theorem open_point {r : Reach} {b0 : Nat} {v : Value} {d : DataW H} {ps : List MemPlace} (hval : Value.okWide Tryz.prog w r b0 33 v) (h : DataW.Trod enc Tryz.prog w 0 sp held 33 v d ps) : ∃ l, FrsW w v l := by
  obtain ⟨fuel, h⟩ := h
  obtain ⟨A, n, c, rfl⟩ := okWide_slice Tryz.underlying33 hval
  simp only [Value.cells] at h
  rcases DataW.trod_slice Tryz.underlying33 h with ⟨e8, -⟩ | ⟨a, len, cap, elems, rest, n', hfu, e8, -, -, hlc, hcm, hel, hat, -⟩
  · simp only [List.cons.injEq, and_true] at e8
    rw [e8]
    exact ⟨[], none, 0, rfl, by simp, by omega, fun j hj => absurd hj (by simp)⟩
  · simp only [List.cons.injEq, and_true] at e8
    rw [e8]
    rw [show Tryz.prog.cellsOf 45 = 3 by kernel_rfl] at hat
    have each : ∀ i : Nat, ∃ r : Fr, i < len → ∃ A1 c1 A2 c2, a.block < w.heap.size ∧ (w.cell? (a.add (i * 3)) = some (.bool r.neg) ∧ w.cell? ⟨(a.add (i * 3)).block, (a.add (i * 3)).off + 1, none⟩ = some (.slice A1 r.ds.length c1) ∧ w.cell? ⟨(a.add (i * 3)).block, (a.add (i * 3)).off + 2, none⟩ = some (.slice A2 r.es.length c2)) ∧ NatV w (.slice A1 r.ds.length c1) r.ds ∧ NatV w (.slice A2 r.es.length c2) r.es := by
      intro i
      by_cases hi : i < len
      · have h1 := hat i hi
        rw [List.getElem?_eq_getElem (by omega)] at h1
        obtain ⟨cs', hc, ht⟩ := Option.bind_eq_some_iff.1 h1
        obtain ⟨neg, A1, ds, c1, A2, es, c2, rfl, h2, h3⟩ := trod_rat ht
        have hcc := (World.cells?_some hc).2.2
        have k0 := hcc 0 (by omega)
        have k1 := hcc 1 (by omega)
        have k2 := hcc 2 (by omega)
        rw [add_zero_] at k0
        rw [add_succ_] at k1 k2
        have hb := cell_lt k0
        rw [block_of_add] at hb
        exact ⟨⟨neg, ds, es⟩, fun _ => ⟨A1, c1, A2, c2, hb, ⟨k0, k1, k2⟩, h2, h3⟩⟩
      · exact ⟨⟨false, [], []⟩, fun h => absurd h hi⟩
    refine ⟨(List.range len).map (fun i => Classical.choose (each i)), some a, cap, by simp, by simpa using hlc, by unfold maxLen at hcm; omega, fun j hj => ?_⟩
    simp only [List.length_map, List.length_range] at hj
    obtain ⟨A1, c1, A2, c2, h1, h2, h3, h4⟩ := Classical.choose_spec (each j) hj
    simp only [List.getElem_map, List.getElem_range]
    exact ⟨a, A1, c1, A2, c2, rfl, h1, h2, h3, h4⟩
end
end Go.Proofs.YtdcapcpchcnidaaGreat

/- The last step of every law that leaves its arguments alone. -/
namespace Go.Proofs.YtdcapcpchcnidaaGreat
open Go.ChangeShapes Go.WideShapes Go.ChangeAt Go.RowKit

/-- A law whose call only makes new blocks: what the row asks behind the call. -/
theorem post_law {H : Type} {enc : TypeId × Value → H} {P : Program} {f : Func} {s : ChangeSpec} {apart fresh handsOn again : Bool} {W W' : World} {args : Array Value} {v : Value} {ds gs : List (DataW H)} {before pa pv : List MemPlace}
    (hW : DataW.Whole enc P f.params.toList s.vars apart W args.toList ds gs before) (hx : Ext W W')
    (hres : ∀ (b : Nat) (sp : Nat → Bool) (hd : Bool), DataW.TrodAll enc P W' b sp hd f.resultTypes.toList (v.resultList f.resultTypes.size) (s.fn H (ds ++ gs)).results [])
    (hargs : ∀ sp : Nat → Bool, (∀ p ∈ before, sp p.block = true) → DataW.TrodAll enc P W' 0 sp true f.params.toList args.toList (s.fn H (ds ++ gs)).args pa)
    (hvars : ∀ sp : Nat → Bool, (∀ p ∈ before, sp p.block = true) → DataW.TrodVars enc P W' sp s.vars (s.fn H (ds ++ gs)).vars pv) (hps : before = pa ++ pv)
    (hok : ∀ (j : Nat) (t : TypeId) (r : Value), f.resultTypes[j]? = some t → (v.resultList f.resultTypes.size)[j]? = some r → Value.okWide P W' .any 0 t r) :
    s.post enc P f apart fresh handsOn again W args v W' := by
  have low : ∀ p ∈ before, p.block < W.heap.size := fun p hp => hW.lt p hp
  have old : ∀ p ∈ before, (fun b => decide (b < W.heap.size)) p.block = true := fun p hp => by simpa using low p hp
  refine ⟨ds, gs, before, [], pa, pv, hW, hres _ _ _, hargs _ old, hvars _ old, World.keptBut_mono (fun p hp => ⟨hp, ?_⟩) (Below.frame hx (· ∈ before)), fun _ => ?_⟩
  · exact .inr (List.mem_append.1 (hps ▸ hp))
  · obtain ⟨_, _, _, _, _, hz, hn⟩ := hW
    refine ⟨hok, _, _, ([] ++ pa) ++ pv, ⟨[] ++ pa, pv, trodAll_append (hargs _ (fun _ _ => rfl)) (hres _ _ _), hvars _ (fun _ _ => rfl), rfl, fun b off hp => ?_, fun ha => ?_⟩, ?_⟩
    · have hin : MemPlace.cell b off ∈ before := by rw [hps]; simpa using hp
      rw [hx.frozen (low _ hin)]
      exact hz b off hin
    · have h := hn ha
      rw [hps] at h
      simpa using h
    · exact fun p hp _ => by rw [hps]; simpa using hp

theorem own_knob : ownKnob Tryz.prog.godebug = none := by kernel_rfl
theorem laid_out : laidOutB Tryz.prog = true := by kernel_rfl
/-- An argument reads behind the call as it did. -/
theorem arg_stays {H : Type} {enc : TypeId × Value → H} {W W' : World} {t : TypeId} (hr : Tryz.prog.readableRec t = true) (hrow : t < Tryz.prog.types.size) {v : Value} {d : DataW H} {ps : List MemPlace} (h : DataW.Trod enc Tryz.prog W 0 (fun _ => true) true t v d ps) (hx : Ext W W') (hlt : ∀ x ∈ ps, x.block < W.heap.size) {sp : Nat → Bool} (hs : ∀ x ∈ ps, sp x.block = true) : DataW.Trod enc Tryz.prog W' 0 sp true t v d ps :=
  WideElems.Trod_stays laid_out hr hrow h (fun x hx' => Below.same hx (hlt x hx')) hs
end Go.Proofs.YtdcapcpchcnidaaGreat

/- EvaluateMatrices: for every matrix and every list of fractions the statement answers true: evaluate.At and evaluate.Poly answer as the references do, in value and error, and the arguments stay as they are. No condition. -/
namespace Go.Proofs.YtdcapcpchcnidaaGreat
open Go.ChangeShapes Go.WideShapes Go.ChangeAt Go.RowKit

theorem mx_rec : Tryz.prog.readableRec 32 = true := by kernel_rfl
theorem pt_rec : Tryz.prog.readableRec 33 = true := by kernel_rfl
theorem mx_row : 32 < Tryz.prog.types.size := of_decide_eq_true (by kernel_rfl)
theorem pt_row : 33 < Tryz.prog.types.size := of_decide_eq_true (by kernel_rfl)

set_option maxRecDepth 100000 in
theorem matrices_lifted (os : Os) (started : os.Started) (H : Type) (enc : TypeId × Value → H) :
    ReturnsInHanded {} Tryz.checked os 3 .any (Rows.evaluateMatricesSpec.pre6 enc Tryz.prog Tryz.f3 Rows.evaluateMatricesRow.domain false) (Rows.evaluateMatricesSpec.post enc Tryz.prog Tryz.f3 false true false false) := by
  refine returnsInHanded_of_change (C := Tryz.checked) own_knob started (by kernel_rfl) Tryz.func3
    (ChangeSpec.witness6 (enc := enc) (C := Tryz.checked) false ⟨#[], #[.agg #[.int .i64 0, .int .i64 0, .int .i64 0, .bool false, .slice none 0 0, .slice none 0 0, .slice none 0 0], .slice none 0 0], []⟩ 8 (by kernel_rfl) (by kernel_rfl) (by kernel_rfl) (by kernel_rfl)) ?_
  intro W base args ds gs before hval0 hW _ _
  have hval : ∀ (j : Nat) t v, Tryz.f3.params[j]? = some t → args[j]? = some v → Value.okWide Tryz.prog W .any base t v := hval0
  have hW' := hW
  have low : ∀ p ∈ before, p.block < W.heap.size := fun p hp => hW.lt p hp
  obtain ⟨p, q, hA0, hV, rfl, -, -⟩ := hW
  have hA : DataW.TrodAll enc Tryz.prog W 0 (fun _ => true) true Tryz.f3.params.toList args.toList ds p := hA0
  rw [Tryz.params3] at hA hval
  obtain ⟨v0, vs0, d0, ds0, p0, q0, hargs, rfl, rfl, h0, r0⟩ := trodAll_cons hA
  obtain ⟨v1, vs1, d1, ds1, p1, q1, rfl, rfl, rfl, h1, r1⟩ := trodAll_cons r0
  obtain ⟨rfl, rfl, rfl⟩ := trodAll_nil r1
  obtain rfl : args = #[v0, v1] := by cases args; simp_all
  obtain ⟨rfl, rfl⟩ := trodVars_none hV
  obtain ⟨t, ht⟩ := open_matrix (hval 0 32 v0 rfl rfl) h0
  obtain ⟨l, hl⟩ := open_point (hval 1 33 v1 rfl rfl) h1
  clear hA0 hval0
  simp only [List.append_nil] at hW' low
  refine (lawMatrices_any t v0 ht hl).mono fun e W' ⟨he, hx⟩ => ?_
  subst he
  exact ⟨_, rfl, post_law (pa := p0 ++ p1) (pv := []) hW' hx (fun _ _ _ => (trodAll_cons_mk (shut_bool Tryz.underlying4 _) trodAll_mk0))
    (fun sp hs => by
      have := trodAll_cons_mk (arg_stays mx_rec mx_row h0 hx (fun x hx' => low x (List.mem_append_left _ hx')) (fun x hx' => hs x (List.mem_append_left _ hx'))) (trodAll_cons_mk (arg_stays pt_rec pt_row h1 hx (fun x hx' => low x (List.mem_append_right _ hx')) (fun x hx' => hs x (List.mem_append_right _ hx'))) trodAll_mk0)
      simp only [List.append_nil] at this
      exact this) (fun _ _ => rfl) (by simp)
    (ok_one (by kernel_rfl) rfl (okWide_bool_mk Tryz.underlying4 _))⟩

theorem matrices_over : Rows.evaluateMatricesRow.holds Tryz.pinned (OpenSpec.ofChange Rows.evaluateMatricesSpec) :=
  OpenClaim.holds_of_wide 3 Tryz.f3 rfl rfl rfl rfl rfl rfl rfl ⟨rfl, rfl, rfl, rfl, rfl⟩ rfl rfl rfl rfl rfl (by kernel_rfl) Tryz.func3 (by kernel_rfl)
    (of_decide_eq_true (by kernel_rfl)) (by unfold Func.isWrapper; first | (rw [if_pos (by decide +kernel)]; kernel_rfl) | (rw [if_neg (by decide +kernel)]; exact ⟨rfl, rfl⟩))
    (fun os started H enc _ => matrices_lifted os started H enc)

/-- The statement. -/
theorem matrices_proved : Rows.EvaluateMatricesSaid := matrices_over
#print axioms matrices_proved
end Go.Proofs.YtdcapcpchcnidaaGreat
