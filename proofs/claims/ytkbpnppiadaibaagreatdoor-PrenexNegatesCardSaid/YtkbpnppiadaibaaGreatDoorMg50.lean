/- Reading the arguments: numbers. -/
import Derived.Test.YtkbpnppiadaibaaGreatDoorMg41
import Derived.Test.YtkbpnppiadaibaaGreatDoorMg10
import Derived.Deep.Slices
import Derived.ChangeSlices
import Derived.Carry
import Derived.OpenShut
import Derived.ProofKit
import Derived.Test.YtkbpnppiadaibaaGreatDoorMRow
import Derived.Test.YtkbpnppiadaibaaGreatDoorMg15
import Derived.Test.YtkbpnppiadaibaaGreatDoorMg40
import Derived.Test.YtkbpnppiadaibaaGreatDoorMg49
set_option linter.unusedSimpArgs false
set_option linter.unusedVariables false

namespace Go.Proofs.YtkbpnppiadaibaaGreatDoor
open Go.ChangeShapes Go.WideShapes Go.RowKit

theorem cell_lt {w : World} {a : Addr} {v : Value} (h : w.cell? a = some v) : a.block < w.heap.size := by
  unfold World.cell? at h
  split at h
  · rename_i hh
    exact (Array.getElem?_eq_some_iff.1 hh).1
  · cases h
theorem add_succ_ (a : Addr) (n : Nat) : a.add (n + 1) = ⟨a.block, a.off + (n + 1), none⟩ := by simp [Addr.add]
theorem add_zero_ (a : Addr) : a.add 0 = a := by simp [Addr.add]
theorem len3 {α : Type} {l : List α} (h : l.length = 3) : ∃ x y z, l = [x, y, z] := by
  cases l with
  | nil => simp at h
  | cons x r =>
    obtain ⟨y, z, rfl⟩ := len2 (l := r) (by simpa using h)
    exact ⟨x, y, z, rfl⟩
theorem len4 {α : Type} {l : List α} (h : l.length = 4) : ∃ x y z u, l = [x, y, z, u] := by
  cases l with
  | nil => simp at h
  | cons x r =>
    obtain ⟨y, z, u, rfl⟩ := len3 (l := r) (by simpa using h)
    exact ⟨x, y, z, u, rfl⟩
theorem len8 {α : Type} {l : List α} (h : l.length = 8) : ∃ a b c d e f g i, l = [a, b, c, d, e, f, g, i] := by
  obtain ⟨a, b, c, d, h1⟩ := len4 (l := l.take 4) (by rw [List.length_take]; omega)
  obtain ⟨e, f, g, i, h2⟩ := len4 (l := l.drop 4) (by rw [List.length_drop]; omega)
  exact ⟨a, b, c, d, e, f, g, i, by rw [← List.take_append_drop 4 l, h1, h2]; rfl⟩
theorem len9 {α : Type} {l : List α} (h : l.length = 9) : ∃ a b c d e f g i j, l = [a, b, c, d, e, f, g, i, j] := by
  cases l with
  | nil => simp at h
  | cons x r =>
    obtain ⟨a, b, c, d, e, f, g, i, rfl⟩ := len8 (l := r) (by simpa using h)
    exact ⟨x, a, b, c, d, e, f, g, i, rfl⟩

section
variable {H : Type} {enc : TypeId × Value → H} {w : World} {sp : Nat → Bool} {held : Bool}
theorem trod_nat {fuel : Nat} {cs : List Value} {x : DataW H × List MemPlace} (h : DataW.trod enc Tryz.prog w 0 sp held fuel 23 cs = some x) : ∃ A ds c, cs = [.slice A ds.length c] ∧ NatV w (.slice A ds.length c) ds := by
  rcases open_ints Tryz.underlying23 Tryz.underlying180 (by kernel_rfl) h with ⟨rfl, -⟩ | ⟨a, len, cap, zs, rfl, -, hlc, hcm, hzl, -, hcell, hwf⟩
  · exact ⟨none, [], 0, rfl, NatV.nil w⟩
  · have hle : len ≤ zs.length := by rw [hzl]; split <;> omega
    have hlen : ((zs.take len).map Int.toNat).length = len := by rw [List.length_map, List.length_take]; omega
    refine ⟨some a, (zs.take len).map Int.toNat, cap, by rw [hlen], ?_⟩
    refine ⟨some a, cap, rfl, by rw [hlen]; exact hlc, by unfold maxLen at hcm; omega, ?_, fun hp => ⟨a, rfl, ?_, ?_⟩⟩
    · intro d hd
      obtain ⟨z, hz, rfl⟩ := List.mem_map.1 hd
      have := bounds_u32 (hwf z (List.mem_of_mem_take hz))
      show z.toNat < 4294967296
      omega
    · rw [hlen] at hp
      have := cell_lt (hcell 0 (by omega))
      rwa [add_zero_] at this
    · intro j hj
      rw [hlen] at hj
      have hj2 : j < zs.length := by omega
      rw [hcell j hj2]
      have hb := bounds_u32 (hwf zs[j] (List.getElem_mem hj2))
      simp only [List.getElem_map, List.getElem_take]
      rw [List.getD_eq_getElem?_getD, List.getElem?_eq_getElem hj2]
      simp only [Option.getD_some]
      congr 2
      omega
theorem trod_intS {fuel : Nat} {cs : List Value} {x : DataW H × List MemPlace} (h : DataW.trod enc Tryz.prog w 0 sp held fuel 25 cs = some x) : ∃ neg A ds c, cs = [.bool neg, .slice A ds.length c] ∧ NatV w (.slice A ds.length c) ds := by
  obtain ⟨xs, n, rfl, -, hl, hx, hf⟩ := DataW.trod_struct Tryz.underlying25 h
  have hl2 : cs.length = 2 := hl.trans (by kernel_rfl)
  have hx2 : xs.length = 2 := hx
  obtain ⟨c0, c1, rfl⟩ := len2 hl2
  obtain ⟨x0, x1, rfl⟩ := len2 hx2
  have f0 : DataW.trod enc Tryz.prog w 0 sp held n 4 ((List.drop 0 [c0, c1]).take (Tryz.prog.cellsOf 4)) = some x0 := hf 0 _ rfl
  have f1 : DataW.trod enc Tryz.prog w 0 sp held n 23 ((List.drop 1 [c0, c1]).take (Tryz.prog.cellsOf 23)) = some x1 := hf 1 _ rfl
  rw [show Tryz.prog.cellsOf 4 = 1 by kernel_rfl] at f0
  rw [show Tryz.prog.cellsOf 23 = 1 by kernel_rfl] at f1
  simp only [List.drop_zero, List.drop_succ_cons, List.take_succ_cons, List.take_zero, List.getElem?_cons_zero, List.getElem?_cons_succ] at f0 f1
  obtain ⟨b, e, -⟩ := DataW.trod_bool Tryz.underlying4 f0
  obtain ⟨A, ds, c, e1, hn⟩ := trod_nat f1
  simp only [List.cons.injEq, and_true] at e e1
  exact ⟨b, A, ds, c, by rw [e, e1], hn⟩
end
end Go.Proofs.YtkbpnppiadaibaaGreatDoor

/- Reading the arguments: polynomials and matrices that came in. -/
namespace Go.Proofs.YtkbpnppiadaibaaGreatDoor
open Go.ChangeShapes Go.WideShapes Go.RowKit

section
variable {H : Type} {enc : TypeId × Value → H} {w : World} {sp : Nat → Bool} {held : Bool}
theorem len7 {α : Type} {l : List α} (h : l.length = 7) : ∃ a b c d e f g, l = [a, b, c, d, e, f, g] := by
  obtain ⟨a, b, c, d, h1⟩ := len4 (l := l.take 4) (by rw [List.length_take]; omega)
  obtain ⟨e, f, g, h2⟩ := len3 (l := l.drop 4) (by rw [List.length_drop]; omega)
  exact ⟨a, b, c, d, e, f, g, by rw [← List.take_append_drop 4 l, h1, h2]; rfl⟩
end
end Go.Proofs.YtkbpnppiadaibaaGreatDoor

/- Law 38: awake: the prenex form of forall x. x < y. -/
namespace Go.Proofs.YtkbpnppiadaibaaGreatDoor
open Go.RowKit

def nx : ByteArray := ⟨#[120]⟩
def ny : ByteArray := ⟨#[121]⟩
def f38 : Fm := .quant true nx (.atom (.name nx) 1 (.name ny))
theorem f38_chk : f38.nmE = 0 := by decide +kernel
theorem f38_free : f38.free = [ny] := by decide +kernel
def Tm.justName : Tm → Prop
  | .name _ => True
  | _ => False
theorem justName_poly (w : World) (L gb bl : Nat) (t : Tm) (h : t.justName) (g : ByteArray → Int) : PolyIH w L gb bl g t := by
  cases t with
  | name s => exact poly_name
  | _ => exact h.elim
/-- x_2 - x_1. -/
def pl38 : Pl := .mk 2 false [] [.mk 1 false [] [Pl.zero, Pl.const (-1)], Pl.const 1]
theorem pl38_low : (Pl.mk 1 false [] [Pl.zero, Pl.const (-1)]).Can := by
  refine mk_can (by omega) (by omega) (by simp) (plCan_of fun c hc => ?_) (by
    have h1 := dg_length_pos (n := 1) (by decide)
    simp [Pl.const, Pl.zero])
  simp only [List.mem_cons, List.not_mem_nil, or_false] at hc
  rcases hc with rfl | rfl
  · exact ⟨by simp [Pl.zero, Pl.lv], Pl.zero_can⟩
  · exact ⟨by simp [Pl.const, Pl.lv], const_can _⟩
theorem pl38_can : pl38.Can := by
  refine mk_can (by omega) (by omega) (by simp) (plCan_of fun c hc => ?_) (by
    have h1 := dg_length_pos (n := 1) (by decide)
    simp [Pl.const, Pl.zero]
    intro e
    rw [e] at h1
    simp at h1)
  simp only [List.mem_cons, List.not_mem_nil, or_false] at hc
  rcases hc with rfl | rfl
  · exact ⟨by simp [Pl.lv], pl38_low⟩
  · exact ⟨by simp [Pl.const, Pl.lv], const_can _⟩
theorem var_val (ρ : Int → Rat) (n : Int) (h : 1 ≤ n ∧ n ≤ 4) : (Pl.var n).val ρ = ρ n := by
  unfold Pl.var
  rw [if_pos h, Pl.mk_val ρ _ _ _ (by omega) h.2, plVal, plVal, plVal, Pl.zero_val, Pl.const_val]
  push_cast
  grind
theorem pl38_eq : (Pl.var 2).add (Pl.var 1).opp = pl38 := Pl.val_uniq (Pl.add_can _ _) pl38_can fun ρ => by
  rw [Pl.add_val, Pl.opp_val, var_val ρ 2 (by omega), var_val ρ 1 (by omega)]
  unfold pl38
  rw [Pl.mk_val ρ _ _ _ (by omega) (by omega), plVal, plVal, plVal, Pl.mk_val ρ _ _ _ (by omega) (by omega), plVal, plVal, plVal, Pl.zero_val, Pl.const_val, Pl.const_val]
  push_cast
  grind
theorem f38_mat : (matF f38 true f38.st).1 = mxAt 1 pl38 ∧ (matF f38 true f38.st).2.all = [true] ∧ (matF f38 true f38.st).2.names = [ny, nx] := by
  unfold Fm.st
  rw [f38_free]
  refine ⟨?_, rfl, rfl⟩
  rw [← pl38_eq]
  rfl

set_option maxRecDepth 100000 in
set_option maxHeartbeats 2000000 in
theorem awake38_any (w : World) : Calls Tryz.prog 9 #[] w (RetB true w) := by
  go_enter Tryz.func9, Tryz.ntmps9
  go_wp2_with fail
  obtain ⟨W, hW⟩ : ∃ W, w.alloc (.cells #[.bool true, .string ⟨#[120]⟩, .iface 93 (.agg #[.iface 91 (.agg #[.string ⟨#[120]⟩]), .int .i64 1, .iface 91 (.agg #[.string ⟨#[121]⟩])])] 95) = W := ⟨_, rfl⟩
  have hWx : Ext w W := by rw [← hW]; exact (Ext.refl w).alloc _
  have hfv : FmV W 0 f38 (.iface 95 (.agg #[.bool true, .string ⟨#[120]⟩, .iface 93 (.agg #[.iface 91 (.agg #[.string ⟨#[120]⟩]), .int .i64 1, .iface 91 (.agg #[.string ⟨#[121]⟩])])])) :=
    ⟨_, rfl, _, _, rfl, rfl, rfl⟩
  have HWX := Lib.hid hWx
  rw [hW]
  clear hW hWx
  refine (of_any (w0 := W) (P := Tm.justName) (L := 0) (by omega) f38 (Ext.refl W) hfv (by decide) rfl f38_chk ⟨by decide, by decide⟩ (by rw [f38_free]; decide) (fun w gb bl t ht g => justName_poly w 0 gb bl t ht g) ⟨trivial, trivial⟩).mono ?_
  rintro e w1 ⟨u, rfl, x1, hp⟩
  rw [f38_free, f38_mat.1, f38_mat.2.1, f38_mat.2.2] at hp
  obtain ⟨A1, c1, A2, c2, A0, n0, c0, B, n1, c3, K, n2, c4, rfl, hA, hN, -⟩ := hp
  obtain ⟨a1, y1, rfl, k1, rfl⟩ := SlR.get_ hA 0 (by simp)
  obtain ⟨a2, y2, rfl, k2, rfl⟩ := SlR.get_ hN 0 (by simp)
  obtain ⟨a2', y3, e2, k3, rfl⟩ := SlR.get_ hN 1 (by simp)
  injection e2 with e2
  subst e2
  simp only [List.getElem_cons_zero, List.getElem_cons_succ] at k1 k2 k3
  have hb1 := cell_lt k1
  have hb2 := cell_lt k2
  have hb3 := cell_lt k3
  rw [block_of_add] at hb1 hb2 hb3
  rw [add_zero_] at k1 k2
  rw [show (1 : Nat) = 0 + 1 from rfl, add_succ_] at k3
  simp only [Nat.zero_add] at k3
  have j2 : ny = ⟨#[121]⟩ := rfl
  have j3 : nx = ⟨#[120]⟩ := rfl
  rw [j2] at k2
  rw [j3] at k3
  clear j2 j3
  have X1 := Lib.hid (HWX.out.trans x1)
  clear hA hN x1 hfv
  unfold pxC
  simp only [List.length_cons, List.length_nil, Nat.zero_add, Nat.reduceAdd, mxAt, Mx.kind, Mx.rel, Mx.p, pl38, Pl.lv, Pl.neg]
  go_wp2_with fail
  go_ret
  exact ⟨rfl, X1.out.alloc _⟩
end Go.Proofs.YtkbpnppiadaibaaGreatDoor
