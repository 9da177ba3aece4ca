/- Reference 38: FewForm: is a prenex form of a size that is looked at? -/
import Derived.Test.YtbanhcaahabboaaGreatDoorMn43
import Derived.Test.YtbanhcaahabboaaGreatDoorMn26
import Derived.Test.YtbanhcaahabboaaGreatDoorMn45
import Derived.Deep.RegionLaw
set_option linter.unusedSimpArgs false
set_option linter.unusedVariables false

namespace Go.Proofs.YtbanhcaahabboaaGreatDoor
open Go.RowKit

def nm40 (s : ByteArray) : Bool := decide (s.size ≤ 40)
/-- cylinderref38.FewForm -/
def fewF (all : List Bool) (nms : List ByteArray) (m : Mx) (n : Nat) : Bool := (decide (nms.length ≤ 8) && nms.all nm40) && (decide (all.length ≤ 8) && m.few n)
theorem fewF_bad {all : List Bool} {nms : List ByteArray} {m : Mx} {n : Nat} (k : Nat) (hk : k < nms.length) (h : nm40 nms[k] = false) : fewF all nms m n = false := by
  unfold fewF
  rw [Bool.and_eq_false_iff]
  refine .inl ?_
  rw [Bool.and_eq_false_iff]
  exact .inr (List.all_eq_false.2 ⟨nms[k], List.getElem_mem hk, by rw [h]; simp⟩)
/-- Ten cells in a box. -/
theorem box10 (w : World) (T : TypeId) (v0 v1 v2 v3 v4 v5 v6 v7 v8 v9 : Value) : ∀ W, w.alloc (.cells #[v0, v1, v2, v3, v4, v5, v6, v7, v8, v9] T) = W → Ext w W ∧ W.heap.size = w.heap.size + 1 ∧ (W.cell? ⟨w.heap.size, 0, none⟩ = some v0 ∧ W.cell? ⟨w.heap.size, 1, none⟩ = some v1 ∧ W.cell? ⟨w.heap.size, 2, none⟩ = some v2 ∧ W.cell? ⟨w.heap.size, 3, none⟩ = some v3 ∧ W.cell? ⟨w.heap.size, 4, none⟩ = some v4 ∧ W.cell? ⟨w.heap.size, 5, none⟩ = some v5 ∧ W.cell? ⟨w.heap.size, 6, none⟩ = some v6 ∧ W.cell? ⟨w.heap.size, 7, none⟩ = some v7 ∧ W.cell? ⟨w.heap.size, 8, none⟩ = some v8 ∧ W.cell? ⟨w.heap.size, 9, none⟩ = some v9) := by
  rintro W rfl
  refine ⟨(Ext.refl w).alloc _, by simp, ?_, ?_, ?_, ?_, ?_, ?_, ?_, ?_, ?_, ?_⟩ <;> simp [go_sem]

set_option maxRecDepth 100000 in
set_option maxHeartbeats 2000000 in
theorem fewF_any {w : World} {q : Nat → Prop} {fr : Int} {all : List Bool} {nms : List ByteArray} {m : Mx} {v : Value} (n : Nat) (hn : n ≤ 1000000) (h : PxV w q fr all nms m v) : Calls Tryz.prog 13 #[v, .int .i64 n] w (RetB (fewF all nms m n) w) := by
  obtain ⟨A1, c1, A2, c2, A0, n0, c0, B, n1, c3, K, n2, c4, rfl, hb1, hs1, hm1⟩ := h
  have HS := Lib.hid hs1
  have HM : Hid (∀ w', Ext w w' → Calls Tryz.prog 19 #[mxV m (.slice A0 n0 c0) (.slice B n1 c3) (.slice K n2 c4), .int .i64 n] w' fun e w'' => e = .returned (.bool (m.few n)) ∧ Ext w' w'') := Lib.hid (fun w' hx => fewMx_any n hn m _ w' (hm1.ext hx))
  unfold mxV at HM
  obtain ⟨A', c', e', l1, l2, -⟩ := id hs1
  injection e' with e1 e2 e3
  subst e1 e3
  obtain ⟨A', c', e', l3, l4, -⟩ := id hb1
  injection e' with e1 e2 e3
  subst e1 e3
  clear e2 hs1 hb1 hm1
  obtain ⟨W, hW⟩ : ∃ W, w.alloc (.cells #[.int .i64 fr, .slice A1 all.length c1, .slice A2 nms.length c2, .int .i64 m.kind, .int .i64 m.rel, .int .i64 m.p.lv, .bool m.p.neg, .slice A0 n0 c0, .slice B n1 c3, .slice K n2 c4] 36) = W := ⟨_, rfl⟩
  obtain ⟨hx, hsz, b0, b1, b2, b3, b4, b5, b6, b7, b8, b9⟩ := box10 w _ _ _ _ _ _ _ _ _ _ _ W hW
  have HWX := Lib.hid hx
  have HB : Hid (∀ wr, Ext W wr → wr.cell? ⟨w.heap.size, 1, none⟩ = some (.slice A1 all.length c1) ∧ wr.cell? ⟨w.heap.size, 2, none⟩ = some (.slice A2 nms.length c2) ∧ (wr.cell? ⟨w.heap.size, 3, none⟩ = some (.int .i64 m.kind) ∧ wr.cell? ⟨w.heap.size, 4, none⟩ = some (.int .i64 m.rel) ∧ wr.cell? ⟨w.heap.size, 5, none⟩ = some (.int .i64 m.p.lv) ∧ wr.cell? ⟨w.heap.size, 6, none⟩ = some (.bool m.p.neg) ∧ wr.cell? ⟨w.heap.size, 7, none⟩ = some (.slice A0 n0 c0) ∧ wr.cell? ⟨w.heap.size, 8, none⟩ = some (.slice B n1 c3) ∧ wr.cell? ⟨w.heap.size, 9, none⟩ = some (.slice K n2 c4))) := Lib.hid (by
    intro wr hxx
    have k : ∀ j, wr.cell? ⟨w.heap.size, j, none⟩ = W.cell? ⟨w.heap.size, j, none⟩ := fun j => hxx.cell (p := ⟨w.heap.size, j, none⟩) (by show w.heap.size < _; omega)
    exact ⟨(k 1).trans b1, (k 2).trans b2, (k 3).trans b3, (k 4).trans b4, (k 5).trans b5, (k 6).trans b6, (k 7).trans b7, (k 8).trans b8, (k 9).trans b9⟩)
  clear hx hsz b0 b1 b3 b4 b5 b6 b7 b8 b9
  unfold pxC
  go_enter Tryz.func13, Tryz.ntmps13
  go_wp2_with fail
  clear hW b2
  go_loopw [9] (fun iv wr => ∃ k : Nat, k ≤ nms.length ∧ k ≤ 8 ∧ iv = .int .i64 k ∧ Hid ((nms.take k).all nm40 = true ∧ Ext W wr)) (fun iv _ => nms.length - (intOf iv).toNat)
  case atStart => exact ⟨0, Nat.zero_le _, by omega, rfl, ⟨by simp, Ext.refl W⟩⟩
  case round =>
    obtain ⟨k, hk, hk8, rfl, ⟨hall, hx⟩⟩ := hrel
    have HA := Lib.hid hall
    have HX := Lib.hid hx
    clear hall hx
    obtain ⟨b1, b2, b3, b4, b5, b6, b7, b8, b9⟩ := HB.out wr HX.out
    by_cases hlt : k < nms.length
    · by_cases h8 : 8 ≤ k
      · have hd8 : decide ((8 : Int) ≤ (k : Int)) = true := by simp; omega
        have HF : Hid (fewF all nms m n = false) := by
          have : fewF all nms m n = false := by unfold fewF; simp; intro h; omega
          exact this
        go_wp2_with fail
        go_ret
        exact ⟨by rw [HF.out]; rfl, HWX.out.trans HX.out⟩
      · have hd8 : decide ((8 : Int) ≤ (k : Int)) = false := by simp; omega
        obtain ⟨A', c', e', -, -, h3⟩ := HS.out.ext (HWX.out.trans HX.out)
        injection e' with e1 e2 e3
        obtain ⟨ad, x, e4, hb, a0, rfl⟩ := h3 k hlt
        obtain rfl : A2 = some ad := e1.trans e4
        clear h3 e1 e3 e4
        have HOK : Hid (nm40 nms[k] = decide (nms[k].size ≤ 40)) := rfl
        have HBAD : Hid (nm40 nms[k] = false → fewF all nms m n = false) := fewF_bad k hlt
        have HTK : Hid ((nms.take (k + 1)).all nm40 = ((nms.take k).all nm40 && nm40 nms[k])) := by
          have : (nms.take (k + 1)).all nm40 = ((nms.take k).all nm40 && nm40 nms[k]) := by rw [List.take_succ_eq_append_getElem hlt, List.all_append]; simp
          exact this
        generalize nms[k] = s at *
        by_cases hs : s.size ≤ 40
        · have h40 : decide ((40 : Int) < (s.size : Int)) = false := by simp; omega
          have HN : Hid ((nms.take (k + 1)).all nm40 = true) := by
            have : (nms.take (k + 1)).all nm40 = true := by rw [HTK.out, HA.out, HOK.out, decide_eq_true hs]; rfl
            exact this
          clear hs
          go_wp2_with fail
          go_roundw
          case rel => exact ⟨k + 1, by omega, by omega, by go_num, ⟨HN.out, HX.out⟩⟩
          case measure => simp [intOf]; omega
        · have h40 : decide ((40 : Int) < (s.size : Int)) = true := by simp; omega
          have HF : Hid (fewF all nms m n = false) := by
            have : fewF all nms m n = false := HBAD.out (by rw [HOK.out]; simp; omega)
            exact this
          clear hs
          go_wp2_with fail
          go_ret
          exact ⟨by rw [HF.out]; rfl, HWX.out.trans HX.out⟩
    · have hke : k = nms.length := by omega
      have HA2 : Hid ((decide (nms.length ≤ 8) && nms.all nm40) = true) := by
        have hA := HA.out
        rw [hke, List.take_length] at hA
        have : (decide (nms.length ≤ 8) && nms.all nm40) = true := by rw [hA]; simp; omega
        exact this
      by_cases ha : all.length ≤ 8
      · have hd : decide ((all.length : Int) ≤ 8) = true := by simp; omega
        have HF : Hid (fewF all nms m n = m.few n) := by
          have : fewF all nms m n = m.few n := by unfold fewF; rw [HA2.out, decide_eq_true ha]; simp
          exact this
        clear ha
        go_wp2_with fail
        refine (HM.out _ (HWX.out.trans HX.out)).mono ?_
        rintro e w2 ⟨rfl, x2⟩
        have X2 := Lib.hid x2
        clear x2
        go_wp2_with fail
        go_ret
        exact ⟨by rw [HF.out]; rfl, (HWX.out.trans HX.out).trans X2.out⟩
      · have hd : decide ((all.length : Int) ≤ 8) = false := by simp; omega
        have HF : Hid (fewF all nms m n = false) := by
          have : fewF all nms m n = false := by unfold fewF; rw [decide_eq_false ha]; simp
          exact this
        clear ha
        go_wp2_with fail
        go_ret
        exact ⟨by rw [HF.out]; rfl, HWX.out.trans HX.out⟩
end Go.Proofs.YtbanhcaahabboaaGreatDoor

/- Layer 38: a prenex form in the making: its Booleans are pushed one by one. -/
namespace Go.Proofs.YtbanhcaahabboaaGreatDoor
open Go.RowKit

/-- The ten cells of a prenex form. -/
def Box10 (w : World) (g : Nat) (fr : Int) (a n : Value) (m : Mx) (s A K : Value) : Prop := w.cell? ⟨g, 0, none⟩ = some (.int .i64 fr) ∧ w.cell? ⟨g, 1, none⟩ = some a ∧ w.cell? ⟨g, 2, none⟩ = some n ∧ w.cell? ⟨g, 3, none⟩ = some (.int .i64 m.kind) ∧ w.cell? ⟨g, 4, none⟩ = some (.int .i64 m.rel) ∧ w.cell? ⟨g, 5, none⟩ = some (.int .i64 m.p.lv) ∧ w.cell? ⟨g, 6, none⟩ = some (.bool m.p.neg) ∧ w.cell? ⟨g, 7, none⟩ = some s ∧ w.cell? ⟨g, 8, none⟩ = some A ∧ w.cell? ⟨g, 9, none⟩ = some K
theorem Box10.turn {w w' : World} {g : Nat} {fr : Int} {a n : Value} {m : Mx} {s A K : Value} (h : Box10 w g fr a n m s A K) (hb : w'.heap[g]? = w.heap[g]?) : Box10 w' g fr a n m s A K := by
  have k : ∀ j, w'.cell? ⟨g, j, none⟩ = w.cell? ⟨g, j, none⟩ := fun j => World.cell?_of_block (a := ⟨g, j, none⟩) hb
  obtain ⟨b0, b1, b2, b3, b4, b5, b6, b7, b8, b9⟩ := h
  exact ⟨(k 0).trans b0, (k 1).trans b1, (k 2).trans b2, (k 3).trans b3, (k 4).trans b4, (k 5).trans b5, (k 6).trans b6, (k 7).trans b7, (k 8).trans b8, (k 9).trans b9⟩
/-- Ten cells of the zero value, which may be written. -/
def Zero10 (w : World) (g : Nat) : Prop := (w.cell? ⟨g, 0, none⟩ = some (.int .i64 0) ∧ w.cell? ⟨g, 1, none⟩ = some (.slice none 0 0) ∧ w.cell? ⟨g, 2, none⟩ = some (.slice none 0 0) ∧ w.cell? ⟨g, 3, none⟩ = some (.int .i64 0) ∧ w.cell? ⟨g, 4, none⟩ = some (.int .i64 0) ∧ w.cell? ⟨g, 5, none⟩ = some (.int .i64 0) ∧ w.cell? ⟨g, 6, none⟩ = some (.bool false) ∧ w.cell? ⟨g, 7, none⟩ = some (.slice none 0 0) ∧ w.cell? ⟨g, 8, none⟩ = some (.slice none 0 0) ∧ w.cell? ⟨g, 9, none⟩ = some (.slice none 0 0)) ∧ ∀ i, w.frozen? ⟨g, i, none⟩ = false
theorem Zero10.turn {w w' : World} {g : Nat} (h : Zero10 w g) (hb : w'.heap[g]? = w.heap[g]?) : Zero10 w' g := by
  have k : ∀ j, w'.cell? ⟨g, j, none⟩ = w.cell? ⟨g, j, none⟩ := fun j => World.cell?_of_block (a := ⟨g, j, none⟩) hb
  obtain ⟨⟨b0, b1, b2, b3, b4, b5, b6, b7, b8, b9⟩, hf⟩ := h
  exact ⟨⟨(k 0).trans b0, (k 1).trans b1, (k 2).trans b2, (k 3).trans b3, (k 4).trans b4, (k 5).trans b5, (k 6).trans b6, (k 7).trans b7, (k 8).trans b8, (k 9).trans b9⟩, fun i => (World.frozen?_of_block (a := ⟨g, i, none⟩) hb).trans (hf i)⟩
theorem Zero10.ext {w w' : World} {g : Nat} (h : Zero10 w g) (hx : Ext w w') (hg : g < w.heap.size) : Zero10 w' g := h.turn (hx.below.block g hg)
theorem Zero10.new (w : World) (T : TypeId) : Zero10 (w.alloc (.cells #[.int .i64 0, .slice none 0 0, .slice none 0 0, .int .i64 0, .int .i64 0, .int .i64 0, .bool false, .slice none 0 0, .slice none 0 0, .slice none 0 0] T)) w.heap.size :=
  ⟨(box10 w T _ _ _ _ _ _ _ _ _ _ _ rfl).2.2, fun i => by simp [go_sem]⟩
theorem Zero10.dig {w : World} {g : Nat} (h : Zero10 w g) : ∀ j, j < 10 → ∃ u, w.cell? ⟨g, j, none⟩ = some u ∧ isDig u = false := by
  obtain ⟨⟨b0, b1, b2, b3, b4, b5, b6, b7, b8, b9⟩, -⟩ := h
  intro j hj
  rcases Nat.lt_or_ge j 5 with h5 | h5
  · rcases (by omega : j = 0 ∨ j = 1 ∨ j = 2 ∨ j = 3 ∨ j = 4) with rfl | rfl | rfl | rfl | rfl
    · exact ⟨_, b0, rfl⟩
    · exact ⟨_, b1, rfl⟩
    · exact ⟨_, b2, rfl⟩
    · exact ⟨_, b3, rfl⟩
    · exact ⟨_, b4, rfl⟩
  · rcases (by omega : j = 5 ∨ j = 6 ∨ j = 7 ∨ j = 8 ∨ j = 9) with rfl | rfl | rfl | rfl | rfl
    · exact ⟨_, b5, rfl⟩
    · exact ⟨_, b6, rfl⟩
    · exact ⟨_, b7, rfl⟩
    · exact ⟨_, b8, rfl⟩
    · exact ⟨_, b9, rfl⟩
theorem set10_block (W : World) (g : Nat) (u0 u1 u2 u3 u4 u5 u6 u7 u8 u9 : Value) {i : Nat} (hi : i ≠ g) : (set10 W g u0 u1 u2 u3 u4 u5 u6 u7 u8 u9).heap[i]? = W.heap[i]? := by
  rw [set10_cells]; exact block_setCells hi _ _ _
theorem set10_size (W : World) (g : Nat) (u0 u1 u2 u3 u4 u5 u6 u7 u8 u9 : Value) : (set10 W g u0 u1 u2 u3 u4 u5 u6 u7 u8 u9).heap.size = W.heap.size := by
  rw [set10_cells]; exact size_setCells _ _ _
theorem cell_setCells_low {b : Nat} : ∀ (vs : List Value) (o : Nat) (w : World) (i : Nat), i < o → (w.setCells b o vs).cell? ⟨b, i, none⟩ = w.cell? ⟨b, i, none⟩
  | [], o, w, i, h => rfl
  | v :: vs, o, w, i, h => (cell_setCells_low vs (o + 1) (w.setCell ⟨b, o, none⟩ v) i (by omega)).trans (World.cell?_setCell_other _ _ _ _ (by intro e; injection e; omega))
theorem cell_setCells {b : Nat} : ∀ (vs : List Value) (o : Nat) (w : World) (j : Nat), j < vs.length → (∃ u, w.cell? ⟨b, o + j, none⟩ = some u) → (w.setCells b o vs).cell? ⟨b, o + j, none⟩ = vs[j]?
  | [], o, w, j, h, _ => absurd h (Nat.not_lt_zero j)
  | v :: vs, o, w, 0, h, hu => by
    obtain ⟨u, hu⟩ := hu
    exact (cell_setCells_low vs (o + 1) (w.setCell ⟨b, o, none⟩ v) (o + 0) (by omega)).trans (World.cell?_setCell_same _ _ _ hu)
  | v :: vs, o, w, j + 1, h, hu => by
    obtain ⟨u, hu⟩ := hu
    have h1 := cell_setCells vs (o + 1) (w.setCell ⟨b, o, none⟩ v) j (by simpa using h) ⟨u, by
      rw [World.cell?_setCell_other _ _ _ _ (by intro e; injection e; omega), ← hu]
      congr 2; omega⟩
    rw [show o + (j + 1) = o + 1 + j by omega]
    exact h1
theorem set10_box {W : World} {g : Nat} (h : Zero10 W g) (fr : Int) (a n : Value) (m : Mx) (s A K : Value) : Box10 (set10 W g (.int .i64 fr) a n (.int .i64 m.kind) (.int .i64 m.rel) (.int .i64 m.p.lv) (.bool m.p.neg) s A K) g fr a n m s A K := by
  have hu := fun j hj => (h.dig j hj)
  have k : ∀ j, j < 10 → (set10 W g (.int .i64 fr) a n (.int .i64 m.kind) (.int .i64 m.rel) (.int .i64 m.p.lv) (.bool m.p.neg) s A K).cell? ⟨g, j, none⟩ = [Value.int .i64 fr, a, n, .int .i64 m.kind, .int .i64 m.rel, .int .i64 m.p.lv, .bool m.p.neg, s, A, K][j]? := fun j hj => by
    rw [set10_cells]
    obtain ⟨u, h1, -⟩ := hu j hj
    have h2 := cell_setCells (b := g) [Value.int .i64 fr, a, n, .int .i64 m.kind, .int .i64 m.rel, .int .i64 m.p.lv, .bool m.p.neg, s, A, K] 0 W j (by simpa using hj) ⟨u, by rw [Nat.zero_add]; exact h1⟩
    rw [Nat.zero_add] at h2
    exact h2
  exact ⟨k 0 (by omega), k 1 (by omega), k 2 (by omega), k 3 (by omega), k 4 (by omega), k 5 (by omega), k 6 (by omega), k 7 (by omega), k 8 (by omega), k 9 (by omega)⟩
theorem names_far {base : Nat} {W : World} {nms : List ByteArray} {E0 : Option Addr} {g0 : Nat} (h : GRow 9 1 base W (.slice E0 nms.length g0) nms.length (strs nms)) : ∀ ad, E0 = some ad → 0 < nms.length → base ≤ ad.block ∧ ad.block < W.heap.size := by
  intro ad e hpos
  obtain ⟨g, c, e', -, -, h1, h2, -⟩ := h.pos hpos
  injection e' with e1
  rw [e1] at e
  injection e with e
  rw [← e]
  exact ⟨h1, h2⟩
/-- A prenex form in the making: its Booleans so far. -/
def NegG (w : World) (o : Nat) (fr : Int) (nms : List ByteArray) (m : Mx) (E0 : Option Addr) (g0 : Nat) (D0 : Option Addr) (j0 f0 : Nat) (D1 : Option Addr) (j1 f1 : Nat) (D2 : Option Addr) (j2 f2 : Nat) (done : List Bool) (wr : World) : Prop :=
  Ext w wr ∧ (w.heap.size + 1 < o ∧ o < wr.heap.size) ∧ Zero10 wr (w.heap.size + 1) ∧ ∃ AL cL, (Box10 wr o fr (.slice AL done.length cL) (.slice E0 nms.length g0) m (.slice D0 j0 f0) (.slice D1 j1 f1) (.slice D2 j2 f2) ∧ ∀ i, wr.frozen? ⟨o, i, none⟩ = false) ∧ GRow 4 1 (w.heap.size + 2) wr (.slice AL done.length cL) done.length (bools done) ∧ (Value.slice AL done.length cL).ownBlock ≠ some o ∧
    (Strs wr (.slice E0 nms.length g0) nms ∧ ∀ ad, E0 = some ad → 0 < nms.length → w.heap.size + 1 < ad.block ∧ ad.block < wr.heap.size ∧ ad.block ≠ o ∧ (Value.slice AL done.length cL).ownBlock ≠ some ad.block) ∧ MxV wr (fun b => w.heap.size + 1 < b ∧ b ≠ o ∧ (Value.slice AL done.length cL).ownBlock ≠ some b) m (mxV m (.slice D0 j0 f0) (.slice D1 j1 f1) (.slice D2 j2 f2))
section
variable {w wr : World} {o : Nat} {fr : Int} {nms : List ByteArray} {m : Mx} {E0 D0 D1 D2 : Option Addr} {g0 j0 f0 j1 f1 j2 f2 : Nat} {done : List Bool}
theorem NegG.start {q : Nat → Prop} (hx : Ext w wr) (ho : w.heap.size + 1 < o ∧ o < wr.heap.size) (hz : Zero10 wr (w.heap.size + 1)) (hb : Box10 wr o fr (.slice none 0 0) (.slice E0 nms.length g0) m (.slice D0 j0 f0) (.slice D1 j1 f1) (.slice D2 j2 f2)) (hf : ∀ i, wr.frozen? ⟨o, i, none⟩ = false) (hs : Strs wr (.slice E0 nms.length g0) nms) (he : ∀ ad, E0 = some ad → 0 < nms.length → w.heap.size + 1 < ad.block ∧ ad.block < wr.heap.size ∧ ad.block ≠ o)
    (hm : MxV wr q m (mxV m (.slice D0 j0 f0) (.slice D1 j1 f1) (.slice D2 j2 f2))) (hq : ∀ b, b < wr.heap.size → q b → w.heap.size + 1 < b ∧ b ≠ o) : NegG w o fr nms m E0 g0 D0 j0 f0 D1 j1 f1 D2 j2 f2 [] wr :=
  ⟨hx, ho, hz, none, 0, ⟨hb, hf⟩, GRow.nil _ _ _ _, (by intro e; cases e), ⟨hs, fun ad e h => ⟨(he ad e h).1, (he ad e h).2.1, (he ad e h).2.2, by intro e; cases e⟩⟩, MxV.turn_ (Nat.le_refl _) (fun _ _ h => h) (fun b hlt hqb => ⟨⟨(hq b hlt hqb).1, (hq b hlt hqb).2, by intro e; cases e⟩, rfl⟩) hm⟩
/-- Ten zero cells are overwritten by those of a form without Booleans. -/
theorem NegG.start_set {q : Nat → Prop} (hx : Ext w wr) (ho : w.heap.size + 1 < o ∧ o < wr.heap.size) (hz : Zero10 wr (w.heap.size + 1)) (hzo : Zero10 wr o) (hs : Strs wr (.slice E0 nms.length g0) nms) (he : ∀ ad, E0 = some ad → 0 < nms.length → w.heap.size + 1 < ad.block ∧ ad.block < wr.heap.size ∧ ad.block ≠ o)
    (hm : MxV wr q m (mxV m (.slice D0 j0 f0) (.slice D1 j1 f1) (.slice D2 j2 f2))) (hq : ∀ b, b < wr.heap.size → q b → w.heap.size + 1 < b ∧ b ≠ o) :
    NegG w o fr nms m E0 g0 D0 j0 f0 D1 j1 f1 D2 j2 f2 [] (set10 wr o (.int .i64 fr) (.slice none 0 0) (.slice E0 nms.length g0) (.int .i64 m.kind) (.int .i64 m.rel) (.int .i64 m.p.lv) (.bool m.p.neg) (.slice D0 j0 f0) (.slice D1 j1 f1) (.slice D2 j2 f2)) := by
  have hbox := set10_box hzo fr (.slice none 0 0) (.slice E0 nms.length g0) m (.slice D0 j0 f0) (.slice D1 j1 f1) (.slice D2 j2 f2)
  have hb := fun i (hi : i ≠ o) => set10_block wr o (.int .i64 fr) (.slice none 0 0) (.slice E0 nms.length g0) (.int .i64 m.kind) (.int .i64 m.rel) (.int .i64 m.p.lv) (.bool m.p.neg) (.slice D0 j0 f0) (.slice D1 j1 f1) (.slice D2 j2 f2) hi
  have hsz := set10_size wr o (.int .i64 fr) (.slice none 0 0) (.slice E0 nms.length g0) (.int .i64 m.kind) (.int .i64 m.rel) (.int .i64 m.p.lv) (.bool m.p.neg) (.slice D0 j0 f0) (.slice D1 j1 f1) (.slice D2 j2 f2)
  have hfr : ∀ a, (set10 wr o (.int .i64 fr) (.slice none 0 0) (.slice E0 nms.length g0) (.int .i64 m.kind) (.int .i64 m.rel) (.int .i64 m.p.lv) (.bool m.p.neg) (.slice D0 j0 f0) (.slice D1 j1 f1) (.slice D2 j2 f2)).frozen? a = wr.frozen? a := fun a => by rw [set10_cells]; exact frozen_setCells _ _ _ _
  have hn := natV_setCells o [.int .i64 fr, .slice none 0 0, .slice E0 nms.length g0, .int .i64 m.kind, .int .i64 m.rel, .int .i64 m.p.lv, .bool m.p.neg, .slice D0 j0 f0, .slice D1 j1 f1, .slice D2 j2 f2] 0 wr (fun j hj => by rw [Nat.zero_add]; exact hzo.dig j (by simpa using hj))
  rw [← set10_cells] at hn
  have hxx := ext_setCells (by omega : w.heap.size ≤ o) [.int .i64 fr, .slice none 0 0, .slice E0 nms.length g0, .int .i64 m.kind, .int .i64 m.rel, .int .i64 m.p.lv, .bool m.p.neg, .slice D0 j0 f0, .slice D1 j1 f1, .slice D2 j2 f2] 0 wr hx
  rw [← set10_cells] at hxx
  generalize set10 wr o (.int .i64 fr) (.slice none 0 0) (.slice E0 nms.length g0) (.int .i64 m.kind) (.int .i64 m.rel) (.int .i64 m.p.lv) (.bool m.p.neg) (.slice D0 j0 f0) (.slice D1 j1 f1) (.slice D2 j2 f2) = W' at *
  exact NegG.start (q := q) hxx ⟨ho.1, by omega⟩ (hz.turn (hb _ (by omega))) hbox (fun i => (hfr _).trans (hzo.2 i)) (SlR.turn hs (by omega) (fun ad e h => hb _ (he ad e h).2.2)) (fun ad e h => by have := he ad e h; exact ⟨this.1, by omega, this.2.2⟩) (MxV.turn_ (by omega) hn (fun b hlt hqb => ⟨hqb, hb b (hq b hlt hqb).2⟩) hm) (fun b hlt hqb => hq b (by omega) hqb)
theorem NegG.step (h : NegG w o fr nms m E0 g0 D0 j0 f0 D1 j1 f1 D2 j2 f2 done wr) (hlen : done.length ≤ 1000) : ∃ AL cL, wr.cell? ⟨o, 1, none⟩ = some (.slice AL done.length cL) ∧ done.length ≤ cL ∧ cL ≤ 9223372036854775807 ∧
    ∀ (b : Bool) (ty : TypeId), ∃ AL' cL' w4, (Builtin.append_ #[22, 22] ty #[.slice AL done.length cL, .slice (some ⟨wr.heap.size, 0, none⟩) 1 1]).run Tryz.prog (wr.alloc (.cells #[.bool b] 4)) = .ok (.slice AL' (done.length + 1) cL') w4 ∧
      w4.cell? ⟨o, 1, none⟩ = some (.slice AL done.length cL) ∧ w4.frozen? ⟨o, 1, none⟩ = false ∧ NegG w o fr nms m E0 g0 D0 j0 f0 D1 j1 f1 D2 j2 f2 (done ++ [b]) (w4.setCell ⟨o, 1, none⟩ (.slice AL' (done.length + 1) cL')) := by
  obtain ⟨hx, ho, hz, AL, cL, ⟨hb, hf⟩, hg, hgo, ⟨hs, he⟩, hm⟩ := h
  obtain ⟨A', c', e', hc1, hc2⟩ := hg.len
  injection e' with e1 e2 e3
  subst e1 e3
  refine ⟨AL, cL, hb.2.1, hc1, hc2, fun b ty => ?_⟩
  have hown : ∀ R, (Value.slice AL done.length cL).ownBlock = some R → w.heap.size + 2 ≤ R ∧ R < wr.heap.size := fun R hR => hg.own hR
  obtain ⟨v4, w4, hrun, h4, hgb, hnat, hv4⟩ := bool_push hg (by omega) b (by omega) ty
  obtain ⟨AL', cL', rfl, hc1', hc2'⟩ := h4.len
  have el : (done ++ [b]).length = done.length + 1 := by simp
  rw [el] at hrun h4 hv4
  have hblk : ∀ i, i < wr.heap.size → (Value.slice AL done.length cL).ownBlock ≠ some i → w4.heap[i]? = wr.heap[i]? := fun i hi hne => World.grownBy.block hgb i hi (fun e => hne e.symm)
  have hs4 := hgb.size
  have hbo := hblk o ho.2 hgo
  have hb4 := hb.turn hbo
  have hf4 : ∀ i, w4.frozen? ⟨o, i, none⟩ = false := fun i => (World.frozen?_of_block (a := ⟨o, i, none⟩) hbo).trans (hf i)
  have hx4 : Ext w w4 := Below.grown hx.below hgb (by have := hx.size; omega) (fun b e => by have := hown b e; omega)
  have oo : ∀ i, i ≠ 1 → (w4.setCell ⟨o, 1, none⟩ (.slice AL' (done.length + 1) cL')).cell? ⟨o, i, none⟩ = w4.cell? ⟨o, i, none⟩ := fun i hi => World.cell?_setCell_other _ _ _ _ (by intro e; injection e; omega)
  have far : ∀ i, i ≠ o → (w4.setCell ⟨o, 1, none⟩ (.slice AL' (done.length + 1) cL')).heap[i]? = w4.heap[i]? := fun i hi => Below.heap_setCell w4 _ _ i hi
  have hv : ∀ i, i < wr.heap.size → (Value.slice AL done.length cL).ownBlock ≠ some i → (Value.slice AL' (done.length + 1) cL').ownBlock ≠ some i := by
    intro i hi hne e
    rcases hv4 with h | ⟨g, h, hgg⟩
    · exact hne (h ▸ e)
    · rw [h] at e; injection e with e; omega
  obtain ⟨p0, p1, p2, p3, p4, p5, p6, p7, p8, p9⟩ := hb4
  refine ⟨AL', cL', w4, hrun, p1, hf4 1, hx4.setCell (by show w.heap.size ≤ o; omega) _, ⟨ho.1, ?_⟩, (hz.turn (hblk _ (by omega) (fun e => by have := hown _ e; omega))).turn (far _ (by omega)), AL', cL', ?_⟩
  · have : (w4.setCell ⟨o, 1, none⟩ (.slice AL' (done.length + 1) cL')).heap.size = w4.heap.size := by simp [World.setCell]
    omega
  · rw [el]
    have hsz : (w4.setCell ⟨o, 1, none⟩ (.slice AL' (done.length + 1) cL')).heap.size = w4.heap.size := by simp [World.setCell]
    refine ⟨⟨⟨(oo 0 (by omega)).trans p0, World.cell?_setCell_same _ _ _ p1, (oo 2 (by omega)).trans p2, (oo 3 (by omega)).trans p3, (oo 4 (by omega)).trans p4, (oo 5 (by omega)).trans p5, (oo 6 (by omega)).trans p6, (oo 7 (by omega)).trans p7, (oo 8 (by omega)).trans p8, (oo 9 (by omega)).trans p9⟩, fun i => by simpa [go_sem] using hf4 i⟩, h4.turn (fun R hR => far R (fun e => hv o ho.2 hgo (e ▸ hR))), hv o ho.2 hgo, ⟨?_, ?_⟩, ?_⟩
    · exact SlR.turn hs (by omega) (fun ad e h => (far _ (he ad e h).2.2.1).trans (hblk _ (he ad e h).2.1 (he ad e h).2.2.2))
    · intro ad e h
      have := he ad e h
      exact ⟨this.1, by omega, this.2.2.1, hv _ this.2.1 this.2.2.2⟩
    · exact MxV.turn_ (by omega) (fun v ds hv => (hnat v ds hv).box p1 rfl _) (fun b hlt hqb => ⟨⟨hqb.1, hqb.2.1, hv b hlt hqb.2.2⟩, (far b hqb.2.1).trans (hblk b hlt hqb.2.2)⟩) hm
theorem NegG.fin (h : NegG w o fr nms m E0 g0 D0 j0 f0 D1 j1 f1 D2 j2 f2 done wr) : ∃ AL cL, Box10 wr o fr (.slice AL done.length cL) (.slice E0 nms.length g0) m (.slice D0 j0 f0) (.slice D1 j1 f1) (.slice D2 j2 f2) ∧ Zero10 wr (w.heap.size + 1) ∧
    Ext w (set10 wr (w.heap.size + 1) (.int .i64 fr) (.slice AL done.length cL) (.slice E0 nms.length g0) (.int .i64 m.kind) (.int .i64 m.rel) (.int .i64 m.p.lv) (.bool m.p.neg) (.slice D0 j0 f0) (.slice D1 j1 f1) (.slice D2 j2 f2)) ∧
    PxV (set10 wr (w.heap.size + 1) (.int .i64 fr) (.slice AL done.length cL) (.slice E0 nms.length g0) (.int .i64 m.kind) (.int .i64 m.rel) (.int .i64 m.p.lv) (.bool m.p.neg) (.slice D0 j0 f0) (.slice D1 j1 f1) (.slice D2 j2 f2)) (fun b => w.heap.size ≤ b) fr done nms m (pxC fr (.slice AL done.length cL) (.slice E0 nms.length g0) m (.slice D0 j0 f0) (.slice D1 j1 f1) (.slice D2 j2 f2)) := by
  obtain ⟨hx, ho, hz, AL, cL, ⟨hb, hf⟩, hg, hgo, ⟨hs, he⟩, hm⟩ := h
  refine ⟨AL, cL, hb, hz, close_px hx (by omega) hz.dig (row_bools hg) (fun ad e hpos => ?_) hs (fun ad e hpos => by have := he ad e hpos; omega) hm (fun b _ hqb => ⟨by omega, by omega⟩)⟩
  obtain ⟨g, c, e', -, -, hbase, -⟩ := hg.pos hpos
  injection e' with e1 e2 e3
  rw [e1] at e
  injection e with e
  rw [← e]
  show g ≠ _
  omega
end
end Go.Proofs.YtbanhcaahabboaaGreatDoor

/- Layer 38: prenex.Negate. -/
namespace Go.Proofs.YtbanhcaahabboaaGreatDoor
open Go.RowKit

set_option maxRecDepth 100000 in
set_option maxHeartbeats 4000000 in
theorem negate_any {w : World} {q : Nat → Prop} {fr : Int} {all : List Bool} {nms : List ByteArray} {m : Mx} {v : Value} (hbig : m.sz ≤ 1000000) (hsm : m.small) (hal : all.length ≤ 8) (hnl : nms.length ≤ 8) (h : PxV w q fr all nms m v) : Calls Tryz.prog 16 #[v] w fun e w' => ∃ v', e = .returned v' ∧ PxV w' (fun b => w.heap.size ≤ b) fr (all.map not) nms m.not v' ∧ Ext w w' := by
  obtain ⟨A1, c1, A2, c2, A0, n0, c0, B, n1, c3, K, n2, c4, rfl, hb1, hs1, hm1⟩ := h
  have HA := Lib.hid hb1
  have HC : Hid (∀ w', Ext w w' → Calls Tryz.prog 59 #[.slice A2 nms.length c2] w' fun e w'' => ∃ v', e = .returned v' ∧ GRow 9 1 w'.heap.size w'' v' nms.length (strs nms) ∧ Ext w' w'') := Lib.hid (fun w' hx => clone_any (hs1.ext hx) (by omega))
  have HN : Hid (∀ w', Ext w w' → Calls Tryz.prog 15 #[mxV m (.slice A0 n0 c0) (.slice B n1 c3) (.slice K n2 c4)] w' (RetMx (fun b => w'.heap.size ≤ b) m.not w')) := Lib.hid (fun w' hx => pnot_any m _ w' hbig hsm (hm1.ext hx))
  unfold mxV at HN
  clear hs1 hb1 hm1
  obtain ⟨W, hW⟩ : ∃ W, (w.alloc (.cells #[.int .i64 fr, .slice A1 all.length c1, .slice A2 nms.length c2, .int .i64 m.kind, .int .i64 m.rel, .int .i64 m.p.lv, .bool m.p.neg, .slice A0 n0 c0, .slice B n1 c3, .slice K n2 c4] 36)).alloc (.cells #[.int .i64 0, .slice none 0 0, .slice none 0 0, .int .i64 0, .int .i64 0, .int .i64 0, .bool false, .slice none 0 0, .slice none 0 0, .slice none 0 0] 36) = W := ⟨_, rfl⟩
  obtain ⟨hx, hsz, b0, b1, b2, b3, b4, b5, b6, b7, b8, b9⟩ := box10 w _ _ _ _ _ _ _ _ _ _ _ _ rfl
  obtain ⟨hx', hsz', -⟩ := box10 (w.alloc (.cells #[.int .i64 fr, .slice A1 all.length c1, .slice A2 nms.length c2, .int .i64 m.kind, .int .i64 m.rel, .int .i64 m.p.lv, .bool m.p.neg, .slice A0 n0 c0, .slice B n1 c3, .slice K n2 c4] 36)) _ _ _ _ _ _ _ _ _ _ _ W hW
  rw [hsz] at hsz'
  have hS : ∀ W' : World, Ext W W' → Ext w W' ∧ W'.cell? ⟨w.heap.size, 0, none⟩ = some (.int .i64 fr) ∧ W'.cell? ⟨w.heap.size, 1, none⟩ = some (.slice A1 all.length c1) ∧ W'.cell? ⟨w.heap.size, 2, none⟩ = some (.slice A2 nms.length c2) ∧ (W'.cell? ⟨w.heap.size, 3, none⟩ = some (.int .i64 m.kind) ∧ W'.cell? ⟨w.heap.size, 4, none⟩ = some (.int .i64 m.rel) ∧ W'.cell? ⟨w.heap.size, 5, none⟩ = some (.int .i64 m.p.lv) ∧ W'.cell? ⟨w.heap.size, 6, none⟩ = some (.bool m.p.neg) ∧ W'.cell? ⟨w.heap.size, 7, none⟩ = some (.slice A0 n0 c0) ∧ W'.cell? ⟨w.heap.size, 8, none⟩ = some (.slice B n1 c3) ∧ W'.cell? ⟨w.heap.size, 9, none⟩ = some (.slice K n2 c4)) := by
    intro W' hxx
    have k : ∀ j, W'.cell? ⟨w.heap.size, j, none⟩ = (w.alloc (.cells #[.int .i64 fr, .slice A1 all.length c1, .slice A2 nms.length c2, .int .i64 m.kind, .int .i64 m.rel, .int .i64 m.p.lv, .bool m.p.neg, .slice A0 n0 c0, .slice B n1 c3, .slice K n2 c4] 36)).cell? ⟨w.heap.size, j, none⟩ := fun j => (hx'.trans hxx).cell (p := ⟨w.heap.size, j, none⟩) (by show w.heap.size < _; omega)
    exact ⟨(hx.trans hx').trans hxx, (k 0).trans b0, (k 1).trans b1, (k 2).trans b2, (k 3).trans b3, (k 4).trans b4, (k 5).trans b5, (k 6).trans b6, (k 7).trans b7, (k 8).trans b8, (k 9).trans b9⟩
  have HSS := Lib.hid hS
  have HWS : Hid (W.heap.size = w.heap.size + 1 + 1) := Lib.hid hsz'
  have HZ : Hid (Zero10 W (w.heap.size + 1)) := Lib.hid (by
    have h1 := Zero10.new (w.alloc (.cells #[.int .i64 fr, .slice A1 all.length c1, .slice A2 nms.length c2, .int .i64 m.kind, .int .i64 m.rel, .int .i64 m.p.lv, .bool m.p.neg, .slice A0 n0 c0, .slice B n1 c3, .slice K n2 c4] 36)) 36
    rw [hW, hsz] at h1
    exact h1)
  clear hx hx' hsz hsz' b0 b1 b2 b3 b4 b5 b6 b7 b8 b9 hS
  unfold pxC
  go_enter Tryz.func16, Tryz.ntmps16
  go_upto_region 1 with fail
  refine wp_region_held_drew (S := fun W2 => Ext w W2 ∧ W2.cell? ⟨w.heap.size, 0, none⟩ = some (.int .i64 fr) ∧ W2.cell? ⟨w.heap.size, 1, none⟩ = some (.slice A1 all.length c1) ∧ W2.cell? ⟨w.heap.size, 2, none⟩ = some (.slice A2 nms.length c2) ∧ (W2.cell? ⟨w.heap.size, 3, none⟩ = some (.int .i64 m.kind) ∧ W2.cell? ⟨w.heap.size, 4, none⟩ = some (.int .i64 m.rel) ∧ W2.cell? ⟨w.heap.size, 5, none⟩ = some (.int .i64 m.p.lv) ∧ W2.cell? ⟨w.heap.size, 6, none⟩ = some (.bool m.p.neg) ∧ W2.cell? ⟨w.heap.size, 7, none⟩ = some (.slice A0 n0 c0) ∧ W2.cell? ⟨w.heap.size, 8, none⟩ = some (.slice B n1 c3) ∧ W2.cell? ⟨w.heap.size, 9, none⟩ = some (.slice K n2 c4))) (by kernel_rfl) (HSS.out _ (Ext.refl W).drew) (fun hHeld => ?_)
  refine wpAnyH_take (i := 0) (v := ?v0) rfl (by kernel_rfl) (by kernel_rfl) (by kernel_rfl) (fun _ _ _ h => h) (Or.inl ⟨by rfl, ?hy0⟩) (by assumption) ?rest0
  case hy0 =>
    intro w' hSw
    try dsimp only at hSw
    go_simp
    try (with_reducible rfl)
  try simp only [Act.put, List.getElem_toArray, List.getElem_cons_zero, List.getElem_cons_succ, List.setIfInBounds_toArray, List.set_cons_zero, List.set_cons_succ]
  refine wpAnyH_take (i := 2) (v := ?v2) rfl (by kernel_rfl) (by kernel_rfl) (by kernel_rfl) (fun _ _ _ h => h) (Or.inl ⟨by rfl, ?hy2⟩) (by assumption) ?rest2
  case hy2 =>
    intro w' hSw
    try dsimp only at hSw
    go_simp
    try (with_reducible rfl)
  try simp only [Act.put, List.getElem_toArray, List.getElem_cons_zero, List.getElem_cons_succ, List.setIfInBounds_toArray, List.set_cons_zero, List.set_cons_succ]
  refine wpAnyH_take (i := 5) (v := ?v5) rfl (by kernel_rfl) (by kernel_rfl) (by kernel_rfl) (fun _ _ _ h => h) (Or.inl ⟨by rfl, ?hy5⟩) (by assumption) ?rest5
  case hy5 =>
    intro w' hSw
    try dsimp only at hSw
    go_simp
    try (with_reducible rfl)
  try simp only [Act.put, List.getElem_toArray, List.getElem_cons_zero, List.getElem_cons_succ, List.setIfInBounds_toArray, List.set_cons_zero, List.set_cons_succ]
  refine wpAnyH_take (i := 1) (v := ?v1) rfl (by kernel_rfl) (by kernel_rfl) (by kernel_rfl) (fun _ _ _ h => h) (Or.inl ⟨by rfl, ?hy1⟩) (by assumption) ?rest1
  case hy1 =>
    intro w' hSw
    try dsimp only at hSw
    go_simp
    try (with_reducible rfl)
  try simp only [Act.put, List.getElem_toArray, List.getElem_cons_zero, List.getElem_cons_succ, List.setIfInBounds_toArray, List.set_cons_zero, List.set_cons_succ]
  refine wpAnyH_take (i := 3) (v := ?v3) rfl (by kernel_rfl) (by kernel_rfl) (by kernel_rfl) (fun _ _ _ h => h) (Or.inl ⟨by rfl, ?hy3⟩) (by assumption) ?rest3
  case hy3 =>
    intro w' hSw
    try dsimp only at hSw
    go_simp
    try (with_reducible rfl)
  try simp only [Act.put, List.getElem_toArray, List.getElem_cons_zero, List.getElem_cons_succ, List.setIfInBounds_toArray, List.set_cons_zero, List.set_cons_succ]
  refine wpAnyH_take (i := 6) (v := ?v6) rfl (by kernel_rfl) (by kernel_rfl) (by kernel_rfl) (fun _ _ _ h => h) (Or.inl ⟨by rfl, ?hy6⟩) (by assumption) ?rest6
  case hy6 =>
    intro w' hSw
    try dsimp only at hSw
    go_simp
    try (with_reducible rfl)
  try simp only [Act.put, List.getElem_toArray, List.getElem_cons_zero, List.getElem_cons_succ, List.setIfInBounds_toArray, List.set_cons_zero, List.set_cons_succ]
  refine wpAnyH_ready (rs := [4, 9]) (by kernel_rfl) (by simp) ?_
  refine AllReadyH.cons rfl (fun K hK => ?brP) (AllReadyH.cons rfl (fun K hK => ?brC) AllReadyH.nil)
  case' brP =>
    go_simp
    go_at_call 59
    refine (HC.out _ hHeld.1).mono ?_
    rintro e w2 ⟨v2, rfl, r2, x2⟩
    obtain ⟨E0, g0, rfl, hg1, hg2⟩ := r2.len
    refine hK.out _ _ (HSS.out _ ((Ext.refl W).drew.trans x2)) (fun hHeld => ?_)
    clear hK K
    try simp only [Act.put, List.getElem_toArray, List.getElem_cons_zero, List.getElem_cons_succ, List.setIfInBounds_toArray, List.set_cons_zero, List.set_cons_succ]
    have y2 := Ext.trans (Ext.refl W).drew x2
    refine wpAnyH_ready (rs := [7, 9]) (by kernel_rfl) (by simp) ?_
    refine AllReadyH.cons rfl (fun K hK => ?brA) (AllReadyH.cons rfl (fun K hK => ?brB) AllReadyH.nil)
    case' brA =>
      go_simp
      go_at_call 15
      refine (HN.out _ hHeld.1).mono ?_
      rintro e w3 ⟨v3, rfl, r3, x3⟩
      have y3 := Ext.trans y2 x3
      obtain ⟨D0, j0, f0, D1, j1, f1, D2, f2, rfl, -⟩ := id r3.open_
      unfold mxV
      refine hK.out _ _ (HSS.out _ y3) (fun hHeld => ?_)
      clear hK K
      try simp only [Act.put, List.getElem_toArray, List.getElem_cons_zero, List.getElem_cons_succ, List.setIfInBounds_toArray, List.set_cons_zero, List.set_cons_succ]
      refine wpAnyH_take (i := 8) (v := ?v8a) rfl (by kernel_rfl) (by kernel_rfl) (by kernel_rfl) (fun _ _ _ h => h) (Or.inl ⟨by rfl, ?hy8a⟩) (by assumption) ?rest8a
      case hy8a =>
        intro w' hSw
        try dsimp only at hSw
        go_simp
        try (with_reducible rfl)
      try simp only [Act.put, List.getElem_toArray, List.getElem_cons_zero, List.getElem_cons_succ, List.setIfInBounds_toArray, List.set_cons_zero, List.set_cons_succ]
      refine wpAnyH_ready (rs := [9]) (by kernel_rfl) (by simp) ?_
      refine AllReadyH.cons rfl (fun K hK => ?_) AllReadyH.nil
      go_simp
      have y4 := Ext.alloc y3 (.cells #[.int .i64 0, .slice none 0 0, .slice none 0 0, .int .i64 0, .int .i64 0, .int .i64 0, .bool false, .slice none 0 0, .slice none 0 0, .slice none 0 0] 36)
      refine hK.out _ _ (HSS.out _ y4) (fun hHeld => ?_)
      clear hK K
      try simp only [Act.put, List.getElem_toArray, List.getElem_cons_zero, List.getElem_cons_succ, List.setIfInBounds_toArray, List.set_cons_zero, List.set_cons_succ]
      refine wpAnyH_ready (rs := [10]) (by kernel_rfl) (by simp) ?_
      refine AllReadyH.cons rfl (fun K hK => ?_) AllReadyH.nil
      go_simp
      refine (?finA : ∀ W3, (Ext W W3 ∧ NegG w w3.heap.size fr nms m.not E0 g0 D0 j0 f0 D1 j1 f1 D2 m.not.ks.length f2 [] W3) → K _ W3) _ ⟨Ext.alloc y3 _, ?negA⟩
      case' negA =>
        have hxw : Ext w w3 := (HSS.out _ (Ext.refl W)).1.trans y3
        have hws := HWS.out
        have hsd : ∀ w' : World, w'.drew.heap.size = w'.heap.size := fun _ => rfl
        have hs3 := y3.size
        have hs2 := y2.size
        have hx3 := x3.size
        have hx2 := x2.size
        try simp only [World.size_alloc, hsd] at hx2 hx3
        try simp only [World.size_alloc, hsd] at r3
        have hfar := names_far r2
        try simp only [World.size_alloc, hsd] at hfar
        exact NegG.start (q := fun b => w2.heap.size ≤ b ∧ b < w3.heap.size) (hxw.alloc _) ⟨by omega, by simp⟩ (HZ.out.ext (y3.alloc _) (by omega)) (box10 w3 36 _ _ _ _ _ _ _ _ _ _ _ rfl).2.2 (fun i => by simp [go_sem]) (((row_strs r2).ext x3).ext ((Ext.refl w3).alloc _)) (fun ad e h => by have := hfar ad e h; simp; omega) (MxV.turn_ (by simp) (fun v ds hv => hv.ext ((Ext.refl w3).alloc _)) (fun b hlt hq => ⟨⟨hq, hlt⟩, ((Ext.refl w3).alloc _).below.block b hlt⟩) r3) (fun b hlt hqb => ⟨by omega, by omega⟩)
      case' finA =>
        intro W3 hN
        generalize w3.heap.size = o at hN ⊢
    case' brB =>
      go_simp
      have y5 := Ext.alloc y2 (.cells #[.int .i64 0, .slice none 0 0, .slice none 0 0, .int .i64 0, .int .i64 0, .int .i64 0, .bool false, .slice none 0 0, .slice none 0 0, .slice none 0 0] 36)
      refine hK.out _ _ (HSS.out _ y5) (fun hHeld => ?_)
      clear hK K
      try simp only [Act.put, List.getElem_toArray, List.getElem_cons_zero, List.getElem_cons_succ, List.setIfInBounds_toArray, List.set_cons_zero, List.set_cons_succ]
      refine wpAnyH_ready (rs := [7]) (by kernel_rfl) (by simp) ?_
      refine AllReadyH.cons rfl (fun K hK => ?_) AllReadyH.nil
      go_simp
      go_at_call 15
      refine (HN.out _ hHeld.1).mono ?_
      rintro e w3 ⟨v3, rfl, r3, x3⟩
      have y3 := Ext.trans y5 x3
      obtain ⟨D0, j0, f0, D1, j1, f1, D2, f2, rfl, -⟩ := id r3.open_
      unfold mxV
      refine hK.out _ _ (HSS.out _ y3) (fun hHeld => ?_)
      clear hK K
      try simp only [Act.put, List.getElem_toArray, List.getElem_cons_zero, List.getElem_cons_succ, List.setIfInBounds_toArray, List.set_cons_zero, List.set_cons_succ]
      refine wpAnyH_take (i := 8) (v := ?v8b) rfl (by kernel_rfl) (by kernel_rfl) (by kernel_rfl) (fun _ _ _ h => h) (Or.inl ⟨by rfl, ?hy8b⟩) (by assumption) ?rest8b
      case hy8b =>
        intro w' hSw
        try dsimp only at hSw
        go_simp
        try (with_reducible rfl)
      try simp only [Act.put, List.getElem_toArray, List.getElem_cons_zero, List.getElem_cons_succ, List.setIfInBounds_toArray, List.set_cons_zero, List.set_cons_succ]
      refine wpAnyH_ready (rs := [10]) (by kernel_rfl) (by simp) ?_
      refine AllReadyH.cons rfl (fun K hK => ?_) AllReadyH.nil
      obtain ⟨⟨t0, t1, t2, t3, t4, t5, t6, t7, t8, t9⟩, tf⟩ := (Zero10.new w2 36).ext x3 (by simp)
      go_simp
      refine (?finB : ∀ W3, (Ext W W3 ∧ NegG w w2.heap.size fr nms m.not E0 g0 D0 j0 f0 D1 j1 f1 D2 m.not.ks.length f2 [] W3) → K _ W3) (set10 w3 w2.heap.size (.int .i64 fr) (.slice none 0 0) (.slice E0 nms.length g0) (.int .i64 m.not.kind) (.int .i64 m.not.rel) (.int .i64 m.not.p.lv) (.bool m.not.p.neg) (.slice D0 j0 f0) (.slice D1 j1 f1) (.slice D2 m.not.ks.length f2)) ⟨?extB, ?negB⟩
      case' extB =>
        rw [set10_cells]
        exact ext_setCells y2.size _ _ _ y3
      case' negB =>
        have hxw : Ext w w3 := (HSS.out _ (Ext.refl W)).1.trans y3
        have hws := HWS.out
        have hsd : ∀ w' : World, w'.drew.heap.size = w'.heap.size := fun _ => rfl
        have hs3 := y3.size
        have hs2 := y2.size
        have hx3 := x3.size
        have hx2 := x2.size
        try simp only [World.size_alloc, hsd] at hx2 hx3
        try simp only [World.size_alloc, hsd] at r3
        have hfar := names_far r2
        try simp only [World.size_alloc, hsd] at hfar
        exact NegG.start_set (q := fun b => w2.heap.size + 1 ≤ b) hxw ⟨by omega, by omega⟩ (HZ.out.ext y3 (by omega)) ((Zero10.new w2 36).ext x3 (by simp)) ((row_strs r2).ext (((Ext.refl w2).alloc _).trans x3)) (fun ad e h => by have := hfar ad e h; omega) r3 (fun b hlt hqb => ⟨by omega, by omega⟩)
      case' finB =>
        intro W3 hN
        generalize w2.heap.size = o at hN ⊢
  case' brC =>
    go_simp
    have y6 := Ext.alloc (Ext.refl W).drew (.cells #[.int .i64 0, .slice none 0 0, .slice none 0 0, .int .i64 0, .int .i64 0, .int .i64 0, .bool false, .slice none 0 0, .slice none 0 0, .slice none 0 0] 36)
    refine hK.out _ _ (HSS.out _ y6) (fun hHeld => ?_)
    clear hK K
    try simp only [Act.put, List.getElem_toArray, List.getElem_cons_zero, List.getElem_cons_succ, List.setIfInBounds_toArray, List.set_cons_zero, List.set_cons_succ]
    refine wpAnyH_ready (rs := [4]) (by kernel_rfl) (by simp) ?_
    refine AllReadyH.cons rfl (fun K hK => ?_) AllReadyH.nil
    go_simp
    go_at_call 59
    refine (HC.out _ hHeld.1).mono ?_
    rintro e w2 ⟨v2, rfl, r2, x2⟩
    obtain ⟨E0, g0, rfl, hg1, hg2⟩ := r2.len
    have y2 := Ext.trans y6 x2
    refine hK.out _ _ (HSS.out _ y2) (fun hHeld => ?_)
    clear hK K
    try simp only [Act.put, List.getElem_toArray, List.getElem_cons_zero, List.getElem_cons_succ, List.setIfInBounds_toArray, List.set_cons_zero, List.set_cons_succ]
    refine wpAnyH_ready (rs := [7]) (by kernel_rfl) (by simp) ?_
    refine AllReadyH.cons rfl (fun K hK => ?_) AllReadyH.nil
    go_simp
    go_at_call 15
    refine (HN.out _ hHeld.1).mono ?_
    rintro e w3 ⟨v3, rfl, r3, x3⟩
    have y3 := Ext.trans y2 x3
    obtain ⟨D0, j0, f0, D1, j1, f1, D2, f2, rfl, -⟩ := id r3.open_
    unfold mxV
    refine hK.out _ _ (HSS.out _ y3) (fun hHeld => ?_)
    clear hK K
    try simp only [Act.put, List.getElem_toArray, List.getElem_cons_zero, List.getElem_cons_succ, List.setIfInBounds_toArray, List.set_cons_zero, List.set_cons_succ]
    refine wpAnyH_take (i := 8) (v := ?v8c) rfl (by kernel_rfl) (by kernel_rfl) (by kernel_rfl) (fun _ _ _ h => h) (Or.inl ⟨by rfl, ?hy8c⟩) (by assumption) ?rest8c
    case hy8c =>
      intro w' hSw
      try dsimp only at hSw
      go_simp
      try (with_reducible rfl)
    try simp only [Act.put, List.getElem_toArray, List.getElem_cons_zero, List.getElem_cons_succ, List.setIfInBounds_toArray, List.set_cons_zero, List.set_cons_succ]
    refine wpAnyH_ready (rs := [10]) (by kernel_rfl) (by simp) ?_
    refine AllReadyH.cons rfl (fun K hK => ?_) AllReadyH.nil
    obtain ⟨⟨t0, t1, t2, t3, t4, t5, t6, t7, t8, t9⟩, tf⟩ := (show Zero10 w3 W.heap.size from ((Zero10.new W.drew 36).ext x2 (by simp)).ext x3 (by have := x2.size; simp at this; show W.heap.size < _; omega))
    go_simp
    refine (?finC : ∀ W3, (Ext W W3 ∧ NegG w W.heap.size fr nms m.not E0 g0 D0 j0 f0 D1 j1 f1 D2 m.not.ks.length f2 [] W3) → K _ W3) (set10 w3 W.heap.size (.int .i64 fr) (.slice none 0 0) (.slice E0 nms.length g0) (.int .i64 m.not.kind) (.int .i64 m.not.rel) (.int .i64 m.not.p.lv) (.bool m.not.p.neg) (.slice D0 j0 f0) (.slice D1 j1 f1) (.slice D2 m.not.ks.length f2)) ⟨?extC, ?negC⟩
    case' extC =>
      rw [set10_cells]
      exact ext_setCells (Nat.le_refl _) _ _ _ y3
    case' negC =>
      have hxw : Ext w w3 := (HSS.out _ (Ext.refl W)).1.trans y3
      have hws := HWS.out
      have hsd : ∀ w' : World, w'.drew.heap.size = w'.heap.size := fun _ => rfl
      have hs3 := y3.size
      have hs2 := y2.size
      have hx3 := x3.size
      have hx2 := x2.size
      try simp only [World.size_alloc, hsd] at hx2 hx3
      try simp only [World.size_alloc, hsd] at r3
      have hfar := names_far r2
      try simp only [World.size_alloc, hsd] at hfar
      exact NegG.start_set (q := fun b => w2.heap.size ≤ b) hxw ⟨by omega, by omega⟩ (HZ.out.ext y3 (by omega)) (((Zero10.new W.drew 36).ext x2 (by simp)).ext x3 (by show W.heap.size < _; omega)) ((row_strs r2).ext x3) (fun ad e h => by have := hfar ad e h; omega) r3 (fun b hlt hqb => ⟨by omega, by omega⟩)
    case' finC =>
      intro W3 hN
      generalize W.heap.size = o at hN ⊢
  all_goals
    have hSw := HSS.out _ hN.1
    refine hK.out _ _ hSw (fun hHeld => ?_)
    have HNG := Lib.hid hN.2
    clear hN hK K hHeld
    refine wpAnyH_done (by kernel_rfl) ?_ _
    obtain ⟨hxw, p0, p1, p2, -⟩ := hSw
    clear hxw
    go_wp2_with fail
    clear p0 p1 p2
    go_loopw [18] (fun iv wr => ∃ k : Nat, k ≤ all.length ∧ iv = .int .i64 k ∧ Hid (NegG w o fr nms m.not E0 g0 D0 j0 f0 D1 j1 f1 D2 m.not.ks.length f2 ((all.take k).map not) wr)) (fun iv _ => all.length - (intOf iv).toNat)
    case atStart => exact ⟨0, Nat.zero_le _, rfl, HNG⟩
    case round =>
      obtain ⟨k, hk, rfl, HG⟩ := hrel
      by_cases hlt : k < all.length
      · have hln : ((all.take k).map not).length = k := by rw [List.length_map, List.length_take]; omega
        obtain ⟨AL, cL, hc1, hl1, hl2, hnext⟩ := HG.out.step (by omega)
        obtain ⟨hxw, ⟨hwo, hos⟩, -⟩ := HG.out
        obtain ⟨A', c', e', -, -, h3⟩ := HA.out.ext hxw
        injection e' with e1 e2 e3
        obtain ⟨ad, x, e4, hb, a0, rfl⟩ := h3 k hlt
        obtain rfl : A1 = some ad := e1.trans e4
        have HTK : Hid ((all.take (k + 1)).map not = (all.take k).map not ++ [!all[k]]) := by
          have : (all.take (k + 1)).map not = (all.take k).map not ++ [!all[k]] := by rw [List.take_succ_eq_append_getElem hlt, List.map_append]; rfl
          exact this
        obtain ⟨AL', cL', w4, hrun, h6, hf6, hgn⟩ := hnext (!all[k]) 22
        rw [hln] at hc1 hl1 hrun h6 hgn
        rw [← HTK.out] at hgn
        have hc2 : (wr.alloc (.cells #[.bool (!all[k])] 4)).cell? ⟨o, 1, none⟩ = some (.slice AL k cL) := (((Ext.refl wr).alloc _).cell (p := ⟨o, 1, none⟩) hos).trans hc1
        have HRUN := Lib.hid hrun
        have HGN := Lib.hid hgn
        clear hnext hxw h3 e1 e2 e3 e4 hln hrun hgn HTK hwo hos
        generalize all[k] = b at *
        go_upto_region 5 with fail
        clear a0
        iterate 30 (first | at_builtin | go_values | go_skip | go_guarded | go_step | go_upon | go_back | go_simp)
        refine wpList_append_run rfl (.tmp 23) (.tmp 26) _ _ rfl _ _ _ _ rfl rfl HRUN.out ?_
        clear HRUN hc1 hc2
        go_wp2_with fail
        go_roundw
        case rel => exact ⟨k + 1, by omega, by go_num, HGN⟩
        case measure => simp [intOf]; omega
      · have hke : k = all.length := by omega
        have HG2 : Hid (NegG w o fr nms m.not E0 g0 D0 j0 f0 D1 j1 f1 D2 m.not.ks.length f2 (all.map not) wr) := Lib.hid (by
          have h1 := HG.out
          rw [hke, List.take_length] at h1
          exact h1)
        obtain ⟨AL, cL, ⟨t0, t1, t2, t3, t4, t5, t6, t7, t8, t9⟩, ⟨⟨z0, z1, z2, z3, z4, z5, z6, z7, z8, z9⟩, zf⟩, hfx, hfp⟩ := HG2.out.fin
        rw [List.length_map] at t1 hfx hfp
        unfold set10 at hfx hfp
        have HFX := Lib.hid hfx
        have HFP := Lib.hid hfp
        clear hfx hfp hke HG HG2
        go_wp2_with fail
        exact bodyPost_ret (v := pxC fr (.slice AL all.length cL) (.slice E0 nms.length g0) m.not (.slice D0 j0 f0) (.slice D1 j1 f1) (.slice D2 m.not.ks.length f2)) (by simp [results, Tryz.results16, go_sem, z0, z1, z2, z3, z4, z5, z6, z7, z8, z9, pxC]) rfl ⟨_, rfl, HFP.out, HFX.out⟩
end Go.Proofs.YtbanhcaahabboaaGreatDoor
