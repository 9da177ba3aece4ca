/- Reference 38: FewForm: is a prenex form of a size that is looked at? -/
import Derived.Test.YtbanhcaahabboaaGreatDoorMv41
import Derived.Test.YtbanhcaahabboaaGreatDoorMv25
import Derived.Test.YtbanhcaahabboaaGreatDoorValid
set_option linter.unusedSimpArgs false
set_option linter.unusedVariables false

namespace Go.Proofs.YtbanhcaahabboaaGreatDoor
open Go.RowKit

def nm40 (s : ByteArray) : Bool := decide (s.size ≤ 40)
/-- cylinderref38.FewForm -/
def fewF (all : List Bool) (nms : List ByteArray) (m : Mx) (n : Nat) : Bool := (decide (nms.length ≤ 8) && nms.all nm40) && (decide (all.length ≤ 8) && m.few n)
theorem fewF_bad {all : List Bool} {nms : List ByteArray} {m : Mx} {n : Nat} (k : Nat) (hk : k < nms.length) (h : nm40 nms[k] = false) : fewF all nms m n = false := by
  unfold fewF
  rw [Bool.and_eq_false_iff]
  refine .inl ?_
  rw [Bool.and_eq_false_iff]
  exact .inr (List.all_eq_false.2 ⟨nms[k], List.getElem_mem hk, by rw [h]; simp⟩)
/-- Ten cells in a box. -/
theorem box10 (w : World) (T : TypeId) (v0 v1 v2 v3 v4 v5 v6 v7 v8 v9 : Value) : ∀ W, w.alloc (.cells #[v0, v1, v2, v3, v4, v5, v6, v7, v8, v9] T) = W → Ext w W ∧ W.heap.size = w.heap.size + 1 ∧ (W.cell? ⟨w.heap.size, 0, none⟩ = some v0 ∧ W.cell? ⟨w.heap.size, 1, none⟩ = some v1 ∧ W.cell? ⟨w.heap.size, 2, none⟩ = some v2 ∧ W.cell? ⟨w.heap.size, 3, none⟩ = some v3 ∧ W.cell? ⟨w.heap.size, 4, none⟩ = some v4 ∧ W.cell? ⟨w.heap.size, 5, none⟩ = some v5 ∧ W.cell? ⟨w.heap.size, 6, none⟩ = some v6 ∧ W.cell? ⟨w.heap.size, 7, none⟩ = some v7 ∧ W.cell? ⟨w.heap.size, 8, none⟩ = some v8 ∧ W.cell? ⟨w.heap.size, 9, none⟩ = some v9) := by
  rintro W rfl
  refine ⟨(Ext.refl w).alloc _, by simp, ?_, ?_, ?_, ?_, ?_, ?_, ?_, ?_, ?_, ?_⟩ <;> simp [go_sem]

set_option maxRecDepth 100000 in
set_option maxHeartbeats 2000000 in
theorem fewF_any {w : World} {q : Nat → Prop} {fr : Int} {all : List Bool} {nms : List ByteArray} {m : Mx} {v : Value} (n : Nat) (hn : n ≤ 1000000) (h : PxV w q fr all nms m v) : Calls Tryz.prog 13 #[v, .int .i64 n] w (RetB (fewF all nms m n) w) := by
  obtain ⟨A1, c1, A2, c2, A0, n0, c0, B, n1, c3, K, n2, c4, rfl, hb1, hs1, hm1⟩ := h
  have HS := Lib.hid hs1
  have HM : Hid (∀ w', Ext w w' → Calls Tryz.prog 19 #[mxV m (.slice A0 n0 c0) (.slice B n1 c3) (.slice K n2 c4), .int .i64 n] w' fun e w'' => e = .returned (.bool (m.few n)) ∧ Ext w' w'') := Lib.hid (fun w' hx => fewMx_any n hn m _ w' (hm1.ext hx))
  unfold mxV at HM
  obtain ⟨A', c', e', l1, l2, -⟩ := id hs1
  injection e' with e1 e2 e3
  subst e1 e3
  obtain ⟨A', c', e', l3, l4, -⟩ := id hb1
  injection e' with e1 e2 e3
  subst e1 e3
  clear e2 hs1 hb1 hm1
  obtain ⟨W, hW⟩ : ∃ W, w.alloc (.cells #[.int .i64 fr, .slice A1 all.length c1, .slice A2 nms.length c2, .int .i64 m.kind, .int .i64 m.rel, .int .i64 m.p.lv, .bool m.p.neg, .slice A0 n0 c0, .slice B n1 c3, .slice K n2 c4] 36) = W := ⟨_, rfl⟩
  obtain ⟨hx, hsz, b0, b1, b2, b3, b4, b5, b6, b7, b8, b9⟩ := box10 w _ _ _ _ _ _ _ _ _ _ _ W hW
  have HWX := Lib.hid hx
  have HB : Hid (∀ wr, Ext W wr → wr.cell? ⟨w.heap.size, 1, none⟩ = some (.slice A1 all.length c1) ∧ wr.cell? ⟨w.heap.size, 2, none⟩ = some (.slice A2 nms.length c2) ∧ (wr.cell? ⟨w.heap.size, 3, none⟩ = some (.int .i64 m.kind) ∧ wr.cell? ⟨w.heap.size, 4, none⟩ = some (.int .i64 m.rel) ∧ wr.cell? ⟨w.heap.size, 5, none⟩ = some (.int .i64 m.p.lv) ∧ wr.cell? ⟨w.heap.size, 6, none⟩ = some (.bool m.p.neg) ∧ wr.cell? ⟨w.heap.size, 7, none⟩ = some (.slice A0 n0 c0) ∧ wr.cell? ⟨w.heap.size, 8, none⟩ = some (.slice B n1 c3) ∧ wr.cell? ⟨w.heap.size, 9, none⟩ = some (.slice K n2 c4))) := Lib.hid (by
    intro wr hxx
    have k : ∀ j, wr.cell? ⟨w.heap.size, j, none⟩ = W.cell? ⟨w.heap.size, j, none⟩ := fun j => hxx.cell (p := ⟨w.heap.size, j, none⟩) (by show w.heap.size < _; omega)
    exact ⟨(k 1).trans b1, (k 2).trans b2, (k 3).trans b3, (k 4).trans b4, (k 5).trans b5, (k 6).trans b6, (k 7).trans b7, (k 8).trans b8, (k 9).trans b9⟩)
  clear hx hsz b0 b1 b3 b4 b5 b6 b7 b8 b9
  unfold pxC
  go_enter Tryz.func13, Tryz.ntmps13
  go_wp2_with fail
  clear hW b2
  go_loopw [9] (fun iv wr => ∃ k : Nat, k ≤ nms.length ∧ k ≤ 8 ∧ iv = .int .i64 k ∧ Hid ((nms.take k).all nm40 = true ∧ Ext W wr)) (fun iv _ => nms.length - (intOf iv).toNat)
  case atStart => exact ⟨0, Nat.zero_le _, by omega, rfl, ⟨by simp, Ext.refl W⟩⟩
  case round =>
    obtain ⟨k, hk, hk8, rfl, ⟨hall, hx⟩⟩ := hrel
    have HA := Lib.hid hall
    have HX := Lib.hid hx
    clear hall hx
    obtain ⟨b1, b2, b3, b4, b5, b6, b7, b8, b9⟩ := HB.out wr HX.out
    by_cases hlt : k < nms.length
    · by_cases h8 : 8 ≤ k
      · have hd8 : decide ((8 : Int) ≤ (k : Int)) = true := by simp; omega
        have HF : Hid (fewF all nms m n = false) := by
          have : fewF all nms m n = false := by unfold fewF; simp; intro h; omega
          exact this
        go_wp2_with fail
        go_ret
        exact ⟨by rw [HF.out]; rfl, HWX.out.trans HX.out⟩
      · have hd8 : decide ((8 : Int) ≤ (k : Int)) = false := by simp; omega
        obtain ⟨A', c', e', -, -, h3⟩ := HS.out.ext (HWX.out.trans HX.out)
        injection e' with e1 e2 e3
        obtain ⟨ad, x, e4, hb, a0, rfl⟩ := h3 k hlt
        obtain rfl : A2 = some ad := e1.trans e4
        clear h3 e1 e3 e4
        have HOK : Hid (nm40 nms[k] = decide (nms[k].size ≤ 40)) := rfl
        have HBAD : Hid (nm40 nms[k] = false → fewF all nms m n = false) := fewF_bad k hlt
        have HTK : Hid ((nms.take (k + 1)).all nm40 = ((nms.take k).all nm40 && nm40 nms[k])) := by
          have : (nms.take (k + 1)).all nm40 = ((nms.take k).all nm40 && nm40 nms[k]) := by rw [List.take_succ_eq_append_getElem hlt, List.all_append]; simp
          exact this
        generalize nms[k] = s at *
        by_cases hs : s.size ≤ 40
        · have h40 : decide ((40 : Int) < (s.size : Int)) = false := by simp; omega
          have HN : Hid ((nms.take (k + 1)).all nm40 = true) := by
            have : (nms.take (k + 1)).all nm40 = true := by rw [HTK.out, HA.out, HOK.out, decide_eq_true hs]; rfl
            exact this
          clear hs
          go_wp2_with fail
          go_roundw
          case rel => exact ⟨k + 1, by omega, by omega, by go_num, ⟨HN.out, HX.out⟩⟩
          case measure => simp [intOf]; omega
        · have h40 : decide ((40 : Int) < (s.size : Int)) = true := by simp; omega
          have HF : Hid (fewF all nms m n = false) := by
            have : fewF all nms m n = false := HBAD.out (by rw [HOK.out]; simp; omega)
            exact this
          clear hs
          go_wp2_with fail
          go_ret
          exact ⟨by rw [HF.out]; rfl, HWX.out.trans HX.out⟩
    · have hke : k = nms.length := by omega
      have HA2 : Hid ((decide (nms.length ≤ 8) && nms.all nm40) = true) := by
        have hA := HA.out
        rw [hke, List.take_length] at hA
        have : (decide (nms.length ≤ 8) && nms.all nm40) = true := by rw [hA]; simp; omega
        exact this
      by_cases ha : all.length ≤ 8
      · have hd : decide ((all.length : Int) ≤ 8) = true := by simp; omega
        have HF : Hid (fewF all nms m n = m.few n) := by
          have : fewF all nms m n = m.few n := by unfold fewF; rw [HA2.out, decide_eq_true ha]; simp
          exact this
        clear ha
        go_wp2_with fail
        refine (HM.out _ (HWX.out.trans HX.out)).mono ?_
        rintro e w2 ⟨rfl, x2⟩
        have X2 := Lib.hid x2
        clear x2
        go_wp2_with fail
        go_ret
        exact ⟨by rw [HF.out]; rfl, (HWX.out.trans HX.out).trans X2.out⟩
      · have hd : decide ((all.length : Int) ≤ 8) = false := by simp; omega
        have HF : Hid (fewF all nms m n = false) := by
          have : fewF all nms m n = false := by unfold fewF; rw [decide_eq_false ha]; simp
          exact this
        clear ha
        go_wp2_with fail
        go_ret
        exact ⟨by rw [HF.out]; rfl, HWX.out.trans HX.out⟩
end Go.Proofs.YtbanhcaahabboaaGreatDoor

/- Layer 38: lists of names: slices.Index, slices.Contains, prenex.different; the reference's last and Names. -/
namespace Go.Proofs.YtbanhcaahabboaaGreatDoor
open Go.RowKit

theorem slr_at {α : Type} {P : α → Value → Prop} {w : World} {A : Option Addr} {n c : Nat} {l : List α} (h : SlR (fun _ => P) w (.slice A n c) l) (k : Nat) (hk : k < l.length) : ∃ ad x, A = some ad ∧ ad.block < w.heap.size ∧ w.cell? (ad.add k) = some x ∧ P l[k] x := by
  obtain ⟨A', c', e, -, -, h3⟩ := h
  injection e with e1
  obtain ⟨ad, x, e4, hb, a0, hp⟩ := h3 k hk
  exact ⟨ad, x, e1.trans e4, hb, a0, hp⟩
/-- A slice of texts, from its front on. -/
theorem slr_take {w : World} {A : Option Addr} {n c : Nat} {l : List ByteArray} (h : SlR (fun _ (s : ByteArray) x => x = .string s) w (.slice A n c) l) (k : Nat) (hk : k ≤ l.length) : SlR (fun _ (s : ByteArray) x => x = .string s) w (.slice A k c) (l.take k) := by
  obtain ⟨A', c', e, h1, h2, h3⟩ := h
  injection e with e1 e2 e3
  subst e1 e2 e3
  have hl : (l.take k).length = k := by rw [List.length_take]; omega
  refine ⟨A, c, by rw [hl], by omega, h2, fun j hj => ?_⟩
  obtain ⟨ad, x, e1, e2, e3, e4⟩ := h3 j (by omega)
  exact ⟨ad, x, e1, e2, e3, by rw [List.getElem_take]; exact e4⟩
/-- An index that is not negative exactly if the text is in the list. -/
def FoundAt (l : List ByteArray) (s : ByteArray) (w : World) (e : Ending) (w' : World) : Prop := ∃ r : Int, e = .returned (.int .i64 r) ∧ decide (0 ≤ r) = hasB l s ∧ Ext w w'

set_option maxRecDepth 100000 in
set_option maxHeartbeats 1000000 in
theorem index_any {w : World} {v : Value} {l : List ByteArray} (h : SlR (fun _ (s : ByteArray) x => x = .string s) w v l) (nm : ByteArray) : Calls Tryz.prog 182 #[v, .string nm] w (FoundAt l nm w) := by
  have H := Lib.hid h
  obtain ⟨A, c, rfl, h1, h2, -⟩ := h
  have hlen : l.length ≤ 9223372036854775807 := by omega
  go_enter Tryz.func182, Tryz.ntmps182
  go_wp2_with fail
  go_loopw [8] (fun iv wr => ∃ k : Nat, k ≤ l.length ∧ iv = .int .i64 k ∧ Hid (hasB (l.take k) nm = false ∧ Ext w wr)) (fun iv _ => l.length - (intOf iv).toNat)
  case atStart => exact ⟨0, Nat.zero_le _, rfl, ⟨by simp [hasB], Ext.refl w⟩⟩
  case round =>
    obtain ⟨k, hk, rfl, ⟨hno, hx⟩⟩ := hrel
    have HNO := Lib.hid hno
    have HX := Lib.hid hx
    clear hno hx
    by_cases hlt : k < l.length
    · obtain ⟨ad, x, rfl, hc, hp⟩ := SlR.get_ (SlR.ext H.out (fun _ _ h => h) HX.out) k hlt
      subst hp
      have HTK : Hid (hasB (l.take (k + 1)) nm = (hasB (l.take k) nm || l[k] == nm)) := by
        have : hasB (l.take (k + 1)) nm = (hasB (l.take k) nm || l[k] == nm) := by unfold hasB; rw [List.take_succ_eq_append_getElem hlt, List.any_append]; simp
        exact this
      have HIT : Hid ((l[k] == nm) = true → hasB l nm = true) := by
        intro h; unfold hasB; exact List.any_eq_true.2 ⟨l[k], List.getElem_mem hlt, h⟩
      generalize l[k] = q at *
      by_cases hs : q = nm
      · have hb : (q == nm) = true := (MapKept.bytes_beq q nm).2 hs
        have hb2 : (q.toList == nm.toList) = true := by rw [hs]; simp
        have hb3 : (nm.toList == q.toList) = true := by rw [hs]; simp
        have HF := Lib.hid (HIT.out hb)
        clear HTK HIT
        go_wp2_with fail
        go_ret
        exact ⟨k, rfl, by rw [HF.out]; simp, HX.out⟩
      · have hb : (q == nm) = false := by rw [Bool.eq_false_iff]; exact fun e => hs ((MapKept.bytes_beq q nm).1 e)
        have hb2 : (q.toList == nm.toList) = false := by rw [← beq_toListBytes]; exact hb
        have hb3 : (nm.toList == q.toList) = false := by
          rw [Bool.eq_false_iff] at hb2 ⊢
          intro e
          exact hb2 (by rw [beq_iff_eq] at e ⊢; exact e.symm)
        have HN : Hid (hasB (l.take (k + 1)) nm = false) := by
          have : hasB (l.take (k + 1)) nm = false := by rw [HTK.out, HNO.out, hb]; rfl
          exact this
        clear HTK HIT
        go_wp2_with fail
        go_roundw
        case rel => exact ⟨k + 1, by omega, by go_num, ⟨HN.out, HX.out⟩⟩
        case measure => simp [intOf]; omega
    · have HF : Hid (hasB l nm = false) := by
        have hke : k = l.length := by omega
        have h := HNO.out
        rw [hke, List.take_length] at h
        exact h
      go_wp2_with fail
      go_ret
      exact ⟨-1, rfl, by rw [HF.out]; simp, HX.out⟩

set_option maxRecDepth 100000 in
theorem contains_any {w : World} {v : Value} {l : List ByteArray} (h : SlR (fun _ (s : ByteArray) x => x = .string s) w v l) (nm : ByteArray) : Calls Tryz.prog 129 #[v, .string nm] w fun e w' => e = .returned (.bool (hasB l nm)) ∧ Ext w w' := by
  have H := Lib.hid (index_any h nm)
  clear h
  go_enter Tryz.func129, Tryz.ntmps129
  go_wp2_with fail
  refine H.out.mono ?_
  rintro e w2 ⟨r, rfl, hr, hx⟩
  have HX := Lib.hid hx
  have HR := Lib.hid hr
  clear hx hr
  go_wp2_with fail
  go_ret
  exact ⟨by rw [← HR.out]; rfl, HX.out⟩

set_option maxRecDepth 100000 in
set_option maxHeartbeats 1000000 in
theorem last_any {w : World} {v : Value} {l : List ByteArray} (h : SlR (fun _ (s : ByteArray) x => x = .string s) w v l) (nm : ByteArray) : Calls Tryz.prog 82 #[v, .string nm] w (FoundAt l nm w) := by
  have H := Lib.hid h
  obtain ⟨A, c, rfl, h1, h2, -⟩ := h
  have hlen : l.length ≤ 9223372036854775807 := by omega
  go_enter Tryz.func82, Tryz.ntmps82
  go_wp2_with fail
  go_loopw [5] (fun iv wr => ∃ k : Nat, k ≤ l.length ∧ iv = .int .i64 ((k : Int) - 1) ∧ Hid (hasB (l.drop k) nm = false ∧ Ext w wr)) (fun iv _ => (intOf iv + 1).toNat)
  case atStart => exact ⟨l.length, Nat.le_refl _, by first | rfl | go_num, ⟨by simp [hasB], Ext.refl w⟩⟩
  case round =>
    obtain ⟨k, hk, rfl, ⟨hno, hx⟩⟩ := hrel
    have HNO := Lib.hid hno
    have HX := Lib.hid hx
    clear hno hx
    cases k with
    | succ k =>
      have e1 : ((k + 1 : Nat) : Int) - 1 = (k : Int) := by omega
      rw [e1]
      obtain ⟨ad, x, rfl, hc, hp⟩ := SlR.get_ (SlR.ext H.out (fun _ _ h => h) HX.out) k (by omega)
      subst hp
      have hk1 : k < l.length := by omega
      have HTK : Hid (hasB (l.drop k) nm = (l[k] == nm || hasB (l.drop (k + 1)) nm)) := by
        have : hasB (l.drop k) nm = (l[k] == nm || hasB (l.drop (k + 1)) nm) := by unfold hasB; rw [List.drop_eq_getElem_cons hk1]; rfl
        exact this
      have HIT : Hid ((l[k] == nm) = true → hasB l nm = true) := by
        intro h; unfold hasB; exact List.any_eq_true.2 ⟨l[k], List.getElem_mem hk1, h⟩
      have HM : Hid (k + 1 = k + 1) := Lib.hid rfl
      clear e1
      generalize l[k] = q at *
      by_cases hs : q = nm
      · have hb : (q == nm) = true := (MapKept.bytes_beq q nm).2 hs
        have hb2 : (q.toList == nm.toList) = true := by rw [hs]; simp
        have hb3 : (nm.toList == q.toList) = true := by rw [hs]; simp
        have HF := Lib.hid (HIT.out hb)
        clear HTK HIT
        go_wp2_with fail
        go_ret
        exact ⟨k, rfl, by rw [HF.out]; simp, HX.out⟩
      · have hb : (q == nm) = false := by rw [Bool.eq_false_iff]; exact fun e => hs ((MapKept.bytes_beq q nm).1 e)
        have hb2 : (q.toList == nm.toList) = false := by rw [← beq_toListBytes]; exact hb
        have hb3 : (nm.toList == q.toList) = false := by
          rw [Bool.eq_false_iff] at hb2 ⊢
          intro e
          exact hb2 (by rw [beq_iff_eq] at e ⊢; exact e.symm)
        have HN : Hid (hasB (l.drop k) nm = false) := by
          have : hasB (l.drop k) nm = false := by rw [HTK.out, HNO.out, hb]; rfl
          exact this
        clear HTK HIT
        go_wp2_with fail
        go_roundw
        case rel => exact ⟨k, by omega, by first | rfl | go_num, ⟨HN.out, HX.out⟩⟩
        case measure => simp [intOf]
    | zero =>
      have e1 : ((0 : Nat) : Int) - 1 = -1 := by omega
      rw [e1]
      clear e1
      have HF : Hid (hasB l nm = false) := by
        have h := HNO.out
        rw [List.drop_zero] at h
        exact h
      go_wp2_with fail
      go_ret
      exact ⟨-1, rfl, by rw [HF.out]; simp, HX.out⟩

/-- The names are valid and different, and at most four. -/
def namesB (l : List ByteArray) : Bool := decide (l.length ≤ 4 ∧ ∀ i (h : i < l.length), validB l[i] = true ∧ hasB (l.take i) l[i] = false)
theorem namesB_true {l : List ByteArray} (h1 : l.length ≤ 4) (h2 : ∀ i (h : i < l.length), validB l[i] = true ∧ hasB (l.take i) l[i] = false) : namesB l = true := decide_eq_true ⟨h1, h2⟩
theorem namesB_long {l : List ByteArray} (h : 4 < l.length) : namesB l = false := decide_eq_false (fun hh => by omega)
theorem namesB_bad {l : List ByteArray} (k : Nat) (hk : k < l.length) (h : validB l[k] = true → hasB (l.take k) l[k] = true) : namesB l = false := decide_eq_false (fun hh => by
  have := hh.2 k hk
  rw [h this.1] at this
  cases this.2)

set_option maxRecDepth 100000 in
set_option maxHeartbeats 1000000 in
theorem different_any {w : World} {v : Value} {l : List ByteArray} (h : SlR (fun _ (s : ByteArray) x => x = .string s) w v l) : Calls Tryz.prog 79 #[v] w fun e w' => e = .returned (.bool (namesB l)) ∧ Ext w w' := by
  have H := Lib.hid h
  obtain ⟨A, c, rfl, h1, h2, -⟩ := h
  have hlen : l.length ≤ 9223372036854775807 := by omega
  go_enter Tryz.func79, Tryz.ntmps79
  by_cases h4 : l.length ≤ 4
  case neg =>
    have hd : decide ((4 : Int) < (l.length : Int)) = true := by simp; omega
    have HF := Lib.hid (namesB_long (l := l) (by omega))
    clear h4
    go_wp2_with fail
    go_ret
    exact ⟨by rw [HF.out]; rfl, Ext.refl w⟩
  have hd : decide ((4 : Int) < (l.length : Int)) = false := by simp; omega
  have H4 := Lib.hid h4
  clear h4
  go_wp2_with fail
  clear hd
  go_loopw [10] (fun iv wr => ∃ k : Nat, k ≤ l.length ∧ iv = .int .i64 k ∧ Hid ((∀ i (h : i < l.length), i < k → validB l[i] = true ∧ hasB (l.take i) l[i] = false) ∧ Ext w wr)) (fun iv _ => l.length - (intOf iv).toNat)
  case atStart => exact ⟨0, Nat.zero_le _, rfl, ⟨fun i _ h => by omega, Ext.refl w⟩⟩
  case round =>
    obtain ⟨k, hk, rfl, ⟨hno, hx⟩⟩ := hrel
    have HNO := Lib.hid hno
    have HX := Lib.hid hx
    clear hno hx
    by_cases hlt : k < l.length
    · obtain ⟨ad, x, rfl, hc, hp⟩ := SlR.get_ (SlR.ext H.out (fun _ _ h => h) HX.out) k hlt
      subst hp
      have hkc : (k : Int) ≤ (c : Int) := by omega
      have HV := Lib.hid (fun w' => valid_any l[k] w')
      have HTAKE := Lib.hid (slr_take (SlR.ext H.out (fun _ _ h => h) HX.out) k hk)
      have HBAD := Lib.hid (namesB_bad k hlt)
      have HGO : Hid (validB l[k] = true → hasB (l.take k) l[k] = false → ∀ i (h : i < l.length), i < k + 1 → validB l[i] = true ∧ hasB (l.take i) l[i] = false) := Lib.hid (fun e1 e2 i hi hik => by
        rcases Nat.lt_or_ge i k with h | h
        · exact HNO.out i hi h
        · obtain rfl : i = k := by omega
          exact ⟨e1, e2⟩)
      generalize l[k] = q at *
      by_cases hv : validB q = true
      · rw [hv] at HV HBAD
        have HVT := Lib.hid hv
        clear hv
        go_upto_region 6 with fail
        go_wp2_with fail
        refine (HV.out _).mono ?_
        rintro e w2 ⟨rfl, rfl⟩
        go_wp2_with fail
        refine (contains_any HTAKE.out q).mono ?_
        rintro e w3 ⟨rfl, x3⟩
        have X3 := Lib.hid (HX.out.trans x3)
        clear x3
        by_cases hh : hasB (l.take k) q = true
        · rw [hh]
          have HF := Lib.hid (HBAD.out (fun _ => hh))
          clear hh HBAD HGO
          go_wp2_with fail
          go_ret
          exact ⟨by rw [HF.out]; rfl, X3.out⟩
        · have hh' : hasB (l.take k) q = false := by simpa using hh
          rw [hh']
          have HN := Lib.hid (HGO.out HVT.out hh')
          clear hh hh' HBAD HGO
          go_wp2_with fail
          go_roundw
          case rel => exact ⟨k + 1, by omega, by go_num, ⟨HN.out, X3.out⟩⟩
          case measure => simp [intOf]; omega
      · have hv' : validB q = false := by simpa using hv
        rw [hv'] at HV
        have HF := Lib.hid (HBAD.out (fun e => absurd e hv))
        clear hv hv' HBAD HGO
        go_upto_region 6 with fail
        go_wp2_with fail
        refine (HV.out _).mono ?_
        rintro e w2 ⟨rfl, rfl⟩
        go_wp2_with fail
        go_ret
        exact ⟨by rw [HF.out]; rfl, HX.out⟩
    · have HF : Hid (namesB l = true) := by
        have hke : k = l.length := by omega
        exact namesB_true H4.out (fun i hi => HNO.out i hi (by omega))
      go_wp2_with fail
      go_ret
      exact ⟨by rw [HF.out]; rfl, HX.out⟩

set_option maxRecDepth 100000 in
set_option maxHeartbeats 1000000 in
theorem rnames_any {w : World} {v : Value} {l : List ByteArray} (h : SlR (fun _ (s : ByteArray) x => x = .string s) w v l) : Calls Tryz.prog 37 #[v] w fun e w' => e = .returned (.bool (namesB l)) ∧ Ext w w' := by
  have H := Lib.hid h
  obtain ⟨A, c, rfl, h1, h2, -⟩ := h
  have hlen : l.length ≤ 9223372036854775807 := by omega
  go_enter Tryz.func37, Tryz.ntmps37
  go_wp2_with fail
  go_loopw [6] (fun iv wr => ∃ k : Nat, k ≤ l.length ∧ iv = .int .i64 k ∧ Hid ((∀ i (h : i < l.length), i < k → validB l[i] = true ∧ hasB (l.take i) l[i] = false) ∧ Ext w wr)) (fun iv _ => l.length - (intOf iv).toNat)
  case atStart => exact ⟨0, Nat.zero_le _, rfl, ⟨fun i _ h => by omega, Ext.refl w⟩⟩
  case round =>
    obtain ⟨k, hk, rfl, ⟨hno, hx⟩⟩ := hrel
    have HNO := Lib.hid hno
    have HX := Lib.hid hx
    clear hno hx
    by_cases hlt : k < l.length
    · obtain ⟨ad, x, rfl, hc, hp⟩ := SlR.get_ (SlR.ext H.out (fun _ _ h => h) HX.out) k hlt
      subst hp
      have hkc : (k : Int) ≤ (c : Int) := by omega
      have hkl : (k : Int) < (l.length : Int) := by omega
      have hab : (ad.add k).block < wr.heap.size := by
        obtain ⟨ad', x', e, hb, -, -⟩ := slr_at (SlR.ext H.out (fun _ _ h => h) HX.out) k hlt
        injection e with e
        rw [block_of_add, e]; exact hb
      have HV := Lib.hid (fun w' => refValid_any l[k] w')
      have HTAKE := Lib.hid (fun w' (hx : Ext wr w') => slr_take (SlR.ext H.out (fun _ _ h => h) (HX.out.trans hx)) k hk)
      have HBAD := Lib.hid (namesB_bad k hlt)
      have HGO : Hid (validB l[k] = true → hasB (l.take k) l[k] = false → ∀ i (h : i < l.length), i < k + 1 → validB l[i] = true ∧ hasB (l.take i) l[i] = false) := Lib.hid (fun e1 e2 i hi hik => by
        rcases Nat.lt_or_ge i k with h | h
        · exact HNO.out i hi h
        · obtain rfl : i = k := by omega
          exact ⟨e1, e2⟩)
      generalize l[k] = q at *
      have HSS : Hid (∀ W2, Ext wr W2 → (Ext wr W2 ∧ W2.cell? (ad.add k) = some (.string q))) := Lib.hid (fun W2 hx2 => ⟨hx2, (hx2.cell hab).trans hc⟩)
      have Y0 := Lib.hid ((Ext.refl wr).drew)
      clear hc hab
      by_cases hv : validB q = true
      · rw [hv] at HV HBAD
        have HVT := Lib.hid hv
        clear hv
        go_upto_region 4 with fail
        go_region_held3 (fun W2 => Ext wr W2 ∧ W2.cell? (ad.add k) = some (.string q))
          (first | with_reducible exact HSS.out _ Y0.out | with_reducible exact HSS.out _ z1 | with_reducible exact HSS.out _ z2)
          (first
            | (go_at_call 81
               refine (HV.out _).mono ?_
               rintro e v1 ⟨rfl, x1⟩
               have z1 : Ext wr v1 := Ext.trans Y0.out x1)
            | (go_at_call 82
               refine (last_any (HTAKE.out _ z1) q).mono ?_
               rintro e v2 ⟨r, rfl, hr, x2⟩
               have z2 : Ext wr v2 := Ext.trans z1 x2))
        all_goals
          have X3 := Lib.hid (HX.out.trans z2)
          clear z1 z2 x1 x2
          by_cases hh : hasB (l.take k) q = true
          · have HF := Lib.hid (HBAD.out (fun _ => hh))
            clear hr
            simp only [hh]
            clear hh HBAD HGO
            go_wp2_with fail
            go_ret
            exact ⟨by rw [HF.out]; rfl, X3.out⟩
          · have hh' : hasB (l.take k) q = false := by simpa using hh
            have HN := Lib.hid (HGO.out HVT.out hh')
            clear hr
            simp only [hh']
            clear hh hh' HBAD HGO
            go_wp2_with fail
            go_roundw
            case rel => exact ⟨k + 1, by omega, by go_num, ⟨HN.out, X3.out⟩⟩
            case measure => simp [intOf]; omega
      · have hv' : validB q = false := by simpa using hv
        rw [hv'] at HV
        have HF := Lib.hid (HBAD.out (fun e => absurd e hv))
        clear hv hv' HBAD HGO
        have HX1 := Lib.hid (fun w' (x1 : Ext wr w') => HX.out.trans x1)
        go_upto_region 4 with fail
        refine wp_region_held_drew (S := fun W2 => Ext wr W2 ∧ W2.cell? (ad.add k) = some (.string q)) (by kernel_rfl) (HSS.out _ Y0.out) (fun hHeld => ?_)
        refine wpAnyH_take (i := 0) (v := ?v0x1) rfl (by kernel_rfl) (by kernel_rfl) (by kernel_rfl) (fun _ _ _ h => h) (Or.inl ⟨by rfl, ?hy0x1⟩) (by assumption) ?rest0x1
        case hy0x1 =>
          intro w' hSw
          try dsimp only at hSw
          go_simp
          try (with_reducible rfl)
        try simp only [Act.put, List.getElem_toArray, List.getElem_cons_zero, List.getElem_cons_succ, List.setIfInBounds_toArray, List.set_cons_zero, List.set_cons_succ]
        refine wpAnyH_take (i := 1) (v := ?v1x2) rfl (by kernel_rfl) (by kernel_rfl) (by kernel_rfl) (fun _ _ _ h => h) (Or.inl ⟨by rfl, ?hy1x2⟩) (by assumption) ?rest1x2
        case hy1x2 =>
          intro w' hSw
          try dsimp only at hSw
          go_simp
          try (with_reducible rfl)
        try simp only [Act.put, List.getElem_toArray, List.getElem_cons_zero, List.getElem_cons_succ, List.setIfInBounds_toArray, List.set_cons_zero, List.set_cons_succ]
        refine wpAnyH_take (i := 2) (v := ?v2x3) rfl (by kernel_rfl) (by kernel_rfl) (by kernel_rfl) (fun _ _ _ h => h) (Or.inl ⟨by rfl, ?hy2x3⟩) (by assumption) ?rest2x3
        case hy2x3 =>
          intro w' hSw
          try dsimp only at hSw
          go_simp
          try (with_reducible rfl)
        try simp only [Act.put, List.getElem_toArray, List.getElem_cons_zero, List.getElem_cons_succ, List.setIfInBounds_toArray, List.set_cons_zero, List.set_cons_succ]
        refine wpAnyH_take (i := 3) (v := ?v3x4) rfl (by kernel_rfl) (by kernel_rfl) (by kernel_rfl) (fun _ _ _ h => h) (Or.inl ⟨by rfl, ?hy3x4⟩) (by assumption) ?rest3x4
        case hy3x4 =>
          intro w' hSw
          try dsimp only at hSw
          go_simp
          try (with_reducible rfl)
        try simp only [Act.put, List.getElem_toArray, List.getElem_cons_zero, List.getElem_cons_succ, List.setIfInBounds_toArray, List.set_cons_zero, List.set_cons_succ]
        refine wpAnyH_ready (rs := [4]) (by kernel_rfl) (by simp) ?_
        refine AllReadyH.cons rfl (fun K hK => ?_) AllReadyH.nil
        go_simp
        go_at_call 81
        refine (HV.out _).mono ?_
        rintro e v1 ⟨rfl, x1⟩
        have z1 : Ext wr v1 := Ext.trans Y0.out x1
        refine hK.out _ _ (HSS.out _ z1) (fun hHeld => ?_)
        clear hK K
        try simp only [Act.put, List.getElem_toArray, List.getElem_cons_zero, List.getElem_cons_succ, List.setIfInBounds_toArray, List.set_cons_zero, List.set_cons_succ]
        refine wpAnyH_take (i := 5) (v := ?v5x5) rfl (by kernel_rfl) (by kernel_rfl) (by kernel_rfl) (fun _ _ _ h => h) (Or.inl ⟨by rfl, ?hy5x5⟩) (by assumption) ?rest5x5
        case hy5x5 =>
          intro w' hSw
          try dsimp only at hSw
          go_simp
          try (with_reducible rfl)
        try simp only [Act.put, List.getElem_toArray, List.getElem_cons_zero, List.getElem_cons_succ, List.setIfInBounds_toArray, List.set_cons_zero, List.set_cons_succ]
        refine wpAnyH_take (i := 6) (v := ?v6x6) rfl (by kernel_rfl) (by kernel_rfl) (by kernel_rfl) (fun _ _ _ h => h) (Or.inl ⟨by rfl, ?hy6x6⟩) (by assumption) ?rest6x6
        case hy6x6 =>
          intro w' hSw
          try dsimp only at hSw
          go_simp
          try (with_reducible rfl)
        try simp only [Act.put, List.getElem_toArray, List.getElem_cons_zero, List.getElem_cons_succ, List.setIfInBounds_toArray, List.set_cons_zero, List.set_cons_succ]
        refine wpAnyH_take (i := 7) (v := undef) rfl (by kernel_rfl) (by kernel_rfl) (by kernel_rfl) (fun _ _ _ h => h) (Or.inr ⟨by rfl, rfl⟩) (by assumption) ?_
        try simp only [Act.put, List.getElem_toArray, List.getElem_cons_zero, List.getElem_cons_succ, List.setIfInBounds_toArray, List.set_cons_zero, List.set_cons_succ]
        refine wpAnyH_take (i := 8) (v := undef) rfl (by kernel_rfl) (by kernel_rfl) (by kernel_rfl) (fun _ _ _ h => h) (Or.inr ⟨by rfl, rfl⟩) (by assumption) ?_
        try simp only [Act.put, List.getElem_toArray, List.getElem_cons_zero, List.getElem_cons_succ, List.setIfInBounds_toArray, List.set_cons_zero, List.set_cons_succ]
        refine wpAnyH_take (i := 9) (v := undef) rfl (by kernel_rfl) (by kernel_rfl) (by kernel_rfl) (fun _ _ _ h => h) (Or.inr ⟨by rfl, rfl⟩) (by assumption) ?_
        try simp only [Act.put, List.getElem_toArray, List.getElem_cons_zero, List.getElem_cons_succ, List.setIfInBounds_toArray, List.set_cons_zero, List.set_cons_succ]
        refine wpAnyH_take (i := 10) (v := undef) rfl (by kernel_rfl) (by kernel_rfl) (by kernel_rfl) (fun _ _ _ h => h) (Or.inr ⟨by rfl, rfl⟩) (by assumption) ?_
        try simp only [Act.put, List.getElem_toArray, List.getElem_cons_zero, List.getElem_cons_succ, List.setIfInBounds_toArray, List.set_cons_zero, List.set_cons_succ]
        refine wpAnyH_take (i := 11) (v := undef) rfl (by kernel_rfl) (by kernel_rfl) (by kernel_rfl) (fun _ _ _ h => h) (Or.inr ⟨by rfl, rfl⟩) (by assumption) ?_
        try simp only [Act.put, List.getElem_toArray, List.getElem_cons_zero, List.getElem_cons_succ, List.setIfInBounds_toArray, List.set_cons_zero, List.set_cons_succ]
        refine wpAnyH_take (i := 12) (v := undef) rfl (by kernel_rfl) (by kernel_rfl) (by kernel_rfl) (fun _ _ _ h => h) (Or.inr ⟨by rfl, rfl⟩) (by assumption) ?_
        try simp only [Act.put, List.getElem_toArray, List.getElem_cons_zero, List.getElem_cons_succ, List.setIfInBounds_toArray, List.set_cons_zero, List.set_cons_succ]
        refine wpAnyH_take (i := 13) (v := undef) rfl (by kernel_rfl) (by kernel_rfl) (by kernel_rfl) (fun _ _ _ h => h) (Or.inr ⟨by rfl, rfl⟩) (by assumption) ?_
        try simp only [Act.put, List.getElem_toArray, List.getElem_cons_zero, List.getElem_cons_succ, List.setIfInBounds_toArray, List.set_cons_zero, List.set_cons_succ]
        refine wpAnyH_take (i := 14) (v := undef) rfl (by kernel_rfl) (by kernel_rfl) (by kernel_rfl) (fun _ _ _ h => h) (Or.inr ⟨by rfl, rfl⟩) (by assumption) ?_
        try simp only [Act.put, List.getElem_toArray, List.getElem_cons_zero, List.getElem_cons_succ, List.setIfInBounds_toArray, List.set_cons_zero, List.set_cons_succ]
        refine wpAnyH_take (i := 15) (v := undef) rfl (by kernel_rfl) (by kernel_rfl) (by kernel_rfl) (fun _ _ _ h => h) (Or.inr ⟨by rfl, rfl⟩) (by assumption) ?_
        try simp only [Act.put, List.getElem_toArray, List.getElem_cons_zero, List.getElem_cons_succ, List.setIfInBounds_toArray, List.set_cons_zero, List.set_cons_succ]
        refine wpAnyH_take (i := 16) (v := ?v16x16) rfl (by kernel_rfl) (by kernel_rfl) (by kernel_rfl) (fun _ _ _ h => h) (Or.inl ⟨by rfl, ?hy16x16⟩) (by assumption) ?rest16x16
        case hy16x16 =>
          intro w' hSw
          try dsimp only at hSw
          go_simp
          try (with_reducible rfl)
        try simp only [Act.put, List.getElem_toArray, List.getElem_cons_zero, List.getElem_cons_succ, List.setIfInBounds_toArray, List.set_cons_zero, List.set_cons_succ]
        refine wpAnyH_done (by kernel_rfl) ?_ _
        have X3 := Lib.hid (HX1.out _ z1)
        clear z1 x1
        go_wp2_with fail
        go_ret
        exact ⟨by rw [HF.out]; rfl, X3.out⟩
    · have hke : k = l.length := by omega
      by_cases h4 : l.length ≤ 4
      · have hd : decide ((l.length : Int) ≤ 4) = true := by simp; omega
        have HF : Hid (namesB l = true) := namesB_true h4 (fun i hi => HNO.out i hi (by omega))
        clear h4
        go_wp2_with fail
        go_ret
        exact ⟨by rw [HF.out]; rfl, HX.out⟩
      · have hd : decide ((l.length : Int) ≤ 4) = false := by simp; omega
        have HF : Hid (namesB l = false) := namesB_long (by omega)
        clear h4
        go_wp2_with fail
        go_ret
        exact ⟨by rw [HF.out]; rfl, HX.out⟩
end Go.Proofs.YtbanhcaahabboaaGreatDoor
