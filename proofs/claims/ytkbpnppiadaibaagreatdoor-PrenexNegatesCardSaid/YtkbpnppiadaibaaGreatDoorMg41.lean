/- Short lists. -/
import Derived.Test.YtkbpnppiadaibaaGreatDoorMg0
import Derived.Test.YtkbpnppiadaibaaGreatDoorMg10
import Derived.Test.YtkbpnppiadaibaaGreatDoorDeg
import Derived.Test.YtkbpnppiadaibaaGreatDoorMg26
set_option linter.unusedSimpArgs false
set_option linter.unusedVariables false

namespace Go.Proofs.YtkbpnppiadaibaaGreatDoor
open Go.RowKit

theorem len0 {α : Type} {l : List α} (h : l.length = 0) : l = [] := List.eq_nil_of_length_eq_zero h
theorem len1 {α : Type} {l : List α} (h : l.length = 1) : ∃ x, l = [x] := by
  cases l with
  | nil => simp at h
  | cons x r => exact ⟨x, by rw [len0 (l := r) (by simpa using h)]⟩
theorem len2 {α : Type} {l : List α} (h : l.length = 2) : ∃ x y, l = [x, y] := by
  cases l with
  | nil => simp at h
  | cons x r =>
    obtain ⟨y, rfl⟩ := len1 (l := r) (by simpa using h)
    exact ⟨x, y, rfl⟩
end Go.Proofs.YtkbpnppiadaibaaGreatDoor

/- The nine cells of a tree's box. -/
namespace Go.Proofs.YtkbpnppiadaibaaGreatDoor
open Go.RowKit

/-- The nine cells of a tree's box. -/
def Box9 (w : World) (g : Nat) (d : Nd) (s A : Value) : Prop :=
  w.cell? ⟨g, 0, none⟩ = some (.int .i64 d.kind) ∧ w.cell? ⟨g, 1, none⟩ = some (.bool d.neg) ∧ w.cell? ⟨g, 2, none⟩ = some s ∧ w.cell? ⟨g, 3, none⟩ = some (.string d.name) ∧ w.cell? ⟨g, 4, none⟩ = some (.int .i64 d.exp) ∧ w.cell? ⟨g, 5, none⟩ = some (.int .i64 d.rel) ∧ w.cell? ⟨g, 6, none⟩ = some (.bool d.truth) ∧ w.cell? ⟨g, 7, none⟩ = some (.bool d.all) ∧ w.cell? ⟨g, 8, none⟩ = some A
theorem Box9.ext {w w' : World} {g : Nat} {d : Nd} {s A : Value} (h : Box9 w g d s A) (hx : Ext w w') (hg : g < w.heap.size) : Box9 w' g d s A := by
  obtain ⟨h0, h1, h2, h3, h4, h5, h6, h7, h8⟩ := h
  have k : ∀ i, w'.cell? ⟨g, i, none⟩ = w.cell? ⟨g, i, none⟩ := fun i => hx.cell (p := ⟨g, i, none⟩) hg
  exact ⟨(k _).trans h0, (k _).trans h1, (k _).trans h2, (k _).trans h3, (k _).trans h4, (k _).trans h5, (k _).trans h6, (k _).trans h7, (k _).trans h8⟩
theorem Box9.new (w : World) (d : Nd) (s A : Value) (T : TypeId) : Box9 (w.alloc (.cells #[.int .i64 d.kind, .bool d.neg, s, .string d.name, .int .i64 d.exp, .int .i64 d.rel, .bool d.truth, .bool d.all, A] T)) w.heap.size d s A := by
  refine ⟨?_, ?_, ?_, ?_, ?_, ?_, ?_, ?_, ?_⟩ <;> simp [go_sem]

end Go.Proofs.YtkbpnppiadaibaaGreatDoor

/- Reference 34: room: how many trees a tree has in it, up to a limit. -/
namespace Go.Proofs.YtkbpnppiadaibaaGreatDoor
open Go.RowKit

mutual
/-- What is left of n when a tree, at most so deep, is counted; negative if it is too great. -/
def Tr.room : Tr → Int → Nat → Int
  | .mk _ ks, n, deep => match deep with
    | 0 => -1
    | d + 1 => roomL ks (n - 1) d
def roomL : List Tr → Int → Nat → Int
  | [], n, _ => n
  | t :: r, n, d => if n < 0 then -1 else roomL r (t.room n d) d
end
mutual
theorem Tr.room_bd : ∀ (t : Tr) (n : Int) (d : Nat), 0 ≤ n → -1 ≤ t.room n d ∧ t.room n d ≤ n
  | .mk _ ks, n, deep, h => by
    cases deep with
    | zero => simp only [Tr.room]; omega
    | succ d => simp only [Tr.room]; have := roomL_bd ks (n - 1) d (by omega); omega
theorem roomL_bd : ∀ (l : List Tr) (n : Int) (d : Nat), -1 ≤ n → -1 ≤ roomL l n d ∧ roomL l n d ≤ n
  | [], n, d, h => by simp only [roomL]; omega
  | t :: r, n, d, h => by
    simp only [roomL]
    split
    · omega
    · have h1 := Tr.room_bd t n d (by omega)
      have h2 := roomL_bd r (t.room n d) d h1.1
      omega
end
theorem roomL_neg (l : List Tr) (d : Nat) : roomL l (-1) d = -1 := by cases l <;> simp [roomL]
theorem roomL_append (l r : List Tr) (n : Int) (d : Nat) (hn : -1 ≤ n) : roomL (l ++ r) n d = roomL r (roomL l n d) d := by
  induction l generalizing n with
  | nil => simp [roomL]
  | cons t l ih =>
    simp only [List.cons_append, roomL]
    split
    · rw [roomL_neg]
    · exact ih _ (Tr.room_bd t n d (by omega)).1
theorem roomL_take (l : List Tr) (k : Nat) (hk : k < l.length) (n : Int) (d : Nat) (hn : -1 ≤ n) : roomL (l.take (k + 1)) n d = if roomL (l.take k) n d < 0 then -1 else (l[k]).room (roomL (l.take k) n d) d := by
  rw [List.take_succ_eq_append_getElem hk, roomL_append _ _ _ _ hn]
  simp [roomL]
theorem roomL_cut (l : List Tr) (k : Nat) (n : Int) (d : Nat) (hn : -1 ≤ n) (hk : k < l.length) (h : roomL (l.take k) n d < 0) : roomL l n d = -1 := by
  have h1 : l = l.take k ++ l.drop k := (List.take_append_drop k l).symm
  have hb := (roomL_bd (l.take k) n d hn).1
  have h2 : roomL (l.take k) n d = -1 := by omega
  rw [h1, roomL_append _ _ _ _ hn, h2, roomL_neg]

mutual
/-- How many trees a tree has in it. -/
def Tr.sz : Tr → Nat
  | .mk _ ks => trsSz ks + 1
def trsSz : List Tr → Nat
  | [] => 0
  | t :: r => t.sz + trsSz r
end
mutual
theorem Tr.room_sz : ∀ (t : Tr) (n : Int) (d : Nat), 0 ≤ n → 0 ≤ t.room n d → t.room n d = n - t.sz
  | .mk _ ks, n, deep, h, h' => by
    cases deep with
    | zero => simp only [Tr.room] at h'; omega
    | succ d =>
      simp only [Tr.room, Tr.sz] at h' ⊢
      have := roomL_sz ks (n - 1) d (by omega) h'
      omega
theorem roomL_sz : ∀ (l : List Tr) (n : Int) (d : Nat), -1 ≤ n → 0 ≤ roomL l n d → roomL l n d = n - trsSz l
  | [], n, d, h, h' => by simp only [roomL, trsSz]; omega
  | t :: r, n, d, h, h' => by
    simp only [roomL] at h' ⊢
    split at h'
    · omega
    · rename_i hn
      rw [if_neg hn]
      have hb := Tr.room_bd t n d (by omega)
      have h2 := roomL_sz r (t.room n d) d hb.1 h'
      have hb2 := roomL_bd r (t.room n d) d hb.1
      have h1 := Tr.room_sz t n d (by omega) (by omega)
      simp only [trsSz]
      omega
end
/-- A tree that is not too great. -/
theorem Tr.room_le (t : Tr) (n d : Nat) (h : 0 ≤ t.room n d) : t.sz ≤ n := by
  have h1 := Tr.room_sz t n d (by omega) h
  omega

set_option maxRecDepth 100000 in
set_option maxHeartbeats 1000000 in
theorem room_ih {p : Nat → Prop} (dd : Nat) : ∀ (t : Tr) (v : Value) (w : World) (n : Int) (deep : Nat), deep < dd → TrV w p t v → 0 ≤ n → n ≤ 1000000 → deep ≤ 1000000 →
    Calls Tryz.prog 52 #[v, .int .i64 n, .int .i64 deep] w (RetI (t.room n deep) w) := by
  induction dd with
  | zero => intro t v w n deep h; omega
  | succ dd ih =>
  intro t v w n deep hdd h hn hn' hd'
  have IH := Lib.hid ih
  obtain ⟨A0, n0, c0, A, c, rfl, -, hl1, hl2, h4⟩ := h.open_
  have H4 := Lib.hid h4
  clear h4 ih h
  unfold ndV
  cases deep with
  | zero =>
    obtain ⟨d, ks⟩ := t
    show Calls _ _ _ _ (RetI (-1) w)
    go_enter Tryz.func52, Tryz.ntmps52
    go_wp2_with fail
    go_ret
    exact ⟨rfl, (Ext.refl w).alloc _⟩
  | succ deep =>
    have hde : (((deep + 1 : Nat) : Int) == 0) = false := by simp; omega
    have HR : Hid (t.room n (deep + 1) = roomL t.ks (n - 1) deep) := by
      have : t.room n (deep + 1) = roomL t.ks (n - 1) deep := by cases t; rfl
      exact this
    obtain ⟨dI, hdI⟩ : ∃ dI : Int, ((deep + 1 : Nat) : Int) = dI := ⟨_, rfl⟩
    rw [hdI] at hde ⊢
    have hdI1 : 1 ≤ dI := by omega
    have hdI2 : dI ≤ 1000000 := by omega
    have HDI : Hid (dI - 1 = (deep : Int)) := by
      have : dI - 1 = (deep : Int) := by omega
      exact this
    clear hdI
    obtain ⟨W, hW⟩ : ∃ W, w.alloc (.cells #[.int .i64 t.d.kind, .bool t.d.neg, .slice A0 n0 c0, .string t.d.name, .int .i64 t.d.exp, .int .i64 t.d.rel, .bool t.d.truth, .bool t.d.all, .slice A t.ks.length c] 29) = W := ⟨_, rfl⟩
    have hWx : Ext w W := by rw [← hW]; exact (Ext.refl w).alloc _
    have hWs : w.heap.size < W.heap.size := by rw [← hW]; simp
    have d8 : W.cell? ⟨w.heap.size, 8, none⟩ = some (.slice A t.ks.length c) := by rw [← hW]; simp [go_sem]
    have HWX := Lib.hid hWx
    have D8 := Lib.hid d8
    clear hWx
    go_enter Tryz.func52, Tryz.ntmps52
    go_wp2_with fail
    clear hW d8
    go_loopw [1, 15] (fun nv iv wr => ∃ (k : Nat) (m : Int), k ≤ t.ks.length ∧ iv = .int .i64 k ∧ nv = .int .i64 m ∧ -1 ≤ m ∧ m ≤ 1000000 ∧ Hid (roomL (t.ks.take k) (n - 1) deep = m ∧ Ext W wr)) (fun _ iv _ => t.ks.length - (intOf iv).toNat)
    case atStart => exact ⟨0, n - 1, Nat.zero_le _, rfl, rfl, by omega, by omega, ⟨by simp [roomL], Ext.refl W⟩⟩
    case round =>
      obtain ⟨k, m, hk, rfl, rfl, hm1, hm2, ⟨hm, hxw⟩⟩ := hrel
      have HM := Lib.hid hm
      have HXW := Lib.hid hxw
      have d8 : wr.cell? ⟨w.heap.size, 8, none⟩ = some (.slice A t.ks.length c) := (hxw.cell (p := ⟨w.heap.size, 8, none⟩) hWs).trans D8.out
      by_cases hlt : k < t.ks.length
      · by_cases hneg : m < 0
        · have HF : Hid (roomL t.ks (n - 1) deep = -1) := by
            have : roomL t.ks (n - 1) deep = -1 := roomL_cut t.ks k (n - 1) deep (by omega) hlt (by omega)
            exact this
          clear hm hxw
          go_wp2_with fail
          go_ret
          exact ⟨by rw [HR.out, HF.out]; rfl, HWX.out.trans HXW.out⟩
        · obtain ⟨ad, B0, m0, d0, B1, m1, d1, rfl, hadb, ⟨e0, e1, e2, e3, e4, e5, e6, e7, e8⟩, hkt⟩ := TrsAt.kid (TrsAt.ext H4.out (HWX.out.trans hxw)) k hlt
          have HKT := Lib.hid hkt
          have HSTEP : Hid (roomL (t.ks.take (k + 1)) (n - 1) deep = (t.ks[k]).room m deep) := by
            have : roomL (t.ks.take (k + 1)) (n - 1) deep = (t.ks[k]).room m deep := by rw [roomL_take _ _ hlt _ _ (by omega), hm, if_neg hneg]
            exact this
          clear hkt hm hxw hadb
          have hm0 : decide (m < 0) = false := by simpa using hneg
          go_wp2_with fail
          rw [HDI.out]
          have hbd := Tr.room_bd (t.ks[k]) m deep (by omega)
          refine (IH.out (t.ks[k]) _ wr m deep (by omega) HKT.out (by omega) (by omega) (by omega)).mono ?_
          rintro e w2 ⟨rfl, x2⟩
          have X2 := Lib.hid x2
          clear x2 e0 e1 e2 e3 e4 e5 e6 e7 e8 d8
          generalize hrm : (t.ks[k]).room m deep = m2 at *
          have HRM := Lib.hid hrm
          clear hrm
          go_wp2_with fail
          go_roundw
          case rel => exact ⟨k + 1, m2, by omega, by go_num, rfl, by omega, by omega, ⟨HSTEP.out, HXW.out.trans X2.out⟩⟩
          case measure => simp [intOf]; omega
      · have hke : k = t.ks.length := by omega
        have HF : Hid (roomL t.ks (n - 1) deep = m) := by
          rw [hke, List.take_length] at hm
          exact hm
        clear hm hxw hke
        go_wp2_with fail
        go_ret
        exact ⟨by rw [HR.out, HF.out]; rfl, HWX.out.trans HXW.out⟩

theorem room_any {p : Nat → Prop} (t : Tr) (v : Value) (w : World) (n : Int) (deep : Nat) (h : TrV w p t v) (hn : 0 ≤ n) (hn' : n ≤ 1000000) (hd : deep ≤ 1000000) :
    Calls Tryz.prog 52 #[v, .int .i64 n, .int .i64 deep] w (RetI (t.room n deep) w) := room_ih (deep + 1) t v w n deep (Nat.lt_succ_self _) h hn hn' hd
end Go.Proofs.YtkbpnppiadaibaaGreatDoor

/- Reference 34: kids, isTerm, Is. -/
namespace Go.Proofs.YtkbpnppiadaibaaGreatDoor
open Go.RowKit

/-- How many kids a kind has, and whether they are terms. -/
def kidN (k : Int) : Int := if k = 1 then 0 else if k = 2 then 0 else if k = 3 then 2 else if k = 4 then 2 else if k = 5 then 2 else if k = 6 then 1 else if k = 7 then 1 else if k = 8 then 0 else if k = 9 then 2 else if k = 10 then 1 else if k = 11 then 2 else if k = 12 then 2 else if k = 13 then 2 else if k = 14 then 2 else if k = 15 then 1 else -1
def kidT (k : Int) : Bool := k == 1 || k == 2 || k == 8 || k == 6 || k == 7 || k == 3 || k == 4 || k == 5 || k == 9
def termK (k : Int) : Bool := decide (1 ≤ k) && decide (k ≤ 7)

theorem kids_1 (w : World) : Calls Tryz.prog 53 #[.int .i64 1] w fun e w' => e = .returned (.tuple #[.int .i64 0, .bool true]) ∧ w = w' := by
  go_enter Tryz.func53, Tryz.ntmps53
  go_wp2_with fail
  go_ret2
  exact ⟨rfl, rfl⟩
theorem kids_2 (w : World) : Calls Tryz.prog 53 #[.int .i64 2] w fun e w' => e = .returned (.tuple #[.int .i64 0, .bool true]) ∧ w = w' := by
  go_enter Tryz.func53, Tryz.ntmps53
  go_wp2_with fail
  go_ret2
  exact ⟨rfl, rfl⟩
theorem kids_3 (w : World) : Calls Tryz.prog 53 #[.int .i64 3] w fun e w' => e = .returned (.tuple #[.int .i64 2, .bool true]) ∧ w = w' := by
  go_enter Tryz.func53, Tryz.ntmps53
  go_wp2_with fail
  go_ret2
  exact ⟨rfl, rfl⟩
theorem kids_4 (w : World) : Calls Tryz.prog 53 #[.int .i64 4] w fun e w' => e = .returned (.tuple #[.int .i64 2, .bool true]) ∧ w = w' := by
  go_enter Tryz.func53, Tryz.ntmps53
  go_wp2_with fail
  go_ret2
  exact ⟨rfl, rfl⟩
theorem kids_5 (w : World) : Calls Tryz.prog 53 #[.int .i64 5] w fun e w' => e = .returned (.tuple #[.int .i64 2, .bool true]) ∧ w = w' := by
  go_enter Tryz.func53, Tryz.ntmps53
  go_wp2_with fail
  go_ret2
  exact ⟨rfl, rfl⟩
theorem kids_6 (w : World) : Calls Tryz.prog 53 #[.int .i64 6] w fun e w' => e = .returned (.tuple #[.int .i64 1, .bool true]) ∧ w = w' := by
  go_enter Tryz.func53, Tryz.ntmps53
  go_wp2_with fail
  go_ret2
  exact ⟨rfl, rfl⟩
theorem kids_7 (w : World) : Calls Tryz.prog 53 #[.int .i64 7] w fun e w' => e = .returned (.tuple #[.int .i64 1, .bool true]) ∧ w = w' := by
  go_enter Tryz.func53, Tryz.ntmps53
  go_wp2_with fail
  go_ret2
  exact ⟨rfl, rfl⟩
theorem kids_8 (w : World) : Calls Tryz.prog 53 #[.int .i64 8] w fun e w' => e = .returned (.tuple #[.int .i64 0, .bool true]) ∧ w = w' := by
  go_enter Tryz.func53, Tryz.ntmps53
  go_wp2_with fail
  go_ret2
  exact ⟨rfl, rfl⟩
theorem kids_9 (w : World) : Calls Tryz.prog 53 #[.int .i64 9] w fun e w' => e = .returned (.tuple #[.int .i64 2, .bool true]) ∧ w = w' := by
  go_enter Tryz.func53, Tryz.ntmps53
  go_wp2_with fail
  go_ret2
  exact ⟨rfl, rfl⟩
theorem kids_10 (w : World) : Calls Tryz.prog 53 #[.int .i64 10] w fun e w' => e = .returned (.tuple #[.int .i64 1, .bool false]) ∧ w = w' := by
  go_enter Tryz.func53, Tryz.ntmps53
  go_wp2_with fail
  go_ret2
  exact ⟨rfl, rfl⟩
theorem kids_11 (w : World) : Calls Tryz.prog 53 #[.int .i64 11] w fun e w' => e = .returned (.tuple #[.int .i64 2, .bool false]) ∧ w = w' := by
  go_enter Tryz.func53, Tryz.ntmps53
  go_wp2_with fail
  go_ret2
  exact ⟨rfl, rfl⟩
theorem kids_12 (w : World) : Calls Tryz.prog 53 #[.int .i64 12] w fun e w' => e = .returned (.tuple #[.int .i64 2, .bool false]) ∧ w = w' := by
  go_enter Tryz.func53, Tryz.ntmps53
  go_wp2_with fail
  go_ret2
  exact ⟨rfl, rfl⟩
theorem kids_13 (w : World) : Calls Tryz.prog 53 #[.int .i64 13] w fun e w' => e = .returned (.tuple #[.int .i64 2, .bool false]) ∧ w = w' := by
  go_enter Tryz.func53, Tryz.ntmps53
  go_wp2_with fail
  go_ret2
  exact ⟨rfl, rfl⟩
theorem kids_14 (w : World) : Calls Tryz.prog 53 #[.int .i64 14] w fun e w' => e = .returned (.tuple #[.int .i64 2, .bool false]) ∧ w = w' := by
  go_enter Tryz.func53, Tryz.ntmps53
  go_wp2_with fail
  go_ret2
  exact ⟨rfl, rfl⟩
theorem kids_15 (w : World) : Calls Tryz.prog 53 #[.int .i64 15] w fun e w' => e = .returned (.tuple #[.int .i64 1, .bool false]) ∧ w = w' := by
  go_enter Tryz.func53, Tryz.ntmps53
  go_wp2_with fail
  go_ret2
  exact ⟨rfl, rfl⟩
theorem kids_no (k : Int) (w : World) (h1 : ¬ k = 1) (h2 : ¬ k = 2) (h3 : ¬ k = 3) (h4 : ¬ k = 4) (h5 : ¬ k = 5) (h6 : ¬ k = 6) (h7 : ¬ k = 7) (h8 : ¬ k = 8) (h9 : ¬ k = 9) (h10 : ¬ k = 10) (h11 : ¬ k = 11) (h12 : ¬ k = 12) (h13 : ¬ k = 13) (h14 : ¬ k = 14) (h15 : ¬ k = 15) : Calls Tryz.prog 53 #[.int .i64 k] w fun e w' => e = .returned (.tuple #[.int .i64 (-1), .bool false]) ∧ w = w' := by
  have b1 : (k == 1) = false := by simpa using h1
  have b2 : (k == 2) = false := by simpa using h2
  have b3 : (k == 3) = false := by simpa using h3
  have b4 : (k == 4) = false := by simpa using h4
  have b5 : (k == 5) = false := by simpa using h5
  have b6 : (k == 6) = false := by simpa using h6
  have b7 : (k == 7) = false := by simpa using h7
  have b8 : (k == 8) = false := by simpa using h8
  have b9 : (k == 9) = false := by simpa using h9
  have b10 : (k == 10) = false := by simpa using h10
  have b11 : (k == 11) = false := by simpa using h11
  have b12 : (k == 12) = false := by simpa using h12
  have b13 : (k == 13) = false := by simpa using h13
  have b14 : (k == 14) = false := by simpa using h14
  have b15 : (k == 15) = false := by simpa using h15
  clear h1 h2 h3 h4 h5 h6 h7 h8 h9 h10 h11 h12 h13 h14 h15
  go_enter Tryz.func53, Tryz.ntmps53
  go_wp2_with fail
  go_ret2
  exact ⟨rfl, rfl⟩
theorem kids_any (k : Int) (w : World) : Calls Tryz.prog 53 #[.int .i64 k] w fun e w' => e = .returned (.tuple #[.int .i64 (kidN k), .bool (kidT k)]) ∧ w = w' := by
  by_cases h1 : k = 1
  · subst h1; exact kids_1 w
  by_cases h2 : k = 2
  · subst h2; exact kids_2 w
  by_cases h3 : k = 3
  · subst h3; exact kids_3 w
  by_cases h4 : k = 4
  · subst h4; exact kids_4 w
  by_cases h5 : k = 5
  · subst h5; exact kids_5 w
  by_cases h6 : k = 6
  · subst h6; exact kids_6 w
  by_cases h7 : k = 7
  · subst h7; exact kids_7 w
  by_cases h8 : k = 8
  · subst h8; exact kids_8 w
  by_cases h9 : k = 9
  · subst h9; exact kids_9 w
  by_cases h10 : k = 10
  · subst h10; exact kids_10 w
  by_cases h11 : k = 11
  · subst h11; exact kids_11 w
  by_cases h12 : k = 12
  · subst h12; exact kids_12 w
  by_cases h13 : k = 13
  · subst h13; exact kids_13 w
  by_cases h14 : k = 14
  · subst h14; exact kids_14 w
  by_cases h15 : k = 15
  · subst h15; exact kids_15 w
  have hn : kidN k = -1 := by simp [kidN, h1, h2, h3, h4, h5, h6, h7, h8, h9, h10, h11, h12, h13, h14, h15]
  have ht : kidT k = false := by simp [kidT, h1, h2, h3, h4, h5, h6, h7, h8, h9, h10, h11, h12, h13, h14, h15]
  rw [hn, ht]
  exact kids_no k w h1 h2 h3 h4 h5 h6 h7 h8 h9 h10 h11 h12 h13 h14 h15
theorem kidN_bd (k : Int) : -1 ≤ kidN k ∧ kidN k ≤ 2 := by
  unfold kidN
  repeat' split
  all_goals omega
theorem isTerm_any (k : Int) (w : World) : Calls Tryz.prog 54 #[.int .i64 k] w fun e w' => e = .returned (.bool (termK k)) ∧ w = w' := by
  by_cases h1 : 1 ≤ k
  · have hv : termK k = decide (k ≤ 7) := by simp [termK, h1]
    rw [hv]
    have hd : decide (1 ≤ k) = true := by simpa using h1
    clear hv
    go_enter Tryz.func54, Tryz.ntmps54
    go_wp2_with fail
    go_ret
    exact ⟨rfl, rfl⟩
  · have hv : termK k = false := by simp [termK, h1]
    rw [hv]
    have hd : decide (1 ≤ k) = false := by simpa using h1
    clear hv
    go_enter Tryz.func54, Tryz.ntmps54
    go_wp2_with fail
    go_ret
    exact ⟨rfl, rfl⟩

/-- Whether exponent and relation are in range. -/
def Nd.inRange (d : Nd) : Bool := if d.kind = 7 then decide (0 ≤ d.exp) else if d.kind = 9 then decide (1 ≤ d.rel) && decide (d.rel ≤ 6) else true
mutual
/-- Whether a tree is one of a term, or of a formula. -/
def Tr.is : Tr → Bool → Bool
  | .mk d ks, term => (kidN d.kind == ks.length) && (termK d.kind == term) && d.inRange && isL ks (kidT d.kind)
def isL : List Tr → Bool → Bool
  | [], _ => true
  | t :: r, b => t.is b && isL r b
end
theorem isL_append (l r : List Tr) (b : Bool) : isL (l ++ r) b = (isL l b && isL r b) := by
  induction l with
  | nil => simp [isL]
  | cons t l ih => simp [isL, ih, Bool.and_assoc]
theorem isL_take (l : List Tr) (k : Nat) (hk : k < l.length) (b : Bool) : isL (l.take (k + 1)) b = (isL (l.take k) b && (l[k]).is b) := by
  rw [List.take_succ_eq_append_getElem hk, isL_append]; simp [isL]
theorem isL_cut (l : List Tr) (k : Nat) (hk : k < l.length) (b : Bool) (h : (l[k]).is b = false) : isL l b = false := by
  have h1 : l = l.take k ++ l.drop k := (List.take_append_drop k l).symm
  rw [h1, isL_append, List.drop_eq_getElem_cons hk]
  simp [isL, h]
theorem trsSz_get (l : List Tr) (k : Nat) (hk : k < l.length) : (l[k]).sz ≤ trsSz l := by
  induction l generalizing k with
  | nil => simp at hk
  | cons t l ih =>
    cases k with
    | zero => simp [trsSz]
    | succ k => simp only [List.getElem_cons_succ, trsSz]; have := ih k (by simpa using hk); omega
theorem Tr.kid_sz (t : Tr) (k : Nat) (hk : k < t.ks.length) : (t.ks[k]).sz < t.sz := by
  obtain ⟨d, ks⟩ := t
  have := trsSz_get ks k hk
  show (ks[k]).sz < trsSz ks + 1
  omega

set_option maxRecDepth 100000 in
set_option maxHeartbeats 2000000 in
theorem is_ih {p : Nat → Prop} (m : Nat) : ∀ (t : Tr) (v : Value) (w : World) (term : Bool), t.sz < m → TrV w p t v → Calls Tryz.prog 17 #[v, .bool term] w (RetB (t.is term) w) := by
  induction m with
  | zero => intro t v w term h; omega
  | succ m ih =>
  intro t v w term hm h
  have IH := Lib.hid ih
  obtain ⟨A0, n0, c0, A, c, rfl, -, hl1, hl2, h4⟩ := h.open_
  have HSZ := Lib.hid (fun k hk => t.kid_sz k hk)
  clear h ih
  obtain ⟨⟨kind, neg, ds, name, exp, rel, truth, all⟩, ks⟩ := t
  change TrsAt w p ks A 0 at h4
  have H4 := Lib.hid h4
  clear h4
  unfold ndV
  simp only [Tr.d, Tr.ks] at hl1 hl2 HSZ ⊢
  have hlen : ks.length ≤ 9223372036854775807 := by omega
  obtain ⟨W, hW⟩ : ∃ W, w.alloc (.cells #[.int .i64 kind, .bool neg, .slice A0 n0 c0, .string name, .int .i64 exp, .int .i64 rel, .bool truth, .bool all, .slice A ks.length c] 29) = W := ⟨_, rfl⟩
  have hWx : Ext w W := by rw [← hW]; exact (Ext.refl w).alloc _
  have hWs : w.heap.size < W.heap.size := by rw [← hW]; simp
  have a0 : W.cell? ⟨w.heap.size, 0, none⟩ = some (.int .i64 kind) := by rw [← hW]; simp [go_sem]
  have a4 : W.cell? ⟨w.heap.size, 4, none⟩ = some (.int .i64 exp) := by rw [← hW]; simp [go_sem]
  have a5 : W.cell? ⟨w.heap.size, 5, none⟩ = some (.int .i64 rel) := by rw [← hW]; simp [go_sem]
  have a8 : W.cell? ⟨w.heap.size, 8, none⟩ = some (.slice A ks.length c) := by rw [← hW]; simp [go_sem]
  have HWX := Lib.hid hWx
  have A8 := Lib.hid a8
  have hkb := kidN_bd kind
  have HV : Hid ((Tr.mk ⟨kind, neg, ds, name, exp, rel, truth, all⟩ ks).is term = ((kidN kind == (ks.length : Int)) && (termK kind == term) && (Nd.inRange ⟨kind, neg, ds, name, exp, rel, truth, all⟩) && isL ks (kidT kind))) := by
    have : (Tr.mk ⟨kind, neg, ds, name, exp, rel, truth, all⟩ ks).is term = ((kidN kind == (ks.length : Int)) && (termK kind == term) && (Nd.inRange ⟨kind, neg, ds, name, exp, rel, truth, all⟩) && isL ks (kidT kind)) := by simp only [Tr.is]
    exact this
  clear hWx
  generalize (Tr.mk ⟨kind, neg, ds, name, exp, rel, truth, all⟩ ks).is term = res at *
  have HK := Lib.hid (kids_any kind)
  have HT := Lib.hid (isTerm_any kind)
  generalize hkn : kidN kind = kn at *
  generalize hkt : kidT kind = kt at *
  generalize htk : termK kind = tk at *
  clear hkn hkt htk
  by_cases h1 : kn = ks.length
  · have b1 : (kn != (ks.length : Int)) = false := by simpa using h1
    have e1 : (kn == (ks.length : Int)) = true := by simpa using h1
    by_cases h2 : tk = term
    · subst h2
      have b2 : (!tk == tk) = false := by simp
      by_cases h3 : Nd.inRange ⟨kind, neg, ds, name, exp, rel, truth, all⟩ = true
      · have hres : res = isL ks kt := by rw [HV.out, e1, h3]; simp
        subst hres
        clear e1 h1
        have hgo : ((kind == 7) = true ∧ decide (exp < 0) = false ∧ (kind == 9) = false) ∨ ((kind == 7) = false ∧ (kind == 9) = true ∧ decide (rel < 1) = false ∧ decide (6 < rel) = false) ∨ ((kind == 7) = false ∧ (kind == 9) = false) := by
          unfold Nd.inRange at h3
          by_cases k7 : kind = 7
          · simp [k7] at h3 ⊢; omega
          · by_cases k9 : kind = 9
            · simp [k9] at h3 ⊢; omega
            · simp [k7, k9]
        clear h3 HV
        rcases hgo with ⟨g7, ge, g9⟩ | ⟨g7, g9, gr1, gr6⟩ | ⟨g7, g9⟩
        all_goals
          go_enter Tryz.func17, Tryz.ntmps17
          go_wp2_with fail
          refine (HK.out _).mono ?_
          rintro e w1 ⟨rfl, rfl⟩
          go_wp2_with fail
          refine (HT.out _).mono ?_
          rintro e w1 ⟨rfl, rfl⟩
          go_wp2_with fail
          clear hW a0 a4 a5 a8
          go_loopw [52] (fun iv wr => ∃ k : Nat, k ≤ ks.length ∧ iv = .int .i64 k ∧ Hid (isL (ks.take k) kt = true ∧ Ext W wr)) (fun iv _ => ks.length - (intOf iv).toNat)
          case atStart => exact ⟨0, Nat.zero_le _, rfl, ⟨by simp [isL], Ext.refl W⟩⟩
          case round =>
            obtain ⟨k, hk, rfl, ⟨hi, hxw⟩⟩ := hrel
            have HI := Lib.hid hi
            have HXW := Lib.hid hxw
            have a8 : wr.cell? ⟨w.heap.size, 8, none⟩ = some (.slice A ks.length c) := (hxw.cell (p := ⟨w.heap.size, 8, none⟩) hWs).trans A8.out
            by_cases hlt : k < ks.length
            · obtain ⟨ad, B0, m0, d0, B1, m1, d1, rfl, hadb, ⟨e0, e1, e2, e3, e4, e5, e6, e7, e8⟩, hkt⟩ := TrsAt.kid (TrsAt.ext H4.out (HWX.out.trans hxw)) k hlt
              have HKT := Lib.hid hkt
              have hsz := HSZ.out k hlt
              have HC := Lib.hid (IH.out (ks[k]) _ wr kt (by omega) HKT.out)
              clear hkt hi hxw hadb hsz
              by_cases hb : (ks[k]).is kt = true
              · rw [hb] at HC
                have HN : Hid (isL (ks.take (k + 1)) kt = true) := by
                  have : isL (ks.take (k + 1)) kt = true := by rw [isL_take _ _ hlt, HI.out, hb]; rfl
                  exact this
                clear hb
                go_wp2_with fail
                refine HC.out.mono ?_
                rintro e w2 ⟨rfl, x2⟩
                have X2 := Lib.hid x2
                clear x2 e0 e1 e2 e3 e4 e5 e6 e7 e8 a8 HC
                go_wp2_with fail
                go_roundw
                case rel => exact ⟨k + 1, by omega, by go_num, ⟨HN.out, HXW.out.trans X2.out⟩⟩
                case measure => simp [intOf]; omega
              · have hb' : (ks[k]).is kt = false := by simpa using hb
                rw [hb'] at HC
                have HN := Lib.hid (isL_cut ks k hlt kt hb')
                clear hb hb'
                go_wp2_with fail
                refine HC.out.mono ?_
                rintro e w2 ⟨rfl, x2⟩
                have X2 := Lib.hid x2
                clear x2 e0 e1 e2 e3 e4 e5 e6 e7 e8 a8 HC
                go_wp2_with fail
                go_ret
                exact ⟨by rw [HN.out]; rfl, HWX.out.trans (HXW.out.trans X2.out)⟩
            · have hke : k = ks.length := by omega
              have HN : Hid (isL ks kt = true) := by
                rw [hke, List.take_length] at hi
                exact hi
              clear hi hxw hke
              go_wp2_with fail
              go_ret
              exact ⟨by rw [HN.out]; rfl, HWX.out.trans HXW.out⟩
      · have hres : res = false := by rw [HV.out]; simp [h3]
        subst hres
        have hgo : ((kind == 7) = true ∧ decide (exp < 0) = true) ∨ ((kind == 7) = false ∧ (kind == 9) = true ∧ decide (rel < 1) = true) ∨ ((kind == 7) = false ∧ (kind == 9) = true ∧ decide (rel < 1) = false ∧ decide (6 < rel) = true) := by
          unfold Nd.inRange at h3
          by_cases k7 : kind = 7
          · simp [k7] at h3 ⊢; omega
          · by_cases k9 : kind = 9
            · simp [k9] at h3 ⊢; omega
            · simp [k7, k9] at h3
        clear h3 HV e1 h1
        rcases hgo with ⟨g7, ge⟩ | ⟨g7, g9, gr1⟩ | ⟨g7, g9, gr1, gr6⟩
        all_goals
          go_enter Tryz.func17, Tryz.ntmps17
          go_wp2_with fail
          refine (HK.out _).mono ?_
          rintro e w1 ⟨rfl, rfl⟩
          go_wp2_with fail
          refine (HT.out _).mono ?_
          rintro e w1 ⟨rfl, rfl⟩
          go_wp2_with fail
          go_ret
          exact ⟨rfl, HWX.out⟩
    · have hres : res = false := by rw [HV.out]; simp [h2]
      subst hres
      have b2 : (!tk == term) = true := by simpa using h2
      clear HV e1 h1 h2
      go_enter Tryz.func17, Tryz.ntmps17
      go_wp2_with fail
      refine (HK.out _).mono ?_
      rintro e w1 ⟨rfl, rfl⟩
      go_wp2_with fail
      refine (HT.out _).mono ?_
      rintro e w1 ⟨rfl, rfl⟩
      go_wp2_with fail
      go_ret
      exact ⟨rfl, HWX.out⟩
  · have hres : res = false := by rw [HV.out]; simp [h1]
    subst hres
    have b1 : (kn != (ks.length : Int)) = true := by simpa using h1
    clear HV h1
    go_enter Tryz.func17, Tryz.ntmps17
    go_wp2_with fail
    refine (HK.out _).mono ?_
    rintro e w1 ⟨rfl, rfl⟩
    go_wp2_with fail
    go_ret
    exact ⟨rfl, HWX.out⟩

theorem is_any {p : Nat → Prop} (t : Tr) (v : Value) (w : World) (term : Bool) (h : TrV w p t v) : Calls Tryz.prog 17 #[v, .bool term] w (RetB (t.is term) w) := is_ih (t.sz + 1) t v w term (Nat.lt_succ_self _) h
end Go.Proofs.YtkbpnppiadaibaaGreatDoor
