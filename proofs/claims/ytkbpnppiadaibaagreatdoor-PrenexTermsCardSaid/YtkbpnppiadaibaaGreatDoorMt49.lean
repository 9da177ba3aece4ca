/- Reference 34: room: how many trees a tree has in it, up to a limit. -/
import Derived.Test.YtkbpnppiadaibaaGreatDoorMt10
import Derived.Test.YtkbpnppiadaibaaGreatDoorDeg
import Derived.Test.YtkbpnppiadaibaaGreatDoorMt36
import Derived.Test.YtkbpnppiadaibaaGreatDoorMt0
import Derived.Test.YtkbpnppiadaibaaGreatDoorMt48
import Derived.Test.YtkbpnppiadaibaaGreatDoorMt27
import Derived.Test.YtkbpnppiadaibaaGreatDoorMt11
import Derived.Test.YtkbpnppiadaibaaGreatDoorMt38
import Derived.Test.YtkbpnppiadaibaaGreatDoorOfT
set_option linter.unusedSimpArgs false
set_option linter.unusedVariables false

set_option maxRecDepth 100000
set_option maxHeartbeats 8000000
namespace Go.Proofs.YtkbpnppiadaibaaGreatDoor
open Go.RowKit
mutual
def Tr.room : Tr → Int → Nat → Int
 | .mk _ ks, n, deep => match deep with
   | 0 => -1
   | d + 1 => roomL ks (n - 1) d
def roomL : List Tr → Int → Nat → Int
 | [], n, _ => n
 | t :: r, n, d => if n < 0 then -1 else roomL r (t.room n d) d
end
mutual
theorem Tr.room_bd : ∀ (t : Tr) (n : Int) (d : Nat), 0 ≤ n → -1 ≤ t.room n d ∧ t.room n d ≤ n
 | .mk _ ks, n, deep, h => by
   cases deep with
   | zero => simp only [Tr.room]; omega
   | succ d => simp only [Tr.room]; have := roomL_bd ks (n - 1) d (by omega); omega
theorem roomL_bd : ∀ (l : List Tr) (n : Int) (d : Nat), -1 ≤ n → -1 ≤ roomL l n d ∧ roomL l n d ≤ n
 | [], n, d, h => by simp only [roomL]; omega
 | t :: r, n, d, h => by
   simp only [roomL]
   split
   · omega
   · have h1 := Tr.room_bd t n d (by omega)
     have h2 := roomL_bd r (t.room n d) d h1.1
     omega
end
theorem roomL_neg (l : List Tr) (d : Nat) : roomL l (-1) d = -1 := by cases l <;> simp [roomL]
theorem roomL_append (l r : List Tr) (n : Int) (d : Nat) (hn : -1 ≤ n) : roomL (l ++ r) n d = roomL r (roomL l n d) d := by
 induction l generalizing n with
 | nil => simp [roomL]
 | cons t l ih =>
   simp only [List.cons_append, roomL]
   split
   · rw [roomL_neg]
   · exact ih _ (Tr.room_bd t n d (by omega)).1
theorem roomL_take (l : List Tr) (k : Nat) (hk : k < l.length) (n : Int) (d : Nat) (hn : -1 ≤ n) : roomL (l.take (k + 1)) n d = if roomL (l.take k) n d < 0 then -1 else (l[k]).room (roomL (l.take k) n d) d := by
 rw [List.take_succ_eq_append_getElem hk, roomL_append _ _ _ _ hn]
 simp [roomL]
theorem roomL_cut (l : List Tr) (k : Nat) (n : Int) (d : Nat) (hn : -1 ≤ n) (hk : k < l.length) (h : roomL (l.take k) n d < 0) : roomL l n d = -1 := by
 have h1 : l = l.take k ++ l.drop k := (List.take_append_drop k l).symm
 have hb := (roomL_bd (l.take k) n d hn).1
 have h2 : roomL (l.take k) n d = -1 := by omega
 rw [h1, roomL_append _ _ _ _ hn, h2, roomL_neg]
mutual
def Tr.sz : Tr → Nat
 | .mk _ ks => trsSz ks + 1
def trsSz : List Tr → Nat
 | [] => 0
 | t :: r => t.sz + trsSz r
end
mutual
theorem Tr.room_sz : ∀ (t : Tr) (n : Int) (d : Nat), 0 ≤ n → 0 ≤ t.room n d → t.room n d = n - t.sz
 | .mk _ ks, n, deep, h, h' => by
   cases deep with
   | zero => simp only [Tr.room] at h'; omega
   | succ d =>
     simp only [Tr.room, Tr.sz] at h' ⊢
     have := roomL_sz ks (n - 1) d (by omega) h'
     omega
theorem roomL_sz : ∀ (l : List Tr) (n : Int) (d : Nat), -1 ≤ n → 0 ≤ roomL l n d → roomL l n d = n - trsSz l
 | [], n, d, h, h' => by simp only [roomL, trsSz]; omega
 | t :: r, n, d, h, h' => by
   simp only [roomL] at h' ⊢
   split at h'
   · omega
   · rename_i hn
     rw [if_neg hn]
     have hb := Tr.room_bd t n d (by omega)
     have h2 := roomL_sz r (t.room n d) d hb.1 h'
     have hb2 := roomL_bd r (t.room n d) d hb.1
     have h1 := Tr.room_sz t n d (by omega) (by omega)
     simp only [trsSz]
     omega
end
theorem Tr.room_le (t : Tr) (n d : Nat) (h : 0 ≤ t.room n d) : t.sz ≤ n := by
 have h1 := Tr.room_sz t n d (by omega) h
 omega
theorem room_ih {p : Nat → Prop} (dd : Nat) : ∀ (t : Tr) (v : Value) (w : World) (n : Int) (deep : Nat), deep < dd → TrV w p t v → 0 ≤ n → n ≤ 1000000 → deep ≤ 1000000 →
 Calls Tryz.prog 52 #[v, .int .i64 n, .int .i64 deep] w (RetI (t.room n deep) w) := by
 induction dd with
 | zero => intro t v w n deep h; omega
 | succ dd ih =>
 intro t v w n deep hdd h hn hn' hd'
 have IH := Lib.hid ih
 obtain ⟨A0, n0, c0, A, c, rfl, -, hl1, hl2, h4⟩ := h.open_
 have H4 := Lib.hid h4
 clear h4 ih h
 unfold ndV
 cases deep with
 | zero =>
   obtain ⟨d, ks⟩ := t
   show Calls _ _ _ _ (RetI (-1) w)
   go_enter Tryz.func52, Tryz.ntmps52
   go_wp2_with fail
   go_ret
   exact ⟨rfl, (Ext.refl w).alloc _⟩
 | succ deep =>
   have hde : (((deep + 1 : Nat) : Int) == 0) = false := by simp; omega
   have HR : Hid (t.room n (deep + 1) = roomL t.ks (n - 1) deep) := by
    have : t.room n (deep + 1) = roomL t.ks (n - 1) deep := by cases t; rfl
    exact this
   obtain ⟨dI, hdI⟩ : ∃ dI : Int, ((deep + 1 : Nat) : Int) = dI := ⟨_, rfl⟩
   rw [hdI] at hde ⊢
   have hdI1 : 1 ≤ dI := by omega
   have hdI2 : dI ≤ 1000000 := by omega
   have HDI : Hid (dI - 1 = (deep : Int)) := by
    have : dI - 1 = (deep : Int) := by omega
    exact this
   clear hdI
   obtain ⟨W, hW⟩ : ∃ W, w.alloc (.cells #[.int .i64 t.d.kind, .bool t.d.neg, .slice A0 n0 c0, .string t.d.name, .int .i64 t.d.exp, .int .i64 t.d.rel, .bool t.d.truth, .bool t.d.all, .slice A t.ks.length c] 29) = W := ⟨_, rfl⟩
   have hWx : Ext w W := by rw [← hW]; exact (Ext.refl w).alloc _
   have hWs : w.heap.size < W.heap.size := by rw [← hW]; simp
   have d8 : W.cell? ⟨w.heap.size, 8, none⟩ = some (.slice A t.ks.length c) := by rw [← hW]; simp [go_sem]
   have HWX := Lib.hid hWx
   have D8 := Lib.hid d8
   clear hWx
   go_enter Tryz.func52, Tryz.ntmps52
   go_wp2_with fail
   clear hW d8
   go_loopw [1, 15] (fun nv iv wr => ∃ (k : Nat) (m : Int), k ≤ t.ks.length ∧ iv = .int .i64 k ∧ nv = .int .i64 m ∧ -1 ≤ m ∧ m ≤ 1000000 ∧ Hid (roomL (t.ks.take k) (n - 1) deep = m ∧ Ext W wr)) (fun _ iv _ => t.ks.length - (intOf iv).toNat)
   case atStart => exact ⟨0, n - 1, Nat.zero_le _, rfl, rfl, by omega, by omega, ⟨by simp [roomL], Ext.refl W⟩⟩
   case round =>
    obtain ⟨k, m, hk, rfl, rfl, hm1, hm2, ⟨hm, hxw⟩⟩ := hrel
    have HM := Lib.hid hm
    have HXW := Lib.hid hxw
    have d8 : wr.cell? ⟨w.heap.size, 8, none⟩ = some (.slice A t.ks.length c) := (hxw.cell (p := ⟨w.heap.size, 8, none⟩) hWs).trans D8.out
    by_cases hlt : k < t.ks.length
    · by_cases hneg : m < 0
      · have HF : Hid (roomL t.ks (n - 1) deep = -1) := by
         have : roomL t.ks (n - 1) deep = -1 := roomL_cut t.ks k (n - 1) deep (by omega) hlt (by omega)
         exact this
        clear hm hxw
        go_wp2_with fail
        go_ret
        exact ⟨by rw [HR.out, HF.out]; rfl, HWX.out.trans HXW.out⟩
      · obtain ⟨ad, B0, m0, d0, B1, m1, d1, rfl, hadb, ⟨e0, e1, e2, e3, e4, e5, e6, e7, e8⟩, hkt⟩ := TrsAt.kid (TrsAt.ext H4.out (HWX.out.trans hxw)) k hlt
        have HKT := Lib.hid hkt
        have HSTEP : Hid (roomL (t.ks.take (k + 1)) (n - 1) deep = (t.ks[k]).room m deep) := by
         have : roomL (t.ks.take (k + 1)) (n - 1) deep = (t.ks[k]).room m deep := by rw [roomL_take _ _ hlt _ _ (by omega), hm, if_neg hneg]
         exact this
        clear hkt hm hxw hadb
        have hm0 : decide (m < 0) = false := by simpa using hneg
        go_wp2_with fail
        rw [HDI.out]
        have hbd := Tr.room_bd (t.ks[k]) m deep (by omega)
        refine (IH.out (t.ks[k]) _ wr m deep (by omega) HKT.out (by omega) (by omega) (by omega)).mono ?_
        rintro e w2 ⟨rfl, x2⟩
        have X2 := Lib.hid x2
        clear x2 e0 e1 e2 e3 e4 e5 e6 e7 e8 d8
        generalize hrm : (t.ks[k]).room m deep = m2 at *
        have HRM := Lib.hid hrm
        clear hrm
        go_wp2_with fail
        go_roundw
        case rel => exact ⟨k + 1, m2, by omega, by go_num, rfl, by omega, by omega, ⟨HSTEP.out, HXW.out.trans X2.out⟩⟩
        case measure => simp [intOf]; omega
    · have hke : k = t.ks.length := by omega
      have HF : Hid (roomL t.ks (n - 1) deep = m) := by
       rw [hke, List.take_length] at hm
       exact hm
      clear hm hxw hke
      go_wp2_with fail
      go_ret
      exact ⟨by rw [HR.out, HF.out]; rfl, HWX.out.trans HXW.out⟩
theorem room_any {p : Nat → Prop} (t : Tr) (v : Value) (w : World) (n : Int) (deep : Nat) (h : TrV w p t v) (hn : 0 ≤ n) (hn' : n ≤ 1000000) (hd : deep ≤ 1000000) :
 Calls Tryz.prog 52 #[v, .int .i64 n, .int .i64 deep] w (RetI (t.room n deep) w) := room_ih (deep + 1) t v w n deep (Nat.lt_succ_self _) h hn hn' hd
end Go.Proofs.YtkbpnppiadaibaaGreatDoor

/- Reference 34: kids, isTerm, Is. -/
set_option maxRecDepth 100000
set_option maxHeartbeats 8000000
namespace Go.Proofs.YtkbpnppiadaibaaGreatDoor
open Go.RowKit
def kidN (k : Int) : Int := if k = 1 then 0 else if k = 2 then 0 else if k = 3 then 2 else if k = 4 then 2 else if k = 5 then 2 else if k = 6 then 1 else if k = 7 then 1 else if k = 8 then 0 else if k = 9 then 2 else if k = 10 then 1 else if k = 11 then 2 else if k = 12 then 2 else if k = 13 then 2 else if k = 14 then 2 else if k = 15 then 1 else -1
def kidT (k : Int) : Bool := k == 1 || k == 2 || k == 8 || k == 6 || k == 7 || k == 3 || k == 4 || k == 5 || k == 9
def termK (k : Int) : Bool := decide (1 ≤ k) && decide (k ≤ 7)
theorem kids_1 (w : World) : Calls Tryz.prog 53 #[.int .i64 1] w fun e w' => e = .returned (.tuple #[.int .i64 0, .bool true]) ∧ w = w' := by
 go_enter Tryz.func53, Tryz.ntmps53
 go_wp2_with fail
 go_ret2
 exact ⟨rfl, rfl⟩
theorem kids_2 (w : World) : Calls Tryz.prog 53 #[.int .i64 2] w fun e w' => e = .returned (.tuple #[.int .i64 0, .bool true]) ∧ w = w' := by
 go_enter Tryz.func53, Tryz.ntmps53
 go_wp2_with fail
 go_ret2
 exact ⟨rfl, rfl⟩
theorem kids_3 (w : World) : Calls Tryz.prog 53 #[.int .i64 3] w fun e w' => e = .returned (.tuple #[.int .i64 2, .bool true]) ∧ w = w' := by
 go_enter Tryz.func53, Tryz.ntmps53
 go_wp2_with fail
 go_ret2
 exact ⟨rfl, rfl⟩
theorem kids_4 (w : World) : Calls Tryz.prog 53 #[.int .i64 4] w fun e w' => e = .returned (.tuple #[.int .i64 2, .bool true]) ∧ w = w' := by
 go_enter Tryz.func53, Tryz.ntmps53
 go_wp2_with fail
 go_ret2
 exact ⟨rfl, rfl⟩
theorem kids_5 (w : World) : Calls Tryz.prog 53 #[.int .i64 5] w fun e w' => e = .returned (.tuple #[.int .i64 2, .bool true]) ∧ w = w' := by
 go_enter Tryz.func53, Tryz.ntmps53
 go_wp2_with fail
 go_ret2
 exact ⟨rfl, rfl⟩
theorem kids_6 (w : World) : Calls Tryz.prog 53 #[.int .i64 6] w fun e w' => e = .returned (.tuple #[.int .i64 1, .bool true]) ∧ w = w' := by
 go_enter Tryz.func53, Tryz.ntmps53
 go_wp2_with fail
 go_ret2
 exact ⟨rfl, rfl⟩
theorem kids_7 (w : World) : Calls Tryz.prog 53 #[.int .i64 7] w fun e w' => e = .returned (.tuple #[.int .i64 1, .bool true]) ∧ w = w' := by
 go_enter Tryz.func53, Tryz.ntmps53
 go_wp2_with fail
 go_ret2
 exact ⟨rfl, rfl⟩
theorem kids_8 (w : World) : Calls Tryz.prog 53 #[.int .i64 8] w fun e w' => e = .returned (.tuple #[.int .i64 0, .bool true]) ∧ w = w' := by
 go_enter Tryz.func53, Tryz.ntmps53
 go_wp2_with fail
 go_ret2
 exact ⟨rfl, rfl⟩
theorem kids_9 (w : World) : Calls Tryz.prog 53 #[.int .i64 9] w fun e w' => e = .returned (.tuple #[.int .i64 2, .bool true]) ∧ w = w' := by
 go_enter Tryz.func53, Tryz.ntmps53
 go_wp2_with fail
 go_ret2
 exact ⟨rfl, rfl⟩
theorem kids_10 (w : World) : Calls Tryz.prog 53 #[.int .i64 10] w fun e w' => e = .returned (.tuple #[.int .i64 1, .bool false]) ∧ w = w' := by
 go_enter Tryz.func53, Tryz.ntmps53
 go_wp2_with fail
 go_ret2
 exact ⟨rfl, rfl⟩
theorem kids_11 (w : World) : Calls Tryz.prog 53 #[.int .i64 11] w fun e w' => e = .returned (.tuple #[.int .i64 2, .bool false]) ∧ w = w' := by
 go_enter Tryz.func53, Tryz.ntmps53
 go_wp2_with fail
 go_ret2
 exact ⟨rfl, rfl⟩
theorem kids_12 (w : World) : Calls Tryz.prog 53 #[.int .i64 12] w fun e w' => e = .returned (.tuple #[.int .i64 2, .bool false]) ∧ w = w' := by
 go_enter Tryz.func53, Tryz.ntmps53
 go_wp2_with fail
 go_ret2
 exact ⟨rfl, rfl⟩
theorem kids_13 (w : World) : Calls Tryz.prog 53 #[.int .i64 13] w fun e w' => e = .returned (.tuple #[.int .i64 2, .bool false]) ∧ w = w' := by
 go_enter Tryz.func53, Tryz.ntmps53
 go_wp2_with fail
 go_ret2
 exact ⟨rfl, rfl⟩
theorem kids_14 (w : World) : Calls Tryz.prog 53 #[.int .i64 14] w fun e w' => e = .returned (.tuple #[.int .i64 2, .bool false]) ∧ w = w' := by
 go_enter Tryz.func53, Tryz.ntmps53
 go_wp2_with fail
 go_ret2
 exact ⟨rfl, rfl⟩
theorem kids_15 (w : World) : Calls Tryz.prog 53 #[.int .i64 15] w fun e w' => e = .returned (.tuple #[.int .i64 1, .bool false]) ∧ w = w' := by
 go_enter Tryz.func53, Tryz.ntmps53
 go_wp2_with fail
 go_ret2
 exact ⟨rfl, rfl⟩
theorem kids_no (k : Int) (w : World) (h1 : ¬ k = 1) (h2 : ¬ k = 2) (h3 : ¬ k = 3) (h4 : ¬ k = 4) (h5 : ¬ k = 5) (h6 : ¬ k = 6) (h7 : ¬ k = 7) (h8 : ¬ k = 8) (h9 : ¬ k = 9) (h10 : ¬ k = 10) (h11 : ¬ k = 11) (h12 : ¬ k = 12) (h13 : ¬ k = 13) (h14 : ¬ k = 14) (h15 : ¬ k = 15) : Calls Tryz.prog 53 #[.int .i64 k] w fun e w' => e = .returned (.tuple #[.int .i64 (-1), .bool false]) ∧ w = w' := by
 have b1 : (k == 1) = false := by simpa using h1
 have b2 : (k == 2) = false := by simpa using h2
 have b3 : (k == 3) = false := by simpa using h3
 have b4 : (k == 4) = false := by simpa using h4
 have b5 : (k == 5) = false := by simpa using h5
 have b6 : (k == 6) = false := by simpa using h6
 have b7 : (k == 7) = false := by simpa using h7
 have b8 : (k == 8) = false := by simpa using h8
 have b9 : (k == 9) = false := by simpa using h9
 have b10 : (k == 10) = false := by simpa using h10
 have b11 : (k == 11) = false := by simpa using h11
 have b12 : (k == 12) = false := by simpa using h12
 have b13 : (k == 13) = false := by simpa using h13
 have b14 : (k == 14) = false := by simpa using h14
 have b15 : (k == 15) = false := by simpa using h15
 clear h1 h2 h3 h4 h5 h6 h7 h8 h9 h10 h11 h12 h13 h14 h15
 go_enter Tryz.func53, Tryz.ntmps53
 go_wp2_with fail
 go_ret2
 exact ⟨rfl, rfl⟩
theorem kids_any (k : Int) (w : World) : Calls Tryz.prog 53 #[.int .i64 k] w fun e w' => e = .returned (.tuple #[.int .i64 (kidN k), .bool (kidT k)]) ∧ w = w' := by
 by_cases h1 : k = 1
 · subst h1; exact kids_1 w
 by_cases h2 : k = 2
 · subst h2; exact kids_2 w
 by_cases h3 : k = 3
 · subst h3; exact kids_3 w
 by_cases h4 : k = 4
 · subst h4; exact kids_4 w
 by_cases h5 : k = 5
 · subst h5; exact kids_5 w
 by_cases h6 : k = 6
 · subst h6; exact kids_6 w
 by_cases h7 : k = 7
 · subst h7; exact kids_7 w
 by_cases h8 : k = 8
 · subst h8; exact kids_8 w
 by_cases h9 : k = 9
 · subst h9; exact kids_9 w
 by_cases h10 : k = 10
 · subst h10; exact kids_10 w
 by_cases h11 : k = 11
 · subst h11; exact kids_11 w
 by_cases h12 : k = 12
 · subst h12; exact kids_12 w
 by_cases h13 : k = 13
 · subst h13; exact kids_13 w
 by_cases h14 : k = 14
 · subst h14; exact kids_14 w
 by_cases h15 : k = 15
 · subst h15; exact kids_15 w
 have hn : kidN k = -1 := by simp [kidN, h1, h2, h3, h4, h5, h6, h7, h8, h9, h10, h11, h12, h13, h14, h15]
 have ht : kidT k = false := by simp [kidT, h1, h2, h3, h4, h5, h6, h7, h8, h9, h10, h11, h12, h13, h14, h15]
 rw [hn, ht]
 exact kids_no k w h1 h2 h3 h4 h5 h6 h7 h8 h9 h10 h11 h12 h13 h14 h15
theorem kidN_bd (k : Int) : -1 ≤ kidN k ∧ kidN k ≤ 2 := by
 unfold kidN
 repeat' split
 all_goals omega
theorem isTerm_any (k : Int) (w : World) : Calls Tryz.prog 54 #[.int .i64 k] w fun e w' => e = .returned (.bool (termK k)) ∧ w = w' := by
 by_cases h1 : 1 ≤ k
 · have hv : termK k = decide (k ≤ 7) := by simp [termK, h1]
   rw [hv]
   have hd : decide (1 ≤ k) = true := by simpa using h1
   clear hv
   go_enter Tryz.func54, Tryz.ntmps54
   go_wp2_with fail
   go_ret
   exact ⟨rfl, rfl⟩
 · have hv : termK k = false := by simp [termK, h1]
   rw [hv]
   have hd : decide (1 ≤ k) = false := by simpa using h1
   clear hv
   go_enter Tryz.func54, Tryz.ntmps54
   go_wp2_with fail
   go_ret
   exact ⟨rfl, rfl⟩
def Nd.inRange (d : Nd) : Bool := if d.kind = 7 then decide (0 ≤ d.exp) else if d.kind = 9 then decide (1 ≤ d.rel) && decide (d.rel ≤ 6) else true
mutual
def Tr.is : Tr → Bool → Bool
 | .mk d ks, term => (kidN d.kind == ks.length) && (termK d.kind == term) && d.inRange && isL ks (kidT d.kind)
def isL : List Tr → Bool → Bool
 | [], _ => true
 | t :: r, b => t.is b && isL r b
end
theorem isL_append (l r : List Tr) (b : Bool) : isL (l ++ r) b = (isL l b && isL r b) := by
 induction l with
 | nil => simp [isL]
 | cons t l ih => simp [isL, ih, Bool.and_assoc]
theorem isL_take (l : List Tr) (k : Nat) (hk : k < l.length) (b : Bool) : isL (l.take (k + 1)) b = (isL (l.take k) b && (l[k]).is b) := by
 rw [List.take_succ_eq_append_getElem hk, isL_append]; simp [isL]
theorem isL_cut (l : List Tr) (k : Nat) (hk : k < l.length) (b : Bool) (h : (l[k]).is b = false) : isL l b = false := by
 have h1 : l = l.take k ++ l.drop k := (List.take_append_drop k l).symm
 rw [h1, isL_append, List.drop_eq_getElem_cons hk]
 simp [isL, h]
theorem trsSz_get (l : List Tr) (k : Nat) (hk : k < l.length) : (l[k]).sz ≤ trsSz l := by
 induction l generalizing k with
 | nil => simp at hk
 | cons t l ih =>
   cases k with
   | zero => simp [trsSz]
   | succ k => simp only [List.getElem_cons_succ, trsSz]; have := ih k (by simpa using hk); omega
theorem Tr.kid_sz (t : Tr) (k : Nat) (hk : k < t.ks.length) : (t.ks[k]).sz < t.sz := by
 obtain ⟨d, ks⟩ := t
 have := trsSz_get ks k hk
 show (ks[k]).sz < trsSz ks + 1
 omega
theorem is_ih {p : Nat → Prop} (m : Nat) : ∀ (t : Tr) (v : Value) (w : World) (term : Bool), t.sz < m → TrV w p t v → Calls Tryz.prog 17 #[v, .bool term] w (RetB (t.is term) w) := by
 induction m with
 | zero => intro t v w term h; omega
 | succ m ih =>
 intro t v w term hm h
 have IH := Lib.hid ih
 obtain ⟨A0, n0, c0, A, c, rfl, -, hl1, hl2, h4⟩ := h.open_
 have HSZ := Lib.hid (fun k hk => t.kid_sz k hk)
 clear h ih
 obtain ⟨⟨kind, neg, ds, name, exp, rel, truth, all⟩, ks⟩ := t
 change TrsAt w p ks A 0 at h4
 have H4 := Lib.hid h4
 clear h4
 unfold ndV
 simp only [Tr.d, Tr.ks] at hl1 hl2 HSZ ⊢
 have hlen : ks.length ≤ 9223372036854775807 := by omega
 obtain ⟨W, hW⟩ : ∃ W, w.alloc (.cells #[.int .i64 kind, .bool neg, .slice A0 n0 c0, .string name, .int .i64 exp, .int .i64 rel, .bool truth, .bool all, .slice A ks.length c] 29) = W := ⟨_, rfl⟩
 have hWx : Ext w W := by rw [← hW]; exact (Ext.refl w).alloc _
 have hWs : w.heap.size < W.heap.size := by rw [← hW]; simp
 have a0 : W.cell? ⟨w.heap.size, 0, none⟩ = some (.int .i64 kind) := by rw [← hW]; simp [go_sem]
 have a4 : W.cell? ⟨w.heap.size, 4, none⟩ = some (.int .i64 exp) := by rw [← hW]; simp [go_sem]
 have a5 : W.cell? ⟨w.heap.size, 5, none⟩ = some (.int .i64 rel) := by rw [← hW]; simp [go_sem]
 have a8 : W.cell? ⟨w.heap.size, 8, none⟩ = some (.slice A ks.length c) := by rw [← hW]; simp [go_sem]
 have HWX := Lib.hid hWx
 have A8 := Lib.hid a8
 have hkb := kidN_bd kind
 have HV : Hid ((Tr.mk ⟨kind, neg, ds, name, exp, rel, truth, all⟩ ks).is term = ((kidN kind == (ks.length : Int)) && (termK kind == term) && (Nd.inRange ⟨kind, neg, ds, name, exp, rel, truth, all⟩) && isL ks (kidT kind))) := by
  have : (Tr.mk ⟨kind, neg, ds, name, exp, rel, truth, all⟩ ks).is term = ((kidN kind == (ks.length : Int)) && (termK kind == term) && (Nd.inRange ⟨kind, neg, ds, name, exp, rel, truth, all⟩) && isL ks (kidT kind)) := by simp only [Tr.is]
  exact this
 clear hWx
 generalize (Tr.mk ⟨kind, neg, ds, name, exp, rel, truth, all⟩ ks).is term = res at *
 have HK := Lib.hid (kids_any kind)
 have HT := Lib.hid (isTerm_any kind)
 generalize hkn : kidN kind = kn at *
 generalize hkt : kidT kind = kt at *
 generalize htk : termK kind = tk at *
 clear hkn hkt htk
 by_cases h1 : kn = ks.length
 · have b1 : (kn != (ks.length : Int)) = false := by simpa using h1
   have e1 : (kn == (ks.length : Int)) = true := by simpa using h1
   by_cases h2 : tk = term
   · subst h2
     have b2 : (!tk == tk) = false := by simp
     by_cases h3 : Nd.inRange ⟨kind, neg, ds, name, exp, rel, truth, all⟩ = true
     · have hres : res = isL ks kt := by rw [HV.out, e1, h3]; simp
       subst hres
       clear e1 h1
       have hgo : ((kind == 7) = true ∧ decide (exp < 0) = false ∧ (kind == 9) = false) ∨ ((kind == 7) = false ∧ (kind == 9) = true ∧ decide (rel < 1) = false ∧ decide (6 < rel) = false) ∨ ((kind == 7) = false ∧ (kind == 9) = false) := by
        unfold Nd.inRange at h3
        by_cases k7 : kind = 7
        · simp [k7] at h3 ⊢; omega
        · by_cases k9 : kind = 9
          · simp [k9] at h3 ⊢; omega
          · simp [k7, k9]
       clear h3 HV
       rcases hgo with ⟨g7, ge, g9⟩ | ⟨g7, g9, gr1, gr6⟩ | ⟨g7, g9⟩
       all_goals
        go_enter Tryz.func17, Tryz.ntmps17
        go_wp2_with fail
        refine (HK.out _).mono ?_
        rintro e w1 ⟨rfl, rfl⟩
        go_wp2_with fail
        refine (HT.out _).mono ?_
        rintro e w1 ⟨rfl, rfl⟩
        go_wp2_with fail
        clear hW a0 a4 a5 a8
        go_loopw [52] (fun iv wr => ∃ k : Nat, k ≤ ks.length ∧ iv = .int .i64 k ∧ Hid (isL (ks.take k) kt = true ∧ Ext W wr)) (fun iv _ => ks.length - (intOf iv).toNat)
        case atStart => exact ⟨0, Nat.zero_le _, rfl, ⟨by simp [isL], Ext.refl W⟩⟩
        case round =>
         obtain ⟨k, hk, rfl, ⟨hi, hxw⟩⟩ := hrel
         have HI := Lib.hid hi
         have HXW := Lib.hid hxw
         have a8 : wr.cell? ⟨w.heap.size, 8, none⟩ = some (.slice A ks.length c) := (hxw.cell (p := ⟨w.heap.size, 8, none⟩) hWs).trans A8.out
         by_cases hlt : k < ks.length
         · obtain ⟨ad, B0, m0, d0, B1, m1, d1, rfl, hadb, ⟨e0, e1, e2, e3, e4, e5, e6, e7, e8⟩, hkt⟩ := TrsAt.kid (TrsAt.ext H4.out (HWX.out.trans hxw)) k hlt
           have HKT := Lib.hid hkt
           have hsz := HSZ.out k hlt
           have HC := Lib.hid (IH.out (ks[k]) _ wr kt (by omega) HKT.out)
           clear hkt hi hxw hadb hsz
           by_cases hb : (ks[k]).is kt = true
           · rw [hb] at HC
             have HN : Hid (isL (ks.take (k + 1)) kt = true) := by
              have : isL (ks.take (k + 1)) kt = true := by rw [isL_take _ _ hlt, HI.out, hb]; rfl
              exact this
             clear hb
             go_wp2_with fail
             refine HC.out.mono ?_
             rintro e w2 ⟨rfl, x2⟩
             have X2 := Lib.hid x2
             clear x2 e0 e1 e2 e3 e4 e5 e6 e7 e8 a8 HC
             go_wp2_with fail
             go_roundw
             case rel => exact ⟨k + 1, by omega, by go_num, ⟨HN.out, HXW.out.trans X2.out⟩⟩
             case measure => simp [intOf]; omega
           · have hb' : (ks[k]).is kt = false := by simpa using hb
             rw [hb'] at HC
             have HN := Lib.hid (isL_cut ks k hlt kt hb')
             clear hb hb'
             go_wp2_with fail
             refine HC.out.mono ?_
             rintro e w2 ⟨rfl, x2⟩
             have X2 := Lib.hid x2
             clear x2 e0 e1 e2 e3 e4 e5 e6 e7 e8 a8 HC
             go_wp2_with fail
             go_ret
             exact ⟨by rw [HN.out]; rfl, HWX.out.trans (HXW.out.trans X2.out)⟩
         · have hke : k = ks.length := by omega
           have HN : Hid (isL ks kt = true) := by
            rw [hke, List.take_length] at hi
            exact hi
           clear hi hxw hke
           go_wp2_with fail
           go_ret
           exact ⟨by rw [HN.out]; rfl, HWX.out.trans HXW.out⟩
     · have hres : res = false := by rw [HV.out]; simp [h3]
       subst hres
       have hgo : ((kind == 7) = true ∧ decide (exp < 0) = true) ∨ ((kind == 7) = false ∧ (kind == 9) = true ∧ decide (rel < 1) = true) ∨ ((kind == 7) = false ∧ (kind == 9) = true ∧ decide (rel < 1) = false ∧ decide (6 < rel) = true) := by
        unfold Nd.inRange at h3
        by_cases k7 : kind = 7
        · simp [k7] at h3 ⊢; omega
        · by_cases k9 : kind = 9
          · simp [k9] at h3 ⊢; omega
          · simp [k7, k9] at h3
       clear h3 HV e1 h1
       rcases hgo with ⟨g7, ge⟩ | ⟨g7, g9, gr1⟩ | ⟨g7, g9, gr1, gr6⟩
       all_goals
        go_enter Tryz.func17, Tryz.ntmps17
        go_wp2_with fail
        refine (HK.out _).mono ?_
        rintro e w1 ⟨rfl, rfl⟩
        go_wp2_with fail
        refine (HT.out _).mono ?_
        rintro e w1 ⟨rfl, rfl⟩
        go_wp2_with fail
        go_ret
        exact ⟨rfl, HWX.out⟩
   · have hres : res = false := by rw [HV.out]; simp [h2]
     subst hres
     have b2 : (!tk == term) = true := by simpa using h2
     clear HV e1 h1 h2
     go_enter Tryz.func17, Tryz.ntmps17
     go_wp2_with fail
     refine (HK.out _).mono ?_
     rintro e w1 ⟨rfl, rfl⟩
     go_wp2_with fail
     refine (HT.out _).mono ?_
     rintro e w1 ⟨rfl, rfl⟩
     go_wp2_with fail
     go_ret
     exact ⟨rfl, HWX.out⟩
 · have hres : res = false := by rw [HV.out]; simp [h1]
   subst hres
   have b1 : (kn != (ks.length : Int)) = true := by simpa using h1
   clear HV h1
   go_enter Tryz.func17, Tryz.ntmps17
   go_wp2_with fail
   refine (HK.out _).mono ?_
   rintro e w1 ⟨rfl, rfl⟩
   go_wp2_with fail
   go_ret
   exact ⟨rfl, HWX.out⟩
theorem is_any {p : Nat → Prop} (t : Tr) (v : Value) (w : World) (term : Bool) (h : TrV w p t v) : Calls Tryz.prog 17 #[v, .bool term] w (RetB (t.is term) w) := is_ih (t.sz + 1) t v w term (Nat.lt_succ_self _) h
end Go.Proofs.YtkbpnppiadaibaaGreatDoor

/- Short lists. -/
namespace Go.Proofs.YtkbpnppiadaibaaGreatDoor
open Go.RowKit
theorem len0 {α : Type} {l : List α} (h : l.length = 0) : l = [] := List.eq_nil_of_length_eq_zero h
theorem len1 {α : Type} {l : List α} (h : l.length = 1) : ∃ x, l = [x] := by
 cases l with
 | nil => simp at h
 | cons x r => exact ⟨x, by rw [len0 (l := r) (by simpa using h)]⟩
theorem len2 {α : Type} {l : List α} (h : l.length = 2) : ∃ x y, l = [x, y] := by
 cases l with
 | nil => simp at h
 | cons x r =>
   obtain ⟨y, rfl⟩ := len1 (l := r) (by simpa using h)
   exact ⟨x, y, rfl⟩
end Go.Proofs.YtkbpnppiadaibaaGreatDoor

/- Reference 34: List: a tree and all trees in it, in one row. -/
set_option maxRecDepth 100000
set_option maxHeartbeats 8000000
namespace Go.Proofs.YtkbpnppiadaibaaGreatDoor
open Go.RowKit
mutual
def Tr.list : Tr → List Tr
 | .mk d ks => .mk d ks :: listL ks
def listL : List Tr → List Tr
 | [] => []
 | t :: r => t.list ++ listL r
end
mutual
theorem Tr.list_len : ∀ t : Tr, t.list.length = t.sz
 | .mk d ks => by simp only [Tr.list, Tr.sz, List.length_cons, listL_len ks]
theorem listL_len : ∀ l : List Tr, (listL l).length = trsSz l
 | [] => by simp only [listL, trsSz, List.length_nil]
 | t :: r => by simp only [listL, trsSz, List.length_append, Tr.list_len t, listL_len r]
end
theorem listL_append (l r : List Tr) : listL (l ++ r) = listL l ++ listL r := by
 induction l with
 | nil => simp [listL]
 | cons t l ih => simp [listL, ih]
theorem listL_take (l : List Tr) (k : Nat) (hk : k < l.length) : listL (l.take (k + 1)) = listL (l.take k) ++ (l[k]).list := by
 rw [List.take_succ_eq_append_getElem hk, listL_append]; simp [listL]
theorem trsSz_append (l r : List Tr) : trsSz (l ++ r) = trsSz l + trsSz r := by
 induction l with
 | nil => simp [trsSz]
 | cons t l ih => simp [trsSz, ih]; omega
theorem trsSz_take (l : List Tr) (k : Nat) (hk : k < l.length) : trsSz (l.take k) + (l[k]).sz ≤ trsSz l := by
 have h1 : l = l.take k ++ l.drop k := (List.take_append_drop k l).symm
 have h2 : trsSz l = trsSz (l.take k) + trsSz (l.drop k) := by rw [← trsSz_append, List.take_append_drop]
 rw [h2, List.drop_eq_getElem_cons hk]
 simp only [trsSz]; omega
theorem Tr.sz_pos (t : Tr) : 0 < t.sz := by cases t; simp [Tr.sz]
def rowCells (r : Tr × Value × Value) : List Value := [.int .i64 r.1.d.kind, .bool r.1.d.neg, r.2.1, .string r.1.d.name, .int .i64 r.1.d.exp, .int .i64 r.1.d.rel, .bool r.1.d.truth, .bool r.1.d.all, r.2.2]
def flatR (rs : List (Tr × Value × Value)) : List Value := rs.flatMap rowCells
theorem flatR_len (rs : List (Tr × Value × Value)) : (flatR rs).length = rs.length * 9 := by
 induction rs with
 | nil => simp [flatR]
 | cons r rs ih => simp only [flatR, List.flatMap_cons, List.length_append, List.length_cons] at *; rw [ih]; simp [rowCells]; omega
theorem flatR_append (a b : List (Tr × Value × Value)) : flatR (a ++ b) = flatR a ++ flatR b := by simp [flatR]
theorem flatR_get (rs : List (Tr × Value × Value)) (k : Nat) (hk : k < rs.length) (j : Nat) (hj : j < 9) : (flatR rs)[k * 9 + j]? = (rowCells rs[k])[j]? := by
 induction rs generalizing k with
 | nil => simp at hk
 | cons r rs ih =>
   have hl : (rowCells r).length = 9 := rfl
   simp only [flatR, List.flatMap_cons]
   cases k with
   | zero => simp only [Nat.zero_mul, Nat.zero_add, List.getElem_cons_zero]; rw [List.getElem?_append_left (by omega)]
   | succ k =>
     rw [List.getElem?_append_right (by omega), hl, show (k + 1) * 9 + j - 9 = k * 9 + j by omega]
     exact ih k (by simpa using hk)
def LstV (w : World) (p : Nat → Prop) (base : Nat) (W : World) (v : Value) (l : List Tr) : Prop :=
 ∃ rs : List (Tr × Value × Value), rs.map (fun r => r.1) = l ∧ W.ownsRow base 29 9 v rs.length (flatR rs) ∧ ∀ r ∈ rs, TrV w p r.1 (ndV r.1.d r.2.1 r.2.2)
def IntRow (base : Nat) (W : World) (u : Value) (n : Nat) : Prop := ∃ xs : List Value, W.ownsRow base 3 1 u n xs ∧ ∀ x ∈ xs, ∃ z : Int, x = .int .i64 z
theorem ownsRow_base {w : World} {base base' size n : Nat} {e : TypeId} {v : Value} {xs : List Value} (h : w.ownsRow base e size v n xs) (hb : base' ≤ base) : w.ownsRow base' e size v n xs := by
 obtain ⟨h1, h2⟩ := h
 refine ⟨h1, ?_⟩
 rcases h2 with h2 | ⟨g, cap, cur, e1, e2, e3⟩
 · exact .inl h2
 · exact .inr ⟨g, cap, cur, e1, Nat.le_trans hb e2, e3⟩
section
variable {w W W' : World} {p : Nat → Prop} {base base' : Nat} {v u : Value} {l : List Tr} {n : Nat}
theorem LstV.base_ (h : LstV w p base W v l) (hb : base' ≤ base) : LstV w p base' W v l := by
 obtain ⟨rs, h1, h2, h3⟩ := h
 exact ⟨rs, h1, ownsRow_base h2 hb, h3⟩
theorem IntRow.base_ (h : IntRow base W u n) (hb : base' ≤ base) : IntRow base' W u n := by
 obtain ⟨xs, h1, h2⟩ := h
 exact ⟨xs, ownsRow_base h1 hb, h2⟩
theorem LstV.kept {row : Option Nat} (h : LstV w p base W v l) (hg : W.grownBy W' row) (hne : v.ownBlock = none ∨ v.ownBlock ≠ row) : LstV w p base W' v l := by
 obtain ⟨rs, h1, h2, h3⟩ := h
 exact ⟨rs, h1, World.ownsRow.kept h2 hg hne, h3⟩
theorem IntRow.kept {row : Option Nat} (h : IntRow base W u n) (hg : W.grownBy W' row) (hne : u.ownBlock = none ∨ u.ownBlock ≠ row) : IntRow base W' u n := by
 obtain ⟨xs, h1, h2⟩ := h
 exact ⟨xs, World.ownsRow.kept h1 hg hne, h2⟩
theorem LstV.ext (h : LstV w p base W v l) (hx : Ext W W') : LstV w p base W' v l := h.kept (row := none) hx.grownN (by cases hv : v.ownBlock <;> simp)
theorem IntRow.ext (h : IntRow base W u n) (hx : Ext W W') : IntRow base W' u n := h.kept (row := none) hx.grownN (by cases hv : u.ownBlock <;> simp)
theorem LstV.lt (h : LstV w p base W v l) : ∀ k, v.ownBlock = some k → base ≤ k ∧ k < W.heap.size := by
 obtain ⟨rs, h1, h2, h3⟩ := h
 exact World.ownsRow.lt h2
theorem IntRow.lt (h : IntRow base W u n) : ∀ k, u.ownBlock = some k → base ≤ k ∧ k < W.heap.size := by
 obtain ⟨xs, h1, h2⟩ := h
 exact World.ownsRow.lt h1
theorem LstV.pos (h : LstV w p base W v l) (hl : 0 < l.length) : ∃ g cap, v = .slice (some ⟨g, 0, none⟩) l.length cap ∧ l.length ≤ cap ∧ cap ≤ maxLen := by
 obtain ⟨rs, rfl, h2, h3⟩ := h
 rw [List.length_map] at hl ⊢
 rcases h2.2 with ⟨-, e⟩ | ⟨g, cap, cur, e1, -, -, e4, e5, -⟩
 · omega
 · exact ⟨g, cap, e1, e4, e5⟩
theorem IntRow.pos (h : IntRow base W u n) (hl : 0 < n) : ∃ g cap, u = .slice (some ⟨g, 0, none⟩) n cap ∧ n ≤ cap ∧ cap ≤ maxLen := by
 obtain ⟨xs, h2, h3⟩ := h
 rcases h2.2 with ⟨-, e⟩ | ⟨g, cap, cur, e1, -, -, e4, e5, -⟩
 · omega
 · exact ⟨g, cap, e1, e4, e5⟩
theorem LstV.at_ {g m cap : Nat} (h : LstV w p base W (.slice (some ⟨g, 0, none⟩) m cap) l) (k : Nat) (hk : k < l.length) : ∃ A0 n0 c0 A1 n1 c1, NdAt W ((⟨g, 0, none⟩ : Addr).add (k * 9)) l[k].d (.slice A0 n0 c0) (.slice A1 n1 c1) ∧ TrV w p l[k] (ndV l[k].d (.slice A0 n0 c0) (.slice A1 n1 c1)) := by
 obtain ⟨rs, rfl, h2, h3⟩ := h
 rw [List.length_map] at hk
 have hc : ∀ j, j < 9 → W.cell? ⟨g, k * 9 + j, none⟩ = (rowCells rs[k])[j]? := by
  intro j hj
  have hm : m = rs.length := by
   rcases h2.2 with ⟨e, -⟩ | ⟨g', cap', cur, e1, -⟩
   · cases e
   · injection e1
  subst hm
  rw [World.ownsRow.cellAt h2 (k * 9 + j) (by omega)]
  exact flatR_get rs k hk j hj
 have ht := h3 rs[k] (List.getElem_mem hk)
 obtain ⟨A0, n0, c0, A1, c1, e2, -, -⟩ := ht.open_
 unfold ndV at e2
 simp only [Value.agg.injEq, Array.mk.injEq, List.cons.injEq, and_true, true_and] at e2
 obtain ⟨e3, e4⟩ := e2
 rw [List.getElem_map]
 rw [e3, e4] at ht
 refine ⟨A0, n0, c0, A1, _, c1, ?_, ht⟩
 rw [add_mk, Nat.zero_add]
 refine ⟨hc 0 (by omega), hc 1 (by omega), ?_, hc 3 (by omega), hc 4 (by omega), hc 5 (by omega), hc 6 (by omega), hc 7 (by omega), ?_⟩
 · rw [← e3]; exact hc 2 (by omega)
 · rw [← e4]; exact hc 8 (by omega)
end
theorem LstV.one {w W : World} {p : Nat → Prop} {base : Nat} {l : List Tr} {v : Value} (h : LstV w p base W v l) : ∃ rs : List (Tr × Value × Value), rs.map (fun r => r.1) = l ∧ W.ownsRow base 29 9 v rs.length (flatR rs) ∧ (∀ r ∈ rs, TrV w p r.1 (ndV r.1.d r.2.1 r.2.2)) ∧ ∀ u ∈ flatR rs, u.oneCell' = true := by
 obtain ⟨rs, h1, h2, h3⟩ := h
 refine ⟨rs, h1, h2, h3, fun u hu => ?_⟩
 unfold flatR at hu
 obtain ⟨r, hr, hu⟩ := List.mem_flatMap.1 hu
 obtain ⟨A0, n0, c0, A1, c1, e2, -, -⟩ := (h3 r hr).open_
 unfold ndV at e2
 simp only [Value.agg.injEq, Array.mk.injEq, List.cons.injEq, and_true, true_and] at e2
 obtain ⟨e3, e4⟩ := e2
 unfold rowCells at hu
 rw [e3, e4] at hu
 simp only [List.mem_cons, List.not_mem_nil, or_false] at hu
 rcases hu with rfl | rfl | rfl | rfl | rfl | rfl | rfl | rfl | rfl <;> rfl
theorem info_tree : (Tryz.prog.info? 29).map (fun i => (i.zero, i.size, i.bytes)) = some (some (.agg #[.int .i64 0, .bool false, .slice none 0 0, .string ByteArray.empty, .int .i64 0, .int .i64 0, .bool false, .bool false, .slice none 0 0]), 9, 104) := by kernel_rfl
theorem info_int3 : (Tryz.prog.info? 3).map (fun i => (i.zero, i.size, i.bytes)) = some (some (.int .i64 0), 1, 8) := by kernel_rfl
theorem run_append_trees {w W : World} {p : Nat → Prop} {base base' : Nat} {v v2 : Value} {l l2 : List Tr} (h : LstV w p base W v l) (h2 : LstV w p base' W v2 l2) (hl2 : 0 < l2.length) (hb : base ≤ W.heap.size) (hlen : l.length + l2.length ≤ 1000000000) (ty : TypeId) :
 ∃ v' w', (Builtin.append_ #[27, 27] ty #[v, v2]).run Tryz.prog W = .ok v' w' ∧ LstV w p base w' v' (l ++ l2) ∧ W.grownBy w' v.ownBlock ∧ (v'.ownBlock = v.ownBlock ∨ v'.ownBlock = some W.heap.size) := by
 obtain ⟨i0, hi, hz0, hz1, hz2⟩ := info_parts info_tree
 obtain ⟨g, cap, rfl, -⟩ := h2.pos hl2
 obtain ⟨rs2, rfl, o2, t2, c2⟩ := h2.one
 obtain ⟨rs, rfl, o1, t1, -⟩ := h.one
 simp only [List.length_map] at hlen hl2 ⊢
 obtain ⟨v', w', hrun, r1, r2, -, r3⟩ := run_append_own_at (P := Tryz.prog) W base 27 ty 29 i0 _ 9 104 Tryz.underlying27 hi hz0 hz1 hz2 rfl (by omega) v rs.length (flatR rs) o1 ⟨g, 0, none⟩ rs2.length cap (flatR rs2) (flatR_len _) (fun j u hu => World.ownsRow.cells o2 rfl j u hu) c2 (by unfold maxLen; omega) (by omega) hb
 refine ⟨v', w', hrun, ⟨rs ++ rs2, by simp, by rw [flatR_append, List.length_append]; exact r1, fun r hr => ?_⟩, r2, r3⟩
 rcases List.mem_append.1 hr with hr | hr
 · exact t1 r hr
 · exact t2 r hr
theorem run_append_ints {W : World} {base base' : Nat} {v v2 : Value} {n n2 : Nat} (h : IntRow base W v n) (h2 : IntRow base' W v2 n2) (hl2 : 0 < n2) (hb : base ≤ W.heap.size) (hlen : n + n2 ≤ 1000000000) (ty : TypeId) :
 ∃ v' w', (Builtin.append_ #[96, 96] ty #[v, v2]).run Tryz.prog W = .ok v' w' ∧ IntRow base w' v' (n + n2) ∧ W.grownBy w' v.ownBlock ∧ (v'.ownBlock = v.ownBlock ∨ v'.ownBlock = some W.heap.size) := by
 obtain ⟨i0, hi, hz0, hz1, hz2⟩ := info_parts info_int3
 obtain ⟨g, cap, rfl, -⟩ := h2.pos hl2
 obtain ⟨xs2, o2, t2⟩ := h2
 obtain ⟨xs, o1, t1⟩ := h
 obtain ⟨v', w', hrun, r1, r2, -, r3⟩ := run_append_own_at (P := Tryz.prog) W base 96 ty 3 i0 _ 1 8 Tryz.underlying96 hi hz0 hz1 hz2 rfl (by omega) v n xs o1 ⟨g, 0, none⟩ n2 cap xs2 o2.1 (fun j u hu => World.ownsRow.cells o2 rfl j u hu) (fun u hu => by obtain ⟨z, rfl⟩ := t2 u hu; rfl) (by unfold maxLen; omega) (by omega) hb
 refine ⟨v', w', hrun, ⟨xs ++ xs2, r1, fun r hr => ?_⟩, r2, r3⟩
 rcases List.mem_append.1 hr with hr | hr
 · exact t1 r hr
 · exact t2 r hr
def RetList (w0 : World) (p : Nat → Prop) (l : List Tr) (w : World) (e : Ending) (w' : World) : Prop :=
 ∃ v u, e = .returned (.tuple #[v, u]) ∧ LstV w0 p w.heap.size w' v l ∧ IntRow w.heap.size w' u l.length ∧ v.ownBlock ≠ u.ownBlock ∧ Ext w w'
theorem list_ih {w0 : World} {p : Nat → Prop} (m : Nat) : ∀ (t : Tr) (v : Value) (w : World) (d : Nat), t.sz < m → TrV w0 p t v → Ext w0 w → d + t.sz ≤ 1000000 → Calls Tryz.prog 43 #[v, .int .i64 d] w (RetList w0 p t.list w) := by
 induction m with
 | zero => intro t v w d h; omega
 | succ m ih =>
 intro t v w d hm h hx0 hd
 have IH := Lib.hid ih
 have HT := Lib.hid h
 obtain ⟨A0, n0, c0, A, c, rfl, -, hl1, hl2, h4⟩ := h.open_
 have HSZ := Lib.hid (fun k hk => t.kid_sz k hk)
 have HX0 := Lib.hid hx0
 clear h ih hx0
 have htl : t.list = t :: listL t.ks := by cases t; rfl
 have hts : t.sz = trsSz t.ks + 1 := by cases t; rfl
 rw [htl]
 clear htl
 have H4 := Lib.hid h4
 clear h4
 unfold ndV
 unfold ndV at HT
 obtain ⟨W, hW⟩ : ∃ W, w.alloc (.cells #[.int .i64 t.d.kind, .bool t.d.neg, .slice A0 n0 c0, .string t.d.name, .int .i64 t.d.exp, .int .i64 t.d.rel, .bool t.d.truth, .bool t.d.all, .slice A t.ks.length c] 29) = W := ⟨_, rfl⟩
 have hWx : Ext w W := by rw [← hW]; exact (Ext.refl w).alloc _
 have hWs : W.heap.size = w.heap.size + 1 := by rw [← hW]; simp
 have hbx : Box9 W w.heap.size t.d (.slice A0 n0 c0) (.slice A t.ks.length c) := by rw [← hW]; exact Box9.new w t.d _ _ _
 obtain ⟨b0, b1, b2, b3, b4, b5, b6, b7, b8⟩ := id hbx
 obtain ⟨V, hV⟩ : ∃ V, (W.alloc (.cells #[.int .i64 t.d.kind, .bool t.d.neg, .slice A0 n0 c0, .string t.d.name, .int .i64 t.d.exp, .int .i64 t.d.rel, .bool t.d.truth, .bool t.d.all, .slice A t.ks.length c] 29)).alloc (.cells #[.int .i64 d] 3) = V := ⟨_, rfl⟩
 have hVx : Ext W V := by rw [← hV]; exact ((Ext.refl W).alloc _).alloc _
 have hVs : V.heap.size = W.heap.size + 1 + 1 := by rw [← hV]; simp
 have HBX := Lib.hid hbx
 have a8 : V.cell? ⟨w.heap.size, 8, none⟩ = some (.slice A t.ks.length c) := (hVx.cell (p := ⟨w.heap.size, 8, none⟩) (by rw [hWs]; exact Nat.lt_succ_self _)).trans b8
 have HL : Hid (LstV w0 p W.heap.size V (.slice (some ⟨W.heap.size, 0, none⟩) 1 1) [t]) := by
  refine ⟨[(t, .slice A0 n0 c0, .slice A t.ks.length c)], rfl, ⟨rfl, .inr ⟨W.heap.size, 1, #[.int .i64 t.d.kind, .bool t.d.neg, .slice A0 n0 c0, .string t.d.name, .int .i64 t.d.exp, .int .i64 t.d.rel, .bool t.d.truth, .bool t.d.all, .slice A t.ks.length c], rfl, Nat.le_refl _, ?_, Nat.le_refl _, by unfold maxLen; omega, rfl, rfl⟩⟩, ?_⟩
  · rw [← hV, Below.heap_alloc _ _ _ (by simp)]; exact heap_alloc_new W _
  · intro r hr
    obtain rfl : r = (t, .slice A0 n0 c0, .slice A t.ks.length c) := by simpa using hr
    exact HT.out
 have HU : Hid (IntRow W.heap.size V (.slice (some ⟨W.heap.size + 1, 0, none⟩) 1 1) 1) := by
  refine ⟨[.int .i64 d], ⟨rfl, .inr ⟨W.heap.size + 1, 1, #[.int .i64 d], rfl, Nat.le_succ _, ?_, Nat.le_refl _, by unfold maxLen; omega, rfl, rfl⟩⟩, ?_⟩
  · rw [← hV]
    have := heap_alloc_new (W.alloc (.cells #[.int .i64 t.d.kind, .bool t.d.neg, .slice A0 n0 c0, .string t.d.name, .int .i64 t.d.exp, .int .i64 t.d.rel, .bool t.d.truth, .bool t.d.all, .slice A t.ks.length c] 29)) (.cells #[.int .i64 d] 3)
    rwa [World.size_alloc] at this
  · intro x hx; exact ⟨d, by simpa using hx⟩
 have HWX := Lib.hid hWx
 have HVX := Lib.hid hVx
 clear hWx hVx hbx
 go_enter Tryz.func43, Tryz.ntmps43
 go_wp2_with fail
 clear hW hV b0 b1 b2 b3 b4 b5 b6 b7 b8 a8
 go_loopw [6, 7, 18] (fun ov uv iv wr => ∃ k : Nat, k ≤ t.ks.length ∧ iv = .int .i64 k ∧ Hid (LstV w0 p W.heap.size wr ov (t :: listL (t.ks.take k)) ∧ IntRow W.heap.size wr uv (t :: listL (t.ks.take k)).length ∧ ov.ownBlock ≠ uv.ownBlock ∧ Ext W wr)) (fun _ _ iv _ => t.ks.length - (intOf iv).toNat)
 case atStart => exact ⟨0, Nat.zero_le _, rfl, ⟨by have h := HL.out; rw [hWs] at h ⊢; simpa [listL] using h, by have h := HU.out; rw [hWs] at h ⊢; simpa [listL] using h, by simp [Value.ownBlock], HVX.out⟩⟩
 case round =>
  obtain ⟨k, hk, rfl, ⟨hlv, hiv, hne, hxw⟩⟩ := hrel
  have HLV := Lib.hid hlv
  have HIV := Lib.hid hiv
  have HNE := Lib.hid hne
  have HXW := Lib.hid hxw
  have a8 : wr.cell? ⟨w.heap.size, 8, none⟩ = some (.slice A t.ks.length c) := (HBX.out.ext hxw (by omega)).2.2.2.2.2.2.2.2
  obtain ⟨g1, cap1, hov, -⟩ := hlv.pos (by simp)
  obtain ⟨g2, cap2, huv, -⟩ := hiv.pos (by simp)
  subst hov huv
  by_cases hlt : k < t.ks.length
  · obtain ⟨ad, B0, m0, d0, B1, m1, d1, hA, hadb, hnd, hkt⟩ := TrsAt.kid H4.out k hlt
    subst hA
    have hx0 : Ext w0 wr := HX0.out.trans (HWX.out.trans hxw)
    obtain ⟨e0, e1, e2, e3, e4, e5, e6, e7, e8⟩ := hnd.ext hx0 (by rw [block_of_add]; exact hadb)
    have hsz := HSZ.out k hlt
    have hwr := HXW.out.size
    have HC := Lib.hid (IH.out (t.ks[k]) _ wr (d + 1) (by omega) hkt hx0 (by omega))
    have HTK := Lib.hid (listL_take t.ks k hlt)
    have HLN : Hid ((t :: listL (t.ks.take k)).length + (t.ks[k]).list.length ≤ 1000000000) := by
     have h1 := trsSz_take t.ks k hlt
     have : (t :: listL (t.ks.take k)).length + (t.ks[k]).list.length ≤ 1000000000 := by rw [List.length_cons, listL_len, Tr.list_len]; omega
     exact this
    have HP : Hid (0 < (t.ks[k]).list.length) := by
     have : 0 < (t.ks[k]).list.length := by rw [Tr.list_len]; exact Tr.sz_pos _
     exact this
    clear hkt hnd hlv hiv hne hxw hadb hsz hx0
    go_wp2_with fail
    refine HC.out.mono ?_
    rintro e w2 ⟨v2, u2, rfl, l2, i2, ne2, x2⟩
    have hw2 := x2.size
    obtain ⟨v3, w3, hr3, l3, gr3, o3⟩ := run_append_trees (HLV.out.ext x2) l2 HP.out (by omega) HLN.out 27
    have hw3 := gr3.size
    obtain ⟨v4, w4, hr4, l4, gr4, o4⟩ := run_append_ints ((HIV.out.ext x2).kept gr3 (.inr (fun e => HNE.out e.symm))) (i2.kept gr3 (.inr (fun e => by
     cases hu : u2.ownBlock with
     | none => obtain ⟨g, cap, rfl, -⟩ := i2.pos HP.out; cases hu
     | some b =>
       have h1 := i2.lt b hu
       have h2 := (HLV.out.lt b (by rw [← e, hu])).2
       omega))) HP.out (by omega) HLN.out 96
    have hfin : LstV w0 p W.heap.size w4 v3 (t :: listL (t.ks.take (k + 1))) ∧ IntRow W.heap.size w4 v4 (t :: listL (t.ks.take (k + 1))).length ∧ v3.ownBlock ≠ v4.ownBlock ∧ Ext W w4 := by
     have hl3 : ∀ b, v3.ownBlock = some b → W.heap.size ≤ b ∧ b < w3.heap.size := l3.lt
     have hg2 := (HIV.out.lt g2 rfl)
     rw [HTK.out]
     refine ⟨?_, ?_, ?_, ?_⟩
     · have : LstV w0 p W.heap.size w4 v3 ((t :: listL (t.ks.take k)) ++ (t.ks[k]).list) := l3.kept gr4 (.inr (fun e => by
        rcases o3 with o3 | o3
        · exact HNE.out (by rw [← o3, e])
        · rw [o3] at e
          have e' : w2.heap.size = g2 := by simpa [Value.ownBlock] using e
          omega))
       simpa using this
     · have : IntRow W.heap.size w4 v4 ((t :: listL (t.ks.take k)).length + (t.ks[k]).list.length) := l4
       have e : (t :: (listL (t.ks.take k) ++ (t.ks[k]).list)).length = (t :: listL (t.ks.take k)).length + (t.ks[k]).list.length := by simp; omega
       rw [e]; exact this
     · intro e
       rcases o4 with o4 | o4
       · rcases o3 with o3 | o3
         · exact HNE.out (by rw [← o3, e, o4])
         · rw [o3, o4] at e
           have e' : w2.heap.size = g2 := by simpa [Value.ownBlock] using e
           omega
       · have := (hl3 w3.heap.size (by rw [e, o4])).2
         omega
     · exact ((HXW.out.trans x2).grown gr3 (fun b hb => (HLV.out.lt b hb).1)).grown gr4 (fun b hb => (HIV.out.lt b hb).1)
    have HFIN := Lib.hid hfin
    clear hfin l2 i2 ne2 x2 l3 gr3 o3 l4 gr4 o4 e0 e1 e2 e3 e4 e5 e6 e7 e8 a8 HC
    go_wp2_with (at_builtin
                 first
                 | refine wpList_append_run rfl (.tmp 32) (.tmp 33) _ _ rfl _ _ _ _ rfl rfl hr3 ?_
                 | refine wpList_append_run rfl (.tmp 35) (.tmp 36) _ _ rfl _ _ _ _ rfl rfl hr4 ?_)
    clear hr3 hr4
    go_roundw
    case rel => exact ⟨k + 1, by omega, by go_num, HFIN⟩
    case measure => simp [intOf]; omega
  · have hke : k = t.ks.length := by omega
    have htk : listL (t.ks.take k) = listL t.ks := by rw [hke, List.take_length]
    have hle : w.heap.size ≤ W.heap.size := by omega
    have HF : Hid (RetList w0 p (t :: listL t.ks) w (.returned (.tuple #[.slice (some ⟨g1, 0, none⟩) (t :: listL (t.ks.take k)).length cap1, .slice (some ⟨g2, 0, none⟩) (t :: listL (t.ks.take k)).length cap2])) wr) :=
     ⟨_, _, rfl, by have h := hlv.base_ hle; rw [htk] at h ⊢; exact h, by have h := hiv.base_ hle; rw [htk] at h ⊢; exact h, hne, HWX.out.trans hxw⟩
    clear hlv hiv hne hxw hke htk
    go_wp2_with fail
    go_ret2
    exact HF.out
theorem list_any {w : World} {p : Nat → Prop} (t : Tr) (v : Value) (h : TrV w p t v) (hd : t.sz ≤ 1000000) : Calls Tryz.prog 43 #[v, .int .i64 0] w (RetList w p t.list w) :=
 list_ih (t.sz + 1) t v w 0 (Nat.lt_succ_self _) h (Ext.refl w) (by omega)
end Go.Proofs.YtkbpnppiadaibaaGreatDoor

/- Reference 34: Few. -/
set_option maxRecDepth 100000
set_option maxHeartbeats 8000000
namespace Go.Proofs.YtkbpnppiadaibaaGreatDoor
open Go.RowKit
def Nd.ok (d : Nd) : Bool := decide (d.ds.length ≤ 20) && decide (d.name.size ≤ 40)
def Tr.few (t : Tr) (n : Nat) : Bool := decide (0 ≤ t.room n 40) && t.list.all fun x => x.d.ok
theorem tall_cut {α : Type} (l : List α) (f : α → Bool) (k : Nat) (hk : k < l.length) (h : f l[k] = false) : l.all f = false := List.all_eq_false.2 ⟨l[k], List.getElem_mem hk, by rw [h]; simp⟩
theorem tall_take {α : Type} (l : List α) (f : α → Bool) (k : Nat) (hk : k < l.length) : (l.take (k + 1)).all f = ((l.take k).all f && f l[k]) := by rw [List.take_succ_eq_append_getElem hk, List.all_append]; simp
theorem LstV.see {w W : World} {p : Nat → Prop} {base : Nat} {v : Value} {l : List Tr} (h : LstV w p base W v l) (hl : 0 < l.length) : ∃ ad cap, v = .slice (some ad) l.length cap ∧ l.length ≤ cap ∧ cap ≤ 9223372036854775807 ∧ ∀ W', Ext W W' → ∀ k (hk : k < l.length), ∃ A0 c0 A1 c1, NdAt W' (ad.add (k * 9)) l[k].d (.slice A0 l[k].d.ds.length c0) (.slice A1 l[k].ks.length c1) ∧ TrV w p l[k] (ndV l[k].d (.slice A0 l[k].d.ds.length c0) (.slice A1 l[k].ks.length c1)) := by
 obtain ⟨g, cap, rfl, h1, h2⟩ := h.pos hl
 refine ⟨⟨g, 0, none⟩, cap, rfl, h1, by unfold maxLen at h2; omega, fun W' hx k hk => ?_⟩
 obtain ⟨A0, n0, c0, A1, n1, c1, hn, ht⟩ := (h.ext hx).at_ k hk
 obtain ⟨B0, m0, d0, B1, d1, ev, hnat, -⟩ := ht.open_
 unfold ndV at ev
 simp only [Value.agg.injEq, Array.mk.injEq, List.cons.injEq, and_true, true_and] at ev
 obtain ⟨ev, ev2⟩ := ev
 rw [← ev] at hnat
 obtain ⟨A', c', en, -⟩ := hnat
 injection en with en1 en2 en3
 injection ev2 with ev1 ev2 ev3
 subst en2 ev2
 exact ⟨A0, c0, A1, c1, hn, ht⟩
theorem fewT_any {w : World} {p : Nat → Prop} (t : Tr) (v : Value) (h : TrV w p t v) (n : Nat) (hn : n ≤ 1000) : Calls Tryz.prog 16 #[v, .int .i64 n] w (RetB (t.few n) w) := by
 have HT := Lib.hid h
 obtain ⟨A0, n0, c0, A, c, rfl, -, hl1, hl2, h4⟩ := h.open_
 clear h h4
 unfold ndV
 unfold ndV at HT
 obtain ⟨W, hW⟩ : ∃ W, w.alloc (.cells #[.int .i64 t.d.kind, .bool t.d.neg, .slice A0 n0 c0, .string t.d.name, .int .i64 t.d.exp, .int .i64 t.d.rel, .bool t.d.truth, .bool t.d.all, .slice A t.ks.length c] 29) = W := ⟨_, rfl⟩
 have hWx : Ext w W := by rw [← hW]; exact (Ext.refl w).alloc _
 have hWs : W.heap.size = w.heap.size + 1 := by rw [← hW]; simp
 have hbx : Box9 W w.heap.size t.d (.slice A0 n0 c0) (.slice A t.ks.length c) := by rw [← hW]; exact Box9.new w t.d _ _ _
 obtain ⟨b0, b1, b2, b3, b4, b5, b6, b7, b8⟩ := id hbx
 have HBX := Lib.hid hbx
 have HWX := Lib.hid hWx
 have HRM := Lib.hid (room_any t _ W n 40 (HT.out.ext hWx) (by omega) (by omega) (by omega))
 clear hWx hbx
 by_cases hr : t.room n 40 < 0
 · have hd : decide (t.room n 40 < 0) = true := by simpa using hr
   have HF : Hid (t.few n = false) := by
    have : t.few n = false := by unfold Tr.few; simp; intro h; omega
    exact this
   clear hr
   go_enter Tryz.func16, Tryz.ntmps16
   go_wp2_with fail
   clear hW
   refine HRM.out.mono ?_
   rintro e w1 ⟨rfl, x1⟩
   have X1 := Lib.hid x1
   clear x1 b0 b1 b2 b3 b4 b5 b6 b7 b8
   generalize hrm : t.room n 40 = rm at *
   clear hrm
   go_wp2_with fail
   go_ret
   exact ⟨by rw [HF.out]; rfl, HWX.out.trans X1.out⟩
 · have hd : decide (t.room n 40 < 0) = false := by simpa using hr
   have hsz : t.sz ≤ n := t.room_le n 40 (by omega)
   have HF : Hid (t.few n = t.list.all fun x => x.d.ok) := by
    have : t.few n = t.list.all fun x => x.d.ok := by
     unfold Tr.few
     rw [show decide (0 ≤ t.room n 40) = true by simp; omega, Bool.true_and]
    exact this
   clear hr
   go_enter Tryz.func16, Tryz.ntmps16
   go_wp2_with fail
   clear hW
   refine HRM.out.mono ?_
   rintro e w1 ⟨rfl, x1⟩
   have X1 := Lib.hid x1
   clear b0 b1 b2 b3 b4 b5 b6 b7 b8
   obtain ⟨b0, b1, b2, b3, b4, b5, b6, b7, b8⟩ := HBX.out.ext x1 (by omega)
   have HLI := Lib.hid (list_any t _ (HT.out.ext (HWX.out.trans x1)) (by omega))
   have hlp : 0 < t.list.length := by rw [t.list_len]; exact t.sz_pos
   clear x1
   generalize hrm : t.room n 40 = rm at *
   clear hrm HRM
   generalize hls : t.list = ls at *
   have HLS := Lib.hid hls
   clear hls
   go_wp2_with fail
   clear hd
   refine HLI.out.mono ?_
   rintro e w2 ⟨v2, u2, rfl, l2, i2, -, x2⟩
   obtain ⟨ad, cap, rfl, hc1, hc2, hat⟩ := l2.see hlp
   obtain ⟨g', cap', rfl, -, -⟩ := i2.pos hlp
   have L2 := Lib.hid hat
   have X2 := Lib.hid x2
   clear b0 b1 b2 b3 b4 b5 b6 b7 b8 l2 i2 hat x2 HLI HBX HT
   go_wp2_with fail
   go_loopw [19] (fun iv wr => ∃ k : Nat, k ≤ ls.length ∧ iv = .int .i64 k ∧ Hid (((ls.take k).all fun x => x.d.ok) = true ∧ Ext w2 wr)) (fun iv _ => ls.length - (intOf iv).toNat)
   case atStart => exact ⟨0, Nat.zero_le _, rfl, ⟨by simp, Ext.refl w2⟩⟩
   case round =>
    obtain ⟨k, hk, rfl, ⟨hal, hx⟩⟩ := hrel
    have HA := Lib.hid hal
    have HX := Lib.hid hx
    by_cases hlt : k < ls.length
    · obtain ⟨A0, c0, A1, c1, ⟨e0, e1, e2, e3, e4, e5, e6, e7, e8⟩, ht⟩ := L2.out wr hx k hlt
      have HTK := Lib.hid (tall_take ls (fun x => x.d.ok) k hlt)
      have HCUT := Lib.hid (tall_cut ls (fun x => x.d.ok) k hlt)
      have HOK : Hid (ls[k].d.ok = (decide (ls[k].d.ds.length ≤ 20) && decide (ls[k].d.name.size ≤ 40))) := rfl
      clear ht hal hx e0 e1 e4 e5 e6 e7 e8
      generalize ls[k].d.ok = okk at *
      generalize ls[k].d.ds.length = n1 at *
      generalize ls[k].d.name = nm at *
      by_cases h20 : n1 ≤ 20
      · have hd20 : decide ((20 : Int) < (n1 : Int)) = false := by simp; omega
        by_cases h40 : nm.size ≤ 40
        · have hd40 : decide ((40 : Int) < (nm.size : Int)) = false := by simp; omega
          have HN : Hid (((ls.take (k + 1)).all fun x => x.d.ok) = true) := by
           have : ((ls.take (k + 1)).all fun x => x.d.ok) = true := by rw [HTK.out, HA.out, HOK.out]; simp [h20, h40]
           exact this
          go_wp2_with fail
          go_roundw
          case rel => exact ⟨k + 1, by omega, by go_num, ⟨HN.out, HX.out⟩⟩
          case measure => simp [intOf]; omega
        · have hd40 : decide ((40 : Int) < (nm.size : Int)) = true := by simp; omega
          have HN : Hid ((ls.all fun x => x.d.ok) = false) := by
           have : (ls.all fun x => x.d.ok) = false := HCUT.out (by rw [HOK.out]; simp [h40])
           exact this
          go_wp2_with fail
          go_ret
          exact ⟨by rw [HF.out, HN.out]; rfl, HWX.out.trans (X1.out.trans (X2.out.trans HX.out))⟩
      · have hd20 : decide ((20 : Int) < (n1 : Int)) = true := by simp; omega
        have HN : Hid ((ls.all fun x => x.d.ok) = false) := by
         have : (ls.all fun x => x.d.ok) = false := HCUT.out (by rw [HOK.out]; simp [h20])
         exact this
        go_wp2_with fail
        go_ret
        exact ⟨by rw [HF.out, HN.out]; rfl, HWX.out.trans (X1.out.trans (X2.out.trans HX.out))⟩
    · have HN : Hid ((ls.all fun x => x.d.ok) = true) := by
       have hke : k = ls.length := by omega
       rw [hke, List.take_length] at hal
       exact hal
      clear hal hx
      go_wp2_with fail
      go_ret
      exact ⟨by rw [HF.out, HN.out]; rfl, HWX.out.trans (X1.out.trans (X2.out.trans HX.out))⟩
end Go.Proofs.YtkbpnppiadaibaaGreatDoor

/- A tree that passes Is is the tree of a term. -/
namespace Go.Proofs.YtkbpnppiadaibaaGreatDoor
open Go.RowKit
theorem list_kid {t x y : Tr} (h : x ∈ t.ks) (hy : y ∈ x.list) : y ∈ t.list := by
 obtain ⟨d, ks⟩ := t
 simp only [Tr.ks] at h
 simp only [Tr.list, List.mem_cons]
 refine .inr ?_
 clear d
 induction ks with
 | nil => simp at h
 | cons z r ih =>
   simp only [listL, List.mem_append]
   rcases List.mem_cons.1 h with rfl | h
   · exact .inl hy
   · exact .inr (ih h)
theorem self_list (t : Tr) : t ∈ t.list := by cases t; simp [Tr.list]
theorem isL_mem {l : List Tr} {b : Bool} (h : isL l b = true) : ∀ x ∈ l, x.is b = true := by
 induction l with
 | nil => simp
 | cons t r ih =>
   simp only [isL, Bool.and_eq_true] at h
   intro x hx
   rcases List.mem_cons.1 hx with rfl | hx
   · exact h.1
   · exact ih h.2 x hx
theorem Tr.is_open {t : Tr} {b : Bool} (h : t.is b = true) : kidN t.d.kind = t.ks.length ∧ termK t.d.kind = b ∧ t.d.inRange = true ∧ ∀ x ∈ t.ks, x.is (kidT t.d.kind) = true := by
 obtain ⟨d, ks⟩ := t
 simp only [Tr.is, Bool.and_eq_true, beq_iff_eq] at h
 exact ⟨h.1.1.1, h.1.1.2, h.1.2, isL_mem h.2⟩
theorem Tr.sz_ks (t : Tr) : t.sz = trsSz t.ks + 1 := by cases t; rfl
theorem is_tm_ih (L n : Nat) : ∀ t : Tr, t.sz < n → t.is true = true → (∀ x ∈ t.list, x.d.ds.length ≤ L) → ∃ m, IsTm L m t ∧ m.sz = t.sz := by
 induction n with
 | zero => intro t h; omega
 | succ n ih =>
   intro t hn h hl
   obtain ⟨h1, h2, h3, h4⟩ := Tr.is_open h
   have hs := t.sz_ks
   unfold termK at h2
   simp only [Bool.and_eq_true, decide_eq_true_eq] at h2
   have hk : t.d.kind = 1 ∨ t.d.kind = 2 ∨ t.d.kind = 3 ∨ t.d.kind = 4 ∨ t.d.kind = 5 ∨ t.d.kind = 6 ∨ t.d.kind = 7 := by omega
   have hself := hl t (self_list t)
   have two : t.ks.length = 2 → (∀ x ∈ t.ks, x.is true = true) → ∃ x y a b, t.ks = [x, y] ∧ IsTm L a x ∧ IsTm L b y ∧ a.sz + b.sz + 1 = t.sz := by
    intro hlen hall
    obtain ⟨x, y, hxy⟩ := len2 hlen
    rw [hxy] at hs hall
    simp only [trsSz] at hs
    obtain ⟨a, ha, ha2⟩ := ih x (by omega) (hall x (by simp)) (fun z hz => hl z (list_kid (by rw [hxy]; simp) hz))
    obtain ⟨b, hb, hb2⟩ := ih y (by omega) (hall y (by simp)) (fun z hz => hl z (list_kid (by rw [hxy]; simp) hz))
    exact ⟨x, y, a, b, hxy, ha, hb, by omega⟩
   have one : t.ks.length = 1 → (∀ x ∈ t.ks, x.is true = true) → ∃ x a, t.ks = [x] ∧ IsTm L a x ∧ a.sz + 1 = t.sz := by
    intro hlen hall
    obtain ⟨x, hx⟩ := len1 hlen
    rw [hx] at hs hall
    simp only [trsSz] at hs
    obtain ⟨a, ha, ha2⟩ := ih x (by omega) (hall x (by simp)) (fun z hz => hl z (list_kid (by rw [hx]; simp) hz))
    exact ⟨x, a, hx, ha, by omega⟩
   have zero : t.ks.length = 0 → t.ks = [] ∧ t.sz = 1 := by
    intro hlen
    have := len0 hlen
    rw [this] at hs
    exact ⟨this, by simpa [trsSz] using hs⟩
   rcases hk with hk | hk | hk | hk | hk | hk | hk
   · rw [hk] at h1 h4
     obtain ⟨hz, hz2⟩ := zero (by simp [kidN] at h1; omega)
     exact ⟨.num (sgn t.d.neg (val t.d.ds)), ⟨hk, hz, rfl, hself⟩, by rw [hz2]; rfl⟩
   · rw [hk] at h1 h4
     obtain ⟨hz, hz2⟩ := zero (by simp [kidN] at h1; omega)
     exact ⟨.name t.d.name, ⟨hk, hz, rfl⟩, by rw [hz2]; rfl⟩
   · rw [hk] at h1 h4
     obtain ⟨x, y, a, b, e, ha, hb, hsz⟩ := two (by simp [kidN] at h1; omega) (by simpa [kidT] using h4)
     exact ⟨.add a b, ⟨hk, x, y, e, ha, hb⟩, hsz⟩
   · rw [hk] at h1 h4
     obtain ⟨x, y, a, b, e, ha, hb, hsz⟩ := two (by simp [kidN] at h1; omega) (by simpa [kidT] using h4)
     exact ⟨.sub a b, ⟨hk, x, y, e, ha, hb⟩, hsz⟩
   · rw [hk] at h1 h4
     obtain ⟨x, y, a, b, e, ha, hb, hsz⟩ := two (by simp [kidN] at h1; omega) (by simpa [kidT] using h4)
     exact ⟨.mul a b, ⟨hk, x, y, e, ha, hb⟩, hsz⟩
   · rw [hk] at h1 h4
     obtain ⟨x, a, e, ha, hsz⟩ := one (by simp [kidN] at h1; omega) (by simpa [kidT] using h4)
     exact ⟨.neg a, ⟨hk, x, e, ha⟩, hsz⟩
   · have hr : 0 ≤ t.d.exp := by unfold Nd.inRange at h3; rw [if_pos hk] at h3; simpa using h3
     rw [hk] at h1 h4
     obtain ⟨x, a, e, ha, hsz⟩ := one (by simp [kidN] at h1; omega) (by simpa [kidT] using h4)
     exact ⟨.pow a t.d.exp, ⟨hk, rfl, hr, x, e, ha⟩, hsz⟩
theorem is_tm {L : Nat} (t : Tr) (h : t.is true = true) (hl : ∀ x ∈ t.list, x.d.ds.length ≤ L) : ∃ m, IsTm L m t ∧ m.sz = t.sz := is_tm_ih L (t.sz + 1) t (Nat.lt_succ_self _) h hl
theorem few_list {t : Tr} {n : Nat} (h : t.few n = true) : t.sz ≤ n ∧ ∀ x ∈ t.list, x.d.ds.length ≤ 20 := by
 unfold Tr.few at h
 simp only [Bool.and_eq_true, decide_eq_true_eq, List.all_eq_true] at h
 refine ⟨t.room_le n 40 h.1, fun x hx => ?_⟩
 have := h.2 x hx
 unfold Nd.ok at this
 simp only [Bool.and_eq_true, decide_eq_true_eq] at this
 exact this.1
end Go.Proofs.YtkbpnppiadaibaaGreatDoor
