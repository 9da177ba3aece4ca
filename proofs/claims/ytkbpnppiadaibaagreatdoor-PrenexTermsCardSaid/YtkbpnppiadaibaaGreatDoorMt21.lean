/- Layer 20: sparse.negative, cmp.Compare, sparse.CompareMono. -/
import Derived.Test.YtkbpnppiadaibaaGreatDoorMt12
import Derived.Sort.Grow
import Derived.Test.YtkbpnppiadaibaaGreatDoorMt5
set_option linter.unusedSimpArgs false
set_option linter.unusedVariables false

set_option maxRecDepth 100000
set_option maxHeartbeats 8000000
namespace Go.Proofs.YtkbpnppiadaibaaGreatDoor
open Go.RowKit Go.Sort
theorem index_mo (a b c d : Int) (w : World) : (Instr.index 188 (.agg #[.int .i64 a, .int .i64 b, .int .i64 c, .int .i64 d]) (.int .i64 0)).run Tryz.prog w = .ok (.int .i64 a) w ∧ (Instr.index 188 (.agg #[.int .i64 a, .int .i64 b, .int .i64 c, .int .i64 d]) (.int .i64 1)).run Tryz.prog w = .ok (.int .i64 b) w ∧ (Instr.index 188 (.agg #[.int .i64 a, .int .i64 b, .int .i64 c, .int .i64 d]) (.int .i64 2)).run Tryz.prog w = .ok (.int .i64 c) w ∧ (Instr.index 188 (.agg #[.int .i64 a, .int .i64 b, .int .i64 c, .int .i64 d]) (.int .i64 3)).run Tryz.prog w = .ok (.int .i64 d) w :=
 ⟨by kernel_rfl, by kernel_rfl, by kernel_rfl, by kernel_rfl⟩
theorem negative_any (m : Mo) (w : World) : Calls Tryz.prog 172 #[moV m] w fun e w' => e = .returned (.bool (decide (¬ m.nonneg))) ∧ Ext w w' := by
 have HX : Hid (∀ o, Ext w (w.alloc o)) := fun o => (Ext.refl w).alloc o
 obtain ⟨W, hW⟩ : ∃ W, w.alloc (.cells #[.int .i64 m.a, .int .i64 m.b, .int .i64 m.c, .int .i64 m.d] 188) = W := ⟨_, rfl⟩
 have HWX : Hid (Ext w W) := by
  have : Ext w W := by rw [← hW]; exact HX.out _
  exact this
 obtain ⟨d0, d1, d2, d3⟩ : MoAt W w.heap.size m := by rw [← hW]; exact MoAt.new w m _
 obtain ⟨i0, i1, i2, i3⟩ := index_mo m.a m.b m.c m.d W
 unfold moV
 by_cases h0 : m.a < 0
 · have HR : Hid (decide (¬ m.nonneg) = true) := by
    have : decide (¬ m.nonneg) = true := decide_eq_true (by unfold Mo.nonneg; omega)
    exact this
   have q0 : decide (m.a < 0) = true := decide_eq_true h0
   go_enter Tryz.func172, Tryz.ntmps172
   go_wp2_with fail
   refine wp_loop_rounds 1 ?_
   rw [rounds_succ]
   go_wp2_with fail
   go_ret
   exact ⟨by rw [HR.out]; rfl, HWX.out⟩
 · have q0 : decide (m.a < 0) = false := decide_eq_false h0
   by_cases h1 : m.b < 0
   · have HR : Hid (decide (¬ m.nonneg) = true) := by
      have : decide (¬ m.nonneg) = true := decide_eq_true (by unfold Mo.nonneg; omega)
      exact this
     have q1 : decide (m.b < 0) = true := decide_eq_true h1
     go_enter Tryz.func172, Tryz.ntmps172
     go_wp2_with fail
     refine wp_loop_rounds 2 ?_
     rw [rounds_succ]
     go_wp2_with fail
     rw [rounds_succ]
     go_wp2_with fail
     go_ret
     exact ⟨by rw [HR.out]; rfl, HWX.out⟩
   · have q1 : decide (m.b < 0) = false := decide_eq_false h1
     by_cases h2 : m.c < 0
     · have HR : Hid (decide (¬ m.nonneg) = true) := by
        have : decide (¬ m.nonneg) = true := decide_eq_true (by unfold Mo.nonneg; omega)
        exact this
       have q2 : decide (m.c < 0) = true := decide_eq_true h2
       go_enter Tryz.func172, Tryz.ntmps172
       go_wp2_with fail
       refine wp_loop_rounds 3 ?_
       rw [rounds_succ]
       go_wp2_with fail
       rw [rounds_succ]
       go_wp2_with fail
       rw [rounds_succ]
       go_wp2_with fail
       go_ret
       exact ⟨by rw [HR.out]; rfl, HWX.out⟩
     · have q2 : decide (m.c < 0) = false := decide_eq_false h2
       by_cases h3 : m.d < 0
       · have HR : Hid (decide (¬ m.nonneg) = true) := by
          have : decide (¬ m.nonneg) = true := decide_eq_true (by unfold Mo.nonneg; omega)
          exact this
         have q3 : decide (m.d < 0) = true := decide_eq_true h3
         go_enter Tryz.func172, Tryz.ntmps172
         go_wp2_with fail
         refine wp_loop_rounds 4 ?_
         rw [rounds_succ]
         go_wp2_with fail
         rw [rounds_succ]
         go_wp2_with fail
         rw [rounds_succ]
         go_wp2_with fail
         rw [rounds_succ]
         go_wp2_with fail
         go_ret
         exact ⟨by rw [HR.out]; rfl, HWX.out⟩
       · have HR : Hid (decide (¬ m.nonneg) = false) := by
          have : decide (¬ m.nonneg) = false := decide_eq_false (by unfold Mo.nonneg; omega)
          exact this
         have q3 : decide (m.d < 0) = false := decide_eq_false h3
         go_enter Tryz.func172, Tryz.ntmps172
         go_wp2_with fail
         refine wp_loop_rounds 5 ?_
         rw [rounds_succ]
         go_wp2_with fail
         rw [rounds_succ]
         go_wp2_with fail
         rw [rounds_succ]
         go_wp2_with fail
         rw [rounds_succ]
         go_wp2_with fail
         rw [rounds_succ]
         go_wp2_with fail
         go_ret
         exact ⟨by rw [HR.out]; rfl, HWX.out⟩
theorem isNaN_any (a : Int) (w : World) : Calls Tryz.prog 221 #[.int .i64 a] w fun e w' => e = .returned (.bool false) ∧ w' = w := by
 go_enter Tryz.func221, Tryz.ntmps221
 go_wp2_with fail
 go_ret
 simp
theorem compare_any (a b : Int) (w : World) : Calls Tryz.prog 199 #[.int .i64 a, .int .i64 b] w fun e w' => e = .returned (.int .i64 (cmpI a b)) ∧ w' = w := by
 rcases Int.lt_trichotomy a b with h | h | h
 · have q1 : decide (a < b) = true := decide_eq_true h
   have HR := Lib.hid (cmpI_lt h)
   go_enter Tryz.func199, Tryz.ntmps199
   go_wp2_with fail
   refine (isNaN_any _ _).mono ?_
   rintro e w1 ⟨rfl, rfl⟩
   go_wp2_with fail
   refine (isNaN_any _ _).mono ?_
   rintro e w1 ⟨rfl, rfl⟩
   go_wp2_with fail
   go_ret
   exact ⟨by rw [HR.out]; rfl, rfl⟩
 · have q1 : decide (a < b) = false := decide_eq_false (by omega)
   have q2 : decide (a > b) = false := decide_eq_false (by omega)
   have HR := Lib.hid (cmpI_eq h)
   go_enter Tryz.func199, Tryz.ntmps199
   go_wp2_with fail
   refine (isNaN_any _ _).mono ?_
   rintro e w1 ⟨rfl, rfl⟩
   go_wp2_with fail
   refine (isNaN_any _ _).mono ?_
   rintro e w1 ⟨rfl, rfl⟩
   go_wp2_with fail
   go_ret
   exact ⟨by rw [HR.out]; rfl, rfl⟩
 · have q1 : decide (a < b) = false := decide_eq_false (by omega)
   have q2 : decide (a > b) = true := decide_eq_true (by omega)
   have HR := Lib.hid (cmpI_gt h)
   go_enter Tryz.func199, Tryz.ntmps199
   go_wp2_with fail
   refine (isNaN_any _ _).mono ?_
   rintro e w1 ⟨rfl, rfl⟩
   go_wp2_with fail
   refine (isNaN_any _ _).mono ?_
   rintro e w1 ⟨rfl, rfl⟩
   go_wp2_with fail
   go_ret
   exact ⟨by rw [HR.out]; rfl, rfl⟩
def cmpMo (m n : Mo) : Int := if m.lt n then -1 else if n.lt m then 1 else 0
theorem cmpMo_eq (m n : Mo) : cmpMo m n = if m.d ≠ n.d then cmpI m.d n.d else if m.c ≠ n.c then cmpI m.c n.c else if m.b ≠ n.b then cmpI m.b n.b else cmpI m.a n.a := by
 unfold cmpMo cmpI Mo.lt
 repeat' split
 all_goals first | rfl | omega
theorem cmpI_ne {a b : Int} (h : a ≠ b) : (cmpI a b != 0) = true := by
 unfold cmpI; split
 · rfl
 · split
   · rfl
   · omega
theorem cmpI_same (a : Int) : cmpI a a = 0 := cmpI_eq rfl
theorem compareMono_any (m n : Mo) (w : World) : Calls Tryz.prog 175 #[moV m, moV n] w fun e w' => e = .returned (.int .i64 (cmpMo m n)) ∧ ∃ q os, w' = grow (w.drewN q) os := by
 have HG : Hid (∀ o o' q, ∃ q' os, (((w.alloc o).alloc o').drewN q) = grow (w.drewN q') os) := fun o o' q => ⟨q, #[o] ++ #[o'], by rw [alloc_eq_grow, alloc_eq_grow, grow_grow]; rfl⟩
 obtain ⟨W, hW⟩ : ∃ W, (w.alloc (.cells #[.int .i64 m.a, .int .i64 m.b, .int .i64 m.c, .int .i64 m.d] 188)).alloc (.cells #[.int .i64 n.a, .int .i64 n.b, .int .i64 n.c, .int .i64 n.d] 188) = W := ⟨_, rfl⟩
 have HGW : Hid (∀ q, ∃ q' os, W.drewN q = grow (w.drewN q') os) := fun q => by rw [← hW]; exact HG.out _ _ q
 have hm : MoAt W w.heap.size m := by rw [← hW]; exact (MoAt.new w m _).ext ((Ext.refl _).alloc _) (by simp)
 have hn : MoAt W (w.heap.size + 1) n := by
  have := MoAt.new (w.alloc (.cells #[.int .i64 m.a, .int .i64 m.b, .int .i64 m.c, .int .i64 m.d] 188)) n 188
  rw [hW] at this
  simpa using this
 obtain ⟨d0, d1, d2, d3⟩ := hm
 obtain ⟨e0, e1, e2, e3⟩ := hn
 have HC := Lib.hid (cmpMo_eq m n)
 generalize cmpMo m n = r at *
 unfold moV
 by_cases h3 : m.d = n.d
 · by_cases h2 : m.c = n.c
   · by_cases h1 : m.b = n.b
     · by_cases h0 : m.a = n.a
       · have HR : Hid (r = 0) := by
          have : r = 0 := by rw [HC.out, if_neg (fun h => h h3), if_neg (fun h => h h2), if_neg (fun h => h h1), h0, cmpI_same]
          exact this
         have z3 : cmpI m.d n.d = 0 := cmpI_eq h3
         have z2 : cmpI m.c n.c = 0 := cmpI_eq h2
         have z1 : cmpI m.b n.b = 0 := cmpI_eq h1
         have z0 : cmpI m.a n.a = 0 := cmpI_eq h0
         clear h3 h2 h1 h0
         go_enter Tryz.func175, Tryz.ntmps175
         go_wp2_with fail
         refine wp_loop_rounds 5 ?_
         rw [rounds_succ]
         go_wp2_with fail
         go_region_held3 (fun W' => W' = W.drew) (first | rfl | assumption) ((go_at_call 199; refine (compare_any _ _ _).mono ?_; rintro e v1 ⟨rfl, hv1⟩))
         all_goals
          subst hv1
          go_wp2_with fail
          rw [rounds_succ]
          go_wp2_with fail
          go_region_held3 (fun W' => W' = W.drew.drew) (first | rfl | assumption) ((go_at_call 199; refine (compare_any _ _ _).mono ?_; rintro e v1 ⟨rfl, hv1⟩))
          all_goals
           subst hv1
           go_wp2_with fail
           rw [rounds_succ]
           go_wp2_with fail
           go_region_held3 (fun W' => W' = W.drew.drew.drew) (first | rfl | assumption) ((go_at_call 199; refine (compare_any _ _ _).mono ?_; rintro e v1 ⟨rfl, hv1⟩))
           all_goals
            subst hv1
            go_wp2_with fail
            rw [rounds_succ]
            go_wp2_with fail
            go_region_held3 (fun W' => W' = W.drew.drew.drew.drew) (first | rfl | assumption) ((go_at_call 199; refine (compare_any _ _ _).mono ?_; rintro e v1 ⟨rfl, hv1⟩))
            all_goals
             subst hv1
             go_wp2_with fail
             rw [rounds_succ]
             go_wp2_with fail
             go_ret
             exact ⟨by rw [HR.out]; rfl, HGW.out 4⟩
       · have HR : Hid (r = cmpI m.a n.a) := by
          have : r = cmpI m.a n.a := by rw [HC.out, if_neg (fun h => h h3), if_neg (fun h => h h2), if_neg (fun h => h h1)]
          exact this
         have q0 := cmpI_ne h0
         have z3 : cmpI m.d n.d = 0 := cmpI_eq h3
         have z2 : cmpI m.c n.c = 0 := cmpI_eq h2
         have z1 : cmpI m.b n.b = 0 := cmpI_eq h1
         clear h3 h2 h1
         go_enter Tryz.func175, Tryz.ntmps175
         go_wp2_with fail
         refine wp_loop_rounds 4 ?_
         rw [rounds_succ]
         go_wp2_with fail
         go_region_held3 (fun W' => W' = W.drew) (first | rfl | assumption) ((go_at_call 199; refine (compare_any _ _ _).mono ?_; rintro e v1 ⟨rfl, hv1⟩))
         all_goals
          subst hv1
          go_wp2_with fail
          rw [rounds_succ]
          go_wp2_with fail
          go_region_held3 (fun W' => W' = W.drew.drew) (first | rfl | assumption) ((go_at_call 199; refine (compare_any _ _ _).mono ?_; rintro e v1 ⟨rfl, hv1⟩))
          all_goals
           subst hv1
           go_wp2_with fail
           rw [rounds_succ]
           go_wp2_with fail
           go_region_held3 (fun W' => W' = W.drew.drew.drew) (first | rfl | assumption) ((go_at_call 199; refine (compare_any _ _ _).mono ?_; rintro e v1 ⟨rfl, hv1⟩))
           all_goals
            subst hv1
            go_wp2_with fail
            rw [rounds_succ]
            go_wp2_with fail
            go_region_held3 (fun W' => W' = W.drew.drew.drew.drew) (first | rfl | assumption) ((go_at_call 199; refine (compare_any _ _ _).mono ?_; rintro e v1 ⟨rfl, hv1⟩))
            all_goals
             subst hv1
             go_wp2_with fail
             go_ret
             exact ⟨by rw [HR.out]; rfl, HGW.out 4⟩
     · have HR : Hid (r = cmpI m.b n.b) := by
        have : r = cmpI m.b n.b := by rw [HC.out, if_neg (fun h => h h3), if_neg (fun h => h h2), if_pos h1]
        exact this
       have q1 := cmpI_ne h1
       have z3 : cmpI m.d n.d = 0 := cmpI_eq h3
       have z2 : cmpI m.c n.c = 0 := cmpI_eq h2
       clear h3 h2
       go_enter Tryz.func175, Tryz.ntmps175
       go_wp2_with fail
       refine wp_loop_rounds 3 ?_
       rw [rounds_succ]
       go_wp2_with fail
       go_region_held3 (fun W' => W' = W.drew) (first | rfl | assumption) ((go_at_call 199; refine (compare_any _ _ _).mono ?_; rintro e v1 ⟨rfl, hv1⟩))
       all_goals
        subst hv1
        go_wp2_with fail
        rw [rounds_succ]
        go_wp2_with fail
        go_region_held3 (fun W' => W' = W.drew.drew) (first | rfl | assumption) ((go_at_call 199; refine (compare_any _ _ _).mono ?_; rintro e v1 ⟨rfl, hv1⟩))
        all_goals
         subst hv1
         go_wp2_with fail
         rw [rounds_succ]
         go_wp2_with fail
         go_region_held3 (fun W' => W' = W.drew.drew.drew) (first | rfl | assumption) ((go_at_call 199; refine (compare_any _ _ _).mono ?_; rintro e v1 ⟨rfl, hv1⟩))
         all_goals
          subst hv1
          go_wp2_with fail
          go_ret
          exact ⟨by rw [HR.out]; rfl, HGW.out 3⟩
   · have HR : Hid (r = cmpI m.c n.c) := by
      have : r = cmpI m.c n.c := by rw [HC.out, if_neg (fun h => h h3), if_pos h2]
      exact this
     have q2 := cmpI_ne h2
     have z3 : cmpI m.d n.d = 0 := cmpI_eq h3
     clear h3
     go_enter Tryz.func175, Tryz.ntmps175
     go_wp2_with fail
     refine wp_loop_rounds 2 ?_
     rw [rounds_succ]
     go_wp2_with fail
     go_region_held3 (fun W' => W' = W.drew) (first | rfl | assumption) ((go_at_call 199; refine (compare_any _ _ _).mono ?_; rintro e v1 ⟨rfl, hv1⟩))
     all_goals
      subst hv1
      go_wp2_with fail
      rw [rounds_succ]
      go_wp2_with fail
      go_region_held3 (fun W' => W' = W.drew.drew) (first | rfl | assumption) ((go_at_call 199; refine (compare_any _ _ _).mono ?_; rintro e v1 ⟨rfl, hv1⟩))
      all_goals
       subst hv1
       go_wp2_with fail
       go_ret
       exact ⟨by rw [HR.out]; rfl, HGW.out 2⟩
 · have HR : Hid (r = cmpI m.d n.d) := by
    have : r = cmpI m.d n.d := by rw [HC.out, if_pos h3]
    exact this
   have q3 := cmpI_ne h3
   go_enter Tryz.func175, Tryz.ntmps175
   go_wp2_with fail
   refine wp_loop_rounds 1 ?_
   rw [rounds_succ]
   go_wp2_with fail
   go_region_held3 (fun W' => W' = W.drew) (first | rfl | assumption) ((go_at_call 199; refine (compare_any _ _ _).mono ?_; rintro e v1 ⟨rfl, hv1⟩))
   all_goals
    subst hv1
    go_wp2_with fail
    go_ret
    exact ⟨by rw [HR.out]; rfl, HGW.out 1⟩
end Go.Proofs.YtkbpnppiadaibaaGreatDoor

/- Layer 20: (*gather).add: the terms collected by their monomials. -/
set_option maxRecDepth 100000
set_option maxHeartbeats 8000000
namespace Go.Proofs.YtkbpnppiadaibaaGreatDoor
open Go.RowKit
def gput (c : Int) (m : Mo) : Sp → Sp
 | [] => [(c, m)]
 | (d, n) :: r => if m = n then (d + c, n) :: r else (d, n) :: gput c m r
theorem gput_coef (c : Int) (m : Mo) (l : Sp) (k : Mo) : scoef (gput c m l) k = scoef l k + if m = k then c else 0 := by
 induction l with
 | nil => simp [gput, scoef]
 | cons x r ih =>
   obtain ⟨d, n⟩ := x
   unfold gput
   by_cases h : m = n
   · rw [if_pos h]; subst h; simp only [scoef]; split <;> omega
   · rw [if_neg h]; simp only [scoef, ih]; omega
theorem gput_nrm (c : Int) (m : Mo) (l : Sp) : snrm (gput c m l) ≤ snrm l + c.natAbs := by
 induction l with
 | nil => simp [gput, snrm]
 | cons x r ih =>
   obtain ⟨d, n⟩ := x
   unfold gput
   by_cases h : m = n
   · rw [if_pos h]; simp only [snrm]; omega
   · rw [if_neg h]; simp only [snrm]; omega
theorem gput_len (c : Int) (m : Mo) (l : Sp) : (gput c m l).length ≤ l.length + 1 := by
 induction l with
 | nil => simp [gput]
 | cons x r ih =>
   obtain ⟨d, n⟩ := x
   unfold gput
   by_cases h : m = n
   · rw [if_pos h]; simp
   · rw [if_neg h]; simp; omega
theorem gput_mem {c : Int} {m : Mo} {l : Sp} {x : Int × Mo} (h : x ∈ gput c m l) : x.2 = m ∨ ∃ y ∈ l, y.2 = x.2 := by
 induction l with
 | nil => left; rw [List.mem_singleton.1 h]
 | cons y r ih =>
   obtain ⟨d, n⟩ := y
   unfold gput at h
   split at h
   · rcases List.mem_cons.1 h with rfl | h
     · exact .inr ⟨_, List.mem_cons_self, rfl⟩
     · exact .inr ⟨x, List.mem_cons_of_mem _ h, rfl⟩
   · rcases List.mem_cons.1 h with rfl | h
     · exact .inr ⟨_, List.mem_cons_self, rfl⟩
     · rcases ih h with h | ⟨y, hy, e⟩
       · exact .inl h
       · exact .inr ⟨y, List.mem_cons_of_mem _ hy, e⟩
def Apart (l : Sp) : Prop := l.Pairwise fun x y => x.2 ≠ y.2
theorem gput_apart (c : Int) (m : Mo) (l : Sp) (h : Apart l) : Apart (gput c m l) := by
 induction l with
 | nil => exact List.pairwise_singleton _ _
 | cons x r ih =>
   obtain ⟨d, n⟩ := x
   unfold Apart at h ih ⊢
   rw [List.pairwise_cons] at h
   unfold gput
   by_cases hm : m = n
   · rw [if_pos hm, List.pairwise_cons]; exact h
   · rw [if_neg hm, List.pairwise_cons]
     refine ⟨fun y hy => ?_, ih h.2⟩
     rcases gput_mem hy with e | ⟨z, hz, e⟩
     · rw [e]; exact fun e' => hm e'.symm
     · rw [← e]; exact h.1 z hz
def gent (i : Nat) : Sp → List (Mo × Value)
 | [] => []
 | (_, m) :: r => (m, .int .i64 i) :: gent (i + 1) r
theorem gput_cases (c : Int) (m : Mo) (l : Sp) : ∀ i, (mog (gent i l) m = none ∧ gput c m l = l ++ [(c, m)] ∧ ∀ z, mop (gent i l) m (.int .i64 (i + l.length : Nat)) = gent i (l ++ [(z, m)])) ∨
 ∃ k, ∃ hk : k < l.length, mog (gent i l) m = some (.int .i64 (i + k : Nat)) ∧ l[k].2 = m ∧ gput c m l = l.set k (l[k].1 + c, m) ∧ gent i (l.set k (l[k].1 + c, m)) = gent i l := by
 induction l with
 | nil => intro i; exact .inl ⟨rfl, rfl, fun z => by simp [gent, mop]⟩
 | cons x r ih =>
   intro i
   obtain ⟨d, n⟩ := x
   by_cases hm : m = n
   · subst hm
     exact .inr ⟨0, by simp, by simp [gent, mog], rfl, by simp [gput], by simp [gent]⟩
   · rcases ih (i + 1) with ⟨h1, h2, h3⟩ | ⟨k, hk, h1, h2, h3, h4⟩
     · refine .inl ⟨by simp [gent, mog, hm, h1], by simp [gput, hm, h2], fun z => ?_⟩
       have := h3 z
       simp only [gent, mop, List.cons_append, List.length_cons, if_neg hm]
       rw [← this, show i + 1 + r.length = i + (r.length + 1) by omega]
     · refine .inr ⟨k + 1, by simpa using hk, ?_, by simpa using h2, by simp [gput, hm, h3], by simp [gent, h4]⟩
       simp only [gent, mog, if_neg hm, h1]
       rw [show i + 1 + k = i + (k + 1) by omega]
def GaV (base : Nat) (w : World) (G M : Nat) (v : Value) (l : Sp) : Prop :=
 w.cell? ⟨G, 0, none⟩ = some (.map (some M)) ∧ w.cell? ⟨G, 1, none⟩ = some v ∧ (∀ i, w.frozen? ⟨G, i, none⟩ = false) ∧ MMap w M (gent 0 l) ∧ TsV none base w v l ∧ (base ≤ G ∧ base ≤ M ∧ G ≠ M ∧ G < w.heap.size) ∧ ∀ R, v.ownBlock = some R → R ≠ G ∧ R ≠ M
theorem GaV.ext {base : Nat} {w w' : World} {G M : Nat} {v : Value} {l : Sp} (h : GaV base w G M v l) (hx : Ext w w') : GaV base w' G M v l := by
 obtain ⟨h1, h2, h3, h4, h5, h6, h7⟩ := h
 exact ⟨(hx.cell (p := ⟨G, 0, none⟩) h6.2.2.2).trans h1, (hx.cell (p := ⟨G, 1, none⟩) h6.2.2.2).trans h2, fun i => (hx.frozen (p := ⟨G, i, none⟩) h6.2.2.2).trans (h3 i), h4.ext hx, h5.ext hx, ⟨h6.1, h6.2.1, h6.2.2.1, Nat.lt_of_lt_of_le h6.2.2.2 hx.size⟩, h7⟩
def GaFar (G M : Nat) (v v' : Value) (w w' : World) : Prop := (∀ b, b < w.heap.size → b ≠ G → b ≠ M → v.ownBlock ≠ some b → w'.heap[b]? = w.heap[b]?) ∧ (v'.ownBlock = v.ownBlock ∨ ∃ R, v'.ownBlock = some R ∧ w.heap.size ≤ R)
def GaPost (base : Nat) (G M : Nat) (v : Value) (l : Sp) (w : World) (e : Ending) (w' : World) : Prop := e = .returned (.tuple #[]) ∧ ∃ v', GaV base w' G M v' l ∧ Below base w w' ∧ (∀ v ds, NatV w v ds → NatV w' v ds) ∧ GaFar G M v v' w w'
theorem ga_close {base G M : Nat} {l' : Sp} {w w4 : World} {v0 v v' : Value} (hfar : GaFar G M v0 v' w w4) (hbl : Below base w w4) (hn : ∀ x ds, NatV w x ds → NatV w4 x ds) (h0 : w4.cell? ⟨G, 0, none⟩ = some (.map (some M))) (h1 : w4.cell? ⟨G, 1, none⟩ = some v) (hd : isDig v = false) (hf : ∀ i, w4.frozen? ⟨G, i, none⟩ = false) (hm : MMap w4 M (gent 0 l')) (ht : TsV none base w4 v' l') (hb : base ≤ G ∧ base ≤ M ∧ G ≠ M ∧ G < w4.heap.size) (ho : ∀ R, v'.ownBlock = some R → R ≠ G ∧ R ≠ M) : GaPost base G M v0 l' w (.returned (.tuple #[])) (w4.setCell ⟨G, 1, none⟩ v') := by
 have hnn : ∀ x ds, NatV w4 x ds → NatV (w4.setCell ⟨G, 1, none⟩ v') x ds := fun x ds hx => hx.box h1 hd _
 refine ⟨rfl, v', ⟨?_, World.cell?_setCell_same _ _ _ h1, fun i => ?_, hm.block (Below.heap_setCell _ _ _ M (Ne.symm hb.2.2.1)), ht.turn (fun R hR => Below.heap_setCell _ _ _ R (ho R hR).1) hnn, ⟨hb.1, hb.2.1, hb.2.2.1, by simpa [World.setCell] using hb.2.2.2⟩, ho⟩, Below.setCell hbl hb.1 _, fun x ds hx => hnn x ds (hn x ds hx), fun b h1 h2 h3 h4 => (Below.heap_setCell _ _ _ b h2).trans (hfar.1 b h1 h2 h3 h4), hfar.2⟩
 · rw [World.cell?_setCell_other _ _ _ _ (by simp)]; exact h0
 · rw [World.frozen?_setCell]; exact hf i
theorem natV_map {w w' : World} {M : Nat} {l : List (Mo × Value)} {v : Value} {ds : List Nat} (hv : NatV w v ds) (hm : MMap w M l) (ho : Only M w w') : NatV w' v ds := by
 obtain ⟨A, c, e, h1, h2, h3, h4⟩ := hv
 refine ⟨A, c, e, h1, h2, h3, fun hd => ?_⟩
 obtain ⟨ad, e4, hlt, hc⟩ := h4 hd
 refine ⟨ad, e4, Nat.lt_of_lt_of_le hlt ho.size, fun j hj => ?_⟩
 have hne : ad.block ≠ M := fun e => by
  obtain ⟨es, clock, hb, -⟩ := hm
  have h0 := hc 0 hd
  rw [World.cell?, block_of_add, e, hb] at h0
  cases h0
 exact (ho.cell (p := ad.add j) (by rw [block_of_add]; exact hlt) (by rw [block_of_add]; exact hne)).trans (hc j hj)
theorem gadd_neg {base G M : Nat} {v : Value} {l : Sp} {w : World} (h : GaV base w G M v l) (m : Mo) (x : Value) (k : Option Nat) (z : Int) (hc : Cf w k x z) (hm : ¬ m.nonneg) (hb : base ≤ w.heap.size) : Calls Tryz.prog 126 #[.pointer (some ⟨G, 0, none⟩), moV m, x] w (GaPost base G M v l w) := by
 obtain ⟨b, B, n, c, rfl⟩ := hc.unpack
 have HQ : Hid (decide (¬ m.nonneg) = true) := by
  have : decide (¬ m.nonneg) = true := decide_eq_true hm
  exact this
 have H := Lib.hid h
 obtain ⟨W, hW⟩ : ∃ W, (w.alloc (.cells #[.int .i64 m.a, .int .i64 m.b, .int .i64 m.c, .int .i64 m.d] 188)).alloc (.cells #[.bool b, .slice B n c] 25) = W := ⟨_, rfl⟩
 have hWx : Ext w W := by rw [← hW]; exact ((Ext.refl w).alloc _).alloc _
 obtain ⟨d0, d1, d2, d3⟩ : MoAt W w.heap.size m := by rw [← hW]; exact (MoAt.new w m _).ext ((Ext.refl _).alloc _) (by simp)
 have HWX := Lib.hid hWx
 clear h hc hWx
 unfold moV
 go_enter Tryz.func126, Tryz.ntmps126
 go_wp2_with fail
 refine (negative_any m W).mono ?_
 rintro e w1 ⟨rfl, x1⟩
 rw [HQ.out]
 have X1 := Lib.hid (HWX.out.trans x1)
 clear x1
 go_wp2_with fail
 exact bodyPost_ret (results_none rfl _ _ _) rfl ⟨rfl, v, H.out.ext X1.out, Below.mono X1.out (by omega), fun v ds hv => hv.ext X1.out, fun b hb _ _ _ => X1.out.below.block b hb, .inl rfl⟩
theorem gadd_new {base G M : Nat} {v : Value} {l : Sp} {w : World} (h : GaV base w G M v l) (m : Mo) (x : Value) (L : Nat) (z : Int) (hc : IntR w x z L) (hL : L ≤ 35184372088832) (hm : m.nonneg) (hb : base ≤ w.heap.size) (hlen : l.length < 1099511627776) (hn : mog (gent 0 l) m = none) (hp : ∀ z, mop (gent 0 l) m (.int .i64 (0 + l.length : Nat)) = gent 0 (l ++ [(z, m)])) : Calls Tryz.prog 126 #[.pointer (some ⟨G, 0, none⟩), moV m, x] w (GaPost base G M v (l ++ [(z, m)]) w) := by
 have HC := Lib.hid hc
 obtain ⟨b, B, n, c, rfl⟩ := hc.unpack
 have HQ : Hid (decide (¬ m.nonneg) = false) := by
  have : decide (¬ m.nonneg) = false := decide_eq_false (fun h => h hm)
  exact this
 have H := Lib.hid h
 obtain ⟨W, hW⟩ : ∃ W, (w.alloc (.cells #[.int .i64 m.a, .int .i64 m.b, .int .i64 m.c, .int .i64 m.d] 188)).alloc (.cells #[.bool b, .slice B n c] 25) = W := ⟨_, rfl⟩
 have hWx : Ext w W := by rw [← hW]; exact ((Ext.refl w).alloc _).alloc _
 have hWs : W.heap.size = w.heap.size + 1 + 1 := by rw [← hW]; simp
 have hmx : MoAt W w.heap.size m := by rw [← hW]; exact (MoAt.new w m _).ext ((Ext.refl _).alloc _) (by simp)
 have hc0 : W.cell? ⟨w.heap.size + 1, 0, none⟩ = some (.bool b) := by rw [← hW]; simp [go_sem]
 have hc1 : W.cell? ⟨w.heap.size + 1, 1, none⟩ = some (.slice B n c) := by rw [← hW]; simp [go_sem]
 obtain ⟨d0, d1, d2, d3⟩ := id hmx
 have HMX := Lib.hid hmx
 have HC0 := Lib.hid hc0
 have HC1 := Lib.hid hc1
 have HWX := Lib.hid hWx
 have HN := Lib.hid hn
 have HP := Lib.hid hp
 clear h hc hWx hmx hn hp hc0 hc1
 unfold moV
 go_enter Tryz.func126, Tryz.ntmps126
 go_wp2_with fail
 refine (negative_any m W).mono ?_
 rintro e w1 ⟨rfl, x1⟩
 rw [HQ.out]
 have h1 := H.out.ext (HWX.out.trans x1)
 have hw1 := x1.size
 obtain ⟨d0, d1, d2, d3⟩ := HMX.out.ext x1 (by omega)
 have c0 := (x1.cell (p := ⟨w.heap.size + 1, 0, none⟩) (by show w.heap.size + 1 < _; omega)).trans HC0.out
 have c1 := (x1.cell (p := ⟨w.heap.size + 1, 1, none⟩) (by show w.heap.size + 1 < _; omega)).trans HC1.out
 have X1 := Lib.hid (HWX.out.trans x1)
 obtain ⟨g0, g1, gf, gm, gt, ⟨gb1, gb2, gne, glt⟩, gown⟩ := h1
 have hlook := MMap.look (w := w1.drew) gm m true
 rw [HN.out] at hlook
 simp only [Option.getD_none, Option.isSome_none, if_true, moV] at hlook
 obtain ⟨At, ct, rfl, -, -⟩ := gt.len
 have GM := Lib.hid gm
 have GT := Lib.hid gt
 have GOWN := Lib.hid gown
 clear gm gt gown x1 hW
 go_upto_region 2 with fail
 go_region
 all_goals
  clear hlook
  have hMlt := H.out.2.2.2.1.lt
  have hGlt := H.out.2.2.2.2.2.1.2.2.2
  obtain ⟨W5, hput, gm5, ho5⟩ := MMap.put (w := w1.drew.drew) GM.out m (.int .i64 (0 + l.length : Nat))
  rw [HP.out z] at gm5
  simp only [moV, Nat.zero_add] at hput
  have hs5 : w1.heap.size ≤ W5.heap.size := ho5.size
  have hb5 : ∀ b, b < w1.heap.size → b ≠ M → W5.heap[b]? = w1.heap[b]? := fun b hb hne => ho5.block hb hne
  have k5 : ∀ b i, b < w1.heap.size → b ≠ M → W5.cell? ⟨b, i, none⟩ = w1.cell? ⟨b, i, none⟩ := fun b i hb hne => World.cell?_of_block (a := ⟨b, i, none⟩) (hb5 b hb hne)
  have G0 := (k5 G 0 glt gne).trans g0
  have G1 := (k5 G 1 glt gne).trans g1
  have D0 := (k5 w.heap.size 0 (by omega) (by omega)).trans d0
  have D1 := (k5 w.heap.size 1 (by omega) (by omega)).trans d1
  have D2 := (k5 w.heap.size 2 (by omega) (by omega)).trans d2
  have D3 := (k5 w.heap.size 3 (by omega) (by omega)).trans d3
  have C0 := (k5 (w.heap.size + 1) 0 (by omega) (by omega)).trans c0
  have C1 := (k5 (w.heap.size + 1) 1 (by omega) (by omega)).trans c1
  have HK5 := Lib.hid k5
  have HB5 := Lib.hid hb5
  have HO5 := Lib.hid ho5
  have GM5 := Lib.hid gm5
  clear k5 hb5 ho5 gm5
  go_upto_region 5 with fail
  go_region
  all_goals
   clear hput d0 d1 d2 d3 c0 c1 g0 g1
   have ho5' : Only M w1 W5 := by
    obtain ⟨q1, q2, q3, q4, q5⟩ := HO5.out.g
    exact ⟨q1, q2, q3, q4, q5⟩
   have x05 : Below base w W5 := Below.grown (Below.mono X1.out hb) ho5' (by have := X1.out.size; omega) (fun k e => by injection e with e; omega)
   have n05 : ∀ v ds, NatV w v ds → NatV W5 v ds := fun v ds hv => natV_map (hv.ext X1.out) GM.out ho5'
   have gt5 : TsV none base W5 (.slice At l.length ct) l := GT.out.turn (fun R hR => HB5.out R (GT.out.own hR).2 (GOWN.out R hR).2) (fun v ds hv => natV_map hv GM.out ho5')
   have GT5 := Lib.hid gt5
   have N05 := Lib.hid n05
   have X05 := Lib.hid x05
   clear gt5 n05 x05 ho5'
   go_upto_region 6 with fail
   have HSTEP : Hid (∀ (w3 : World) (A3 : Option Addr) (c3 : Nat), NatV w3 (.slice A3 (dg z.natAbs).length c3) (dg z.natAbs) → Ext W5.drew w3 → ∃ w4 A4 c4, (Builtin.append_ #[66, 66] 66 #[.slice At l.length ct, .slice (some ⟨w3.heap.size, 0, none⟩) 1 1]).run Tryz.prog (w3.alloc (.cells #[.bool (decide (z < 0)), .slice A3 (dg z.natAbs).length c3, .int .i64 m.a, .int .i64 m.b, .int .i64 m.c, .int .i64 m.d] 190)) = .ok (.slice A4 (l.length + 1) c4) w4 ∧ (w3.cell? ⟨w.heap.size, 0, none⟩ = some (.int .i64 m.a) ∧ w3.cell? ⟨w.heap.size, 1, none⟩ = some (.int .i64 m.b) ∧ w3.cell? ⟨w.heap.size, 2, none⟩ = some (.int .i64 m.c) ∧ w3.cell? ⟨w.heap.size, 3, none⟩ = some (.int .i64 m.d)) ∧ (w3.cell? ⟨G, 0, none⟩ = some (.map (some M)) ∧ w3.cell? ⟨G, 1, none⟩ = some (.slice At l.length ct)) ∧ (G < w3.heap.size ∧ w.heap.size < w3.heap.size ∧ w.heap.size + 1 < w3.heap.size) ∧ w4.cell? ⟨G, 1, none⟩ = some (.slice At l.length ct) ∧ (∀ i, w4.frozen? ⟨G, i, none⟩ = false) ∧ GaPost base G M (.slice At l.length ct) (l ++ [(z, m)]) w (.returned (.tuple #[])) (w4.setCell ⟨G, 1, none⟩ (.slice A4 (l.length + 1) c4))) := by
    intro w3 A3 c3 n3 x3
    have y3 : Ext W5 w3 := Ext.trans ((Ext.refl W5).drew) x3
    obtain ⟨v4, w4, hrun, t4, gg4, nn4, oo4⟩ := (GT5.out.ext y3).push (by have := y3.size; omega) (k := none) (z := z) (b := decide (z < 0)) (s := .slice A3 (dg z.natAbs).length c3) ⟨_, rfl, n3⟩ m hlen 66
    obtain ⟨A4, c4, e4, -, -⟩ := t4.len
    rw [show (l ++ [(z, m)]).length = l.length + 1 by simp] at e4
    subst e4
    have e3 : ∀ b i, b < w1.heap.size → w3.cell? ⟨b, i, none⟩ = W5.cell? ⟨b, i, none⟩ := fun b i hb => y3.cell (p := ⟨b, i, none⟩) (by show b < _; omega)
    have E0 := (e3 w.heap.size 0 (by omega)).trans D0
    have E1 := (e3 w.heap.size 1 (by omega)).trans D1
    have E2 := (e3 w.heap.size 2 (by omega)).trans D2
    have E3 := (e3 w.heap.size 3 (by omega)).trans D3
    have F0 := (e3 G 0 glt).trans G0
    have F1 := (e3 G 1 glt).trans G1
    have y3s := y3.size
    have hG3 : G < w3.heap.size := by omega
    have hB3 : w.heap.size < w3.heap.size := by omega
    have hC3 : w.heap.size + 1 < w3.heap.size := by omega
    have gblk : ∀ b, b < w1.heap.size → (Value.slice At l.length ct).ownBlock ≠ some b → w4.heap[b]? = w3.heap[b]? := fun b hb hne => World.grownBy.block gg4 b (by omega) (fun e => hne e.symm)
    have gG := gblk G glt (fun e => (GOWN.out G e).1 rfl)
    have H1 : w4.cell? ⟨G, 1, none⟩ = some (.slice At l.length ct) := (World.cell?_of_block (a := ⟨G, 1, none⟩) gG).trans F1
    have HF : ∀ i, w4.frozen? ⟨G, i, none⟩ = false := fun i => (World.frozen?_of_block (a := ⟨G, i, none⟩) gG).trans ((y3.frozen (p := ⟨G, i, none⟩) (by show G < _; omega)).trans ((World.frozen?_of_block (a := ⟨G, i, none⟩) (HB5.out G glt gne)).trans (gf i)))
    have hown4 : ∀ R, (Value.slice A4 (l.length + 1) c4).ownBlock = some R → R ≠ G ∧ R ≠ M := fun R hR => by
     rcases oo4 with o | o
     · exact GOWN.out R (o.symm.trans hR)
     · rw [o] at hR; injection hR with hR; omega
    have HFIN : Hid (GaPost base G M (.slice At l.length ct) (l ++ [(z, m)]) w (.returned (.tuple #[])) (w4.setCell ⟨G, 1, none⟩ (.slice A4 (l.length + 1) c4))) := by
     have gg4s := gg4.size
     have hX1 := X1.out
     have hX1s := hX1.size
     have hfar : GaFar G M (.slice At l.length ct) (.slice A4 (l.length + 1) c4) w w4 := ⟨fun b h1 h2 h3 h4 => (gblk b (by omega) h4).trans ((y3.below.block b (by omega)).trans ((HB5.out b (by omega) h3).trans (hX1.below.block b h1))), oo4.imp id (fun h => ⟨_, h, by omega⟩)⟩
     exact ga_close (v := .slice At l.length ct) hfar (Below.grown (Below.trans X05.out (Below.mono y3 (by omega))) gg4 (by omega) (fun b hb => (GT5.out.own hb).1)) (fun x ds hx => nn4 x ds ((N05.out x ds hx).ext y3)) ((World.cell?_of_block (a := ⟨G, 0, none⟩) gG).trans F0) H1 rfl HF (GM5.out.block ((gblk M (by omega) (fun e => (GOWN.out M e).2 rfl)).trans (y3.below.block M (by omega)))) t4 ⟨gb1, gb2, gne, by omega⟩ hown4
    exact ⟨w4, A4, c4, hrun, ⟨E0, E1, E2, E3⟩, ⟨F0, F1⟩, ⟨hG3, hB3, hC3⟩, H1, HF, HFIN.out⟩
   have HARG := Lib.hid (Cf.turn (k := some L) (w := w) HC.out (fun v ds hv => (N05.out v ds hv).ext ((Ext.refl W5).drew)))
   clear GT5 N05 X05 GM5 HB5 HO5 HK5 GOWN HC GM GT H HP HN HWX X1 HMX HC0 HC1
   go_region_law (first
    | (go_simp
       go_at_call 57
       refine (normal_int _ z L _ HARG.out hL).mono ?_
       rintro e w3 ⟨v3, rfl, ⟨s3, rfl, n3⟩, x3⟩
       obtain ⟨A3, c3, rfl, -⟩ := id n3
       obtain ⟨w4, A4, c4, hrun, ⟨E0, E1, E2, E3⟩, ⟨F0, F1⟩, ⟨hG3, hB3, hC3⟩, H1, HF, hfin⟩ := HSTEP.out _ _ _ n3 x3
       have HFIN := Lib.hid hfin
       clear n3 x3 hfin)
    | (refine step_append_run rfl (.tmp 51) (.tmp 56) _ _ rfl _ _ _ _ (by simp [Act.eval, Act.put]) (by simp [Act.eval, Act.put]) hrun ?_))
   all_goals
    clear hrun E0 E1 E2 E3 F0 F1 H1 HF
    go_end0
    exact HFIN.out
end Go.Proofs.YtkbpnppiadaibaaGreatDoor
