/- Layer 20: sparse.negative, cmp.Compare, sparse.CompareMono. -/
import Derived.Test.YtdcapcpchcnidaaGreatMm38
import Derived.Sort.Grow

namespace Go.Proofs.YtdcapcpchcnidaaGreat
open Go.RowKit Go.Sort

/-- An element of an array of four numbers. -/
theorem index_mo (a b c d : Int) (w : World) : (Instr.index 141 (.agg #[.int .i64 a, .int .i64 b, .int .i64 c, .int .i64 d]) (.int .i64 0)).run Tryz.prog w = .ok (.int .i64 a) w ∧ (Instr.index 141 (.agg #[.int .i64 a, .int .i64 b, .int .i64 c, .int .i64 d]) (.int .i64 1)).run Tryz.prog w = .ok (.int .i64 b) w ∧ (Instr.index 141 (.agg #[.int .i64 a, .int .i64 b, .int .i64 c, .int .i64 d]) (.int .i64 2)).run Tryz.prog w = .ok (.int .i64 c) w ∧ (Instr.index 141 (.agg #[.int .i64 a, .int .i64 b, .int .i64 c, .int .i64 d]) (.int .i64 3)).run Tryz.prog w = .ok (.int .i64 d) w :=
  ⟨by kernel_rfl, by kernel_rfl, by kernel_rfl, by kernel_rfl⟩
set_option maxRecDepth 100000 in
set_option maxHeartbeats 2000000 in
theorem negative_any (m : Mo) (w : World) : Calls Tryz.prog 129 #[moV m] w fun e w' => e = .returned (.bool (decide (¬ m.nonneg))) ∧ Ext w w' := by
  have HX : Hid (∀ o, Ext w (w.alloc o)) := fun o => (Ext.refl w).alloc o
  obtain ⟨W, hW⟩ : ∃ W, w.alloc (.cells #[.int .i64 m.a, .int .i64 m.b, .int .i64 m.c, .int .i64 m.d] 141) = W := ⟨_, rfl⟩
  have HWX : Hid (Ext w W) := by
    have : Ext w W := by rw [← hW]; exact HX.out _
    exact this
  obtain ⟨d0, d1, d2, d3⟩ : MoAt W w.heap.size m := by rw [← hW]; exact MoAt.new w m _
  obtain ⟨i0, i1, i2, i3⟩ := index_mo m.a m.b m.c m.d W
  unfold moV
  by_cases h0 : m.a < 0
  · have HR : Hid (decide (¬ m.nonneg) = true) := by
      have : decide (¬ m.nonneg) = true := decide_eq_true (by unfold Mo.nonneg; omega)
      exact this
    have q0 : decide (m.a < 0) = true := decide_eq_true h0
    go_enter Tryz.func129, Tryz.ntmps129
    go_wp2_with fail
    refine wp_loop_rounds 1 ?_
    rw [rounds_succ]
    go_wp2_with fail
    go_ret
    exact ⟨by rw [HR.out]; rfl, HWX.out⟩
  · have q0 : decide (m.a < 0) = false := decide_eq_false h0
    by_cases h1 : m.b < 0
    · have HR : Hid (decide (¬ m.nonneg) = true) := by
        have : decide (¬ m.nonneg) = true := decide_eq_true (by unfold Mo.nonneg; omega)
        exact this
      have q1 : decide (m.b < 0) = true := decide_eq_true h1
      go_enter Tryz.func129, Tryz.ntmps129
      go_wp2_with fail
      refine wp_loop_rounds 2 ?_
      rw [rounds_succ]
      go_wp2_with fail
      rw [rounds_succ]
      go_wp2_with fail
      go_ret
      exact ⟨by rw [HR.out]; rfl, HWX.out⟩
    · have q1 : decide (m.b < 0) = false := decide_eq_false h1
      by_cases h2 : m.c < 0
      · have HR : Hid (decide (¬ m.nonneg) = true) := by
          have : decide (¬ m.nonneg) = true := decide_eq_true (by unfold Mo.nonneg; omega)
          exact this
        have q2 : decide (m.c < 0) = true := decide_eq_true h2
        go_enter Tryz.func129, Tryz.ntmps129
        go_wp2_with fail
        refine wp_loop_rounds 3 ?_
        rw [rounds_succ]
        go_wp2_with fail
        rw [rounds_succ]
        go_wp2_with fail
        rw [rounds_succ]
        go_wp2_with fail
        go_ret
        exact ⟨by rw [HR.out]; rfl, HWX.out⟩
      · have q2 : decide (m.c < 0) = false := decide_eq_false h2
        by_cases h3 : m.d < 0
        · have HR : Hid (decide (¬ m.nonneg) = true) := by
            have : decide (¬ m.nonneg) = true := decide_eq_true (by unfold Mo.nonneg; omega)
            exact this
          have q3 : decide (m.d < 0) = true := decide_eq_true h3
          go_enter Tryz.func129, Tryz.ntmps129
          go_wp2_with fail
          refine wp_loop_rounds 4 ?_
          rw [rounds_succ]
          go_wp2_with fail
          rw [rounds_succ]
          go_wp2_with fail
          rw [rounds_succ]
          go_wp2_with fail
          rw [rounds_succ]
          go_wp2_with fail
          go_ret
          exact ⟨by rw [HR.out]; rfl, HWX.out⟩
        · have HR : Hid (decide (¬ m.nonneg) = false) := by
            have : decide (¬ m.nonneg) = false := decide_eq_false (by unfold Mo.nonneg; omega)
            exact this
          have q3 : decide (m.d < 0) = false := decide_eq_false h3
          go_enter Tryz.func129, Tryz.ntmps129
          go_wp2_with fail
          refine wp_loop_rounds 5 ?_
          rw [rounds_succ]
          go_wp2_with fail
          rw [rounds_succ]
          go_wp2_with fail
          rw [rounds_succ]
          go_wp2_with fail
          rw [rounds_succ]
          go_wp2_with fail
          rw [rounds_succ]
          go_wp2_with fail
          go_ret
          exact ⟨by rw [HR.out]; rfl, HWX.out⟩
theorem isNaN_any (a : Int) (w : World) : Calls Tryz.prog 166 #[.int .i64 a] w fun e w' => e = .returned (.bool false) ∧ w' = w := by
  go_enter Tryz.func166, Tryz.ntmps166
  go_wp2_with fail
  go_ret
  simp
/-- cmp.Compare at int. -/
theorem compare_any (a b : Int) (w : World) : Calls Tryz.prog 148 #[.int .i64 a, .int .i64 b] w fun e w' => e = .returned (.int .i64 (cmpI a b)) ∧ w' = w := by
  rcases Int.lt_trichotomy a b with h | h | h
  · have q1 : decide (a < b) = true := decide_eq_true h
    have HR := Lib.hid (cmpI_lt h)
    go_enter Tryz.func148, Tryz.ntmps148
    go_wp2_with fail
    refine (isNaN_any _ _).mono ?_
    rintro e w1 ⟨rfl, rfl⟩
    go_wp2_with fail
    refine (isNaN_any _ _).mono ?_
    rintro e w1 ⟨rfl, rfl⟩
    go_wp2_with fail
    go_ret
    exact ⟨by rw [HR.out]; rfl, rfl⟩
  · have q1 : decide (a < b) = false := decide_eq_false (by omega)
    have q2 : decide (a > b) = false := decide_eq_false (by omega)
    have HR := Lib.hid (cmpI_eq h)
    go_enter Tryz.func148, Tryz.ntmps148
    go_wp2_with fail
    refine (isNaN_any _ _).mono ?_
    rintro e w1 ⟨rfl, rfl⟩
    go_wp2_with fail
    refine (isNaN_any _ _).mono ?_
    rintro e w1 ⟨rfl, rfl⟩
    go_wp2_with fail
    go_ret
    exact ⟨by rw [HR.out]; rfl, rfl⟩
  · have q1 : decide (a < b) = false := decide_eq_false (by omega)
    have q2 : decide (a > b) = true := decide_eq_true (by omega)
    have HR := Lib.hid (cmpI_gt h)
    go_enter Tryz.func148, Tryz.ntmps148
    go_wp2_with fail
    refine (isNaN_any _ _).mono ?_
    rintro e w1 ⟨rfl, rfl⟩
    go_wp2_with fail
    refine (isNaN_any _ _).mono ?_
    rintro e w1 ⟨rfl, rfl⟩
    go_wp2_with fail
    go_ret
    exact ⟨by rw [HR.out]; rfl, rfl⟩
/-- The order of monomials as a number. -/
def cmpMo (m n : Mo) : Int := if m.lt n then -1 else if n.lt m then 1 else 0
theorem cmpMo_eq (m n : Mo) : cmpMo m n = if m.d ≠ n.d then cmpI m.d n.d else if m.c ≠ n.c then cmpI m.c n.c else if m.b ≠ n.b then cmpI m.b n.b else cmpI m.a n.a := by
  unfold cmpMo cmpI Mo.lt
  repeat' split
  all_goals first | rfl | omega
theorem cmpI_ne {a b : Int} (h : a ≠ b) : (cmpI a b != 0) = true := by
  unfold cmpI; split
  · rfl
  · split
    · rfl
    · omega
theorem cmpI_same (a : Int) : cmpI a a = 0 := cmpI_eq rfl

set_option maxRecDepth 100000 in
set_option maxHeartbeats 4000000 in
theorem compareMono_any (m n : Mo) (w : World) : Calls Tryz.prog 132 #[moV m, moV n] w fun e w' => e = .returned (.int .i64 (cmpMo m n)) ∧ ∃ q os, w' = grow (w.drewN q) os := by
  have HG : Hid (∀ o o' q, ∃ q' os, (((w.alloc o).alloc o').drewN q) = grow (w.drewN q') os) := fun o o' q => ⟨q, #[o] ++ #[o'], by rw [alloc_eq_grow, alloc_eq_grow, grow_grow]; rfl⟩
  obtain ⟨W, hW⟩ : ∃ W, (w.alloc (.cells #[.int .i64 m.a, .int .i64 m.b, .int .i64 m.c, .int .i64 m.d] 141)).alloc (.cells #[.int .i64 n.a, .int .i64 n.b, .int .i64 n.c, .int .i64 n.d] 141) = W := ⟨_, rfl⟩
  have HGW : Hid (∀ q, ∃ q' os, W.drewN q = grow (w.drewN q') os) := fun q => by rw [← hW]; exact HG.out _ _ q
  have hm : MoAt W w.heap.size m := by rw [← hW]; exact (MoAt.new w m _).ext ((Ext.refl _).alloc _) (by simp)
  have hn : MoAt W (w.heap.size + 1) n := by
    have := MoAt.new (w.alloc (.cells #[.int .i64 m.a, .int .i64 m.b, .int .i64 m.c, .int .i64 m.d] 141)) n 141
    rw [hW] at this
    simpa using this
  obtain ⟨d0, d1, d2, d3⟩ := hm
  obtain ⟨e0, e1, e2, e3⟩ := hn
  have HC := Lib.hid (cmpMo_eq m n)
  generalize cmpMo m n = r at *
  unfold moV
  by_cases h3 : m.d = n.d
  · by_cases h2 : m.c = n.c
    · by_cases h1 : m.b = n.b
      · by_cases h0 : m.a = n.a
        · have HR : Hid (r = 0) := by
            have : r = 0 := by rw [HC.out, if_neg (fun h => h h3), if_neg (fun h => h h2), if_neg (fun h => h h1), h0, cmpI_same]
            exact this
          have z3 : cmpI m.d n.d = 0 := cmpI_eq h3
          have z2 : cmpI m.c n.c = 0 := cmpI_eq h2
          have z1 : cmpI m.b n.b = 0 := cmpI_eq h1
          have z0 : cmpI m.a n.a = 0 := cmpI_eq h0
          clear h3 h2 h1 h0
          go_enter Tryz.func132, Tryz.ntmps132
          go_wp2_with fail
          refine wp_loop_rounds 5 ?_
          rw [rounds_succ]
          go_wp2_with fail
          go_region_held3 (fun W' => W' = W.drew) (first | rfl | assumption) ((go_at_call 148; refine (compare_any _ _ _).mono ?_; rintro e v1 ⟨rfl, hv1⟩))
          all_goals
            subst hv1
            go_wp2_with fail
            rw [rounds_succ]
            go_wp2_with fail
            go_region_held3 (fun W' => W' = W.drew.drew) (first | rfl | assumption) ((go_at_call 148; refine (compare_any _ _ _).mono ?_; rintro e v1 ⟨rfl, hv1⟩))
            all_goals
              subst hv1
              go_wp2_with fail
              rw [rounds_succ]
              go_wp2_with fail
              go_region_held3 (fun W' => W' = W.drew.drew.drew) (first | rfl | assumption) ((go_at_call 148; refine (compare_any _ _ _).mono ?_; rintro e v1 ⟨rfl, hv1⟩))
              all_goals
                subst hv1
                go_wp2_with fail
                rw [rounds_succ]
                go_wp2_with fail
                go_region_held3 (fun W' => W' = W.drew.drew.drew.drew) (first | rfl | assumption) ((go_at_call 148; refine (compare_any _ _ _).mono ?_; rintro e v1 ⟨rfl, hv1⟩))
                all_goals
                  subst hv1
                  go_wp2_with fail
                  rw [rounds_succ]
                  go_wp2_with fail
                  go_ret
                  exact ⟨by rw [HR.out]; rfl, HGW.out 4⟩
        · have HR : Hid (r = cmpI m.a n.a) := by
            have : r = cmpI m.a n.a := by rw [HC.out, if_neg (fun h => h h3), if_neg (fun h => h h2), if_neg (fun h => h h1)]
            exact this
          have q0 := cmpI_ne h0
          have z3 : cmpI m.d n.d = 0 := cmpI_eq h3
          have z2 : cmpI m.c n.c = 0 := cmpI_eq h2
          have z1 : cmpI m.b n.b = 0 := cmpI_eq h1
          clear h3 h2 h1
          go_enter Tryz.func132, Tryz.ntmps132
          go_wp2_with fail
          refine wp_loop_rounds 4 ?_
          rw [rounds_succ]
          go_wp2_with fail
          go_region_held3 (fun W' => W' = W.drew) (first | rfl | assumption) ((go_at_call 148; refine (compare_any _ _ _).mono ?_; rintro e v1 ⟨rfl, hv1⟩))
          all_goals
            subst hv1
            go_wp2_with fail
            rw [rounds_succ]
            go_wp2_with fail
            go_region_held3 (fun W' => W' = W.drew.drew) (first | rfl | assumption) ((go_at_call 148; refine (compare_any _ _ _).mono ?_; rintro e v1 ⟨rfl, hv1⟩))
            all_goals
              subst hv1
              go_wp2_with fail
              rw [rounds_succ]
              go_wp2_with fail
              go_region_held3 (fun W' => W' = W.drew.drew.drew) (first | rfl | assumption) ((go_at_call 148; refine (compare_any _ _ _).mono ?_; rintro e v1 ⟨rfl, hv1⟩))
              all_goals
                subst hv1
                go_wp2_with fail
                rw [rounds_succ]
                go_wp2_with fail
                go_region_held3 (fun W' => W' = W.drew.drew.drew.drew) (first | rfl | assumption) ((go_at_call 148; refine (compare_any _ _ _).mono ?_; rintro e v1 ⟨rfl, hv1⟩))
                all_goals
                  subst hv1
                  go_wp2_with fail
                  go_ret
                  exact ⟨by rw [HR.out]; rfl, HGW.out 4⟩
      · have HR : Hid (r = cmpI m.b n.b) := by
          have : r = cmpI m.b n.b := by rw [HC.out, if_neg (fun h => h h3), if_neg (fun h => h h2), if_pos h1]
          exact this
        have q1 := cmpI_ne h1
        have z3 : cmpI m.d n.d = 0 := cmpI_eq h3
        have z2 : cmpI m.c n.c = 0 := cmpI_eq h2
        clear h3 h2
        go_enter Tryz.func132, Tryz.ntmps132
        go_wp2_with fail
        refine wp_loop_rounds 3 ?_
        rw [rounds_succ]
        go_wp2_with fail
        go_region_held3 (fun W' => W' = W.drew) (first | rfl | assumption) ((go_at_call 148; refine (compare_any _ _ _).mono ?_; rintro e v1 ⟨rfl, hv1⟩))
        all_goals
          subst hv1
          go_wp2_with fail
          rw [rounds_succ]
          go_wp2_with fail
          go_region_held3 (fun W' => W' = W.drew.drew) (first | rfl | assumption) ((go_at_call 148; refine (compare_any _ _ _).mono ?_; rintro e v1 ⟨rfl, hv1⟩))
          all_goals
            subst hv1
            go_wp2_with fail
            rw [rounds_succ]
            go_wp2_with fail
            go_region_held3 (fun W' => W' = W.drew.drew.drew) (first | rfl | assumption) ((go_at_call 148; refine (compare_any _ _ _).mono ?_; rintro e v1 ⟨rfl, hv1⟩))
            all_goals
              subst hv1
              go_wp2_with fail
              go_ret
              exact ⟨by rw [HR.out]; rfl, HGW.out 3⟩
    · have HR : Hid (r = cmpI m.c n.c) := by
        have : r = cmpI m.c n.c := by rw [HC.out, if_neg (fun h => h h3), if_pos h2]
        exact this
      have q2 := cmpI_ne h2
      have z3 : cmpI m.d n.d = 0 := cmpI_eq h3
      clear h3
      go_enter Tryz.func132, Tryz.ntmps132
      go_wp2_with fail
      refine wp_loop_rounds 2 ?_
      rw [rounds_succ]
      go_wp2_with fail
      go_region_held3 (fun W' => W' = W.drew) (first | rfl | assumption) ((go_at_call 148; refine (compare_any _ _ _).mono ?_; rintro e v1 ⟨rfl, hv1⟩))
      all_goals
        subst hv1
        go_wp2_with fail
        rw [rounds_succ]
        go_wp2_with fail
        go_region_held3 (fun W' => W' = W.drew.drew) (first | rfl | assumption) ((go_at_call 148; refine (compare_any _ _ _).mono ?_; rintro e v1 ⟨rfl, hv1⟩))
        all_goals
          subst hv1
          go_wp2_with fail
          go_ret
          exact ⟨by rw [HR.out]; rfl, HGW.out 2⟩
  · have HR : Hid (r = cmpI m.d n.d) := by
      have : r = cmpI m.d n.d := by rw [HC.out, if_pos h3]
      exact this
    have q3 := cmpI_ne h3
    go_enter Tryz.func132, Tryz.ntmps132
    go_wp2_with fail
    refine wp_loop_rounds 1 ?_
    rw [rounds_succ]
    go_wp2_with fail
    go_region_held3 (fun W' => W' = W.drew) (first | rfl | assumption) ((go_at_call 148; refine (compare_any _ _ _).mono ?_; rintro e v1 ⟨rfl, hv1⟩))
    all_goals
      subst hv1
      go_wp2_with fail
      go_ret
      exact ⟨by rw [HR.out]; rfl, HGW.out 1⟩
end Go.Proofs.YtdcapcpchcnidaaGreat
