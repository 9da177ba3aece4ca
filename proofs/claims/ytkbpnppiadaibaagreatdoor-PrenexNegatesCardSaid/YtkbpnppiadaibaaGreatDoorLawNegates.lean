/- PrenexNegates: for every tree the law answers true, and it reads as before. No condition but the listed tables, which this road never looks into. The row and the tied card. -/
import Derived.Test.YtkbpnppiadaibaaGreatDoorRows
import Derived.Test.YtkbpnppiadaibaaGreatDoorCards
import Derived.Test.YtkbpnppiadaibaaGreatDoorTie
import Derived.Test.YtkbpnppiadaibaaGreatDoorRightG
import Derived.Test.YtkbpnppiadaibaaGreatDoorMg52
import Derived.SevenTiedAt
set_option linter.unusedSimpArgs false
set_option linter.unusedVariables false

namespace Go.Proofs.YtkbpnppiadaibaaGreatDoor
open Go.ChangeShapes Go.WideShapes Go.ChangeAt Go.RowKit

theorem tree_rec : Tryz.prog.readableRec 29 = true := by kernel_rfl
theorem tree_row : 29 < Tryz.prog.types.size := of_decide_eq_true (by kernel_rfl)

set_option maxRecDepth 100000 in
theorem negates_lifted (os : Os) (started : os.Started) (H : Type) (enc : TypeId × Value → H) :
    ReturnsInHanded {} Tryz.checked os 3 .any (fun w args => (Rows.prenexNegatesSpec.pre enc Tryz.prog Tryz.f3 [] false w args ∧ laidMetH Tryz.prog laid3 w) ∧ sizedMet enc Tryz.prog Tryz.f3 (OpenSpec.ofChange Rows.prenexNegatesSpec) false w args)
      (Rows.prenexNegatesSpec.post enc Tryz.prog Tryz.f3 false true false false) := by
  refine returnsInHanded_of_change_and (C := Tryz.checked) (X := fun w _ => laidMetH Tryz.prog laid3 w) (fun _ _ _ hh h => h.of_heap hh) own_knob started (by kernel_rfl) Tryz.func3
    (ChangeSpec.witness_shaped (enc := enc) (C := Tryz.checked) (os := os) (X := fun w _ => laidMetH Tryz.prog laid3 w) false (World.doorLaid Tryz.prog 2000 os) #[.agg #[.int .i64 0, .bool false, .slice none 0 0, .string ByteArray.empty, .int .i64 0, .int .i64 0, .bool false, .bool false, .slice none 0 0]] 8 rfl (World.shaped_of_RefB (by kernel_rfl) (by kernel_rfl)) (by kernel_rfl) (by kernel_rfl) (by kernel_rfl) (door_met os _)) ?_
  intro W base args ds gs before hval0 hW _ _ _ _
  have hval : ∀ (j : Nat) t v, Tryz.f3.params[j]? = some t → args[j]? = some v → Value.okWide Tryz.prog W .any base t v := hval0
  have hW' := hW
  have low : ∀ p ∈ before, p.block < W.heap.size := fun p hp => hW.lt p hp
  obtain ⟨p, q, hA0, hV, rfl, -, -⟩ := hW
  have hA : DataW.TrodAll enc Tryz.prog W 0 (fun _ => true) true Tryz.f3.params.toList args.toList ds p := hA0
  rw [Tryz.params3] at hA hval
  obtain ⟨v0, vs0, d0, ds0, p0, q0, hargs, rfl, rfl, h0, r0⟩ := trodAll_cons hA
  obtain ⟨rfl, rfl, rfl⟩ := trodAll_nil r0
  obtain rfl : args = #[v0] := by cases args; simp_all
  obtain ⟨rfl, rfl⟩ := trodVars_none hV
  obtain ⟨t, ht⟩ := open_tree (hval 0 29 v0 rfl rfl) h0
  clear hA0 hval0
  simp only [List.append_nil] at hW' low
  refine (lawNegates_any t v0 ht).mono fun e W' ⟨he, hx⟩ => ?_
  subst he
  exact ⟨_, rfl, post_law (pa := p0) (pv := []) hW' hx (fun _ _ _ => (trodAll_cons_mk (shut_bool Tryz.underlying4 _) trodAll_mk0))
    (fun sp hs => by
      have := trodAll_cons_mk (arg_stays tree_rec tree_row h0 hx (fun x hx' => low x hx') (fun x hx' => hs x hx')) trodAll_mk0
      simp only [List.append_nil] at this
      exact this) (fun _ _ => rfl) (by simp)
    (ok_one (by kernel_rfl) rfl (okWide_bool_mk Tryz.underlying4 _))⟩

theorem negates_closed : joinedFacts Tryz.pinned.checked.prog 3 Tryz.f3 Rows.prenexNegatesSpec Rows.prenexNegatesRow = true := by kernel_rfl
theorem negates_pre (os : Os) (started : os.Started) (H : Type) (enc : TypeId × Value → H) :
    ReturnsInHanded Rows.prenexNegatesRow.assume Tryz.pinned.checked os 3 .any (Rows.prenexNegatesRow.pre enc Tryz.pinned.checked.prog Tryz.f3 (OpenSpec.ofChange Rows.prenexNegatesSpec)) (Rows.prenexNegatesSpec.post enc Tryz.pinned.checked.prog Tryz.f3 Rows.prenexNegatesRow.apart Rows.prenexNegatesRow.fresh Rows.prenexNegatesRow.handsOn Rows.prenexNegatesRow.again) :=
  negates_lifted os started H enc

theorem negates_over : Rows.prenexNegatesRow.holds Tryz.pinned (OpenSpec.ofChange Rows.prenexNegatesSpec) :=
  OpenClaim.holds_of_wide 3 Tryz.f3 rfl rfl rfl rfl rfl rfl rfl ⟨rfl, rfl, rfl, rfl, rfl⟩ rfl rfl rfl rfl rfl (by kernel_rfl) Tryz.func3 negates_closed
    (of_decide_eq_true (by kernel_rfl)) (by unfold Func.isWrapper; first | (rw [if_pos (by decide +kernel)]; kernel_rfl) | (rw [if_neg (by decide +kernel)]; exact ⟨rfl, rfl⟩))
    (fun os started H enc _ => negates_pre os started H enc)

/-- The statement. -/
theorem negates_proved : Rows.PrenexNegatesCardSaid :=
  Claim7.holds_tied_plain_at .later [] [.data, .data, .data] true (true, "4038e01535e211f261e9d55ee65fe8a95351db20c49877f250a7a0cd09ddf2e8") true
    negates_over (fun _ h => by cases h) (by kernel_rfl) (fun _ h => by cases h) prenexNegates_row_tie rfl ⟨rfl, rfl⟩ (by kernel_rfl) rfl
    (fun f fn hf hfn => by
      obtain rfl : f = 3 := Option.some.inj ((show Tryz.prog.funcNamed "cylinder/cylinderlaw38.PrenexNegates" = some 3 by kernel_rfl).symm.trans hf) |>.symm
      obtain rfl : fn = Tryz.f3 := (Option.some.inj (Tryz.func3.symm.trans hfn)).symm
      exact ⟨by kernel_rfl, fun j t ht => by
        rw [Tryz.params3] at ht
        have h3 : t = 29 := by
          rcases j with _ | j
          · simpa using ht.symm
          · simp at ht
        subst h3
        exact (show Tryz.prog.wantsStandIn 29 = false by kernel_rfl)⟩)
    (by kernel_rfl)
#print axioms negates_proved
end Go.Proofs.YtkbpnppiadaibaaGreatDoor
