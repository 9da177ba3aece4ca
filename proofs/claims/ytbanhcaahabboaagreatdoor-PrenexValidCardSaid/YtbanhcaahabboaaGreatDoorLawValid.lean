/- PrenexValid: for every prenex form the law answers true, and it reads as before. No condition but the listed tables, which this road never looks into. The row and the tied card. -/
import Derived.Test.YtbanhcaahabboaaGreatDoorRows
import Derived.Test.YtbanhcaahabboaaGreatDoorCards
import Derived.Test.YtbanhcaahabboaaGreatDoorTie
import Derived.Test.YtbanhcaahabboaaGreatDoorMv50
import Derived.Test.YtbanhcaahabboaaGreatDoorMv49
import Derived.Test.YtbanhcaahabboaaGreatDoorLaidDoor
import Derived.SevenTiedAt
set_option linter.unusedSimpArgs false
set_option linter.unusedVariables false

namespace Go.Proofs.YtbanhcaahabboaaGreatDoor
open Go.ChangeShapes Go.WideShapes Go.ChangeAt Go.RowKit

theorem px_rec : Tryz.prog.readableRec 36 = true := by kernel_rfl
theorem px_row : 36 < Tryz.prog.types.size := of_decide_eq_true (by kernel_rfl)

set_option maxRecDepth 100000 in
theorem valid_lifted (os : Os) (started : os.Started) (H : Type) (enc : TypeId × Value → H) :
    ReturnsInHanded {} Tryz.checked os 7 .any (fun w args => (Rows.prenexValidSpec.pre enc Tryz.prog Tryz.f7 [] false w args ∧ laidMetH Tryz.prog laid3 w) ∧ sizedMet enc Tryz.prog Tryz.f7 (OpenSpec.ofChange Rows.prenexValidSpec) false w args)
      (Rows.prenexValidSpec.post enc Tryz.prog Tryz.f7 false true false false) := by
  refine returnsInHanded_of_change_and (C := Tryz.checked) (X := fun w _ => laidMetH Tryz.prog laid3 w) (fun _ _ _ hh h => h.of_heap hh) own_knob started (by kernel_rfl) Tryz.func7
    (ChangeSpec.witness_shaped (enc := enc) (C := Tryz.checked) (os := os) (X := fun w _ => laidMetH Tryz.prog laid3 w) false (World.doorLaid Tryz.prog 2000 os) #[.agg #[.int .i64 0, .slice none 0 0, .slice none 0 0, .int .i64 0, .int .i64 0, .int .i64 0, .bool false, .slice none 0 0, .slice none 0 0, .slice none 0 0]] 8 rfl (World.shaped_of_RefB (by kernel_rfl) (by kernel_rfl)) (by kernel_rfl) (by kernel_rfl) (by kernel_rfl) (door_met os _)) ?_
  intro W base args ds gs before hval0 hW _ _ _ _
  have hval : ∀ (j : Nat) t v, Tryz.f7.params[j]? = some t → args[j]? = some v → Value.okWide Tryz.prog W .any base t v := hval0
  have hW' := hW
  have low : ∀ p ∈ before, p.block < W.heap.size := fun p hp => hW.lt p hp
  obtain ⟨p, q, hA0, hV, rfl, -, -⟩ := hW
  have hA : DataW.TrodAll enc Tryz.prog W 0 (fun _ => true) true Tryz.f7.params.toList args.toList ds p := hA0
  rw [Tryz.params7] at hA hval
  obtain ⟨v0, vs0, d0, ds0, p0, q0, hargs, rfl, rfl, h0, r0⟩ := trodAll_cons hA
  obtain ⟨rfl, rfl, rfl⟩ := trodAll_nil r0
  obtain rfl : args = #[v0] := by cases args; simp_all
  obtain ⟨rfl, rfl⟩ := trodVars_none hV
  obtain ⟨fr, all, nms, m, hp, hfr⟩ := open_prenex2 (hval 0 36 v0 rfl rfl) h0
  clear hA0 hval0
  simp only [List.append_nil] at hW' low
  refine (lawValid_any hp hfr).mono fun e W' ⟨he, hx⟩ => ?_
  subst he
  exact ⟨_, rfl, post_law (pa := p0) (pv := []) hW' hx (fun _ _ _ => (trodAll_cons_mk (shut_bool Tryz.underlying4 _) trodAll_mk0))
    (fun sp hs => by
      have := trodAll_cons_mk (arg_stays px_rec px_row h0 hx (fun x hx' => low x hx') (fun x hx' => hs x hx')) trodAll_mk0
      simp only [List.append_nil] at this
      exact this) (fun _ _ => rfl) (by simp)
    (ok_one (by kernel_rfl) rfl (okWide_bool_mk Tryz.underlying4 _))⟩

theorem valid_closed : joinedFacts Tryz.pinned.checked.prog 7 Tryz.f7 Rows.prenexValidSpec Rows.prenexValidRow = true := by kernel_rfl
theorem valid_pre (os : Os) (started : os.Started) (H : Type) (enc : TypeId × Value → H) :
    ReturnsInHanded Rows.prenexValidRow.assume Tryz.pinned.checked os 7 .any (Rows.prenexValidRow.pre enc Tryz.pinned.checked.prog Tryz.f7 (OpenSpec.ofChange Rows.prenexValidSpec)) (Rows.prenexValidSpec.post enc Tryz.pinned.checked.prog Tryz.f7 Rows.prenexValidRow.apart Rows.prenexValidRow.fresh Rows.prenexValidRow.handsOn Rows.prenexValidRow.again) :=
  valid_lifted os started H enc

theorem valid_over : Rows.prenexValidRow.holds Tryz.pinned (OpenSpec.ofChange Rows.prenexValidSpec) :=
  OpenClaim.holds_of_wide 7 Tryz.f7 rfl rfl rfl rfl rfl rfl rfl ⟨rfl, rfl, rfl, rfl, rfl⟩ rfl rfl rfl rfl rfl (by kernel_rfl) Tryz.func7 valid_closed
    (of_decide_eq_true (by kernel_rfl)) (by unfold Func.isWrapper; first | (rw [if_pos (by decide +kernel)]; kernel_rfl) | (rw [if_neg (by decide +kernel)]; exact ⟨rfl, rfl⟩))
    (fun os started H enc _ => valid_pre os started H enc)

/-- The statement. -/
theorem valid_proved : Rows.PrenexValidCardSaid :=
  Claim7.holds_tied_plain_at .later [] [.data, .data, .data] true (true, "913b1311dd79b37f4a110f85aaa6627957bad942098406e58776935dc5c9d09d") true
    valid_over (fun _ h => by cases h) (by kernel_rfl) (fun _ h => by cases h) prenexValid_row_tie rfl ⟨rfl, rfl⟩ (by kernel_rfl) rfl
    (fun f fn hf hfn => by
      obtain rfl : f = 7 := Option.some.inj ((show Tryz.prog.funcNamed "cylinder/cylinderlaw38.PrenexValid" = some 7 by kernel_rfl).symm.trans hf) |>.symm
      obtain rfl : fn = Tryz.f7 := (Option.some.inj (Tryz.func7.symm.trans hfn)).symm
      exact ⟨by kernel_rfl, fun j t ht => by
        rw [Tryz.params7] at ht
        have h3 : t = 36 := by
          rcases j with _ | j
          · simpa using ht.symm
          · simp at ht
        subst h3
        exact (show Tryz.prog.wantsStandIn 36 = false by kernel_rfl)⟩)
    (by kernel_rfl)
#print axioms valid_proved
end Go.Proofs.YtbanhcaahabboaaGreatDoor
