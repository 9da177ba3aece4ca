/- PrenexPolys: for every two matrices the law answers true, and both read as before. No condition but the listed tables, which this road never looks into. The row and the tied card. -/
import Derived.Test.YtbanhcaahabboaaGreatDoorRows
import Derived.Test.YtbanhcaahabboaaGreatDoorCards
import Derived.Test.YtbanhcaahabboaaGreatDoorTie
import Derived.Test.YtbanhcaahabboaaGreatDoorMp48
import Derived.Test.YtbanhcaahabboaaGreatDoorMp46
import Derived.Test.YtbanhcaahabboaaGreatDoorLaidDoor
import Derived.SevenTiedAt
set_option linter.unusedSimpArgs false
set_option linter.unusedVariables false

namespace Go.Proofs.YtbanhcaahabboaaGreatDoor
open Go.ChangeShapes Go.WideShapes Go.ChangeAt Go.RowKit

theorem mx_rec : Tryz.prog.readableRec 34 = true := by kernel_rfl
theorem mx_row : 34 < Tryz.prog.types.size := of_decide_eq_true (by kernel_rfl)

set_option maxRecDepth 100000 in
theorem polys_lifted (os : Os) (started : os.Started) (H : Type) (enc : TypeId × Value → H) :
    ReturnsInHanded {} Tryz.checked os 4 .any (fun w args => (Rows.prenexPolysSpec.pre enc Tryz.prog Tryz.f4 [] false w args ∧ laidMetH Tryz.prog laid3 w) ∧ sizedMet enc Tryz.prog Tryz.f4 (OpenSpec.ofChange Rows.prenexPolysSpec) false w args)
      (Rows.prenexPolysSpec.post enc Tryz.prog Tryz.f4 false true false false) := by
  refine returnsInHanded_of_change_and (C := Tryz.checked) (X := fun w _ => laidMetH Tryz.prog laid3 w) (fun _ _ _ hh h => h.of_heap hh) own_knob started (by kernel_rfl) Tryz.func4
    (ChangeSpec.witness_shaped (enc := enc) (C := Tryz.checked) (os := os) (X := fun w _ => laidMetH Tryz.prog laid3 w) false (World.doorLaid Tryz.prog 2000 os) #[.agg #[.int .i64 0, .int .i64 0, .int .i64 0, .bool false, .slice none 0 0, .slice none 0 0, .slice none 0 0], .agg #[.int .i64 0, .int .i64 0, .int .i64 0, .bool false, .slice none 0 0, .slice none 0 0, .slice none 0 0]] 8 rfl (World.shaped_of_RefB (by kernel_rfl) (by kernel_rfl)) (by kernel_rfl) (by kernel_rfl) (by kernel_rfl) (door_met os _)) ?_
  intro W base args ds gs before hval0 hW _ _ _ _
  have hval : ∀ (j : Nat) t v, Tryz.f4.params[j]? = some t → args[j]? = some v → Value.okWide Tryz.prog W .any base t v := hval0
  have hW' := hW
  have low : ∀ p ∈ before, p.block < W.heap.size := fun p hp => hW.lt p hp
  obtain ⟨p, q, hA0, hV, rfl, -, -⟩ := hW
  have hA : DataW.TrodAll enc Tryz.prog W 0 (fun _ => true) true Tryz.f4.params.toList args.toList ds p := hA0
  rw [Tryz.params4] at hA hval
  obtain ⟨v0, vs0, d0, ds0, p0, q0, hargs, rfl, rfl, h0, r0⟩ := trodAll_cons hA
  obtain ⟨v1, vs1, d1, ds1, p1, q1, rfl, rfl, rfl, h1, r1⟩ := trodAll_cons r0
  obtain ⟨rfl, rfl, rfl⟩ := trodAll_nil r1
  obtain rfl : args = #[v0, v1] := by cases args; simp_all
  obtain ⟨rfl, rfl⟩ := trodVars_none hV
  obtain ⟨t, ht⟩ := open_matrix (hval 0 34 v0 rfl rfl) h0
  obtain ⟨u, hu⟩ := open_matrix (hval 1 34 v1 rfl rfl) h1
  clear hA0 hval0
  simp only [List.append_nil] at hW' low
  refine (lawPolys_any t u v0 v1 ht hu).mono fun e W' ⟨he, hx⟩ => ?_
  subst he
  exact ⟨_, rfl, post_law (pa := p0 ++ p1) (pv := []) hW' hx (fun _ _ _ => (trodAll_cons_mk (shut_bool Tryz.underlying4 _) trodAll_mk0))
    (fun sp hs => by
      have := trodAll_cons_mk (arg_stays mx_rec mx_row h0 hx (fun x hx' => low x (List.mem_append_left _ hx')) (fun x hx' => hs x (List.mem_append_left _ hx'))) (trodAll_cons_mk (arg_stays mx_rec mx_row h1 hx (fun x hx' => low x (List.mem_append_right _ hx')) (fun x hx' => hs x (List.mem_append_right _ hx'))) trodAll_mk0)
      simp only [List.append_nil] at this
      exact this) (fun _ _ => rfl) (by simp)
    (ok_one (by kernel_rfl) rfl (okWide_bool_mk Tryz.underlying4 _))⟩

theorem polys_closed : joinedFacts Tryz.pinned.checked.prog 4 Tryz.f4 Rows.prenexPolysSpec Rows.prenexPolysRow = true := by kernel_rfl
theorem polys_pre (os : Os) (started : os.Started) (H : Type) (enc : TypeId × Value → H) :
    ReturnsInHanded Rows.prenexPolysRow.assume Tryz.pinned.checked os 4 .any (Rows.prenexPolysRow.pre enc Tryz.pinned.checked.prog Tryz.f4 (OpenSpec.ofChange Rows.prenexPolysSpec)) (Rows.prenexPolysSpec.post enc Tryz.pinned.checked.prog Tryz.f4 Rows.prenexPolysRow.apart Rows.prenexPolysRow.fresh Rows.prenexPolysRow.handsOn Rows.prenexPolysRow.again) :=
  polys_lifted os started H enc

theorem polys_over : Rows.prenexPolysRow.holds Tryz.pinned (OpenSpec.ofChange Rows.prenexPolysSpec) :=
  OpenClaim.holds_of_wide 4 Tryz.f4 rfl rfl rfl rfl rfl rfl rfl ⟨rfl, rfl, rfl, rfl, rfl⟩ rfl rfl rfl rfl rfl (by kernel_rfl) Tryz.func4 polys_closed
    (of_decide_eq_true (by kernel_rfl)) (by unfold Func.isWrapper; first | (rw [if_pos (by decide +kernel)]; kernel_rfl) | (rw [if_neg (by decide +kernel)]; exact ⟨rfl, rfl⟩))
    (fun os started H enc _ => polys_pre os started H enc)

/-- The statement. -/
theorem polys_proved : Rows.PrenexPolysCardSaid :=
  Claim7.holds_tied_plain_at .later [] [.data, .data, .data] true (true, "913b1311dd79b37f4a110f85aaa6627957bad942098406e58776935dc5c9d09d") true
    polys_over (fun _ h => by cases h) (by kernel_rfl) (fun _ h => by cases h) prenexPolys_row_tie rfl ⟨rfl, rfl⟩ (by kernel_rfl) rfl
    (fun f fn hf hfn => by
      obtain rfl : f = 4 := Option.some.inj ((show Tryz.prog.funcNamed "cylinder/cylinderlaw38.PrenexPolys" = some 4 by kernel_rfl).symm.trans hf) |>.symm
      obtain rfl : fn = Tryz.f4 := (Option.some.inj (Tryz.func4.symm.trans hfn)).symm
      exact ⟨by kernel_rfl, fun j t ht => by
        rw [Tryz.params4] at ht
        have h3 : t = 34 := by
          rcases j with _ | _ | j
          · simpa using ht.symm
          · simpa using ht.symm
          · simp at ht
        subst h3
        exact (show Tryz.prog.wantsStandIn 34 = false by kernel_rfl)⟩)
    (by kernel_rfl)
#print axioms polys_proved
end Go.Proofs.YtbanhcaahabboaaGreatDoor
