/- EvaluateSubstitutes: for every tree and every list of values the statement answers true: evaluate.Substitute of the formula of a small tree gives the formula with integers for names, or the error, as the reference does, and the arguments stay as they are. No condition. -/
import Derived.Test.YtofbfplpbffpfaaGreatRows
import Derived.Test.YtofbfplpbffpfaaGreatMf54
import Derived.Test.YtofbfplpbffpfaaGreatMf50

namespace Go.Proofs.YtofbfplpbffpfaaGreat
open Go.ChangeShapes Go.WideShapes Go.ChangeAt Go.RowKit

set_option maxRecDepth 100000 in
theorem substitutes_lifted (os : Os) (started : os.Started) (H : Type) (enc : TypeId × Value → H) :
    ReturnsInHanded {} Tryz.checked os 6 .any (Rows.evaluateSubstitutesSpec.pre6 enc Tryz.prog Tryz.f6 Rows.evaluateSubstitutesRow.domain false) (Rows.evaluateSubstitutesSpec.post enc Tryz.prog Tryz.f6 false true false false) := by
  refine returnsInHanded_of_change (C := Tryz.checked) own_knob started (by kernel_rfl) Tryz.func6
    (ChangeSpec.witness6 (enc := enc) (C := Tryz.checked) false ⟨#[], #[.agg #[.int .i64 0, .bool false, .slice none 0 0, .string ByteArray.empty, .int .i64 0, .int .i64 0, .bool false, .bool false, .slice none 0 0], .slice none 0 0], []⟩ 8 (by kernel_rfl) (by kernel_rfl) (by kernel_rfl) (by kernel_rfl)) ?_
  intro W base args ds gs before hval0 hW _ _
  have hval : ∀ (j : Nat) t v, Tryz.f6.params[j]? = some t → args[j]? = some v → Value.okWide Tryz.prog W .any base t v := hval0
  have hW' := hW
  have low : ∀ p ∈ before, p.block < W.heap.size := fun p hp => hW.lt p hp
  obtain ⟨p, q, hA0, hV, rfl, -, -⟩ := hW
  have hA : DataW.TrodAll enc Tryz.prog W 0 (fun _ => true) true Tryz.f6.params.toList args.toList ds p := hA0
  rw [Tryz.params6] at hA hval
  obtain ⟨v0, vs0, d0, ds0, p0, q0, hargs, rfl, rfl, h0, r0⟩ := trodAll_cons hA
  obtain ⟨v1, vs1, d1, ds1, p1, q1, rfl, rfl, rfl, h1, r1⟩ := trodAll_cons r0
  obtain ⟨rfl, rfl, rfl⟩ := trodAll_nil r1
  obtain rfl : args = #[v0, v1] := by cases args; simp_all
  obtain ⟨rfl, rfl⟩ := trodVars_none hV
  obtain ⟨t, ht⟩ := open_tree (hval 0 29 v0 rfl rfl) h0
  obtain ⟨l, hl⟩ := open_values (hval 1 30 v1 rfl rfl) h1
  clear hA0 hval0
  simp only [List.append_nil] at hW' low
  refine (lawSubstitutes_any t v0 ht hl).mono fun e W' ⟨he, hx⟩ => ?_
  subst he
  exact ⟨_, rfl, post_law (pa := p0 ++ p1) (pv := []) hW' hx (fun _ _ _ => (trodAll_cons_mk (shut_bool Tryz.underlying4 _) trodAll_mk0))
    (fun sp hs => by
      have := trodAll_cons_mk (arg_stays tree_rec tree_row h0 hx (fun x hx' => low x (List.mem_append_left _ hx')) (fun x hx' => hs x (List.mem_append_left _ hx'))) (trodAll_cons_mk (arg_stays vals_rec vals_row h1 hx (fun x hx' => low x (List.mem_append_right _ hx')) (fun x hx' => hs x (List.mem_append_right _ hx'))) trodAll_mk0)
      simp only [List.append_nil] at this
      exact this) (fun _ _ => rfl) (by simp)
    (ok_one (by kernel_rfl) rfl (okWide_bool_mk Tryz.underlying4 _))⟩

theorem substitutes_over : Rows.evaluateSubstitutesRow.holds Tryz.pinned (OpenSpec.ofChange Rows.evaluateSubstitutesSpec) :=
  OpenClaim.holds_of_wide 6 Tryz.f6 rfl rfl rfl rfl rfl rfl rfl ⟨rfl, rfl, rfl, rfl, rfl⟩ rfl rfl rfl rfl rfl (by kernel_rfl) Tryz.func6 (by kernel_rfl)
    (of_decide_eq_true (by kernel_rfl)) (by unfold Func.isWrapper; first | (rw [if_pos (by decide +kernel)]; kernel_rfl) | (rw [if_neg (by decide +kernel)]; exact ⟨rfl, rfl⟩))
    (fun os started H enc _ => substitutes_lifted os started H enc)

/-- The statement. -/
theorem substitutes_proved : Rows.EvaluateSubstitutesSaid := substitutes_over
#print axioms substitutes_proved
end Go.Proofs.YtofbfplpbffpfaaGreat
