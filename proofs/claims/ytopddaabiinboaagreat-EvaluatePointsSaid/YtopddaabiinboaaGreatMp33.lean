/- EvaluatePoints: for every matrix and every list of fractions the statement answers true: at a point with rational coordinates evaluate.AtPoint is evaluate.At, a variable without a coordinate is refused, and the arguments stay as they are. No condition. -/
import Derived.Test.YtopddaabiinboaaGreatRows
import Derived.Test.YtopddaabiinboaaGreatMp32
import Derived.Test.YtopddaabiinboaaGreatMp23
set_option linter.unusedSimpArgs false
set_option linter.unusedVariables false

set_option maxRecDepth 100000
set_option maxHeartbeats 8000000
namespace Go.Proofs.YtopddaabiinboaaGreat
open Go.ChangeShapes Go.WideShapes Go.ChangeAt Go.RowKit
theorem qi8:Tryz.prog.readableRec 50=true:=by kernel_rfl
theorem gi6:Tryz.prog.readableRec 53=true:=by kernel_rfl
theorem xi8:50 < Tryz.prog.types.size:=of_decide_eq_true (by kernel_rfl)
theorem ui6:53 < Tryz.prog.types.size:=of_decide_eq_true (by kernel_rfl)
theorem yhr (os:Os) (started:os.Started) (H:Type) (enc:TypeId × Value->H) :
 ReturnsInHanded {} Tryz.checked os 4 .any (Rows.evaluatePointsSpec.pre6 enc Tryz.prog Tryz.f4 Rows.evaluatePointsRow.domain false) (Rows.evaluatePointsSpec.post enc Tryz.prog Tryz.f4 false true false false):=by
 refine returnsInHanded_of_change (C := Tryz.checked) uiq started (by kernel_rfl) Tryz.func4
  (ChangeSpec.witness6 (enc:=enc) (C:=Tryz.checked) false ⟨#[],#[.agg #[.int .i64 0,.int .i64 0,.int .i64 0,.bool false,.slice none 0 0,.slice none 0 0,.slice none 0 0],.slice none 0 0],[]⟩ 8 (by kernel_rfl) (by kernel_rfl) (by kernel_rfl) (by kernel_rfl)) ?_
 intro W base args ds gs before hval0 hW _ _;have hval:∀ (j:Nat) t v,Tryz.f4.params[j]?=some t->args[j]?=some v->Value.okWide Tryz.prog W .any base t v:=hval0;have hW':=hW;have low:∀ p ∈ before,p.block < W.heap.size:=fun p hp=>hW.lt p hp
 obtain ⟨p,q,hA0,hV,rfl,-,-⟩:=hW;have hA:DataW.TrodAll enc Tryz.prog W 0 (fun _=>true) true Tryz.f4.params.toList args.toList ds p:=hA0;rw [Tryz.params4] at hA hval;obtain ⟨v0,vs0,d0,ds0,p0,q0,hargs,rfl,rfl,h0,r0⟩:=trodAll_cons hA;obtain ⟨v1,vs1,d1,ds1,p1,q1,rfl,rfl,rfl,h1,r1⟩:=trodAll_cons r0;obtain ⟨rfl,rfl,rfl⟩:=trodAll_nil r1;obtain rfl:args=#[v0,v1]:=by cases args; simp_all
 obtain ⟨rfl,rfl⟩:=trodVars_none hV;obtain ⟨t,ht⟩:=vh2 (hval 0 50 v0 rfl rfl) h0;obtain ⟨l,hl⟩:=kh9 (hval 1 53 v1 rfl rfl) h1;clear hA0 hval0;simp only [List.append_nil] at hW' low;refine (qhr t v0 ht hl).mono fun e W' ⟨he,hx⟩=>?_
 subst he
 exact ⟨_, rfl, yiq (pa := p0 ++ p1) (pv := []) hW' hx (fun _ _ _ => (trodAll_cons_mk (shut_bool Tryz.underlying4 _) trodAll_mk0))
  (fun sp hs=>by
    have:=trodAll_cons_mk (jhq qi8 xi8 h0 hx (fun x hx'=>low x (List.mem_append_left _ hx')) (fun x hx'=>hs x (List.mem_append_left _ hx'))) (trodAll_cons_mk (jhq gi6 ui6 h1 hx (fun x hx'=>low x (List.mem_append_right _ hx')) (fun x hx'=>hs x (List.mem_append_right _ hx'))) trodAll_mk0);simp only [List.append_nil] at this
    exact this) (fun _ _=>rfl) (by simp)
  (ok_one (by kernel_rfl) rfl (okWide_bool_mk Tryz.underlying4 _))⟩
theorem zh2:Rows.evaluatePointsRow.holds Tryz.pinned (OpenSpec.ofChange Rows.evaluatePointsSpec):=
 OpenClaim.holds_of_wide 4 Tryz.f4 rfl rfl rfl rfl rfl rfl rfl ⟨rfl, rfl, rfl, rfl, rfl⟩ rfl rfl rfl rfl rfl (by kernel_rfl) Tryz.func4 (by kernel_rfl)
  (of_decide_eq_true (by kernel_rfl)) (by unfold Func.isWrapper; first | (rw [if_pos (by decide +kernel)]; kernel_rfl) | (rw [if_neg (by decide +kernel)]; exact ⟨rfl,rfl⟩))
  (fun os started H enc _=>yhr os started H enc)
theorem points_proved:Rows.EvaluatePointsSaid:=zh2
#print axioms points_proved
end Go.Proofs.YtopddaabiinboaaGreat
