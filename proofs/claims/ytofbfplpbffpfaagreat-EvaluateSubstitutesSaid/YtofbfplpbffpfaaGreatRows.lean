/-
  NARROWER THAN 'FOR EVERY INPUT', by the rows' own cells (each row's printed sentence says how): EvaluateFormulas: loops · EvaluateTerms: loops · EvaluateSubstitutes: loops.
  DERIVED. THE GIVEN ROWS OF THIS SEAT. 4 by the template 'for every input the law returns true; each argument reads behind the call as it read before'; 0 by the template 'total and deterministic' (their statements: YtofbfplpbffpfaaGreatTotals.lean).
  GIVEN WITH THE SEED: the statements are not yours to turn. If you find one false, say at which input.
  Laid BY PROGRAM, IN A SANDBOX (cutbox-rows.mjs): the forced cells as the released guide's own fill.sh prints them over the translation cecde0314a117b81… (all of the seat's roots in one cut). By AI agents, Wed Nov 11 2026. No macro, syntax, notation, axiom, sorry.
-/
import Derived.Test.YtofbfplpbffpfaaGreatChecked
import GoSem.Claim
import GoSem.ClaimJoined
import GoSem.ClaimMapViews
import Derived.JoinedTies
import Derived.KernelRfl
namespace Go.Proofs.YtofbfplpbffpfaaGreat
/- THE CELL 'sum', in the pinned program and in every row, IS THE sha256 OF THE DUMP (.gsa) THAT YtofbfplpbffpfaaGreatProg.lean LOADS. Nothing in Lean hashes anything: it is a label: what it is worth is what the hold of that sum in a sandbox is worth. -/
noncomputable def Tryz.pinned : Pinned := { name := "ytofbfplpbffpfaagreat", sum := "cecde0314a117b81e91c868461e998621e71b6f63d0532707cf3cee7992573bc", checked := Tryz.checked }
namespace Rows
def none {H : Type} : Left H := { results := [], args := [] }

/-- 'cylinderlaw40.EvaluateFormulas': WHATEVER THE INPUT: true; the input reads as it did. -/
def evaluateFormulasSpec : ChangeSpec := { name := "evaluateFormulas", fn := fun _ => fun
  | [d1, d2] => { results := [.lit (.bool true)], args := [d1, d2] }
  | _ => none }
def evaluateFormulasRow : OpenClaim := { program := "ytofbfplpbffpfaagreat", sum := "cecde0314a117b81e91c868461e998621e71b6f63d0532707cf3cee7992573bc", func := "cylinder/cylinderlaw40.EvaluateFormulas", spec := "evaluateFormulas", unfollowed := true, recurses := true, named := ["math/bits.overflowError"], loops := true, apart := false }
def EvaluateFormulasSaid : Prop := evaluateFormulasRow.holds Tryz.pinned (OpenSpec.ofChange evaluateFormulasSpec)

/-- ITS FALSE NEIGHBOUR: 'it returns false'. Refute it at one input. -/
def evaluateFormulasWrong : ChangeSpec := { name := "evaluateFormulas", fn := fun _ => fun
  | [d1, d2] => { results := [.lit (.bool false)], args := [d1, d2] }
  | _ => none }
def EvaluateFormulasWrongFalsely : Prop := evaluateFormulasRow.holds Tryz.pinned (OpenSpec.ofChange evaluateFormulasWrong)

/-- 'cylinderlaw40.EvaluateHolds': WHATEVER THE INPUT: true; the input reads as it did. -/
def evaluateHoldsSpec : ChangeSpec := { name := "evaluateHolds", fn := fun _ => fun
  | [d1, d2] => { results := [.lit (.bool true)], args := [d1, d2] }
  | _ => none }
def evaluateHoldsRow : OpenClaim := { program := "ytofbfplpbffpfaagreat", sum := "cecde0314a117b81e91c868461e998621e71b6f63d0532707cf3cee7992573bc", func := "cylinder/cylinderlaw40.EvaluateHolds", spec := "evaluateHolds", unfollowed := true, recurses := true, named := ["math/bits.overflowError"], apart := false }
def EvaluateHoldsSaid : Prop := evaluateHoldsRow.holds Tryz.pinned (OpenSpec.ofChange evaluateHoldsSpec)

/-- ITS FALSE NEIGHBOUR: 'it returns false'. Refute it at one input. -/
def evaluateHoldsWrong : ChangeSpec := { name := "evaluateHolds", fn := fun _ => fun
  | [d1, d2] => { results := [.lit (.bool false)], args := [d1, d2] }
  | _ => none }
def EvaluateHoldsWrongFalsely : Prop := evaluateHoldsRow.holds Tryz.pinned (OpenSpec.ofChange evaluateHoldsWrong)

/-- 'cylinderlaw40.EvaluateTerms': WHATEVER THE INPUT: true; the input reads as it did. -/
def evaluateTermsSpec : ChangeSpec := { name := "evaluateTerms", fn := fun _ => fun
  | [d1, d2] => { results := [.lit (.bool true)], args := [d1, d2] }
  | _ => none }
def evaluateTermsRow : OpenClaim := { program := "ytofbfplpbffpfaagreat", sum := "cecde0314a117b81e91c868461e998621e71b6f63d0532707cf3cee7992573bc", func := "cylinder/cylinderlaw40.EvaluateTerms", spec := "evaluateTerms", unfollowed := true, recurses := true, named := ["math/bits.overflowError"], loops := true, apart := false }
def EvaluateTermsSaid : Prop := evaluateTermsRow.holds Tryz.pinned (OpenSpec.ofChange evaluateTermsSpec)

/-- ITS FALSE NEIGHBOUR: 'it returns false'. Refute it at one input. -/
def evaluateTermsWrong : ChangeSpec := { name := "evaluateTerms", fn := fun _ => fun
  | [d1, d2] => { results := [.lit (.bool false)], args := [d1, d2] }
  | _ => none }
def EvaluateTermsWrongFalsely : Prop := evaluateTermsRow.holds Tryz.pinned (OpenSpec.ofChange evaluateTermsWrong)

/-- 'cylinderlaw40.EvaluateSubstitutes': WHATEVER THE INPUT: true; the input reads as it did. -/
def evaluateSubstitutesSpec : ChangeSpec := { name := "evaluateSubstitutes", fn := fun _ => fun
  | [d1, d2] => { results := [.lit (.bool true)], args := [d1, d2] }
  | _ => none }
def evaluateSubstitutesRow : OpenClaim := { program := "ytofbfplpbffpfaagreat", sum := "cecde0314a117b81e91c868461e998621e71b6f63d0532707cf3cee7992573bc", func := "cylinder/cylinderlaw40.EvaluateSubstitutes", spec := "evaluateSubstitutes", unfollowed := true, recurses := true, named := ["math/bits.overflowError"], loops := true, apart := false }
def EvaluateSubstitutesSaid : Prop := evaluateSubstitutesRow.holds Tryz.pinned (OpenSpec.ofChange evaluateSubstitutesSpec)

/-- ITS FALSE NEIGHBOUR: 'it returns false'. Refute it at one input. -/
def evaluateSubstitutesWrong : ChangeSpec := { name := "evaluateSubstitutes", fn := fun _ => fun
  | [d1, d2] => { results := [.lit (.bool false)], args := [d1, d2] }
  | _ => none }
def EvaluateSubstitutesWrongFalsely : Prop := evaluateSubstitutesRow.holds Tryz.pinned (OpenSpec.ofChange evaluateSubstitutesWrong)

/- THE SECOND FORM. 'bulk': how many values and letters a reading holds, each counted each time it is reached (what is shared counts as often as it is met; a slice's spare places count too). A statement '..UptoSaid' is the law's where the arguments, and the package variables that the reading takes, are together of bulk at most 1048576: NARROWER than '..Said'. Prove '..Said' where nothing that the law and all that it calls make is longer than what came in: it says more and counts as full. Else prove '..UptoSaid'. A law counts once. -/
mutual
def uptoBulk {H : Type} : DataW H → Nat
  | .lit (.string bytes) => bytes.length + 1
  | .lit _ => 1
  | .nil => 1
  | .ptr d => uptoBulk d + 1
  | .slice elems spare => uptoBulkAll elems + uptoBulkAll spare + 1
  | .agg parts => uptoBulkAll parts + 1
  | .iface _ d => uptoBulk d + 1
  | .map entries => uptoBulkEntries entries + 1
  | .held _ => 1
def uptoBulkAll {H : Type} : List (DataW H) → Nat
  | [] => 0
  | d :: r => uptoBulk d + uptoBulkAll r
def uptoBulkEntries {H : Type} : List (Lit × DataW H) → Nat
  | [] => 0
  | x :: r => uptoBulkEntry x + uptoBulkEntries r
def uptoBulkEntry {H : Type} : Lit × DataW H → Nat
  | (.string bytes, d) => bytes.length + uptoBulk d + 1
  | (_, d) => uptoBulk d + 1
 end
def uptoSmall : (H : Type) → List (DataW H) → Bool := fun _ ds => decide (uptoBulkAll ds ≤ 1048576)
def OpenSpec.upto (s : _root_.Go.ChangeSpec) : _root_.Go.OpenSpec := { _root_.Go.OpenSpec.ofChange s with cond := some uptoSmall }

/-- 'cylinderlaw40.EvaluateFormulas', WHERE WHAT IT READS IS OF BULK AT MOST 1048576: true; the input reads as it did. -/
def evaluateFormulasUptoRow : OpenClaim := { program := "ytofbfplpbffpfaagreat", sum := "cecde0314a117b81e91c868461e998621e71b6f63d0532707cf3cee7992573bc", func := "cylinder/cylinderlaw40.EvaluateFormulas", spec := "evaluateFormulas", unfollowed := true, recurses := true, named := ["math/bits.overflowError"], loops := true, apart := false, narrowed := true }
def EvaluateFormulasUptoSaid : Prop := evaluateFormulasUptoRow.holds Tryz.pinned (OpenSpec.upto evaluateFormulasSpec)

/-- 'cylinderlaw40.EvaluateHolds', WHERE WHAT IT READS IS OF BULK AT MOST 1048576: true; the input reads as it did. -/
def evaluateHoldsUptoRow : OpenClaim := { program := "ytofbfplpbffpfaagreat", sum := "cecde0314a117b81e91c868461e998621e71b6f63d0532707cf3cee7992573bc", func := "cylinder/cylinderlaw40.EvaluateHolds", spec := "evaluateHolds", unfollowed := true, recurses := true, named := ["math/bits.overflowError"], apart := false, narrowed := true }
def EvaluateHoldsUptoSaid : Prop := evaluateHoldsUptoRow.holds Tryz.pinned (OpenSpec.upto evaluateHoldsSpec)

/-- 'cylinderlaw40.EvaluateTerms', WHERE WHAT IT READS IS OF BULK AT MOST 1048576: true; the input reads as it did. -/
def evaluateTermsUptoRow : OpenClaim := { program := "ytofbfplpbffpfaagreat", sum := "cecde0314a117b81e91c868461e998621e71b6f63d0532707cf3cee7992573bc", func := "cylinder/cylinderlaw40.EvaluateTerms", spec := "evaluateTerms", unfollowed := true, recurses := true, named := ["math/bits.overflowError"], loops := true, apart := false, narrowed := true }
def EvaluateTermsUptoSaid : Prop := evaluateTermsUptoRow.holds Tryz.pinned (OpenSpec.upto evaluateTermsSpec)

/-- 'cylinderlaw40.EvaluateSubstitutes', WHERE WHAT IT READS IS OF BULK AT MOST 1048576: true; the input reads as it did. -/
def evaluateSubstitutesUptoRow : OpenClaim := { program := "ytofbfplpbffpfaagreat", sum := "cecde0314a117b81e91c868461e998621e71b6f63d0532707cf3cee7992573bc", func := "cylinder/cylinderlaw40.EvaluateSubstitutes", spec := "evaluateSubstitutes", unfollowed := true, recurses := true, named := ["math/bits.overflowError"], loops := true, apart := false, narrowed := true }
def EvaluateSubstitutesUptoSaid : Prop := evaluateSubstitutesUptoRow.holds Tryz.pinned (OpenSpec.upto evaluateSubstitutesSpec)

end Rows
end Go.Proofs.YtofbfplpbffpfaaGreat
