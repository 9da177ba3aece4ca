/-
  No cell of these rows narrows 'for every input' (looked for: loops, veiled, ifaces, maps, wideKeys, modest, calm, conditions, laid).
  DERIVED. THE GIVEN ROWS OF THIS SEAT. 3 by the template 'for every input the law returns true; each argument reads behind the call as it read before'; 0 by the template 'total and deterministic' (their statements: YtcepajijiabkmaaGreatTotals.lean).
  GIVEN WITH THE SEED: the statements are not yours to turn. If you find one false, say at which input.
  Laid BY PROGRAM, IN A SANDBOX (cutbox-rows.mjs): the forced cells as the released guide's own fill.sh prints them over the translation 00630a0c31c07ea8… (all of the seat's roots in one cut). By AI agents, Wed Nov 11 2026. No macro, syntax, notation, axiom, sorry.
-/
import Derived.Test.YtcepajijiabkmaaGreatChecked
import GoSem.Claim
import GoSem.ClaimJoined
import GoSem.ClaimMapViews
import Derived.JoinedTies
import Derived.KernelRfl
namespace Go.Proofs.YtcepajijiabkmaaGreat
/- THE CELL 'sum', in the pinned program and in every row, IS THE sha256 OF THE DUMP (.gsa) THAT YtcepajijiabkmaaGreatProg.lean LOADS. Nothing in Lean hashes anything: it is a label: what it is worth is what the hold of that sum in a sandbox is worth. -/
noncomputable def Tryz.pinned : Pinned := { name := "ytcepajijiabkmaagreat", sum := "00630a0c31c07ea8cd30b0bd4ee1decdba48b18741134e1449bd799a095d32f9", checked := Tryz.checked }
namespace Rows
def none {H : Type} : Left H := { results := [], args := [] }

/-- 'cylinderlaw41.CollinsQuadratic': WHATEVER THE INPUT: true; the input reads as it did. -/
def collinsQuadraticSpec : ChangeSpec := { name := "collinsQuadratic", fn := fun _ => fun
  | [d1, d2, d3] => { results := [.lit (.bool true)], args := [d1, d2, d3] }
  | _ => none }
def collinsQuadraticRow : OpenClaim := { program := "ytcepajijiabkmaagreat", sum := "00630a0c31c07ea8cd30b0bd4ee1decdba48b18741134e1449bd799a095d32f9", func := "cylinder/cylinderlaw41.CollinsQuadratic", spec := "collinsQuadratic", unfollowed := true, recurses := true, named := ["math/bits.overflowError"], plainKeys := false, apart := false }
def CollinsQuadraticSaid : Prop := collinsQuadraticRow.holds Tryz.pinned (OpenSpec.ofChange collinsQuadraticSpec)

/-- ITS FALSE NEIGHBOUR: 'it returns false'. Refute it at one input. -/
def collinsQuadraticWrong : ChangeSpec := { name := "collinsQuadratic", fn := fun _ => fun
  | [d1, d2, d3] => { results := [.lit (.bool false)], args := [d1, d2, d3] }
  | _ => none }
def CollinsQuadraticWrongFalsely : Prop := collinsQuadraticRow.holds Tryz.pinned (OpenSpec.ofChange collinsQuadraticWrong)

/-- 'cylinderlaw41.CollinsProject': WHATEVER THE INPUT: true; the input reads as it did. -/
def collinsProjectSpec : ChangeSpec := { name := "collinsProject", fn := fun _ => fun
  | [d1, d2] => { results := [.lit (.bool true)], args := [d1, d2] }
  | _ => none }
def collinsProjectRow : OpenClaim := { program := "ytcepajijiabkmaagreat", sum := "00630a0c31c07ea8cd30b0bd4ee1decdba48b18741134e1449bd799a095d32f9", func := "cylinder/cylinderlaw41.CollinsProject", spec := "collinsProject", unfollowed := true, recurses := true, named := ["math/bits.overflowError"], plainKeys := false, apart := false }
def CollinsProjectSaid : Prop := collinsProjectRow.holds Tryz.pinned (OpenSpec.ofChange collinsProjectSpec)

/-- ITS FALSE NEIGHBOUR: 'it returns false'. Refute it at one input. -/
def collinsProjectWrong : ChangeSpec := { name := "collinsProject", fn := fun _ => fun
  | [d1, d2] => { results := [.lit (.bool false)], args := [d1, d2] }
  | _ => none }
def CollinsProjectWrongFalsely : Prop := collinsProjectRow.holds Tryz.pinned (OpenSpec.ofChange collinsProjectWrong)

/-- 'cylinderlaw41.CollinsOrder': WHATEVER THE INPUT: true; the input reads as it did. -/
def collinsOrderSpec : ChangeSpec := { name := "collinsOrder", fn := fun _ => fun
  | [d1, d2] => { results := [.lit (.bool true)], args := [d1, d2] }
  | _ => none }
def collinsOrderRow : OpenClaim := { program := "ytcepajijiabkmaagreat", sum := "00630a0c31c07ea8cd30b0bd4ee1decdba48b18741134e1449bd799a095d32f9", func := "cylinder/cylinderlaw41.CollinsOrder", spec := "collinsOrder", unfollowed := true, recurses := true, named := ["math/bits.overflowError"], plainKeys := false, apart := false }
def CollinsOrderSaid : Prop := collinsOrderRow.holds Tryz.pinned (OpenSpec.ofChange collinsOrderSpec)

/-- ITS FALSE NEIGHBOUR: 'it returns false'. Refute it at one input. -/
def collinsOrderWrong : ChangeSpec := { name := "collinsOrder", fn := fun _ => fun
  | [d1, d2] => { results := [.lit (.bool false)], args := [d1, d2] }
  | _ => none }
def CollinsOrderWrongFalsely : Prop := collinsOrderRow.holds Tryz.pinned (OpenSpec.ofChange collinsOrderWrong)

/- THE SECOND FORM. 'bulk': how many values and letters a reading holds, each counted each time it is reached (what is shared counts as often as it is met; a slice's spare places count too). A statement '..UptoSaid' is the law's where the arguments, and the package variables that the reading takes, are together of bulk at most 1048576: NARROWER than '..Said'. Prove '..Said' where nothing that the law and all that it calls make is longer than what came in: it says more and counts as full. Else prove '..UptoSaid'. A law counts once. -/
mutual
def uptoBulk {H : Type} : DataW H → Nat
  | .lit (.string bytes) => bytes.length + 1
  | .lit _ => 1
  | .nil => 1
  | .ptr d => uptoBulk d + 1
  | .slice elems spare => uptoBulkAll elems + uptoBulkAll spare + 1
  | .agg parts => uptoBulkAll parts + 1
  | .iface _ d => uptoBulk d + 1
  | .map entries => uptoBulkEntries entries + 1
  | .held _ => 1
def uptoBulkAll {H : Type} : List (DataW H) → Nat
  | [] => 0
  | d :: r => uptoBulk d + uptoBulkAll r
def uptoBulkEntries {H : Type} : List (Lit × DataW H) → Nat
  | [] => 0
  | x :: r => uptoBulkEntry x + uptoBulkEntries r
def uptoBulkEntry {H : Type} : Lit × DataW H → Nat
  | (.string bytes, d) => bytes.length + uptoBulk d + 1
  | (_, d) => uptoBulk d + 1
 end
def uptoSmall : (H : Type) → List (DataW H) → Bool := fun _ ds => decide (uptoBulkAll ds ≤ 1048576)
def OpenSpec.upto (s : _root_.Go.ChangeSpec) : _root_.Go.OpenSpec := { _root_.Go.OpenSpec.ofChange s with cond := some uptoSmall }

/-- 'cylinderlaw41.CollinsQuadratic', WHERE WHAT IT READS IS OF BULK AT MOST 1048576: true; the input reads as it did. -/
def collinsQuadraticUptoRow : OpenClaim := { program := "ytcepajijiabkmaagreat", sum := "00630a0c31c07ea8cd30b0bd4ee1decdba48b18741134e1449bd799a095d32f9", func := "cylinder/cylinderlaw41.CollinsQuadratic", spec := "collinsQuadratic", unfollowed := true, recurses := true, named := ["math/bits.overflowError"], plainKeys := false, apart := false, narrowed := true }
def CollinsQuadraticUptoSaid : Prop := collinsQuadraticUptoRow.holds Tryz.pinned (OpenSpec.upto collinsQuadraticSpec)

/-- 'cylinderlaw41.CollinsProject', WHERE WHAT IT READS IS OF BULK AT MOST 1048576: true; the input reads as it did. -/
def collinsProjectUptoRow : OpenClaim := { program := "ytcepajijiabkmaagreat", sum := "00630a0c31c07ea8cd30b0bd4ee1decdba48b18741134e1449bd799a095d32f9", func := "cylinder/cylinderlaw41.CollinsProject", spec := "collinsProject", unfollowed := true, recurses := true, named := ["math/bits.overflowError"], plainKeys := false, apart := false, narrowed := true }
def CollinsProjectUptoSaid : Prop := collinsProjectUptoRow.holds Tryz.pinned (OpenSpec.upto collinsProjectSpec)

/-- 'cylinderlaw41.CollinsOrder', WHERE WHAT IT READS IS OF BULK AT MOST 1048576: true; the input reads as it did. -/
def collinsOrderUptoRow : OpenClaim := { program := "ytcepajijiabkmaagreat", sum := "00630a0c31c07ea8cd30b0bd4ee1decdba48b18741134e1449bd799a095d32f9", func := "cylinder/cylinderlaw41.CollinsOrder", spec := "collinsOrder", unfollowed := true, recurses := true, named := ["math/bits.overflowError"], plainKeys := false, apart := false, narrowed := true }
def CollinsOrderUptoSaid : Prop := collinsOrderUptoRow.holds Tryz.pinned (OpenSpec.upto collinsOrderSpec)

end Rows
end Go.Proofs.YtcepajijiabkmaaGreat
