/-
  DERIVED. GIVEN WITH THE SEED: THE CARDS: each row of YtheefiaoimbeiaaGreatDoorRows.lean that lists a variable, with what it lists TIED to the program's text (the seventh form; the later family's looks); each row that meets fmt, with fmt's text TOLD by the authors' own Lean function (tested against real Go, not proved from fmt's source: count such statements apart). THE CARD IS WHAT COUNTS. Prove the row's statement (the work); the ties are given (YtheefiaoimbeiaaGreatDoorTie.lean); close each card by the builder's one call (the guide's Derived/Test/ToyasCard.lean, 'card_holds'). Laid BY PROGRAM, IN A SANDBOX (cutbox-door.mjs). By AI agents, Wed Nov 11 2026. No macro, syntax, notation, axiom, sorry.
-/
import Derived.Test.YtheefiaoimbeiaaGreatDoorRows
import GoSem.ClaimSeven
namespace Go.Proofs.YtheefiaoimbeiaaGreatDoor
namespace Rows

/-- THE TIED CARD OF 'cylinderlaw38.PrenexTruth'. -/
def prenexTruthCard : Claim7 := { stood := { row := prenexTruthRow, standIns := [], harness := (true, "b97ba35d8407b8181d843439f516b5bc0ff7270cf4b44ea1d3d2536ac07d7ba0"), looks := true }, kinds := [], alts := [], laidByText := true, laidKinds := [.data, .data, .data], laidTests := true, laidLooks := .later }
def PrenexTruthCardSaid : Prop := Claim7.holds Tryz.pinned (.plain (OpenSpec.ofChange prenexTruthSpec)) prenexTruthCard

/-- THE TIED CARD OF 'cylinderlaw40.EvaluateForms'. -/
def evaluateFormsCard : Claim7 := { stood := { row := evaluateFormsRow, standIns := [], harness := (true, "b97ba35d8407b8181d843439f516b5bc0ff7270cf4b44ea1d3d2536ac07d7ba0"), looks := true }, kinds := [], alts := [], laidByText := true, laidKinds := [.data, .data, .data], laidTests := true, laidLooks := .later }
def EvaluateFormsCardSaid : Prop := Claim7.holds Tryz.pinned (.plain (OpenSpec.ofChange evaluateFormsSpec)) evaluateFormsCard

/-- THE SECOND FORM's CARD OF 'cylinderlaw38.PrenexTruth'. -/
def prenexTruthUptoCard : Claim7 := { stood := { row := prenexTruthUptoRow, standIns := [], harness := (true, "b97ba35d8407b8181d843439f516b5bc0ff7270cf4b44ea1d3d2536ac07d7ba0"), looks := true }, kinds := [], alts := [], laidByText := true, laidKinds := [.data, .data, .data], laidTests := true, laidLooks := .later }
def PrenexTruthUptoCardSaid : Prop := Claim7.holds Tryz.pinned (.plain (OpenSpec.upto prenexTruthSpec)) prenexTruthUptoCard

/-- THE SECOND FORM's CARD OF 'cylinderlaw40.EvaluateForms'. -/
def evaluateFormsUptoCard : Claim7 := { stood := { row := evaluateFormsUptoRow, standIns := [], harness := (true, "b97ba35d8407b8181d843439f516b5bc0ff7270cf4b44ea1d3d2536ac07d7ba0"), looks := true }, kinds := [], alts := [], laidByText := true, laidKinds := [.data, .data, .data], laidTests := true, laidLooks := .later }
def EvaluateFormsUptoCardSaid : Prop := Claim7.holds Tryz.pinned (.plain (OpenSpec.upto evaluateFormsSpec)) evaluateFormsUptoCard
end Rows
end Go.Proofs.YtheefiaoimbeiaaGreatDoor
