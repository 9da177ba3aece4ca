/-
  DERIVED. GIVEN WITH THE SEED: THE CARDS: each row of YtaedbimbbeploaaGreatDoorRows.lean that lists a variable, with what it lists TIED to the program's text (the seventh form; the later family's looks); each row that meets fmt, with fmt's text TOLD by the authors' own Lean function (tested against real Go, not proved from fmt's source: count such statements apart). THE CARD IS WHAT COUNTS. Prove the row's statement (the work); the ties are given (YtaedbimbbeploaaGreatDoorTie.lean); close each card by the builder's one call (the guide's Derived/Test/ToyasCard.lean, 'card_holds'). Laid BY PROGRAM, IN A SANDBOX (cutbox-door.mjs). By AI agents, Wed Nov 11 2026. No macro, syntax, notation, axiom, sorry.
-/
import Derived.Test.YtaedbimbbeploaaGreatDoorRows
import GoSem.ClaimSeven
namespace Go.Proofs.YtaedbimbbeploaaGreatDoor
namespace Rows

/-- THE TIED CARD OF 'cylinderlaw38.PrenexNegates'. -/
def prenexNegatesCard : Claim7 := { stood := { row := prenexNegatesRow, standIns := [], harness := (true, "4038e01535e211f261e9d55ee65fe8a95351db20c49877f250a7a0cd09ddf2e8"), looks := true }, kinds := [], alts := [], laidByText := true, laidKinds := [.data, .data, .data], laidTests := true, laidLooks := .later }
def PrenexNegatesCardSaid : Prop := Claim7.holds Tryz.pinned (.plain (OpenSpec.ofChange prenexNegatesSpec)) prenexNegatesCard

/-- THE TIED CARD OF 'cylinderlaw38.PrenexTerms'. -/
def prenexTermsCard : Claim7 := { stood := { row := prenexTermsRow, standIns := [], harness := (true, "4038e01535e211f261e9d55ee65fe8a95351db20c49877f250a7a0cd09ddf2e8"), looks := true }, kinds := [], alts := [], laidByText := true, laidKinds := [.data, .data, .data], laidTests := true, laidLooks := .later }
def PrenexTermsCardSaid : Prop := Claim7.holds Tryz.pinned (.plain (OpenSpec.ofChange prenexTermsSpec)) prenexTermsCard

/-- THE TIED CARD OF 'cylinderlaw38.PrenexBack'. -/
def prenexBackCard : Claim7 := { stood := { row := prenexBackRow, standIns := [], harness := (true, "4038e01535e211f261e9d55ee65fe8a95351db20c49877f250a7a0cd09ddf2e8"), looks := true }, kinds := [], alts := [], laidByText := true, laidKinds := [.data, .data, .data], laidTests := true, laidLooks := .later }
def PrenexBackCardSaid : Prop := Claim7.holds Tryz.pinned (.plain (OpenSpec.ofChange prenexBackSpec)) prenexBackCard

/-- THE TIED CARD OF 'cylinderlaw38.PrenexForms'. -/
def prenexFormsCard : Claim7 := { stood := { row := prenexFormsRow, standIns := [], harness := (true, "4038e01535e211f261e9d55ee65fe8a95351db20c49877f250a7a0cd09ddf2e8"), looks := true }, kinds := [], alts := [], laidByText := true, laidKinds := [.data, .data, .data], laidTests := true, laidLooks := .later }
def PrenexFormsCardSaid : Prop := Claim7.holds Tryz.pinned (.plain (OpenSpec.ofChange prenexFormsSpec)) prenexFormsCard

/-- THE TIED CARD OF 'cylinderlaw38.PrenexBodies'. -/
def prenexBodiesCard : Claim7 := { stood := { row := prenexBodiesRow, standIns := [], harness := (true, "4038e01535e211f261e9d55ee65fe8a95351db20c49877f250a7a0cd09ddf2e8"), looks := true }, kinds := [], alts := [], laidByText := true, laidKinds := [.data, .data, .data], laidTests := true, laidLooks := .later }
def PrenexBodiesCardSaid : Prop := Claim7.holds Tryz.pinned (.plain (OpenSpec.ofChange prenexBodiesSpec)) prenexBodiesCard

/-- THE TIED CARD OF 'cylinderlaw38.PrenexTruth'. -/
def prenexTruthCard : Claim7 := { stood := { row := prenexTruthRow, standIns := [], harness := (true, "4038e01535e211f261e9d55ee65fe8a95351db20c49877f250a7a0cd09ddf2e8"), looks := true }, kinds := [], alts := [], laidByText := true, laidKinds := [.data, .data, .data], laidTests := true, laidLooks := .later }
def PrenexTruthCardSaid : Prop := Claim7.holds Tryz.pinned (.plain (OpenSpec.ofChange prenexTruthSpec)) prenexTruthCard

/-- THE SECOND FORM's CARD OF 'cylinderlaw38.PrenexNegates'. -/
def prenexNegatesUptoCard : Claim7 := { stood := { row := prenexNegatesUptoRow, standIns := [], harness := (true, "4038e01535e211f261e9d55ee65fe8a95351db20c49877f250a7a0cd09ddf2e8"), looks := true }, kinds := [], alts := [], laidByText := true, laidKinds := [.data, .data, .data], laidTests := true, laidLooks := .later }
def PrenexNegatesUptoCardSaid : Prop := Claim7.holds Tryz.pinned (.plain (OpenSpec.upto prenexNegatesSpec)) prenexNegatesUptoCard

/-- THE SECOND FORM's CARD OF 'cylinderlaw38.PrenexTerms'. -/
def prenexTermsUptoCard : Claim7 := { stood := { row := prenexTermsUptoRow, standIns := [], harness := (true, "4038e01535e211f261e9d55ee65fe8a95351db20c49877f250a7a0cd09ddf2e8"), looks := true }, kinds := [], alts := [], laidByText := true, laidKinds := [.data, .data, .data], laidTests := true, laidLooks := .later }
def PrenexTermsUptoCardSaid : Prop := Claim7.holds Tryz.pinned (.plain (OpenSpec.upto prenexTermsSpec)) prenexTermsUptoCard

/-- THE SECOND FORM's CARD OF 'cylinderlaw38.PrenexBack'. -/
def prenexBackUptoCard : Claim7 := { stood := { row := prenexBackUptoRow, standIns := [], harness := (true, "4038e01535e211f261e9d55ee65fe8a95351db20c49877f250a7a0cd09ddf2e8"), looks := true }, kinds := [], alts := [], laidByText := true, laidKinds := [.data, .data, .data], laidTests := true, laidLooks := .later }
def PrenexBackUptoCardSaid : Prop := Claim7.holds Tryz.pinned (.plain (OpenSpec.upto prenexBackSpec)) prenexBackUptoCard

/-- THE SECOND FORM's CARD OF 'cylinderlaw38.PrenexForms'. -/
def prenexFormsUptoCard : Claim7 := { stood := { row := prenexFormsUptoRow, standIns := [], harness := (true, "4038e01535e211f261e9d55ee65fe8a95351db20c49877f250a7a0cd09ddf2e8"), looks := true }, kinds := [], alts := [], laidByText := true, laidKinds := [.data, .data, .data], laidTests := true, laidLooks := .later }
def PrenexFormsUptoCardSaid : Prop := Claim7.holds Tryz.pinned (.plain (OpenSpec.upto prenexFormsSpec)) prenexFormsUptoCard

/-- THE SECOND FORM's CARD OF 'cylinderlaw38.PrenexBodies'. -/
def prenexBodiesUptoCard : Claim7 := { stood := { row := prenexBodiesUptoRow, standIns := [], harness := (true, "4038e01535e211f261e9d55ee65fe8a95351db20c49877f250a7a0cd09ddf2e8"), looks := true }, kinds := [], alts := [], laidByText := true, laidKinds := [.data, .data, .data], laidTests := true, laidLooks := .later }
def PrenexBodiesUptoCardSaid : Prop := Claim7.holds Tryz.pinned (.plain (OpenSpec.upto prenexBodiesSpec)) prenexBodiesUptoCard

/-- THE SECOND FORM's CARD OF 'cylinderlaw38.PrenexTruth'. -/
def prenexTruthUptoCard : Claim7 := { stood := { row := prenexTruthUptoRow, standIns := [], harness := (true, "4038e01535e211f261e9d55ee65fe8a95351db20c49877f250a7a0cd09ddf2e8"), looks := true }, kinds := [], alts := [], laidByText := true, laidKinds := [.data, .data, .data], laidTests := true, laidLooks := .later }
def PrenexTruthUptoCardSaid : Prop := Claim7.holds Tryz.pinned (.plain (OpenSpec.upto prenexTruthSpec)) prenexTruthUptoCard
end Rows
end Go.Proofs.YtaedbimbbeploaaGreatDoor
