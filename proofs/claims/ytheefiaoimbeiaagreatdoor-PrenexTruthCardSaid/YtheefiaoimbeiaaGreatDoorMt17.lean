/- Layer 34: formula.PlainTerm, formula.Plain. -/
import Derived.Test.YtheefiaoimbeiaaGreatDoorMt6
import Derived.Test.YtheefiaoimbeiaaGreatDoorMt3
import Derived.Test.YtheefiaoimbeiaaGreatDoorMt2
set_option linter.unusedSimpArgs false
set_option linter.unusedVariables false

namespace Go.Proofs.YtheefiaoimbeiaaGreatDoor
open Go.RowKit
attribute [local go_sem] xaa xy gaa zaa kaa jaa yaa yt qy qaa uaa yad qm vaa ut
end Go.Proofs.YtheefiaoimbeiaaGreatDoor
