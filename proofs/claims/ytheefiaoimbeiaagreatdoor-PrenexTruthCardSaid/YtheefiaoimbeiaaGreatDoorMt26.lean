/- Layer 40: the value of a term. -/
import Derived.Test.YtheefiaoimbeiaaGreatDoorMt14
import Derived.Test.YtheefiaoimbeiaaGreatDoorMt24
import Derived.Test.YtheefiaoimbeiaaGreatDoorMt3
set_option linter.unusedSimpArgs false
set_option linter.unusedVariables false

namespace Go.Proofs.YtheefiaoimbeiaaGreatDoor
open Go.RowKit
attribute [local go_sem] xaa xy gaa zaa kaa jaa yaa yt qy qaa uaa yad qm vaa ut
section
variable {w0 w:World} {L b:Nat} {g:ByteArray->Option Rat}
end
end Go.Proofs.YtheefiaoimbeiaaGreatDoor
