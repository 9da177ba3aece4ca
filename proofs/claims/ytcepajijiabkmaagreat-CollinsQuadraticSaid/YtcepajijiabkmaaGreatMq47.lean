/- Layer 24: pseudo.exact where it divides. -/
import Derived.Test.YtcepajijiabkmaaGreatMq46
set_option linter.unusedSimpArgs false
set_option linter.unusedVariables false
namespace Go.Proofs.YtcepajijiabkmaaGreat
open Go.RowKit
end Go.Proofs.YtcepajijiabkmaaGreat
