/- Walks: the document's Decode. -/
import Derived.Test.YtpfiaepoibablaaRefB
namespace Go.Proofs.Ytpfiaepoibablaa
set_option linter.unusedVariables false
set_option linter.unusedSimpArgs false
open Go.RowKit

end Go.Proofs.Ytpfiaepoibablaa
