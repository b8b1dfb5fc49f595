/- Walks: glyph.Mend: a builder within a range over a text. -/
import Derived.Test.YtcfbbmgpfeholaaRange
import Derived.Test.YtcfbbmgpfeholaaWorld
import Derived.Test.YtcfbbmgpfeholaaRunes
import Derived.Test.YtcfbbmgpfeholaaShelf
namespace Go.Proofs.Ytcfbbmgpfeholaa
set_option linter.unusedVariables false
open Go.RowKit

theorem enc_cells (r : Nat) (h : okR r) : Lib.runeCells (r : Int) = Lib.byteCells (enc r) := by rw [← enc_encodeRune h, Lib.byteCells_encodeRune]

end Go.Proofs.Ytcfbbmgpfeholaa
