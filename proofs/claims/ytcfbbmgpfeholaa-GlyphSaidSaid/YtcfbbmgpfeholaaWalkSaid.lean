/- The walk of the law GlyphSaid. -/
import Derived.Test.YtcfbbmgpfeholaaSaidOf
import Derived.Test.YtcfbbmgpfeholaaEscape
namespace Go.Proofs.Ytcfbbmgpfeholaa
open Go.RowKit

theorem glyphSaid_walk (s : ByteArray) (hs : s.size ≤ 140737488351232) (w : World) :
    Calls Try.prog 3 #[.string s] w fun e w' => e = .returned (.bool true) ∧ Below w.heap.size w w' :=
  glyphSaid_of s hs (fun t h1 h2 w => escape_any t h1 h2 w) w
end Go.Proofs.Ytcfbbmgpfeholaa
