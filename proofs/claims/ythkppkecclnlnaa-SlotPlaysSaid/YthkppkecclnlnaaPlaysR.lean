/- The walk of SlotPlays, its arguments in the row's order. -/
import Derived.Test.YthkppkecclnlnaaWalkPlaysA
import Derived.Test.YthkppkecclnlnaaWalkPlaysB
namespace Go.Proofs.Ythkppkecclnlnaa
open Go.RowKit
theorem slotPlays_w (w : World) (v0 v : Value) (zs : List Int) (hz : RowOf w .u8 v0 zs) (hzf : ∀ x ∈ zs, (Lit.int .u8 x).wf = true) (xs : List (List Int)) (hrow : RowsOf w 6 v xs) (hwf : ∀ x ∈ xs, ∀ y ∈ x, (Lit.int .i64 y).wf = true) :
    Calls Try.prog 12 #[v0, v] w fun e w' => e = .returned (.bool true) ∧ Below w.heap.size w w' :=
  if h : zs.length = 256 then slotPlays_full w v0 v zs xs hz hzf hrow hwf h else slotPlays_short w v0 v zs xs hz hzf hrow hwf h
end Go.Proofs.Ythkppkecclnlnaa
