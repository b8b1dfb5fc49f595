/- The walk of the law DiskNone. -/
import Derived.Test.YthkppkecclnlnaaGreatAliveD
namespace Go.Proofs.YthkppkecclnlnaaGreat
set_option linter.unusedVariables false
set_option linter.unusedSimpArgs false
open Go.RowKit

theorem may_nil (s : Int) (w : World) : Calls Tryz.prog 100 #[.pointer none, .int .i64 s] w fun e w' => e = .returned (.int .i64 100) ∧ Below w.heap.size w w' := by
  have HO := Lib.hid (on_nil w)
  go_enter Tryz.func100, Tryz.ntmps100
  go_wp2_with (go_at_call 103; refine HO.out.mono ?_; rintro e w1 ⟨rfl, hB1⟩)
  go_ret
  exact ⟨rfl, hB1⟩
theorem write_nil (s : Int) (v : Value) (w : World) : Calls Tryz.prog 74 #[.pointer none, .int .i64 s, v] w fun e w' => e = .returned (.int .i64 100) ∧ Below w.heap.size w w' := by
  have HO := Lib.hid (may_nil s w)
  go_enter Tryz.func74, Tryz.ntmps74
  go_wp2_with (go_at_call 100; refine HO.out.mono ?_; rintro e w1 ⟨rfl, hB1⟩)
  go_ret
  exact ⟨rfl, hB1⟩
theorem read_nil (s : Int) (w : World) : Calls Tryz.prog 99 #[.pointer none, .int .i64 s] w fun e w' => e = .returned (.tuple #[.slice none 0 0, .int .i64 100]) ∧ Below w.heap.size w w' := by
  have HO := Lib.hid (may_nil s w)
  go_enter Tryz.func99, Tryz.ntmps99
  go_wp2_with (go_at_call 100; refine HO.out.mono ?_; rintro e w1 ⟨rfl, hB1⟩)
  go_ret2
  exact ⟨rfl, hB1⟩
end Go.Proofs.YthkppkecclnlnaaGreat
