/- The walk of the law DiskNone. -/
import Derived.Test.YtpfiaepoibablaaAliveD
namespace Go.Proofs.Ytpfiaepoibablaa
set_option linter.unusedVariables false
set_option linter.unusedSimpArgs false
open Go.RowKit

theorem may_nil (s : Int) (w : World) : Calls Try.prog 80 #[.pointer none, .int .i64 s] w fun e w' => e = .returned (.int .i64 100) ∧ Below w.heap.size w w' := by
  have HO := Lib.hid (on_nil w)
  go_enter Try.func80, Try.ntmps80
  go_wp2_with (go_at_call 31; refine HO.out.mono ?_; rintro e w1 ⟨rfl, hB1⟩)
  go_ret
  exact ⟨rfl, hB1⟩
theorem write_nil (s : Int) (v : Value) (w : World) : Calls Try.prog 16 #[.pointer none, .int .i64 s, v] w fun e w' => e = .returned (.int .i64 100) ∧ Below w.heap.size w w' := by
  have HO := Lib.hid (may_nil s w)
  go_enter Try.func16, Try.ntmps16
  go_wp2_with (go_at_call 80; refine HO.out.mono ?_; rintro e w1 ⟨rfl, hB1⟩)
  go_ret
  exact ⟨rfl, hB1⟩
theorem read_nil (s : Int) (w : World) : Calls Try.prog 17 #[.pointer none, .int .i64 s] w fun e w' => e = .returned (.tuple #[.slice none 0 0, .int .i64 100]) ∧ Below w.heap.size w w' := by
  have HO := Lib.hid (may_nil s w)
  go_enter Try.func17, Try.ntmps17
  go_wp2_with (go_at_call 80; refine HO.out.mono ?_; rintro e w1 ⟨rfl, hB1⟩)
  go_ret2
  exact ⟨rfl, hB1⟩
theorem twin_nil (w : World) : Calls Try.prog 11 #[.pointer none] w fun e w' => e = .returned (.pointer none) ∧ Below w.heap.size w w' := by
  go_enter Try.func11, Try.ntmps11
  go_wp2_with fail
  go_ret
  exact ⟨rfl, Below.refl _ _⟩
end Go.Proofs.Ytpfiaepoibablaa
