/- The walk of the law GlyphClasses. -/
import Derived.Test.YteoehhkdmmcglaaAlive
import Derived.OpenShut
namespace Go.Proofs.Yteoehhkdmmcglaa
open Go.RowKit

set_option maxHeartbeats 400000 in
theorem glyphClasses_walk (r : Int) (wr : (Lit.int .i32 r).wf = true) (w : World) :
    Calls Try.prog 7 #[.int .i32 r] w fun e w' => e = .returned (.bool true) ∧ Below w.heap.size w w' := by
  have hr := bounds_i32 wr
  have hb : (classN r == classN r) = true := by simp
  go_enter Try.func7, Try.ntmps7
  go_wp2_with (first
    | (go_at_call 17; refine (alive_any _).mono ?_; rintro e w1 ⟨rfl, hB⟩)
    | (go_at_call 23; refine (class_any _ _).mono ?_; rintro e w2 ⟨rfl, rfl⟩)
    | (go_at_call 24; refine (refClass_any _ _).mono ?_; rintro e w2 ⟨rfl, rfl⟩))

  go_ret
  exact ⟨ret_bool (by simp), hB⟩
end Go.Proofs.Yteoehhkdmmcglaa
