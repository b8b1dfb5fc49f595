/- Walk: earshotlaw1.alive answers true. -/
import Derived.Test.YtcfbbmgpfeholaaNth
namespace Go.Proofs.Ytcfbbmgpfeholaa
set_option linter.unusedVariables false
open Go.RowKit

theorem alive_nth : nthV ⟨#[97, 195, 169, 226, 152, 131]⟩ 2 = .tuple #[.agg #[.int .i32 9731, .int .i64 3, .int .i64 3, .bool false], .int .i64 0] := by kernel_rfl
theorem alive_len : (st ⟨#[97, 195, 169, 226, 152, 131]⟩ 0).length = 3 := by decide +kernel

set_option maxHeartbeats 400000 in
theorem alive_any (w : World) :
    Calls Try.prog 5 #[] w fun e w' => e = .returned (.bool true) ∧ Below w.heap.size w w' := by
  have H1 : Hid (∀ w, Calls Try.prog 14 #[.string ⟨#[97, 195, 169, 226, 152, 131]⟩, .int .i64 2] w fun e w' =>
      e = .returned (.tuple #[.agg #[.int .i32 9731, .int .i64 3, .int .i64 3, .bool false], .int .i64 0]) ∧ Below w.heap.size w w') := Lib.hid (fun w => by
    have := nth_any ⟨#[97, 195, 169, 226, 152, 131]⟩ 2 (by decide) w
    rwa [alive_nth] at this)
  have H2 : Hid (∀ w, Calls Try.prog 15 #[.string ⟨#[97, 195, 169, 226, 152, 131]⟩] w fun e w' => e = .returned (.int .i64 3) ∧ Below w.heap.size w w') := Lib.hid (fun w => by
    have := count_any ⟨#[97, 195, 169, 226, 152, 131]⟩ (by decide) w
    rwa [alive_len] at this)
  go_enter Try.func5, Try.ntmps5
  go_wp2_with (go_at_call 14; refine (H1.out _).mono ?_; rintro e w1 ⟨rfl, hB⟩)
  refine (H2.out _).mono ?_
  rintro e w2 ⟨rfl, hB2⟩
  obtain ⟨c0, c1, c2, c3, f0, f1, f2, f3⟩ := four_cells (blk_below' hB2 (blk_new _ _))
  have hbl : Below w.heap.size w w2 := (hB.alloc hB.size _).trans (hB2.mono (by simp; have := hB.size; omega))
  clear hB hB2
  go_wp2
  go_ret
  exact ⟨rfl, hbl⟩

end Go.Proofs.Ytcfbbmgpfeholaa
