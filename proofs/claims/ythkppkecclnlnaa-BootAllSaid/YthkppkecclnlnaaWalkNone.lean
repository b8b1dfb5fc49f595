/- The walk of the law DiskNone. -/
import Derived.Test.YthkppkecclnlnaaAliveD
namespace Go.Proofs.Ythkppkecclnlnaa
set_option linter.unusedVariables false
set_option linter.unusedSimpArgs false
open Go.RowKit

theorem may_nil (s : Int) (w : World) : Calls Try.prog 58 #[.pointer none, .int .i64 s] w fun e w' => e = .returned (.int .i64 100) ∧ Below w.heap.size w w' := by
  have HO := Lib.hid (on_nil w)
  go_enter Try.func58, Try.ntmps58
  go_wp2_with (go_at_call 28; refine HO.out.mono ?_; rintro e w1 ⟨rfl, hB1⟩)
  go_ret
  exact ⟨rfl, hB1⟩
theorem write_nil (s : Int) (v : Value) (w : World) : Calls Try.prog 23 #[.pointer none, .int .i64 s, v] w fun e w' => e = .returned (.int .i64 100) ∧ Below w.heap.size w w' := by
  have HO := Lib.hid (may_nil s w)
  go_enter Try.func23, Try.ntmps23
  go_wp2_with (go_at_call 58; refine HO.out.mono ?_; rintro e w1 ⟨rfl, hB1⟩)
  go_ret
  exact ⟨rfl, hB1⟩
theorem read_nil (s : Int) (w : World) : Calls Try.prog 32 #[.pointer none, .int .i64 s] w fun e w' => e = .returned (.tuple #[.slice none 0 0, .int .i64 100]) ∧ Below w.heap.size w w' := by
  have HO := Lib.hid (may_nil s w)
  go_enter Try.func32, Try.ntmps32
  go_wp2_with (go_at_call 58; refine HO.out.mono ?_; rintro e w1 ⟨rfl, hB1⟩)
  go_ret2
  exact ⟨rfl, hB1⟩
theorem twin_nil (w : World) : Calls Try.prog 33 #[.pointer none] w fun e w' => e = .returned (.pointer none) ∧ Below w.heap.size w w' := by
  go_enter Try.func33, Try.ntmps33
  go_wp2_with fail
  go_ret
  exact ⟨rfl, Below.refl _ _⟩
set_option maxRecDepth 100000 in
set_option maxHeartbeats 1000000 in
theorem diskNone_walk (w : World) (a0 a1 : Int) (v : Value) (h0 : (Lit.int .i64 a0).wf = true) (h1 : (Lit.int .i64 a1).wf = true) (x : List Int) (hx : RowOf w .u8 v x) (hw : ∀ y ∈ x, (Lit.int .u8 y).wf = true) :
    Calls Try.prog 5 #[.int .i64 a0, .int .i64 a1, v] w fun e w' => e = .returned (.bool true) ∧ Below w.heap.size w w' := by
  go_enter Try.func5, Try.ntmps5
  go_wp2_with (first
    | (go_at_call 22; refine (fuse_nil _ _).mono ?_; rintro e w1 ⟨rfl, hB1⟩)
    | (go_at_call 31; refine (cut_nil _).mono ?_; rintro e w2 ⟨rfl, hB2⟩; have hB2 := below_then hB1 hB2)
    | (go_at_call 30; refine (restore_nil _).mono ?_; rintro e w3 ⟨rfl, hB3⟩; have hB3 := below_then hB2 hB3)
    | (go_at_call 23; refine (write_nil _ _ _).mono ?_; rintro e w4 ⟨rfl, hB4⟩; have hB4 := below_then hB3 hB4)
    | (go_at_call 32; refine (read_nil _ _).mono ?_; rintro e w5 ⟨rfl, hB5⟩; have hB5 := below_then hB4 hB5)
    | (go_at_call 20; refine (alive_any _).mono ?_; rintro e w6 ⟨rfl, hB6⟩; have hB6 := below_then hB5 hB6)
    | (go_at_call 29; refine (left_nil _).mono ?_; rintro e w7 ⟨rfl, hB7⟩; have hB7 := below_then hB6 hB7)
    | (go_at_call 28; refine (on_nil _).mono ?_; rintro e w8 ⟨rfl, hB8⟩; have hB8 := below_then hB7 hB8)
    | (go_at_call 27; refine (writes_nil _).mono ?_; rintro e w9 ⟨rfl, hB9⟩; have hB9 := below_then hB8 hB9)
    | (go_at_call 25; refine (image_nil _).mono ?_; rintro e w10 ⟨rfl, hB10⟩; have hB10 := below_then hB9 hB10)
    | (go_at_call 33; refine (twin_nil _).mono ?_; rintro e w11 ⟨rfl, hB11⟩; have hB11 := below_then hB10 hB11))
  go_ret
  exact ⟨rfl, hB11⟩
end Go.Proofs.Ythkppkecclnlnaa
