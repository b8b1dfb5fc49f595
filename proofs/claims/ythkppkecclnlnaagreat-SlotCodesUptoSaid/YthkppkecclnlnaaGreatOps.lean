/- Walks: the disk's small functions. -/
import Derived.Test.YthkppkecclnlnaaGreatDisk
import Derived.Test.YthkppkecclnlnaaGreatArgs
import Derived.IntWalk
namespace Go.Proofs.YthkppkecclnlnaaGreat
set_option linter.unusedVariables false
set_option linter.unusedSimpArgs false
open Go.RowKit

theorem on_any (b : Nat) (d : Dk) (w : World) (h : DkAt w b d) : Calls Tryz.prog 103 #[.pointer (some ⟨b, 0, none⟩)] w fun e w' => e = .returned (.bool (!d.off)) ∧ Below w.heap.size w w' := by
  obtain ⟨c0, c1, c2, c3⟩ := h.cells
  go_enter Tryz.func103, Tryz.ntmps103
  go_wp2_with fail
  go_ret
  exact ⟨rfl, (Below.refl _ _)⟩
theorem on_nil (w : World) : Calls Tryz.prog 103 #[.pointer none] w fun e w' => e = .returned (.bool false) ∧ Below w.heap.size w w' := by
  go_enter Tryz.func103, Tryz.ntmps103
  go_wp2_with fail
  go_ret
  exact ⟨rfl, (Below.refl _ _)⟩
theorem writes_any (b : Nat) (d : Dk) (w : World) (h : DkAt w b d) : Calls Tryz.prog 17 #[.pointer (some ⟨b, 0, none⟩)] w fun e w' => e = .returned (.int .i64 d.writes) ∧ Below w.heap.size w w' := by
  obtain ⟨c0, c1, c2, c3⟩ := h.cells
  go_enter Tryz.func17, Tryz.ntmps17
  go_wp2_with fail
  go_ret
  exact ⟨rfl, (Below.refl _ _)⟩
theorem writes_nil (w : World) : Calls Tryz.prog 17 #[.pointer none] w fun e w' => e = .returned (.int .i64 0) ∧ Below w.heap.size w w' := by
  go_enter Tryz.func17, Tryz.ntmps17
  go_wp2_with fail
  go_ret
  exact ⟨rfl, (Below.refl _ _)⟩
/-- What asking for power and a sector answers. -/
def mayV (d : Dk) (s : Int) : Int := if d.off then 100 else if s < 0 ∨ 8 ≤ s then 101 else 0
theorem may_any (b : Nat) (d : Dk) (s : Int) (w : World) (h : DkAt w b d) : Calls Tryz.prog 100 #[.pointer (some ⟨b, 0, none⟩), .int .i64 s] w fun e w' => e = .returned (.int .i64 (mayV d s)) ∧ Below w.heap.size w w' := by
  unfold mayV
  have HO := Lib.hid (on_any b d w h)
  clear h
  obtain ⟨of, hof⟩ : ∃ of, d.off = of := ⟨_, rfl⟩
  rw [hof] at HO ⊢
  clear hof
  go_enter Tryz.func100, Tryz.ntmps100
  cases of with
  | true =>
    go_wp2_with (go_at_call 103; refine HO.out.mono ?_; rintro e w1 ⟨rfl, hB1⟩)
    go_ret
    exact ⟨rfl, hB1⟩
  | false =>
    by_cases h1 : s < 0
    · go_wp2_with (go_at_call 103; refine HO.out.mono ?_; rintro e w1 ⟨rfl, hB1⟩)
      go_ret
      exact ⟨rfl, hB1⟩
    · by_cases h2 : 8 ≤ s
      · go_wp2_with (go_at_call 103; refine HO.out.mono ?_; rintro e w1 ⟨rfl, hB1⟩)
        go_ret
        exact ⟨rfl, hB1⟩
      · go_wp2_with (go_at_call 103; refine HO.out.mono ?_; rintro e w1 ⟨rfl, hB1⟩)
        go_ret
        exact ⟨rfl, hB1⟩
theorem new_any (w : World) : Calls Tryz.prog 14 #[] w fun e w' => e = .returned (.pointer (some ⟨w.heap.size, 0, none⟩)) ∧ DkAt w' w.heap.size Dk.new ∧ Below w.heap.size w w' := by
  go_enter Tryz.func14, Tryz.ntmps14
  go_wp2_with fail
  go_ret
  exact ⟨rfl, ⟨(blk_new _ _).trans (by kernel_rfl), List.length_replicate⟩, (Below.refl _ _).alloc (Nat.le_refl _) _⟩
end Go.Proofs.YthkppkecclnlnaaGreat
