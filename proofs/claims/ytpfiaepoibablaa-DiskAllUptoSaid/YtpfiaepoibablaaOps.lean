/- Walks: the disk's small functions. -/
import Derived.Test.YtpfiaepoibablaaDisk
import Derived.Test.YtpfiaepoibablaaArgs
import Derived.IntWalk
namespace Go.Proofs.Ytpfiaepoibablaa
set_option linter.unusedVariables false
set_option linter.unusedSimpArgs false
open Go.RowKit

theorem on_any (b : Nat) (d : Dk) (w : World) (h : DkAt w b d) : Calls Try.prog 31 #[.pointer (some ⟨b, 0, none⟩)] w fun e w' => e = .returned (.bool (!d.off)) ∧ Below w.heap.size w w' := by
  obtain ⟨c0, c1, c2, c3⟩ := h.cells
  go_enter Try.func31, Try.ntmps31
  go_wp2_with fail
  go_ret
  exact ⟨rfl, (Below.refl _ _)⟩
theorem on_nil (w : World) : Calls Try.prog 31 #[.pointer none] w fun e w' => e = .returned (.bool false) ∧ Below w.heap.size w w' := by
  go_enter Try.func31, Try.ntmps31
  go_wp2_with fail
  go_ret
  exact ⟨rfl, (Below.refl _ _)⟩
theorem left_any (b : Nat) (d : Dk) (w : World) (h : DkAt w b d) : Calls Try.prog 19 #[.pointer (some ⟨b, 0, none⟩)] w fun e w' => e = .returned (.int .i64 (if d.fused then (d.fuse : Int) else -1)) ∧ Below w.heap.size w w' := by
  obtain ⟨c0, c1, c2, c3⟩ := h.cells
  go_enter Try.func19, Try.ntmps19
  cases hf : d.fused with
  | true =>
    rw [hf] at c1
    go_wp2_with fail
    go_ret
    exact ⟨rfl, (Below.refl _ _)⟩
  | false =>
    rw [hf] at c1
    go_wp2_with fail
    go_ret
    exact ⟨rfl, (Below.refl _ _)⟩
theorem left_nil (w : World) : Calls Try.prog 19 #[.pointer none] w fun e w' => e = .returned (.int .i64 (-1)) ∧ Below w.heap.size w w' := by
  go_enter Try.func19, Try.ntmps19
  go_wp2_with fail
  go_ret
  exact ⟨rfl, (Below.refl _ _)⟩
theorem writes_any (b : Nat) (d : Dk) (w : World) (h : DkAt w b d) : Calls Try.prog 18 #[.pointer (some ⟨b, 0, none⟩)] w fun e w' => e = .returned (.int .i64 d.writes) ∧ Below w.heap.size w w' := by
  obtain ⟨c0, c1, c2, c3⟩ := h.cells
  go_enter Try.func18, Try.ntmps18
  go_wp2_with fail
  go_ret
  exact ⟨rfl, (Below.refl _ _)⟩
theorem writes_nil (w : World) : Calls Try.prog 18 #[.pointer none] w fun e w' => e = .returned (.int .i64 0) ∧ Below w.heap.size w w' := by
  go_enter Try.func18, Try.ntmps18
  go_wp2_with fail
  go_ret
  exact ⟨rfl, (Below.refl _ _)⟩
theorem cut_any (b : Nat) (d : Dk) (w : World) (h : DkAt w b d) : Calls Try.prog 28 #[.pointer (some ⟨b, 0, none⟩)] w fun e w' => e = .returned (.tuple #[]) ∧ DkAt w' b { d with off := true } ∧ w.grownBy w' (some b) := by
  obtain ⟨c0, c1, c2, c3⟩ := h.cells
  obtain ⟨z0, z1, z2, z3⟩ := h.free
  go_enter Try.func28, Try.ntmps28
  go_wp2_with fail
  go_end0
  exact ⟨rfl, h.off true, but_set (but_refl _ _) h.lt _ _⟩
theorem cut_nil (w : World) : Calls Try.prog 28 #[.pointer none] w fun e w' => e = .returned (.tuple #[]) ∧ Below w.heap.size w w' := by
  go_enter Try.func28, Try.ntmps28
  go_wp2_with fail
  go_end0
  exact ⟨rfl, (Below.refl _ _)⟩
theorem restore_any (b : Nat) (d : Dk) (w : World) (h : DkAt w b d) : Calls Try.prog 29 #[.pointer (some ⟨b, 0, none⟩)] w fun e w' => e = .returned (.tuple #[]) ∧ DkAt w' b { d with off := false } ∧ w.grownBy w' (some b) := by
  obtain ⟨c0, c1, c2, c3⟩ := h.cells
  obtain ⟨z0, z1, z2, z3⟩ := h.free
  go_enter Try.func29, Try.ntmps29
  go_wp2_with fail
  go_end0
  exact ⟨rfl, h.off false, but_set (but_refl _ _) h.lt _ _⟩
theorem restore_nil (w : World) : Calls Try.prog 29 #[.pointer none] w fun e w' => e = .returned (.tuple #[]) ∧ Below w.heap.size w w' := by
  go_enter Try.func29, Try.ntmps29
  go_wp2_with fail
  go_end0
  exact ⟨rfl, (Below.refl _ _)⟩
theorem fuse_any (b : Nat) (d : Dk) (k : Int) (w : World) (h : DkAt w b d) : Calls Try.prog 26 #[.pointer (some ⟨b, 0, none⟩), .int .i64 k] w fun e w' => e = .returned (.tuple #[]) ∧ DkAt w' b { d with fused := decide (0 ≤ k), fuse := k.toNat } ∧ w.grownBy w' (some b) := by
  obtain ⟨c0, c1, c2, c3⟩ := h.cells
  obtain ⟨z0, z1, z2, z3⟩ := h.free
  have hD := Lib.hid h
  clear h
  by_cases hk : k < 0
  · have e1 : decide (0 ≤ k) = false := by simp; omega
    have e2 : k.toNat = 0 := by omega
    rw [e1, e2]
    go_enter Try.func26, Try.ntmps26
    go_wp2_with fail
    go_end0
    exact ⟨rfl, (hD.out.fused false).fuse 0, but_set (but_set (but_refl _ _) hD.out.lt _ _) hD.out.lt _ _⟩
  · obtain ⟨n, rfl⟩ : ∃ n : Nat, k = n := ⟨k.toNat, by omega⟩
    have e1 : decide (0 ≤ (n : Int)) = true := by simp
    have e3 : (0 : Int) ≤ n := by omega
    rw [e1, Int.toNat_natCast]
    go_enter Try.func26, Try.ntmps26
    go_wp2_with fail
    go_end0
    exact ⟨rfl, (hD.out.fused true).fuse n, but_set (but_set (but_refl _ _) hD.out.lt _ _) hD.out.lt _ _⟩
theorem fuse_nil (k : Int) (w : World) : Calls Try.prog 26 #[.pointer none, .int .i64 k] w fun e w' => e = .returned (.tuple #[]) ∧ Below w.heap.size w w' := by
  go_enter Try.func26, Try.ntmps26
  go_wp2_with fail
  go_end0
  exact ⟨rfl, (Below.refl _ _)⟩
/-- What asking for power and a sector answers. -/
def mayV (d : Dk) (s : Int) : Int := if d.off then 100 else if s < 0 ∨ 8 ≤ s then 101 else 0
theorem may_any (b : Nat) (d : Dk) (s : Int) (w : World) (h : DkAt w b d) : Calls Try.prog 80 #[.pointer (some ⟨b, 0, none⟩), .int .i64 s] w fun e w' => e = .returned (.int .i64 (mayV d s)) ∧ Below w.heap.size w w' := by
  unfold mayV
  have HO := Lib.hid (on_any b d w h)
  clear h
  obtain ⟨of, hof⟩ : ∃ of, d.off = of := ⟨_, rfl⟩
  rw [hof] at HO ⊢
  clear hof
  go_enter Try.func80, Try.ntmps80
  cases of with
  | true =>
    go_wp2_with (go_at_call 31; refine HO.out.mono ?_; rintro e w1 ⟨rfl, hB1⟩)
    go_ret
    exact ⟨rfl, hB1⟩
  | false =>
    by_cases h1 : s < 0
    · go_wp2_with (go_at_call 31; refine HO.out.mono ?_; rintro e w1 ⟨rfl, hB1⟩)
      go_ret
      exact ⟨rfl, hB1⟩
    · by_cases h2 : 8 ≤ s
      · go_wp2_with (go_at_call 31; refine HO.out.mono ?_; rintro e w1 ⟨rfl, hB1⟩)
        go_ret
        exact ⟨rfl, hB1⟩
      · go_wp2_with (go_at_call 31; refine HO.out.mono ?_; rintro e w1 ⟨rfl, hB1⟩)
        go_ret
        exact ⟨rfl, hB1⟩
theorem new_any (w : World) : Calls Try.prog 10 #[] w fun e w' => e = .returned (.pointer (some ⟨w.heap.size, 0, none⟩)) ∧ DkAt w' w.heap.size Dk.new ∧ Below w.heap.size w w' := by
  go_enter Try.func10, Try.ntmps10
  go_wp2_with fail
  go_ret
  exact ⟨rfl, ⟨(blk_new _ _).trans (by kernel_rfl), List.length_replicate⟩, (Below.refl _ _).alloc (Nat.le_refl _) _⟩
end Go.Proofs.Ytpfiaepoibablaa
