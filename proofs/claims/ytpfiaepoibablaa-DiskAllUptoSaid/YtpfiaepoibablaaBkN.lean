/- Walks over the book: the kinds of which there are no lists. -/
import Derived.Test.YtpfiaepoibablaaBkL
namespace Go.Proofs.Ytpfiaepoibablaa
set_option linter.unusedVariables false
set_option linter.unusedSimpArgs false
open Go.RowKit

theorem stillInts_nil (K : Nat) (W : World) (c : W.cell? ⟨K, 0, none⟩ = some (.slice none 0 0)) : Calls Try.prog 32 #[.pointer (some ⟨K, 0, none⟩)] W fun e w' => e = .returned (.bool true) ∧ W = w' := by
  go_enter Try.func32, Try.ntmps32
  go_wp2_with fail
  go_loopw [3] (fun iv wr => iv = .int .i64 0 ∧ wr = W) (fun iv _ => 0)
  case atStart => exact ⟨rfl, rfl⟩
  case round =>
    obtain ⟨rfl, rfl⟩ := hrel
    go_wp2_with fail
    go_ret
    exact ⟨rfl, rfl⟩
theorem putInts_nil (K : Nat) (W : World) (c : W.cell? ⟨K, 0, none⟩ = some (.slice none 0 0)) : Calls Try.prog 44 #[.pointer (some ⟨K, 0, none⟩)] W fun e w' => e = .returned (.tuple #[]) ∧ W = w' := by
  go_enter Try.func44, Try.ntmps44
  go_wp2_with fail
  go_loopw [2] (fun iv wr => iv = .int .i64 0 ∧ wr = W) (fun iv _ => 0)
  case atStart => exact ⟨rfl, rfl⟩
  case round =>
    obtain ⟨rfl, rfl⟩ := hrel
    go_wp2_with fail
    go_end0
    exact ⟨rfl, rfl⟩
theorem growInts_nil (K : Nat) (W : World) (c : W.cell? ⟨K, 0, none⟩ = some (.slice none 0 0)) : Calls Try.prog 56 #[.pointer (some ⟨K, 0, none⟩)] W fun e w' => e = .returned (.slice none 0 0) ∧ W = w' := by
  go_enter Try.func56, Try.ntmps56
  go_wp2_with fail
  go_loopw [3, 4] (fun ov iv wr => ov = .slice none 0 0 ∧ iv = .int .i64 0 ∧ wr = W) (fun _ iv _ => 0)
  case atStart => exact ⟨rfl, rfl, rfl⟩
  case round =>
    obtain ⟨rfl, rfl, rfl⟩ := hrel
    go_wp2_with fail
    go_ret
    exact ⟨rfl, rfl⟩
theorem markedInts_nil (W : World) : Calls Try.prog 68 #[.slice none 0 0] W fun e w' => e = .returned (.bool true) ∧ W = w' := by
  go_enter Try.func68, Try.ntmps68
  go_wp2_with fail
  go_loopw [3] (fun iv wr => iv = .int .i64 0 ∧ wr = W) (fun iv _ => 0)
  case atStart => exact ⟨rfl, rfl⟩
  case round =>
    obtain ⟨rfl, rfl⟩ := hrel
    go_wp2_with fail
    go_ret
    exact ⟨rfl, rfl⟩
theorem stillChars_nil (K : Nat) (W : World) (c : W.cell? ⟨K, 2, none⟩ = some (.slice none 0 0)) : Calls Try.prog 33 #[.pointer (some ⟨K, 0, none⟩)] W fun e w' => e = .returned (.bool true) ∧ W = w' := by
  go_enter Try.func33, Try.ntmps33
  go_wp2_with fail
  go_loopw [3] (fun iv wr => iv = .int .i64 0 ∧ wr = W) (fun iv _ => 0)
  case atStart => exact ⟨rfl, rfl⟩
  case round =>
    obtain ⟨rfl, rfl⟩ := hrel
    go_wp2_with fail
    go_ret
    exact ⟨rfl, rfl⟩
theorem putChars_nil (K : Nat) (W : World) (c : W.cell? ⟨K, 2, none⟩ = some (.slice none 0 0)) : Calls Try.prog 45 #[.pointer (some ⟨K, 0, none⟩)] W fun e w' => e = .returned (.tuple #[]) ∧ W = w' := by
  go_enter Try.func45, Try.ntmps45
  go_wp2_with fail
  go_loopw [2] (fun iv wr => iv = .int .i64 0 ∧ wr = W) (fun iv _ => 0)
  case atStart => exact ⟨rfl, rfl⟩
  case round =>
    obtain ⟨rfl, rfl⟩ := hrel
    go_wp2_with fail
    go_end0
    exact ⟨rfl, rfl⟩
theorem growChars_nil (K : Nat) (W : World) (c : W.cell? ⟨K, 2, none⟩ = some (.slice none 0 0)) : Calls Try.prog 57 #[.pointer (some ⟨K, 0, none⟩)] W fun e w' => e = .returned (.slice none 0 0) ∧ W = w' := by
  go_enter Try.func57, Try.ntmps57
  go_wp2_with fail
  go_loopw [3, 4] (fun ov iv wr => ov = .slice none 0 0 ∧ iv = .int .i64 0 ∧ wr = W) (fun _ iv _ => 0)
  case atStart => exact ⟨rfl, rfl, rfl⟩
  case round =>
    obtain ⟨rfl, rfl, rfl⟩ := hrel
    go_wp2_with fail
    go_ret
    exact ⟨rfl, rfl⟩
theorem markedChars_nil (W : World) : Calls Try.prog 69 #[.slice none 0 0] W fun e w' => e = .returned (.bool true) ∧ W = w' := by
  go_enter Try.func69, Try.ntmps69
  go_wp2_with fail
  go_loopw [3] (fun iv wr => iv = .int .i64 0 ∧ wr = W) (fun iv _ => 0)
  case atStart => exact ⟨rfl, rfl⟩
  case round =>
    obtain ⟨rfl, rfl⟩ := hrel
    go_wp2_with fail
    go_ret
    exact ⟨rfl, rfl⟩
theorem stillTokens_nil (K : Nat) (W : World) (c : W.cell? ⟨K, 4, none⟩ = some (.slice none 0 0)) : Calls Try.prog 34 #[.pointer (some ⟨K, 0, none⟩)] W fun e w' => e = .returned (.bool true) ∧ W = w' := by
  go_enter Try.func34, Try.ntmps34
  go_wp2_with fail
  go_loopw [3] (fun iv wr => iv = .int .i64 0 ∧ wr = W) (fun iv _ => 0)
  case atStart => exact ⟨rfl, rfl⟩
  case round =>
    obtain ⟨rfl, rfl⟩ := hrel
    go_wp2_with fail
    go_ret
    exact ⟨rfl, rfl⟩
theorem putTokens_nil (K : Nat) (W : World) (c : W.cell? ⟨K, 4, none⟩ = some (.slice none 0 0)) : Calls Try.prog 46 #[.pointer (some ⟨K, 0, none⟩)] W fun e w' => e = .returned (.tuple #[]) ∧ W = w' := by
  go_enter Try.func46, Try.ntmps46
  go_wp2_with fail
  go_loopw [2] (fun iv wr => iv = .int .i64 0 ∧ wr = W) (fun iv _ => 0)
  case atStart => exact ⟨rfl, rfl⟩
  case round =>
    obtain ⟨rfl, rfl⟩ := hrel
    go_wp2_with fail
    go_end0
    exact ⟨rfl, rfl⟩
theorem growTokens_nil (K : Nat) (W : World) (c : W.cell? ⟨K, 4, none⟩ = some (.slice none 0 0)) : Calls Try.prog 58 #[.pointer (some ⟨K, 0, none⟩)] W fun e w' => e = .returned (.slice none 0 0) ∧ W = w' := by
  go_enter Try.func58, Try.ntmps58
  go_wp2_with fail
  go_loopw [3, 4] (fun ov iv wr => ov = .slice none 0 0 ∧ iv = .int .i64 0 ∧ wr = W) (fun _ iv _ => 0)
  case atStart => exact ⟨rfl, rfl, rfl⟩
  case round =>
    obtain ⟨rfl, rfl, rfl⟩ := hrel
    go_wp2_with fail
    go_ret
    exact ⟨rfl, rfl⟩
theorem markedTokens_nil (W : World) : Calls Try.prog 70 #[.slice none 0 0] W fun e w' => e = .returned (.bool true) ∧ W = w' := by
  go_enter Try.func70, Try.ntmps70
  go_wp2_with fail
  go_loopw [3] (fun iv wr => iv = .int .i64 0 ∧ wr = W) (fun iv _ => 0)
  case atStart => exact ⟨rfl, rfl⟩
  case round =>
    obtain ⟨rfl, rfl⟩ := hrel
    go_wp2_with fail
    go_ret
    exact ⟨rfl, rfl⟩
theorem stillNotices_nil (K : Nat) (W : World) (c : W.cell? ⟨K, 6, none⟩ = some (.slice none 0 0)) : Calls Try.prog 35 #[.pointer (some ⟨K, 0, none⟩)] W fun e w' => e = .returned (.bool true) ∧ W = w' := by
  go_enter Try.func35, Try.ntmps35
  go_wp2_with fail
  go_loopw [3] (fun iv wr => iv = .int .i64 0 ∧ wr = W) (fun iv _ => 0)
  case atStart => exact ⟨rfl, rfl⟩
  case round =>
    obtain ⟨rfl, rfl⟩ := hrel
    go_wp2_with fail
    go_ret
    exact ⟨rfl, rfl⟩
theorem putNotices_nil (K : Nat) (W : World) (c : W.cell? ⟨K, 6, none⟩ = some (.slice none 0 0)) : Calls Try.prog 47 #[.pointer (some ⟨K, 0, none⟩)] W fun e w' => e = .returned (.tuple #[]) ∧ W = w' := by
  go_enter Try.func47, Try.ntmps47
  go_wp2_with fail
  go_loopw [2] (fun iv wr => iv = .int .i64 0 ∧ wr = W) (fun iv _ => 0)
  case atStart => exact ⟨rfl, rfl⟩
  case round =>
    obtain ⟨rfl, rfl⟩ := hrel
    go_wp2_with fail
    go_end0
    exact ⟨rfl, rfl⟩
theorem growNotices_nil (K : Nat) (W : World) (c : W.cell? ⟨K, 6, none⟩ = some (.slice none 0 0)) : Calls Try.prog 59 #[.pointer (some ⟨K, 0, none⟩)] W fun e w' => e = .returned (.slice none 0 0) ∧ W = w' := by
  go_enter Try.func59, Try.ntmps59
  go_wp2_with fail
  go_loopw [3, 4] (fun ov iv wr => ov = .slice none 0 0 ∧ iv = .int .i64 0 ∧ wr = W) (fun _ iv _ => 0)
  case atStart => exact ⟨rfl, rfl, rfl⟩
  case round =>
    obtain ⟨rfl, rfl, rfl⟩ := hrel
    go_wp2_with fail
    go_ret
    exact ⟨rfl, rfl⟩
theorem markedNotices_nil (W : World) : Calls Try.prog 71 #[.slice none 0 0] W fun e w' => e = .returned (.bool true) ∧ W = w' := by
  go_enter Try.func71, Try.ntmps71
  go_wp2_with fail
  go_loopw [3] (fun iv wr => iv = .int .i64 0 ∧ wr = W) (fun iv _ => 0)
  case atStart => exact ⟨rfl, rfl⟩
  case round =>
    obtain ⟨rfl, rfl⟩ := hrel
    go_wp2_with fail
    go_ret
    exact ⟨rfl, rfl⟩
theorem stillSets_nil (K : Nat) (W : World) (c : W.cell? ⟨K, 10, none⟩ = some (.slice none 0 0)) : Calls Try.prog 37 #[.pointer (some ⟨K, 0, none⟩)] W fun e w' => e = .returned (.bool true) ∧ W = w' := by
  go_enter Try.func37, Try.ntmps37
  go_wp2_with fail
  go_loopw [3] (fun iv wr => iv = .int .i64 0 ∧ wr = W) (fun iv _ => 0)
  case atStart => exact ⟨rfl, rfl⟩
  case round =>
    obtain ⟨rfl, rfl⟩ := hrel
    go_wp2_with fail
    go_ret
    exact ⟨rfl, rfl⟩
theorem putSets_nil (K : Nat) (W : World) (c : W.cell? ⟨K, 10, none⟩ = some (.slice none 0 0)) : Calls Try.prog 49 #[.pointer (some ⟨K, 0, none⟩)] W fun e w' => e = .returned (.tuple #[]) ∧ W = w' := by
  go_enter Try.func49, Try.ntmps49
  go_wp2_with fail
  go_loopw [2] (fun iv wr => iv = .int .i64 0 ∧ wr = W) (fun iv _ => 0)
  case atStart => exact ⟨rfl, rfl⟩
  case round =>
    obtain ⟨rfl, rfl⟩ := hrel
    go_wp2_with fail
    go_end0
    exact ⟨rfl, rfl⟩
theorem growSets_nil (K : Nat) (W : World) (c : W.cell? ⟨K, 10, none⟩ = some (.slice none 0 0)) : Calls Try.prog 61 #[.pointer (some ⟨K, 0, none⟩)] W fun e w' => e = .returned (.slice none 0 0) ∧ W = w' := by
  go_enter Try.func61, Try.ntmps61
  go_wp2_with fail
  go_loopw [3, 4] (fun ov iv wr => ov = .slice none 0 0 ∧ iv = .int .i64 0 ∧ wr = W) (fun _ iv _ => 0)
  case atStart => exact ⟨rfl, rfl, rfl⟩
  case round =>
    obtain ⟨rfl, rfl, rfl⟩ := hrel
    go_wp2_with fail
    go_ret
    exact ⟨rfl, rfl⟩
theorem markedSets_nil (W : World) : Calls Try.prog 73 #[.slice none 0 0] W fun e w' => e = .returned (.bool true) ∧ W = w' := by
  go_enter Try.func73, Try.ntmps73
  go_wp2_with fail
  go_loopw [3] (fun iv wr => iv = .int .i64 0 ∧ wr = W) (fun iv _ => 0)
  case atStart => exact ⟨rfl, rfl⟩
  case round =>
    obtain ⟨rfl, rfl⟩ := hrel
    go_wp2_with fail
    go_ret
    exact ⟨rfl, rfl⟩
theorem stillEvents_nil (K : Nat) (W : World) (c : W.cell? ⟨K, 12, none⟩ = some (.slice none 0 0)) : Calls Try.prog 38 #[.pointer (some ⟨K, 0, none⟩)] W fun e w' => e = .returned (.bool true) ∧ W = w' := by
  go_enter Try.func38, Try.ntmps38
  go_wp2_with fail
  go_loopw [3] (fun iv wr => iv = .int .i64 0 ∧ wr = W) (fun iv _ => 0)
  case atStart => exact ⟨rfl, rfl⟩
  case round =>
    obtain ⟨rfl, rfl⟩ := hrel
    go_wp2_with fail
    go_ret
    exact ⟨rfl, rfl⟩
theorem putEvents_nil (K : Nat) (W : World) (c : W.cell? ⟨K, 12, none⟩ = some (.slice none 0 0)) : Calls Try.prog 50 #[.pointer (some ⟨K, 0, none⟩)] W fun e w' => e = .returned (.tuple #[]) ∧ W = w' := by
  go_enter Try.func50, Try.ntmps50
  go_wp2_with fail
  go_loopw [2] (fun iv wr => iv = .int .i64 0 ∧ wr = W) (fun iv _ => 0)
  case atStart => exact ⟨rfl, rfl⟩
  case round =>
    obtain ⟨rfl, rfl⟩ := hrel
    go_wp2_with fail
    go_end0
    exact ⟨rfl, rfl⟩
theorem growEvents_nil (K : Nat) (W : World) (c : W.cell? ⟨K, 12, none⟩ = some (.slice none 0 0)) : Calls Try.prog 62 #[.pointer (some ⟨K, 0, none⟩)] W fun e w' => e = .returned (.slice none 0 0) ∧ W = w' := by
  go_enter Try.func62, Try.ntmps62
  go_wp2_with fail
  go_loopw [3, 4] (fun ov iv wr => ov = .slice none 0 0 ∧ iv = .int .i64 0 ∧ wr = W) (fun _ iv _ => 0)
  case atStart => exact ⟨rfl, rfl, rfl⟩
  case round =>
    obtain ⟨rfl, rfl, rfl⟩ := hrel
    go_wp2_with fail
    go_ret
    exact ⟨rfl, rfl⟩
theorem markedEvents_nil (W : World) : Calls Try.prog 74 #[.slice none 0 0] W fun e w' => e = .returned (.bool true) ∧ W = w' := by
  go_enter Try.func74, Try.ntmps74
  go_wp2_with fail
  go_loopw [3] (fun iv wr => iv = .int .i64 0 ∧ wr = W) (fun iv _ => 0)
  case atStart => exact ⟨rfl, rfl⟩
  case round =>
    obtain ⟨rfl, rfl⟩ := hrel
    go_wp2_with fail
    go_ret
    exact ⟨rfl, rfl⟩
theorem stillErrs_nil (K : Nat) (W : World) (c : W.cell? ⟨K, 14, none⟩ = some (.slice none 0 0)) : Calls Try.prog 39 #[.pointer (some ⟨K, 0, none⟩)] W fun e w' => e = .returned (.bool true) ∧ W = w' := by
  go_enter Try.func39, Try.ntmps39
  go_wp2_with fail
  go_loopw [3] (fun iv wr => iv = .int .i64 0 ∧ wr = W) (fun iv _ => 0)
  case atStart => exact ⟨rfl, rfl⟩
  case round =>
    obtain ⟨rfl, rfl⟩ := hrel
    go_wp2_with fail
    go_ret
    exact ⟨rfl, rfl⟩
theorem putErrs_nil (K : Nat) (W : World) (c : W.cell? ⟨K, 14, none⟩ = some (.slice none 0 0)) : Calls Try.prog 51 #[.pointer (some ⟨K, 0, none⟩)] W fun e w' => e = .returned (.tuple #[]) ∧ W = w' := by
  go_enter Try.func51, Try.ntmps51
  go_wp2_with fail
  go_loopw [2] (fun iv wr => iv = .int .i64 0 ∧ wr = W) (fun iv _ => 0)
  case atStart => exact ⟨rfl, rfl⟩
  case round =>
    obtain ⟨rfl, rfl⟩ := hrel
    go_wp2_with fail
    go_end0
    exact ⟨rfl, rfl⟩
theorem growErrs_nil (K : Nat) (W : World) (c : W.cell? ⟨K, 14, none⟩ = some (.slice none 0 0)) : Calls Try.prog 63 #[.pointer (some ⟨K, 0, none⟩)] W fun e w' => e = .returned (.slice none 0 0) ∧ W = w' := by
  go_enter Try.func63, Try.ntmps63
  go_wp2_with fail
  go_loopw [3, 4] (fun ov iv wr => ov = .slice none 0 0 ∧ iv = .int .i64 0 ∧ wr = W) (fun _ iv _ => 0)
  case atStart => exact ⟨rfl, rfl, rfl⟩
  case round =>
    obtain ⟨rfl, rfl, rfl⟩ := hrel
    go_wp2_with fail
    go_ret
    exact ⟨rfl, rfl⟩
theorem markedErrs_nil (W : World) : Calls Try.prog 75 #[.slice none 0 0] W fun e w' => e = .returned (.bool true) ∧ W = w' := by
  go_enter Try.func75, Try.ntmps75
  go_wp2_with fail
  go_loopw [3] (fun iv wr => iv = .int .i64 0 ∧ wr = W) (fun iv _ => 0)
  case atStart => exact ⟨rfl, rfl⟩
  case round =>
    obtain ⟨rfl, rfl⟩ := hrel
    go_wp2_with fail
    go_ret
    exact ⟨rfl, rfl⟩
theorem stillOuts_nil (K : Nat) (W : World) (c : W.cell? ⟨K, 16, none⟩ = some (.slice none 0 0)) : Calls Try.prog 40 #[.pointer (some ⟨K, 0, none⟩)] W fun e w' => e = .returned (.bool true) ∧ W = w' := by
  go_enter Try.func40, Try.ntmps40
  go_wp2_with fail
  go_loopw [3] (fun iv wr => iv = .int .i64 0 ∧ wr = W) (fun iv _ => 0)
  case atStart => exact ⟨rfl, rfl⟩
  case round =>
    obtain ⟨rfl, rfl⟩ := hrel
    go_wp2_with fail
    go_ret
    exact ⟨rfl, rfl⟩
theorem putOuts_nil (K : Nat) (W : World) (c : W.cell? ⟨K, 16, none⟩ = some (.slice none 0 0)) : Calls Try.prog 52 #[.pointer (some ⟨K, 0, none⟩)] W fun e w' => e = .returned (.tuple #[]) ∧ W = w' := by
  go_enter Try.func52, Try.ntmps52
  go_wp2_with fail
  go_loopw [2] (fun iv wr => iv = .int .i64 0 ∧ wr = W) (fun iv _ => 0)
  case atStart => exact ⟨rfl, rfl⟩
  case round =>
    obtain ⟨rfl, rfl⟩ := hrel
    go_wp2_with fail
    go_end0
    exact ⟨rfl, rfl⟩
theorem growOuts_nil (K : Nat) (W : World) (c : W.cell? ⟨K, 16, none⟩ = some (.slice none 0 0)) : Calls Try.prog 64 #[.pointer (some ⟨K, 0, none⟩)] W fun e w' => e = .returned (.slice none 0 0) ∧ W = w' := by
  go_enter Try.func64, Try.ntmps64
  go_wp2_with fail
  go_loopw [3, 4] (fun ov iv wr => ov = .slice none 0 0 ∧ iv = .int .i64 0 ∧ wr = W) (fun _ iv _ => 0)
  case atStart => exact ⟨rfl, rfl, rfl⟩
  case round =>
    obtain ⟨rfl, rfl, rfl⟩ := hrel
    go_wp2_with fail
    go_ret
    exact ⟨rfl, rfl⟩
theorem markedOuts_nil (W : World) : Calls Try.prog 76 #[.slice none 0 0] W fun e w' => e = .returned (.bool true) ∧ W = w' := by
  go_enter Try.func76, Try.ntmps76
  go_wp2_with fail
  go_loopw [3] (fun iv wr => iv = .int .i64 0 ∧ wr = W) (fun iv _ => 0)
  case atStart => exact ⟨rfl, rfl⟩
  case round =>
    obtain ⟨rfl, rfl⟩ := hrel
    go_wp2_with fail
    go_ret
    exact ⟨rfl, rfl⟩
theorem stillGrams_nil (K : Nat) (W : World) (c : W.cell? ⟨K, 18, none⟩ = some (.slice none 0 0)) : Calls Try.prog 41 #[.pointer (some ⟨K, 0, none⟩)] W fun e w' => e = .returned (.bool true) ∧ W = w' := by
  go_enter Try.func41, Try.ntmps41
  go_wp2_with fail
  go_loopw [3] (fun iv wr => iv = .int .i64 0 ∧ wr = W) (fun iv _ => 0)
  case atStart => exact ⟨rfl, rfl⟩
  case round =>
    obtain ⟨rfl, rfl⟩ := hrel
    go_wp2_with fail
    go_ret
    exact ⟨rfl, rfl⟩
theorem putGrams_nil (K : Nat) (W : World) (c : W.cell? ⟨K, 18, none⟩ = some (.slice none 0 0)) : Calls Try.prog 53 #[.pointer (some ⟨K, 0, none⟩)] W fun e w' => e = .returned (.tuple #[]) ∧ W = w' := by
  go_enter Try.func53, Try.ntmps53
  go_wp2_with fail
  go_loopw [2] (fun iv wr => iv = .int .i64 0 ∧ wr = W) (fun iv _ => 0)
  case atStart => exact ⟨rfl, rfl⟩
  case round =>
    obtain ⟨rfl, rfl⟩ := hrel
    go_wp2_with fail
    go_end0
    exact ⟨rfl, rfl⟩
theorem growGrams_nil (K : Nat) (W : World) (c : W.cell? ⟨K, 18, none⟩ = some (.slice none 0 0)) : Calls Try.prog 65 #[.pointer (some ⟨K, 0, none⟩)] W fun e w' => e = .returned (.slice none 0 0) ∧ W = w' := by
  go_enter Try.func65, Try.ntmps65
  go_wp2_with fail
  go_loopw [3, 4] (fun ov iv wr => ov = .slice none 0 0 ∧ iv = .int .i64 0 ∧ wr = W) (fun _ iv _ => 0)
  case atStart => exact ⟨rfl, rfl, rfl⟩
  case round =>
    obtain ⟨rfl, rfl, rfl⟩ := hrel
    go_wp2_with fail
    go_ret
    exact ⟨rfl, rfl⟩
theorem markedGrams_nil (W : World) : Calls Try.prog 77 #[.slice none 0 0] W fun e w' => e = .returned (.bool true) ∧ W = w' := by
  go_enter Try.func77, Try.ntmps77
  go_wp2_with fail
  go_loopw [3] (fun iv wr => iv = .int .i64 0 ∧ wr = W) (fun iv _ => 0)
  case atStart => exact ⟨rfl, rfl⟩
  case round =>
    obtain ⟨rfl, rfl⟩ := hrel
    go_wp2_with fail
    go_ret
    exact ⟨rfl, rfl⟩
theorem stillSteps_nil (K : Nat) (W : World) (c : W.cell? ⟨K, 20, none⟩ = some (.slice none 0 0)) : Calls Try.prog 42 #[.pointer (some ⟨K, 0, none⟩)] W fun e w' => e = .returned (.bool true) ∧ W = w' := by
  go_enter Try.func42, Try.ntmps42
  go_wp2_with fail
  go_loopw [3] (fun iv wr => iv = .int .i64 0 ∧ wr = W) (fun iv _ => 0)
  case atStart => exact ⟨rfl, rfl⟩
  case round =>
    obtain ⟨rfl, rfl⟩ := hrel
    go_wp2_with fail
    go_ret
    exact ⟨rfl, rfl⟩
theorem putSteps_nil (K : Nat) (W : World) (c : W.cell? ⟨K, 20, none⟩ = some (.slice none 0 0)) : Calls Try.prog 54 #[.pointer (some ⟨K, 0, none⟩)] W fun e w' => e = .returned (.tuple #[]) ∧ W = w' := by
  go_enter Try.func54, Try.ntmps54
  go_wp2_with fail
  go_loopw [2] (fun iv wr => iv = .int .i64 0 ∧ wr = W) (fun iv _ => 0)
  case atStart => exact ⟨rfl, rfl⟩
  case round =>
    obtain ⟨rfl, rfl⟩ := hrel
    go_wp2_with fail
    go_end0
    exact ⟨rfl, rfl⟩
theorem growSteps_nil (K : Nat) (W : World) (c : W.cell? ⟨K, 20, none⟩ = some (.slice none 0 0)) : Calls Try.prog 66 #[.pointer (some ⟨K, 0, none⟩)] W fun e w' => e = .returned (.slice none 0 0) ∧ W = w' := by
  go_enter Try.func66, Try.ntmps66
  go_wp2_with fail
  go_loopw [3, 4] (fun ov iv wr => ov = .slice none 0 0 ∧ iv = .int .i64 0 ∧ wr = W) (fun _ iv _ => 0)
  case atStart => exact ⟨rfl, rfl, rfl⟩
  case round =>
    obtain ⟨rfl, rfl, rfl⟩ := hrel
    go_wp2_with fail
    go_ret
    exact ⟨rfl, rfl⟩
theorem markedSteps_nil (W : World) : Calls Try.prog 78 #[.slice none 0 0] W fun e w' => e = .returned (.bool true) ∧ W = w' := by
  go_enter Try.func78, Try.ntmps78
  go_wp2_with fail
  go_loopw [3] (fun iv wr => iv = .int .i64 0 ∧ wr = W) (fun iv _ => 0)
  case atStart => exact ⟨rfl, rfl⟩
  case round =>
    obtain ⟨rfl, rfl⟩ := hrel
    go_wp2_with fail
    go_ret
    exact ⟨rfl, rfl⟩
theorem stillRows_nil (K : Nat) (W : World) (c : W.cell? ⟨K, 22, none⟩ = some (.slice none 0 0)) : Calls Try.prog 43 #[.pointer (some ⟨K, 0, none⟩)] W fun e w' => e = .returned (.bool true) ∧ W = w' := by
  go_enter Try.func43, Try.ntmps43
  go_wp2_with fail
  go_loopw [3] (fun iv wr => iv = .int .i64 0 ∧ wr = W) (fun iv _ => 0)
  case atStart => exact ⟨rfl, rfl⟩
  case round =>
    obtain ⟨rfl, rfl⟩ := hrel
    go_wp2_with fail
    go_ret
    exact ⟨rfl, rfl⟩
theorem putRows_nil (K : Nat) (W : World) (c : W.cell? ⟨K, 22, none⟩ = some (.slice none 0 0)) : Calls Try.prog 55 #[.pointer (some ⟨K, 0, none⟩)] W fun e w' => e = .returned (.tuple #[]) ∧ W = w' := by
  go_enter Try.func55, Try.ntmps55
  go_wp2_with fail
  go_loopw [2] (fun iv wr => iv = .int .i64 0 ∧ wr = W) (fun iv _ => 0)
  case atStart => exact ⟨rfl, rfl⟩
  case round =>
    obtain ⟨rfl, rfl⟩ := hrel
    go_wp2_with fail
    go_end0
    exact ⟨rfl, rfl⟩
theorem growRows_nil (K : Nat) (W : World) (c : W.cell? ⟨K, 22, none⟩ = some (.slice none 0 0)) : Calls Try.prog 67 #[.pointer (some ⟨K, 0, none⟩)] W fun e w' => e = .returned (.slice none 0 0) ∧ W = w' := by
  go_enter Try.func67, Try.ntmps67
  go_wp2_with fail
  go_loopw [3, 4] (fun ov iv wr => ov = .slice none 0 0 ∧ iv = .int .i64 0 ∧ wr = W) (fun _ iv _ => 0)
  case atStart => exact ⟨rfl, rfl, rfl⟩
  case round =>
    obtain ⟨rfl, rfl, rfl⟩ := hrel
    go_wp2_with fail
    go_ret
    exact ⟨rfl, rfl⟩
theorem markedRows_nil (W : World) : Calls Try.prog 79 #[.slice none 0 0] W fun e w' => e = .returned (.bool true) ∧ W = w' := by
  go_enter Try.func79, Try.ntmps79
  go_wp2_with fail
  go_loopw [3] (fun iv wr => iv = .int .i64 0 ∧ wr = W) (fun iv _ => 0)
  case atStart => exact ⟨rfl, rfl⟩
  case round =>
    obtain ⟨rfl, rfl⟩ := hrel
    go_wp2_with fail
    go_ret
    exact ⟨rfl, rfl⟩
end Go.Proofs.Ytpfiaepoibablaa
