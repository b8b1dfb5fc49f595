/- Walks over the book: the kinds of which there are no lists. -/
import Derived.Test.YthkppkecclnlnaaGreatBkL
namespace Go.Proofs.YthkppkecclnlnaaGreat
set_option linter.unusedVariables false
set_option linter.unusedSimpArgs false
open Go.RowKit

theorem stillInts_nil (K : Nat) (W : World) (c : W.cell? ⟨K, 0, none⟩ = some (.slice none 0 0)) : Calls Tryz.prog 25 #[.pointer (some ⟨K, 0, none⟩)] W fun e w' => e = .returned (.bool true) ∧ W = w' := by
  go_enter Tryz.func25, Tryz.ntmps25
  go_wp2_with fail
  go_loopw [3] (fun iv wr => iv = .int .i64 0 ∧ wr = W) (fun iv _ => 0)
  case atStart => exact ⟨rfl, rfl⟩
  case round =>
    obtain ⟨rfl, rfl⟩ := hrel
    go_wp2_with fail
    go_ret
    exact ⟨rfl, rfl⟩
theorem putInts_nil (K : Nat) (W : World) (c : W.cell? ⟨K, 0, none⟩ = some (.slice none 0 0)) : Calls Tryz.prog 37 #[.pointer (some ⟨K, 0, none⟩)] W fun e w' => e = .returned (.tuple #[]) ∧ W = w' := by
  go_enter Tryz.func37, Tryz.ntmps37
  go_wp2_with fail
  go_loopw [2] (fun iv wr => iv = .int .i64 0 ∧ wr = W) (fun iv _ => 0)
  case atStart => exact ⟨rfl, rfl⟩
  case round =>
    obtain ⟨rfl, rfl⟩ := hrel
    go_wp2_with fail
    go_end0
    exact ⟨rfl, rfl⟩
theorem growInts_nil (K : Nat) (W : World) (c : W.cell? ⟨K, 0, none⟩ = some (.slice none 0 0)) : Calls Tryz.prog 49 #[.pointer (some ⟨K, 0, none⟩)] W fun e w' => e = .returned (.slice none 0 0) ∧ W = w' := by
  go_enter Tryz.func49, Tryz.ntmps49
  go_wp2_with fail
  go_loopw [3, 4] (fun ov iv wr => ov = .slice none 0 0 ∧ iv = .int .i64 0 ∧ wr = W) (fun _ iv _ => 0)
  case atStart => exact ⟨rfl, rfl, rfl⟩
  case round =>
    obtain ⟨rfl, rfl, rfl⟩ := hrel
    go_wp2_with fail
    go_ret
    exact ⟨rfl, rfl⟩
theorem markedInts_nil (W : World) : Calls Tryz.prog 61 #[.slice none 0 0] W fun e w' => e = .returned (.bool true) ∧ W = w' := by
  go_enter Tryz.func61, Tryz.ntmps61
  go_wp2_with fail
  go_loopw [3] (fun iv wr => iv = .int .i64 0 ∧ wr = W) (fun iv _ => 0)
  case atStart => exact ⟨rfl, rfl⟩
  case round =>
    obtain ⟨rfl, rfl⟩ := hrel
    go_wp2_with fail
    go_ret
    exact ⟨rfl, rfl⟩
theorem stillChars_nil (K : Nat) (W : World) (c : W.cell? ⟨K, 2, none⟩ = some (.slice none 0 0)) : Calls Tryz.prog 26 #[.pointer (some ⟨K, 0, none⟩)] W fun e w' => e = .returned (.bool true) ∧ W = w' := by
  go_enter Tryz.func26, Tryz.ntmps26
  go_wp2_with fail
  go_loopw [3] (fun iv wr => iv = .int .i64 0 ∧ wr = W) (fun iv _ => 0)
  case atStart => exact ⟨rfl, rfl⟩
  case round =>
    obtain ⟨rfl, rfl⟩ := hrel
    go_wp2_with fail
    go_ret
    exact ⟨rfl, rfl⟩
theorem putChars_nil (K : Nat) (W : World) (c : W.cell? ⟨K, 2, none⟩ = some (.slice none 0 0)) : Calls Tryz.prog 38 #[.pointer (some ⟨K, 0, none⟩)] W fun e w' => e = .returned (.tuple #[]) ∧ W = w' := by
  go_enter Tryz.func38, Tryz.ntmps38
  go_wp2_with fail
  go_loopw [2] (fun iv wr => iv = .int .i64 0 ∧ wr = W) (fun iv _ => 0)
  case atStart => exact ⟨rfl, rfl⟩
  case round =>
    obtain ⟨rfl, rfl⟩ := hrel
    go_wp2_with fail
    go_end0
    exact ⟨rfl, rfl⟩
theorem growChars_nil (K : Nat) (W : World) (c : W.cell? ⟨K, 2, none⟩ = some (.slice none 0 0)) : Calls Tryz.prog 50 #[.pointer (some ⟨K, 0, none⟩)] W fun e w' => e = .returned (.slice none 0 0) ∧ W = w' := by
  go_enter Tryz.func50, Tryz.ntmps50
  go_wp2_with fail
  go_loopw [3, 4] (fun ov iv wr => ov = .slice none 0 0 ∧ iv = .int .i64 0 ∧ wr = W) (fun _ iv _ => 0)
  case atStart => exact ⟨rfl, rfl, rfl⟩
  case round =>
    obtain ⟨rfl, rfl, rfl⟩ := hrel
    go_wp2_with fail
    go_ret
    exact ⟨rfl, rfl⟩
theorem markedChars_nil (W : World) : Calls Tryz.prog 62 #[.slice none 0 0] W fun e w' => e = .returned (.bool true) ∧ W = w' := by
  go_enter Tryz.func62, Tryz.ntmps62
  go_wp2_with fail
  go_loopw [3] (fun iv wr => iv = .int .i64 0 ∧ wr = W) (fun iv _ => 0)
  case atStart => exact ⟨rfl, rfl⟩
  case round =>
    obtain ⟨rfl, rfl⟩ := hrel
    go_wp2_with fail
    go_ret
    exact ⟨rfl, rfl⟩
theorem stillTokens_nil (K : Nat) (W : World) (c : W.cell? ⟨K, 4, none⟩ = some (.slice none 0 0)) : Calls Tryz.prog 27 #[.pointer (some ⟨K, 0, none⟩)] W fun e w' => e = .returned (.bool true) ∧ W = w' := by
  go_enter Tryz.func27, Tryz.ntmps27
  go_wp2_with fail
  go_loopw [3] (fun iv wr => iv = .int .i64 0 ∧ wr = W) (fun iv _ => 0)
  case atStart => exact ⟨rfl, rfl⟩
  case round =>
    obtain ⟨rfl, rfl⟩ := hrel
    go_wp2_with fail
    go_ret
    exact ⟨rfl, rfl⟩
theorem putTokens_nil (K : Nat) (W : World) (c : W.cell? ⟨K, 4, none⟩ = some (.slice none 0 0)) : Calls Tryz.prog 39 #[.pointer (some ⟨K, 0, none⟩)] W fun e w' => e = .returned (.tuple #[]) ∧ W = w' := by
  go_enter Tryz.func39, Tryz.ntmps39
  go_wp2_with fail
  go_loopw [2] (fun iv wr => iv = .int .i64 0 ∧ wr = W) (fun iv _ => 0)
  case atStart => exact ⟨rfl, rfl⟩
  case round =>
    obtain ⟨rfl, rfl⟩ := hrel
    go_wp2_with fail
    go_end0
    exact ⟨rfl, rfl⟩
theorem growTokens_nil (K : Nat) (W : World) (c : W.cell? ⟨K, 4, none⟩ = some (.slice none 0 0)) : Calls Tryz.prog 51 #[.pointer (some ⟨K, 0, none⟩)] W fun e w' => e = .returned (.slice none 0 0) ∧ W = w' := by
  go_enter Tryz.func51, Tryz.ntmps51
  go_wp2_with fail
  go_loopw [3, 4] (fun ov iv wr => ov = .slice none 0 0 ∧ iv = .int .i64 0 ∧ wr = W) (fun _ iv _ => 0)
  case atStart => exact ⟨rfl, rfl, rfl⟩
  case round =>
    obtain ⟨rfl, rfl, rfl⟩ := hrel
    go_wp2_with fail
    go_ret
    exact ⟨rfl, rfl⟩
theorem markedTokens_nil (W : World) : Calls Tryz.prog 63 #[.slice none 0 0] W fun e w' => e = .returned (.bool true) ∧ W = w' := by
  go_enter Tryz.func63, Tryz.ntmps63
  go_wp2_with fail
  go_loopw [3] (fun iv wr => iv = .int .i64 0 ∧ wr = W) (fun iv _ => 0)
  case atStart => exact ⟨rfl, rfl⟩
  case round =>
    obtain ⟨rfl, rfl⟩ := hrel
    go_wp2_with fail
    go_ret
    exact ⟨rfl, rfl⟩
theorem stillNotices_nil (K : Nat) (W : World) (c : W.cell? ⟨K, 6, none⟩ = some (.slice none 0 0)) : Calls Tryz.prog 28 #[.pointer (some ⟨K, 0, none⟩)] W fun e w' => e = .returned (.bool true) ∧ W = w' := by
  go_enter Tryz.func28, Tryz.ntmps28
  go_wp2_with fail
  go_loopw [3] (fun iv wr => iv = .int .i64 0 ∧ wr = W) (fun iv _ => 0)
  case atStart => exact ⟨rfl, rfl⟩
  case round =>
    obtain ⟨rfl, rfl⟩ := hrel
    go_wp2_with fail
    go_ret
    exact ⟨rfl, rfl⟩
theorem putNotices_nil (K : Nat) (W : World) (c : W.cell? ⟨K, 6, none⟩ = some (.slice none 0 0)) : Calls Tryz.prog 40 #[.pointer (some ⟨K, 0, none⟩)] W fun e w' => e = .returned (.tuple #[]) ∧ W = w' := by
  go_enter Tryz.func40, Tryz.ntmps40
  go_wp2_with fail
  go_loopw [2] (fun iv wr => iv = .int .i64 0 ∧ wr = W) (fun iv _ => 0)
  case atStart => exact ⟨rfl, rfl⟩
  case round =>
    obtain ⟨rfl, rfl⟩ := hrel
    go_wp2_with fail
    go_end0
    exact ⟨rfl, rfl⟩
theorem growNotices_nil (K : Nat) (W : World) (c : W.cell? ⟨K, 6, none⟩ = some (.slice none 0 0)) : Calls Tryz.prog 52 #[.pointer (some ⟨K, 0, none⟩)] W fun e w' => e = .returned (.slice none 0 0) ∧ W = w' := by
  go_enter Tryz.func52, Tryz.ntmps52
  go_wp2_with fail
  go_loopw [3, 4] (fun ov iv wr => ov = .slice none 0 0 ∧ iv = .int .i64 0 ∧ wr = W) (fun _ iv _ => 0)
  case atStart => exact ⟨rfl, rfl, rfl⟩
  case round =>
    obtain ⟨rfl, rfl, rfl⟩ := hrel
    go_wp2_with fail
    go_ret
    exact ⟨rfl, rfl⟩
theorem markedNotices_nil (W : World) : Calls Tryz.prog 64 #[.slice none 0 0] W fun e w' => e = .returned (.bool true) ∧ W = w' := by
  go_enter Tryz.func64, Tryz.ntmps64
  go_wp2_with fail
  go_loopw [3] (fun iv wr => iv = .int .i64 0 ∧ wr = W) (fun iv _ => 0)
  case atStart => exact ⟨rfl, rfl⟩
  case round =>
    obtain ⟨rfl, rfl⟩ := hrel
    go_wp2_with fail
    go_ret
    exact ⟨rfl, rfl⟩
theorem stillSets_nil (K : Nat) (W : World) (c : W.cell? ⟨K, 10, none⟩ = some (.slice none 0 0)) : Calls Tryz.prog 30 #[.pointer (some ⟨K, 0, none⟩)] W fun e w' => e = .returned (.bool true) ∧ W = w' := by
  go_enter Tryz.func30, Tryz.ntmps30
  go_wp2_with fail
  go_loopw [3] (fun iv wr => iv = .int .i64 0 ∧ wr = W) (fun iv _ => 0)
  case atStart => exact ⟨rfl, rfl⟩
  case round =>
    obtain ⟨rfl, rfl⟩ := hrel
    go_wp2_with fail
    go_ret
    exact ⟨rfl, rfl⟩
theorem putSets_nil (K : Nat) (W : World) (c : W.cell? ⟨K, 10, none⟩ = some (.slice none 0 0)) : Calls Tryz.prog 42 #[.pointer (some ⟨K, 0, none⟩)] W fun e w' => e = .returned (.tuple #[]) ∧ W = w' := by
  go_enter Tryz.func42, Tryz.ntmps42
  go_wp2_with fail
  go_loopw [2] (fun iv wr => iv = .int .i64 0 ∧ wr = W) (fun iv _ => 0)
  case atStart => exact ⟨rfl, rfl⟩
  case round =>
    obtain ⟨rfl, rfl⟩ := hrel
    go_wp2_with fail
    go_end0
    exact ⟨rfl, rfl⟩
theorem growSets_nil (K : Nat) (W : World) (c : W.cell? ⟨K, 10, none⟩ = some (.slice none 0 0)) : Calls Tryz.prog 54 #[.pointer (some ⟨K, 0, none⟩)] W fun e w' => e = .returned (.slice none 0 0) ∧ W = w' := by
  go_enter Tryz.func54, Tryz.ntmps54
  go_wp2_with fail
  go_loopw [3, 4] (fun ov iv wr => ov = .slice none 0 0 ∧ iv = .int .i64 0 ∧ wr = W) (fun _ iv _ => 0)
  case atStart => exact ⟨rfl, rfl, rfl⟩
  case round =>
    obtain ⟨rfl, rfl, rfl⟩ := hrel
    go_wp2_with fail
    go_ret
    exact ⟨rfl, rfl⟩
theorem markedSets_nil (W : World) : Calls Tryz.prog 66 #[.slice none 0 0] W fun e w' => e = .returned (.bool true) ∧ W = w' := by
  go_enter Tryz.func66, Tryz.ntmps66
  go_wp2_with fail
  go_loopw [3] (fun iv wr => iv = .int .i64 0 ∧ wr = W) (fun iv _ => 0)
  case atStart => exact ⟨rfl, rfl⟩
  case round =>
    obtain ⟨rfl, rfl⟩ := hrel
    go_wp2_with fail
    go_ret
    exact ⟨rfl, rfl⟩
theorem stillEvents_nil (K : Nat) (W : World) (c : W.cell? ⟨K, 12, none⟩ = some (.slice none 0 0)) : Calls Tryz.prog 31 #[.pointer (some ⟨K, 0, none⟩)] W fun e w' => e = .returned (.bool true) ∧ W = w' := by
  go_enter Tryz.func31, Tryz.ntmps31
  go_wp2_with fail
  go_loopw [3] (fun iv wr => iv = .int .i64 0 ∧ wr = W) (fun iv _ => 0)
  case atStart => exact ⟨rfl, rfl⟩
  case round =>
    obtain ⟨rfl, rfl⟩ := hrel
    go_wp2_with fail
    go_ret
    exact ⟨rfl, rfl⟩
theorem putEvents_nil (K : Nat) (W : World) (c : W.cell? ⟨K, 12, none⟩ = some (.slice none 0 0)) : Calls Tryz.prog 43 #[.pointer (some ⟨K, 0, none⟩)] W fun e w' => e = .returned (.tuple #[]) ∧ W = w' := by
  go_enter Tryz.func43, Tryz.ntmps43
  go_wp2_with fail
  go_loopw [2] (fun iv wr => iv = .int .i64 0 ∧ wr = W) (fun iv _ => 0)
  case atStart => exact ⟨rfl, rfl⟩
  case round =>
    obtain ⟨rfl, rfl⟩ := hrel
    go_wp2_with fail
    go_end0
    exact ⟨rfl, rfl⟩
theorem growEvents_nil (K : Nat) (W : World) (c : W.cell? ⟨K, 12, none⟩ = some (.slice none 0 0)) : Calls Tryz.prog 55 #[.pointer (some ⟨K, 0, none⟩)] W fun e w' => e = .returned (.slice none 0 0) ∧ W = w' := by
  go_enter Tryz.func55, Tryz.ntmps55
  go_wp2_with fail
  go_loopw [3, 4] (fun ov iv wr => ov = .slice none 0 0 ∧ iv = .int .i64 0 ∧ wr = W) (fun _ iv _ => 0)
  case atStart => exact ⟨rfl, rfl, rfl⟩
  case round =>
    obtain ⟨rfl, rfl, rfl⟩ := hrel
    go_wp2_with fail
    go_ret
    exact ⟨rfl, rfl⟩
theorem markedEvents_nil (W : World) : Calls Tryz.prog 67 #[.slice none 0 0] W fun e w' => e = .returned (.bool true) ∧ W = w' := by
  go_enter Tryz.func67, Tryz.ntmps67
  go_wp2_with fail
  go_loopw [3] (fun iv wr => iv = .int .i64 0 ∧ wr = W) (fun iv _ => 0)
  case atStart => exact ⟨rfl, rfl⟩
  case round =>
    obtain ⟨rfl, rfl⟩ := hrel
    go_wp2_with fail
    go_ret
    exact ⟨rfl, rfl⟩
theorem stillErrs_nil (K : Nat) (W : World) (c : W.cell? ⟨K, 14, none⟩ = some (.slice none 0 0)) : Calls Tryz.prog 32 #[.pointer (some ⟨K, 0, none⟩)] W fun e w' => e = .returned (.bool true) ∧ W = w' := by
  go_enter Tryz.func32, Tryz.ntmps32
  go_wp2_with fail
  go_loopw [3] (fun iv wr => iv = .int .i64 0 ∧ wr = W) (fun iv _ => 0)
  case atStart => exact ⟨rfl, rfl⟩
  case round =>
    obtain ⟨rfl, rfl⟩ := hrel
    go_wp2_with fail
    go_ret
    exact ⟨rfl, rfl⟩
theorem putErrs_nil (K : Nat) (W : World) (c : W.cell? ⟨K, 14, none⟩ = some (.slice none 0 0)) : Calls Tryz.prog 44 #[.pointer (some ⟨K, 0, none⟩)] W fun e w' => e = .returned (.tuple #[]) ∧ W = w' := by
  go_enter Tryz.func44, Tryz.ntmps44
  go_wp2_with fail
  go_loopw [2] (fun iv wr => iv = .int .i64 0 ∧ wr = W) (fun iv _ => 0)
  case atStart => exact ⟨rfl, rfl⟩
  case round =>
    obtain ⟨rfl, rfl⟩ := hrel
    go_wp2_with fail
    go_end0
    exact ⟨rfl, rfl⟩
theorem growErrs_nil (K : Nat) (W : World) (c : W.cell? ⟨K, 14, none⟩ = some (.slice none 0 0)) : Calls Tryz.prog 56 #[.pointer (some ⟨K, 0, none⟩)] W fun e w' => e = .returned (.slice none 0 0) ∧ W = w' := by
  go_enter Tryz.func56, Tryz.ntmps56
  go_wp2_with fail
  go_loopw [3, 4] (fun ov iv wr => ov = .slice none 0 0 ∧ iv = .int .i64 0 ∧ wr = W) (fun _ iv _ => 0)
  case atStart => exact ⟨rfl, rfl, rfl⟩
  case round =>
    obtain ⟨rfl, rfl, rfl⟩ := hrel
    go_wp2_with fail
    go_ret
    exact ⟨rfl, rfl⟩
theorem markedErrs_nil (W : World) : Calls Tryz.prog 68 #[.slice none 0 0] W fun e w' => e = .returned (.bool true) ∧ W = w' := by
  go_enter Tryz.func68, Tryz.ntmps68
  go_wp2_with fail
  go_loopw [3] (fun iv wr => iv = .int .i64 0 ∧ wr = W) (fun iv _ => 0)
  case atStart => exact ⟨rfl, rfl⟩
  case round =>
    obtain ⟨rfl, rfl⟩ := hrel
    go_wp2_with fail
    go_ret
    exact ⟨rfl, rfl⟩
theorem stillOuts_nil (K : Nat) (W : World) (c : W.cell? ⟨K, 16, none⟩ = some (.slice none 0 0)) : Calls Tryz.prog 33 #[.pointer (some ⟨K, 0, none⟩)] W fun e w' => e = .returned (.bool true) ∧ W = w' := by
  go_enter Tryz.func33, Tryz.ntmps33
  go_wp2_with fail
  go_loopw [3] (fun iv wr => iv = .int .i64 0 ∧ wr = W) (fun iv _ => 0)
  case atStart => exact ⟨rfl, rfl⟩
  case round =>
    obtain ⟨rfl, rfl⟩ := hrel
    go_wp2_with fail
    go_ret
    exact ⟨rfl, rfl⟩
theorem putOuts_nil (K : Nat) (W : World) (c : W.cell? ⟨K, 16, none⟩ = some (.slice none 0 0)) : Calls Tryz.prog 45 #[.pointer (some ⟨K, 0, none⟩)] W fun e w' => e = .returned (.tuple #[]) ∧ W = w' := by
  go_enter Tryz.func45, Tryz.ntmps45
  go_wp2_with fail
  go_loopw [2] (fun iv wr => iv = .int .i64 0 ∧ wr = W) (fun iv _ => 0)
  case atStart => exact ⟨rfl, rfl⟩
  case round =>
    obtain ⟨rfl, rfl⟩ := hrel
    go_wp2_with fail
    go_end0
    exact ⟨rfl, rfl⟩
theorem growOuts_nil (K : Nat) (W : World) (c : W.cell? ⟨K, 16, none⟩ = some (.slice none 0 0)) : Calls Tryz.prog 57 #[.pointer (some ⟨K, 0, none⟩)] W fun e w' => e = .returned (.slice none 0 0) ∧ W = w' := by
  go_enter Tryz.func57, Tryz.ntmps57
  go_wp2_with fail
  go_loopw [3, 4] (fun ov iv wr => ov = .slice none 0 0 ∧ iv = .int .i64 0 ∧ wr = W) (fun _ iv _ => 0)
  case atStart => exact ⟨rfl, rfl, rfl⟩
  case round =>
    obtain ⟨rfl, rfl, rfl⟩ := hrel
    go_wp2_with fail
    go_ret
    exact ⟨rfl, rfl⟩
theorem markedOuts_nil (W : World) : Calls Tryz.prog 69 #[.slice none 0 0] W fun e w' => e = .returned (.bool true) ∧ W = w' := by
  go_enter Tryz.func69, Tryz.ntmps69
  go_wp2_with fail
  go_loopw [3] (fun iv wr => iv = .int .i64 0 ∧ wr = W) (fun iv _ => 0)
  case atStart => exact ⟨rfl, rfl⟩
  case round =>
    obtain ⟨rfl, rfl⟩ := hrel
    go_wp2_with fail
    go_ret
    exact ⟨rfl, rfl⟩
theorem stillGrams_nil (K : Nat) (W : World) (c : W.cell? ⟨K, 18, none⟩ = some (.slice none 0 0)) : Calls Tryz.prog 34 #[.pointer (some ⟨K, 0, none⟩)] W fun e w' => e = .returned (.bool true) ∧ W = w' := by
  go_enter Tryz.func34, Tryz.ntmps34
  go_wp2_with fail
  go_loopw [3] (fun iv wr => iv = .int .i64 0 ∧ wr = W) (fun iv _ => 0)
  case atStart => exact ⟨rfl, rfl⟩
  case round =>
    obtain ⟨rfl, rfl⟩ := hrel
    go_wp2_with fail
    go_ret
    exact ⟨rfl, rfl⟩
theorem putGrams_nil (K : Nat) (W : World) (c : W.cell? ⟨K, 18, none⟩ = some (.slice none 0 0)) : Calls Tryz.prog 46 #[.pointer (some ⟨K, 0, none⟩)] W fun e w' => e = .returned (.tuple #[]) ∧ W = w' := by
  go_enter Tryz.func46, Tryz.ntmps46
  go_wp2_with fail
  go_loopw [2] (fun iv wr => iv = .int .i64 0 ∧ wr = W) (fun iv _ => 0)
  case atStart => exact ⟨rfl, rfl⟩
  case round =>
    obtain ⟨rfl, rfl⟩ := hrel
    go_wp2_with fail
    go_end0
    exact ⟨rfl, rfl⟩
theorem growGrams_nil (K : Nat) (W : World) (c : W.cell? ⟨K, 18, none⟩ = some (.slice none 0 0)) : Calls Tryz.prog 58 #[.pointer (some ⟨K, 0, none⟩)] W fun e w' => e = .returned (.slice none 0 0) ∧ W = w' := by
  go_enter Tryz.func58, Tryz.ntmps58
  go_wp2_with fail
  go_loopw [3, 4] (fun ov iv wr => ov = .slice none 0 0 ∧ iv = .int .i64 0 ∧ wr = W) (fun _ iv _ => 0)
  case atStart => exact ⟨rfl, rfl, rfl⟩
  case round =>
    obtain ⟨rfl, rfl, rfl⟩ := hrel
    go_wp2_with fail
    go_ret
    exact ⟨rfl, rfl⟩
theorem markedGrams_nil (W : World) : Calls Tryz.prog 70 #[.slice none 0 0] W fun e w' => e = .returned (.bool true) ∧ W = w' := by
  go_enter Tryz.func70, Tryz.ntmps70
  go_wp2_with fail
  go_loopw [3] (fun iv wr => iv = .int .i64 0 ∧ wr = W) (fun iv _ => 0)
  case atStart => exact ⟨rfl, rfl⟩
  case round =>
    obtain ⟨rfl, rfl⟩ := hrel
    go_wp2_with fail
    go_ret
    exact ⟨rfl, rfl⟩
theorem stillSteps_nil (K : Nat) (W : World) (c : W.cell? ⟨K, 20, none⟩ = some (.slice none 0 0)) : Calls Tryz.prog 35 #[.pointer (some ⟨K, 0, none⟩)] W fun e w' => e = .returned (.bool true) ∧ W = w' := by
  go_enter Tryz.func35, Tryz.ntmps35
  go_wp2_with fail
  go_loopw [3] (fun iv wr => iv = .int .i64 0 ∧ wr = W) (fun iv _ => 0)
  case atStart => exact ⟨rfl, rfl⟩
  case round =>
    obtain ⟨rfl, rfl⟩ := hrel
    go_wp2_with fail
    go_ret
    exact ⟨rfl, rfl⟩
theorem putSteps_nil (K : Nat) (W : World) (c : W.cell? ⟨K, 20, none⟩ = some (.slice none 0 0)) : Calls Tryz.prog 47 #[.pointer (some ⟨K, 0, none⟩)] W fun e w' => e = .returned (.tuple #[]) ∧ W = w' := by
  go_enter Tryz.func47, Tryz.ntmps47
  go_wp2_with fail
  go_loopw [2] (fun iv wr => iv = .int .i64 0 ∧ wr = W) (fun iv _ => 0)
  case atStart => exact ⟨rfl, rfl⟩
  case round =>
    obtain ⟨rfl, rfl⟩ := hrel
    go_wp2_with fail
    go_end0
    exact ⟨rfl, rfl⟩
theorem growSteps_nil (K : Nat) (W : World) (c : W.cell? ⟨K, 20, none⟩ = some (.slice none 0 0)) : Calls Tryz.prog 59 #[.pointer (some ⟨K, 0, none⟩)] W fun e w' => e = .returned (.slice none 0 0) ∧ W = w' := by
  go_enter Tryz.func59, Tryz.ntmps59
  go_wp2_with fail
  go_loopw [3, 4] (fun ov iv wr => ov = .slice none 0 0 ∧ iv = .int .i64 0 ∧ wr = W) (fun _ iv _ => 0)
  case atStart => exact ⟨rfl, rfl, rfl⟩
  case round =>
    obtain ⟨rfl, rfl, rfl⟩ := hrel
    go_wp2_with fail
    go_ret
    exact ⟨rfl, rfl⟩
theorem markedSteps_nil (W : World) : Calls Tryz.prog 71 #[.slice none 0 0] W fun e w' => e = .returned (.bool true) ∧ W = w' := by
  go_enter Tryz.func71, Tryz.ntmps71
  go_wp2_with fail
  go_loopw [3] (fun iv wr => iv = .int .i64 0 ∧ wr = W) (fun iv _ => 0)
  case atStart => exact ⟨rfl, rfl⟩
  case round =>
    obtain ⟨rfl, rfl⟩ := hrel
    go_wp2_with fail
    go_ret
    exact ⟨rfl, rfl⟩
theorem stillRows_nil (K : Nat) (W : World) (c : W.cell? ⟨K, 22, none⟩ = some (.slice none 0 0)) : Calls Tryz.prog 36 #[.pointer (some ⟨K, 0, none⟩)] W fun e w' => e = .returned (.bool true) ∧ W = w' := by
  go_enter Tryz.func36, Tryz.ntmps36
  go_wp2_with fail
  go_loopw [3] (fun iv wr => iv = .int .i64 0 ∧ wr = W) (fun iv _ => 0)
  case atStart => exact ⟨rfl, rfl⟩
  case round =>
    obtain ⟨rfl, rfl⟩ := hrel
    go_wp2_with fail
    go_ret
    exact ⟨rfl, rfl⟩
theorem putRows_nil (K : Nat) (W : World) (c : W.cell? ⟨K, 22, none⟩ = some (.slice none 0 0)) : Calls Tryz.prog 48 #[.pointer (some ⟨K, 0, none⟩)] W fun e w' => e = .returned (.tuple #[]) ∧ W = w' := by
  go_enter Tryz.func48, Tryz.ntmps48
  go_wp2_with fail
  go_loopw [2] (fun iv wr => iv = .int .i64 0 ∧ wr = W) (fun iv _ => 0)
  case atStart => exact ⟨rfl, rfl⟩
  case round =>
    obtain ⟨rfl, rfl⟩ := hrel
    go_wp2_with fail
    go_end0
    exact ⟨rfl, rfl⟩
theorem growRows_nil (K : Nat) (W : World) (c : W.cell? ⟨K, 22, none⟩ = some (.slice none 0 0)) : Calls Tryz.prog 60 #[.pointer (some ⟨K, 0, none⟩)] W fun e w' => e = .returned (.slice none 0 0) ∧ W = w' := by
  go_enter Tryz.func60, Tryz.ntmps60
  go_wp2_with fail
  go_loopw [3, 4] (fun ov iv wr => ov = .slice none 0 0 ∧ iv = .int .i64 0 ∧ wr = W) (fun _ iv _ => 0)
  case atStart => exact ⟨rfl, rfl, rfl⟩
  case round =>
    obtain ⟨rfl, rfl, rfl⟩ := hrel
    go_wp2_with fail
    go_ret
    exact ⟨rfl, rfl⟩
theorem markedRows_nil (W : World) : Calls Tryz.prog 72 #[.slice none 0 0] W fun e w' => e = .returned (.bool true) ∧ W = w' := by
  go_enter Tryz.func72, Tryz.ntmps72
  go_wp2_with fail
  go_loopw [3] (fun iv wr => iv = .int .i64 0 ∧ wr = W) (fun iv _ => 0)
  case atStart => exact ⟨rfl, rfl⟩
  case round =>
    obtain ⟨rfl, rfl⟩ := hrel
    go_wp2_with fail
    go_ret
    exact ⟨rfl, rfl⟩
end Go.Proofs.YthkppkecclnlnaaGreat
