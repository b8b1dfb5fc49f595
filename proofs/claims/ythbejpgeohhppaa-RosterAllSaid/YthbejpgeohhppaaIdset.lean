/- Walks: package idset. -/
import Derived.Test.YthbejpgeohhppaaChecked
import Derived.Test.YthbejpgeohhppaaSet
import Derived.Test.YthbejpgeohhppaaRow
import Derived.Deep.QuietTactic
import Derived.BigQuiet
import Derived.IntWalk
import Derived.StillTail
import Derived.StillTailTactics
namespace Go.Proofs.Ythbejpgeohhppaa
set_option linter.unusedVariables false
open Go.RowKit

theorem ret_b {a b : Bool} (h : a = b) : Ending.returned (.bool a) = .returned (.bool b) := by rw [h]
theorem isId_yes (i : Int) (h0 : 0 ≤ i) (h1 : i < 100) (w : World) :
    Calls Try.prog 45 #[.int .i64 i] w fun e w' => e = .returned (.bool true) ∧ w = w' := by
  go_enter Try.func45, Try.ntmps45
  go_wp2
  go_ret
  exact ⟨rfl, rfl⟩
theorem isId_no (i : Int) (h : ¬ (0 ≤ i ∧ i < 100)) (w : World) :
    Calls Try.prog 45 #[.int .i64 i] w fun e w' => e = .returned (.bool false) ∧ w = w' := by
  by_cases h0 : 0 ≤ i
  · have h1 : 100 ≤ i := by omega
    have h2 : decide (i < 100) = false := by simp; omega
    clear h
    go_enter Try.func45, Try.ntmps45
    go_wp2
    go_ret
    exact ⟨rfl, rfl⟩
  · have h1 : i < 0 := by omega
    clear h h0
    go_enter Try.func45, Try.ntmps45
    go_wp2
    go_ret
    exact ⟨rfl, rfl⟩

theorem has_word (x k : Nat) : (bits .and .u32 ((sw x (k / 32) : Nat) / 2 ^ (k % 32) : Int) 1 == (1 : Int)) = x.testBit (k : Int).toNat := by
  have h1 : ((sw x (k / 32) : Nat) / 2 ^ (k % 32) : Int) = ((sw x (k / 32) / 2 ^ (k % 32) : Nat) : Int) := by push_cast; rfl
  have h2 := sw_has x k
  rw [Nat.shiftRight_eq_div_pow] at h2
  have h3 : sw x (k / 32) / 2 ^ (k % 32) < 4294967296 := Nat.lt_of_le_of_lt (Nat.div_le_self _ _) (sw_lt _ _)
  rw [h1, show (1 : Int) = ((1 : Nat) : Int) from rfl, bits_and_u32 _ _ h3 (by decide), show (sw x (k / 32) / 2 ^ (k % 32)) &&& 1 = (sw x (k / 32) / 2 ^ (k % 32)) % 2 from Nat.and_one_is_mod _, h2]
  rw [Int.toNat_natCast]; cases x.testBit k <;> rfl
def hasB (x : Nat) (i : Int) : Bool := decide (0 ≤ i ∧ i < 100) && x.testBit i.toNat
set_option maxHeartbeats 400000 in
theorem has_any (x : Nat) (i : Int) (w : World) :
    Calls Try.prog 31 #[setV x, .int .i64 i] w fun e w' => e = .returned (.bool (hasB x i)) ∧ Below w.heap.size w w' := by
  by_cases h : 0 ≤ i ∧ i < 100
  · have hh : hasB x i = x.testBit i.toNat := by unfold hasB; simp [h]
    obtain ⟨h0, h1⟩ := h
    obtain ⟨k, rfl⟩ := Int.eq_ofNat_of_zero_le h0
    have H := Lib.hid (fun w => isId_yes k h0 h1 w)
    have HH := Lib.hid hh
    clear hh
    have b0 := blk_new w (.cells (setC x) 47)
    have c0 : (w.alloc (.cells (setC x) 47)).cell? ⟨w.heap.size, k / 32, none⟩ = some (.int .u32 (sw x (k / 32) : Nat)) := (blk_cell b0 (k / 32)).trans (setC_get x _ (by omega))
    have hw := sw_lt x (k / 32)
    unfold setC at c0 b0
    unfold setV setC
    go_enter Try.func31, Try.ntmps31
    go_wp2_with (go_at_call 45; refine (H.out _).mono ?_; rintro e w1 ⟨rfl, rfl⟩)
    go_ret
    refine ⟨ret_b ?_, (Below.refl _ _).alloc (Nat.le_refl _) _⟩
    rw [HH.out]
    exact has_word x k
  · have hh : hasB x i = false := by unfold hasB; simp [h]
    rw [hh]
    unfold setV setC
    have H := Lib.hid (fun w => isId_no i h w)
    clear h hh
    go_enter Try.func31, Try.ntmps31
    go_wp2_with (go_at_call 45; refine (H.out _).mono ?_; rintro e w1 ⟨rfl, rfl⟩)
    go_ret
    exact ⟨rfl, (Below.refl _ _).alloc (Nat.le_refl _) _⟩
end Go.Proofs.Ythbejpgeohhppaa
