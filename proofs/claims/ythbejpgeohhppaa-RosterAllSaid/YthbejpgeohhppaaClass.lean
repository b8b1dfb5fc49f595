/- Walks: glyph.Class, glyph.isLetter, earshotref1.Class answer the same number for every rune. -/
import Derived.Test.YthbejpgeohhppaaRows
import Derived.WalkKit
import Derived.WalkSpells
import Derived.WalkLawsBesides
import Derived.Deep.Light
import Derived.Lib.Hide
namespace Go.Proofs.Ythbejpgeohhppaa
open Go.RowKit

theorem ret_bool {a b : Bool} (h : a = b) : Ending.returned (.bool a) = .returned (.bool b) := by rw [h]
theorem ret_int {k : IntKind} {a b : Int} (h : a = b) : Ending.returned (.int k a) = .returned (.int k b) := by rw [h]

def isLetterN (r : Int) : Bool :=
  if (65 ≤ r ∧ r ≤ 90) ∨ (97 ≤ r ∧ r ≤ 122) then true
  else if r = 0xD7 ∨ r = 0xF7 ∨ (0x300 ≤ r ∧ r ≤ 0x36F) ∨ r = 0x1680 then false
  else (0xC0 ≤ r ∧ r ≤ 0x1FFF) ∨ (0x3041 ≤ r ∧ r ≤ 0xD7A3) ∨ (0x1F300 ≤ r ∧ r ≤ 0x1FAFF)

def classN (r : Int) : Int :=
  if r = 9 ∨ r = 13 ∨ r = 32 then 1
  else if r = 10 then 2
  else if 48 ≤ r ∧ r ≤ 57 then 3
  else if isLetterN r = true then 4
  else if 33 ≤ r ∧ r ≤ 126 then 5
  else 6

set_option maxHeartbeats 400000 in
theorem isLetter_any (r : Int) (w : World) :
    Calls Try.prog 43 #[.int .i32 r] w fun e w' => e = .returned (.bool (isLetterN r)) ∧ w = w' := by
  go_enter Try.func43, Try.ntmps43
  go_wp2
  all_goals go_light
  all_goals (go_ret; refine ⟨ret_bool ?_, rfl⟩)
  all_goals (
    try simp only [beq_iff_eq, beq_eq_false_iff_ne, ne_eq] at *
    unfold isLetterN
    rw [Bool.eq_iff_iff]
    repeat' split
    all_goals simp only [decide_eq_true_eq, Bool.or_eq_true, Bool.false_eq_true, iff_true, true_iff, iff_false, false_iff]
    all_goals omega)

set_option maxHeartbeats 400000 in
theorem class_any (r : Int) (w : World) :
    Calls Try.prog 26 #[.int .i32 r] w fun e w' => e = .returned (.int .i64 (classN r)) ∧ w = w' := by
  go_enter Try.func26, Try.ntmps26
  go_wp2_with (go_at_call 43; refine (isLetter_any _ _).mono ?_; rintro e w' ⟨rfl, rfl⟩)
  all_goals go_light
  all_goals (go_ret; refine ⟨ret_int ?_, rfl⟩)
  all_goals (
    try simp only [beq_iff_eq, beq_eq_false_iff_ne, ne_eq] at *
    unfold classN
    repeat' split
    all_goals first | rfl | omega | (exfalso; simp_all; done) | (exfalso; simp_all; omega))

def refClassN (r : Int) : Int :=
  if r = 9 ∨ r = 13 ∨ r = 32 then 1
  else if r = 10 then 2
  else if 48 ≤ r ∧ r ≤ 57 then 3
  else if (65 ≤ r ∧ r ≤ 90) ∨ (97 ≤ r ∧ r ≤ 122) then 4
  else if 0xC0 ≤ r ∧ r ≤ 0x1FFF then (if r = 0xD7 ∨ r = 0xF7 ∨ (0x300 ≤ r ∧ r ≤ 0x36F) ∨ r = 0x1680 then 6 else 4)
  else if (0x3041 ≤ r ∧ r ≤ 0xD7A3) ∨ (0x1F300 ≤ r ∧ r ≤ 0x1FAFF) then 4
  else if 33 ≤ r ∧ r ≤ 126 then 5
  else 6

theorem refClassN_eq (r : Int) : refClassN r = classN r := by
  have hL : isLetterN r = true ↔ ((65 ≤ r ∧ r ≤ 90) ∨ (97 ≤ r ∧ r ≤ 122)) ∨ (¬ (r = 0xD7 ∨ r = 0xF7 ∨ (0x300 ≤ r ∧ r ≤ 0x36F) ∨ r = 0x1680) ∧ ((0xC0 ≤ r ∧ r ≤ 0x1FFF) ∨ (0x3041 ≤ r ∧ r ≤ 0xD7A3) ∨ (0x1F300 ≤ r ∧ r ≤ 0x1FAFF))) := by
    unfold isLetterN
    split
    · simp only [true_iff]; omega
    · split
      · simp only [Bool.false_eq_true, false_iff]; omega
      · simp only [decide_eq_true_eq]; omega
  unfold refClassN classN
  simp only [hL]
  repeat' split
  all_goals omega

set_option maxHeartbeats 4000000 in
theorem refClass_any (r : Int) (w : World) :
    Calls Try.prog 28 #[.int .i64 r] w fun e w' => e = .returned (.int .i64 (classN r)) ∧ w = w' := by
  rw [← refClassN_eq]
  go_enter Try.func28, Try.ntmps28
  go_wp2
  all_goals go_light
  all_goals (go_ret; refine ⟨ret_int ?_, rfl⟩)
  all_goals (
    try simp only [beq_iff_eq, beq_eq_false_iff_ne, ne_eq] at *
    unfold refClassN
    repeat' split
    all_goals first | rfl | omega)

end Go.Proofs.Ythbejpgeohhppaa
