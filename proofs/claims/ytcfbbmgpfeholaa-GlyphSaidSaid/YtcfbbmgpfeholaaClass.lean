/- Walks: glyph.Class, glyph.isLetter, earshotref1.Class answer the same number for every rune. -/
import Derived.Test.YtcfbbmgpfeholaaRows
import Derived.WalkKit
import Derived.WalkSpells
import Derived.WalkLawsBesides
import Derived.Deep.Light
import Derived.Lib.Hide
namespace Go.Proofs.Ytcfbbmgpfeholaa
open Go.RowKit

theorem ret_bool {a b : Bool} (h : a = b) : Ending.returned (.bool a) = .returned (.bool b) := by rw [h]
theorem ret_int {k : IntKind} {a b : Int} (h : a = b) : Ending.returned (.int k a) = .returned (.int k b) := by rw [h]

def isLetterN (r : Int) : Bool :=
  if (65 ≤ r ∧ r ≤ 90) ∨ (97 ≤ r ∧ r ≤ 122) then true
  else if r = 0xD7 ∨ r = 0xF7 ∨ (0x300 ≤ r ∧ r ≤ 0x36F) ∨ r = 0x1680 then false
  else (0xC0 ≤ r ∧ r ≤ 0x1FFF) ∨ (0x3041 ≤ r ∧ r ≤ 0xD7A3) ∨ (0x1F300 ≤ r ∧ r ≤ 0x1FAFF)

def classN (r : Int) : Int :=
  if r = 9 ∨ r = 13 ∨ r = 32 then 1
  else if r = 10 then 2
  else if 48 ≤ r ∧ r ≤ 57 then 3
  else if isLetterN r = true then 4
  else if 33 ≤ r ∧ r ≤ 126 then 5
  else 6

def refClassN (r : Int) : Int :=
  if r = 9 ∨ r = 13 ∨ r = 32 then 1
  else if r = 10 then 2
  else if 48 ≤ r ∧ r ≤ 57 then 3
  else if (65 ≤ r ∧ r ≤ 90) ∨ (97 ≤ r ∧ r ≤ 122) then 4
  else if 0xC0 ≤ r ∧ r ≤ 0x1FFF then (if r = 0xD7 ∨ r = 0xF7 ∨ (0x300 ≤ r ∧ r ≤ 0x36F) ∨ r = 0x1680 then 6 else 4)
  else if (0x3041 ≤ r ∧ r ≤ 0xD7A3) ∨ (0x1F300 ≤ r ∧ r ≤ 0x1FAFF) then 4
  else if 33 ≤ r ∧ r ≤ 126 then 5
  else 6

theorem refClassN_eq (r : Int) : refClassN r = classN r := by
  have hL : isLetterN r = true ↔ ((65 ≤ r ∧ r ≤ 90) ∨ (97 ≤ r ∧ r ≤ 122)) ∨ (¬ (r = 0xD7 ∨ r = 0xF7 ∨ (0x300 ≤ r ∧ r ≤ 0x36F) ∨ r = 0x1680) ∧ ((0xC0 ≤ r ∧ r ≤ 0x1FFF) ∨ (0x3041 ≤ r ∧ r ≤ 0xD7A3) ∨ (0x1F300 ≤ r ∧ r ≤ 0x1FAFF))) := by
    unfold isLetterN
    split
    · simp only [true_iff]; omega
    · split
      · simp only [Bool.false_eq_true, false_iff]; omega
      · simp only [decide_eq_true_eq]; omega
  unfold refClassN classN
  simp only [hL]
  repeat' split
  all_goals omega

end Go.Proofs.Ytcfbbmgpfeholaa
