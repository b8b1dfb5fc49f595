/- Plain: what reading a set of nodes comes to. -/
import Derived.Test.YthbejpgeohhppaaTwo
namespace Go.Proofs.Ythbejpgeohhppaa
set_option linter.unusedVariables false
open Go.RowKit

/-- The characters that are left, behind a set and a place: the set, the place, the error. -/
def paGo (l : List Nat) (s : ByteArray) : List Nat → Nat → Nat → Nat × Nat × Int
  | [], x, at_ => (x, 0, 0)
  | p :: ps, x, at_ =>
    match fnd l (rn s p) with
    | none => (0, at_, 41)
    | some k => if x.testBit k then (0, at_, 42) else paGo l s ps (x ||| 2 ^ k) (at_ + 1)
def dash : ByteArray := ⟨#[45]⟩
def parV (l : List Nat) (s : ByteArray) : Nat × Nat × Int :=
  if 65536 < s.size then (0, 0, 2) else if s.size = 0 then (0, 0, 40) else if s = dash then (0, 0, 0) else paGo l s (st s 0) 0 0

theorem parV_empty (l : List Nat) : parV l ByteArray.empty = (0, 0, 40) := by unfold parV; rw [if_neg (by decide), if_pos (by decide)]
theorem parV_dash (l : List Nat) : parV l ⟨#[45]⟩ = (0, 0, 0) := by
  show parV l dash = _
  unfold parV; rw [if_neg (by decide), if_neg (by decide), if_pos rfl]
theorem fnd_lt {l : List Nat} {c : Int} {k : Nat} (h : fnd l c = some k) : k < l.length := by obtain ⟨_, _, _, h⟩ := fnd_some h; exact h
theorem or_lt {x k : Nat} (hx : x < 2 ^ 100) (hk : k < 100) : x ||| 2 ^ k < 2 ^ 100 := Nat.or_lt_two_pow hx (Nat.pow_lt_pow_right (by decide) hk)
theorem paGo_lt {l : List Nat} {s : ByteArray} (hl : l.length ≤ 100) : ∀ (ps : List Nat) (x a : Nat), x < 2 ^ 100 → (paGo l s ps x a).1 < 2 ^ 100
  | [], x, a, h => h
  | p :: ps, x, a, h => by
    unfold paGo
    cases hf : fnd l (rn s p) with
    | none => exact Nat.pow_pos (by decide)
    | some k =>
      show (if x.testBit k then _ else _ : Nat × Nat × Int).1 < _
      split
      · exact Nat.pow_pos (by decide)
      · exact paGo_lt hl ps _ _ (or_lt h (by have := fnd_lt hf; omega))
theorem parV_lt {l : List Nat} {s : ByteArray} (hl : l.length ≤ 100) : (parV l s).1 < 2 ^ 100 := by
  unfold parV
  split
  · exact Nat.pow_pos (by decide)
  split
  · exact Nat.pow_pos (by decide)
  split
  · exact Nat.pow_pos (by decide)
  · exact paGo_lt hl _ _ _ (Nat.pow_pos (by decide))
/-- A loose byte is no sign. -/
theorem fnd_loose {l : List Nat} (hl : ∀ r ∈ l, classN r = 4) {s : ByteArray} {p : Nat} (h : lo s p = true) : fnd l (rn s p) = none := by
  cases hf : fnd l (rn s p) with
  | none => rfl
  | some k =>
    obtain ⟨r, h1, h2, _⟩ := fnd_some hf
    have h3 := hl r (List.mem_of_getElem? h1)
    rw [h2, ((lo_iff s p).1 h).1] at h3
    exact absurd h3 class_fffd
theorem dash_iff {s : ByteArray} : (s.toList == [45]) = decide (s = dash) := by
  rw [Bool.eq_iff_iff, decide_eq_true_iff]
  constructor
  · intro h
    have h2 : s.toList = [45] := by simpa using h
    rw [ByteArray.toList_eq] at h2
    cases s with | mk d => cases d with | mk l => simp at h2; subst h2; rfl
  · rintro rfl; rw [ByteArray.toList_eq]; rfl
end Go.Proofs.Ythbejpgeohhppaa
