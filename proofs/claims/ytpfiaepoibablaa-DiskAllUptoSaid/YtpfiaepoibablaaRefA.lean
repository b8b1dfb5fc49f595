/- Walks: the document's May, lay, value, Encode. -/
import Derived.Test.YtpfiaepoibablaaSlotE
namespace Go.Proofs.Ytpfiaepoibablaa
set_option linter.unusedVariables false
set_option linter.unusedSimpArgs false
open Go.RowKit

def valF : Nat → List Nat → Nat
  | x, [] => x
  | x, c :: l => valF (x * 256 + c) l
theorem valF_snoc : ∀ (l : List Nat) (x c : Nat), valF x (l ++ [c]) = valF x l * 256 + c
  | [], x, c => rfl
  | d :: l, x, c => valF_snoc l (x * 256 + d) c
theorem valF_lt : ∀ (l : List Nat) (x n : Nat), (∀ c ∈ l, c < 256) → x < n → valF x l < n * 256 ^ l.length
  | [], x, n, _, h => by simpa [valF] using h
  | c :: l, x, n, hc, h => by
    have h1 := valF_lt l (x * 256 + c) (n * 256) (fun d hd => hc d (by simp [hd])) (by have := hc c (by simp); omega)
    show valF (x * 256 + c) l < _
    rw [List.length_cons, Nat.pow_succ, Nat.mul_comm (256 ^ l.length) 256, ← Nat.mul_assoc]; exact h1
theorem valF_take {l : List Nat} {k c : Nat} (h : l[k]? = some c) : valF 0 (l.take (k + 1)) = valF 0 (l.take k) * 256 + c := by
  rw [List.take_add_one, h]; exact valF_snoc _ _ _
theorem valF_be : ∀ (n x y : Nat), valF x (be n y) = x * 256 ^ n + y % 256 ^ n
  | 0, x, y => by show x = _; simp [Nat.mod_one]
  | n + 1, x, y => by
    have hpe : 256 ^ (n + 1) = 256 ^ n * 256 := Nat.pow_succ 256 n
    have hm : y % 256 ^ (n + 1) = 256 ^ n * (y / 256 ^ n % 256) + y % 256 ^ n := by rw [hpe, Nat.mod_mul]; omega
    rw [be_succ]
    show valF (x * 256 + y / 256 ^ n % 256) (be n y) = _
    rw [valF_be n, hm, hpe, Nat.add_mul, Nat.mul_assoc, Nat.mul_comm 256 (256 ^ n), Nat.mul_comm (y / 256 ^ n % 256) (256 ^ n)]; omega
end Go.Proofs.Ytpfiaepoibablaa
