/- Sets of ids as one number: its words, and what each operation does. Plain. -/
import Derived.WalkKit
import Derived.Laws.Bits64b
namespace Go.Proofs.Ythbejpgeohhppaa
set_option linter.unusedVariables false
open Go.RowKit

theorem bits_and_u32 (a b : Nat) (ha : a < 4294967296) (hb : b < 4294967296) : bits .and .u32 (a : Int) (b : Int) = ((a &&& b : Nat) : Int) := by
  have hx : a &&& b < 2 ^ 32 := Nat.and_lt_two_pow _ (by omega)
  have h1 : (BitVec.ofInt 32 (a : Int)).toNat = a := by rw [BitVec.ofInt_natCast, BitVec.toNat_ofNat]; exact Nat.mod_eq_of_lt (by omega)
  have h2 : (BitVec.ofInt 32 (b : Int)).toNat = b := by rw [BitVec.ofInt_natCast, BitVec.toNat_ofNat]; exact Nat.mod_eq_of_lt (by omega)
  show IntKind.u32.wrap ((BitVec.ofInt 32 (a : Int) &&& BitVec.ofInt 32 (b : Int)).toNat : Int) = _
  rw [BitVec.toNat_and, h1, h2, IntKind.wrap_u32]
  omega
theorem bits_or_u32 (a b : Nat) (ha : a < 4294967296) (hb : b < 4294967296) : bits .or .u32 (a : Int) (b : Int) = ((a ||| b : Nat) : Int) := by
  have hx : a ||| b < 2 ^ 32 := Nat.or_lt_two_pow (by omega) (by omega)
  have h1 : (BitVec.ofInt 32 (a : Int)).toNat = a := by rw [BitVec.ofInt_natCast, BitVec.toNat_ofNat]; exact Nat.mod_eq_of_lt (by omega)
  have h2 : (BitVec.ofInt 32 (b : Int)).toNat = b := by rw [BitVec.ofInt_natCast, BitVec.toNat_ofNat]; exact Nat.mod_eq_of_lt (by omega)
  show IntKind.u32.wrap ((BitVec.ofInt 32 (a : Int) ||| BitVec.ofInt 32 (b : Int)).toNat : Int) = _
  rw [BitVec.toNat_or, h1, h2, IntKind.wrap_u32]
  omega

/-- The word j of a set. -/
def sw (x j : Nat) : Nat := x >>> (32 * j) % 2 ^ 32
theorem sw_lt (x j : Nat) : sw x j < 4294967296 := Nat.mod_lt _ (by decide)
theorem sw_bit (x j i : Nat) : (sw x j).testBit i = (decide (i < 32) && x.testBit (32 * j + i)) := by
  unfold sw; rw [Nat.testBit_mod_two_pow, Nat.testBit_shiftRight]
theorem sw_and (x y j : Nat) : sw (x &&& y) j = sw x j &&& sw y j := by
  apply Nat.eq_of_testBit_eq
  intro i
  rw [Nat.testBit_and, sw_bit, sw_bit, sw_bit, Nat.testBit_and]
  cases decide (i < 32) <;> simp
/-- Is the id in the set? -/
theorem sw_has (x i : Nat) : sw x (i / 32) >>> (i % 32) % 2 = (x.testBit i).toNat := by
  have h := sw_bit x (i / 32) (i % 32)
  rw [show decide (i % 32 < 32) = true from by simp; omega, Bool.true_and, show 32 * (i / 32) + i % 32 = i from by omega] at h
  rw [← h, Nat.testBit_eq_decide_div_mod_eq, Nat.shiftRight_eq_div_pow]
  rcases Nat.mod_two_eq_zero_or_one (sw x (i / 32) / 2 ^ (i % 32)) with e | e <;> rw [e] <;> rfl
theorem sw_with (x i j : Nat) : sw (x ||| 2 ^ i) j = if j = i / 32 then sw x j ||| 2 ^ (i % 32) else sw x j := by
  apply Nat.eq_of_testBit_eq
  intro k
  by_cases hj : j = i / 32
  · rw [if_pos hj, Nat.testBit_or, sw_bit, sw_bit, Nat.testBit_or, Nat.testBit_two_pow, Nat.testBit_two_pow]
    by_cases hk : k < 32
    · have : (i = 32 * j + k) = (i % 32 = k) := by rw [eq_iff_iff]; omega
      simp [hk, this]
    · have : ¬ i % 32 = k := by omega
      simp [hk, this]
  · rw [if_neg hj, sw_bit, sw_bit, Nat.testBit_or, Nat.testBit_two_pow]
    by_cases hk : k < 32
    · have : ¬ i = 32 * j + k := by omega
      simp [hk, this]
    · simp [hk]
theorem sw_mask (n j : Nat) : sw (2 ^ n - 1) j = 2 ^ (min (n - 32 * j) 32) - 1 := by
  apply Nat.eq_of_testBit_eq
  intro k
  rw [sw_bit, Nat.testBit_two_pow_sub_one, Nat.testBit_two_pow_sub_one]
  by_cases hk : k < 32
  · have : (32 * j + k < n) = (k < min (n - 32 * j) 32) := by rw [eq_iff_iff]; omega
    simp only [hk, decide_true, Bool.true_and, this]
  · have : ¬ k < min (n - 32 * j) 32 := by omega
    simp [hk, this]
theorem set_ext {x y : Nat} (hx : x < 2 ^ 128) (hy : y < 2 ^ 128) (h : ∀ j, j < 4 → sw x j = sw y j) : x = y := by
  apply Nat.eq_of_testBit_eq
  intro k
  by_cases hk : k < 128
  · have h2 := congrArg (fun n => n.testBit (k % 32)) (h (k / 32) (by omega))
    simp only [sw_bit] at h2
    rw [show decide (k % 32 < 32) = true from by simp; omega, show 32 * (k / 32) + k % 32 = k from by omega] at h2
    simpa using h2
  · rw [Nat.testBit_lt_two_pow (Nat.lt_of_lt_of_le hx (Nat.pow_le_pow_right (by decide) (by omega))), Nat.testBit_lt_two_pow (Nat.lt_of_lt_of_le hy (Nat.pow_le_pow_right (by decide) (by omega)))]
/-- Any four words are a set's. -/
def setOf4 (a b c d : Nat) : Nat := a + 2 ^ 32 * b + 2 ^ 64 * c + 2 ^ 96 * d
theorem setOf4_lt {a b c d : Nat} (ha : a < 2 ^ 32) (hb : b < 2 ^ 32) (hc : c < 2 ^ 32) (hd : d < 2 ^ 32) : setOf4 a b c d < 2 ^ 128 := by unfold setOf4; omega
theorem setOf4_sw {a b c d : Nat} (ha : a < 2 ^ 32) (hb : b < 2 ^ 32) (hc : c < 2 ^ 32) (hd : d < 2 ^ 32) :
    sw (setOf4 a b c d) 0 = a ∧ sw (setOf4 a b c d) 1 = b ∧ sw (setOf4 a b c d) 2 = c ∧ sw (setOf4 a b c d) 3 = d := by
  unfold sw setOf4
  simp only [Nat.shiftRight_eq_div_pow, Nat.mul_zero, Nat.pow_zero, Nat.div_one, Nat.mul_one, show (32 * 2 : Nat) = 64 from rfl, show (32 * 3 : Nat) = 96 from rfl]
  omega

def setC (x : Nat) : Array Value := #[.int .u32 (sw x 0 : Nat), .int .u32 (sw x 1 : Nat), .int .u32 (sw x 2 : Nat), .int .u32 (sw x 3 : Nat)]
def setV (x : Nat) : Value := .agg (setC x)
theorem setC_get (x j : Nat) (hj : j < 4) : (setC x)[j]? = some (.int .u32 (sw x j : Nat)) := by
  match j, hj with
  | 0, _ => rfl
  | 1, _ => rfl
  | 2, _ => rfl
  | 3, _ => rfl
theorem clean_mod (x : Nat) : x &&& (2 ^ 100 - 1) = x % 2 ^ 100 := Nat.and_two_pow_sub_one_eq_mod x 100
end Go.Proofs.Ythbejpgeohhppaa
