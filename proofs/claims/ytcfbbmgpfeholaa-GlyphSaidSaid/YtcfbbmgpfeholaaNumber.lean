/- Walks: glyph.hidden, glyph.number; the hexadecimal digits of a number. -/
import Derived.Test.YtcfbbmgpfeholaaRunes
import Derived.Test.YtcfbbmgpfeholaaClass
import Derived.Test.YtcfbbmgpfeholaaWorld
import Derived.IntWalk
import Derived.Deep.Draws
namespace Go.Proofs.Ytcfbbmgpfeholaa
set_option linter.unusedVariables false
set_option linter.unusedSimpArgs false
open Go.RowKit

def hexd (d : Nat) : UInt8 := UInt8.ofNat (if d < 10 then 48 + d else 87 + d)
def hexF : Nat → Nat → List UInt8
  | 0, _ => []
  | f + 1, r => if r = 0 then [] else hexF f (r / 16) ++ [hexd (r % 16)]
def hexL (r : Nat) : List UInt8 := hexF 8 r
theorem hexF_zero (f : Nat) : hexF f 0 = [] := by cases f <;> rfl
theorem hexF_succ (f : Nat) {r : Nat} (h : 0 < r) : hexF (f + 1) r = hexF f (r / 16) ++ [hexd (r % 16)] := by
  show (if r = 0 then [] else _) = _
  rw [if_neg (by omega)]

def digitsT : ByteArray := ⟨#[48, 49, 50, 51, 52, 53, 54, 55, 56, 57, 97, 98, 99, 100, 101, 102]⟩
theorem digit_at (d : Nat) (h : d < 16) : (digitsT.extract d (d + 1)) = ⟨#[hexd d]⟩ := by
  have : ∀ d : Fin 16, (digitsT.extract d.val (d.val + 1)) = ⟨#[hexd d.val]⟩ := by decide
  exact this ⟨d, h⟩

theorem i32_and15 (q : Nat) (h : q < 2147483648) : bits .and .i32 (q : Int) 15 = ((q % 16 : Nat) : Int) := by
  have := bits_mask .i32 31 (by decide) wraps_i32 4 (by decide) (q : Int) (by omega) (by omega)
  simpa using this
theorem wrap32_digit (d : Nat) (h : d < 16) : wrap32 ((d : Int) + 1) = (d : Int) + 1 := by unfold wrap32; omega

def hiddenB (r : Int) : Bool := decide ((0x80 ≤ r ∧ r ≤ 0x9F) ∨ (0x200B ≤ r ∧ r ≤ 0x200F) ∨ (0x2028 ≤ r ∧ r ≤ 0x202E) ∨ r = 0xFEFF)

theorem number_any (r : Nat) (hr : r < 2147483648) (w : World) :
    Calls Try.prog 23 #[.int .i32 r] w fun e w' => e = .returned (.string ⟨(hexL r).toArray⟩) ∧ Below w.heap.size w w' := by
  go_enter Try.func23, Try.ntmps23
  go_wp2_with fail
  go_loopw [0, 3] (fun qv sv wr => ∃ (q f : Nat) (acc : List UInt8), qv = .int .i32 q ∧ sv = .string ⟨acc.toArray⟩ ∧ Hid (hexF f q ++ acc = hexL r) ∧ q < 16 ^ f ∧ f + acc.length = 8 ∧ q < 2147483648 ∧ wr = w) (fun qv _ _ => (intOf qv).toNat)
  case atStart => exact ⟨r, 8, [], rfl, rfl, by show _ = _; simp [hexL], by omega, rfl, hr, rfl⟩
  case round =>
    obtain ⟨q, f, acc, rfl, rfl, hx, hqf, hfa, hq31, rfl⟩ := hrel
    by_cases hq : 0 < q
    · have i0 : (0 : Int) < (q : Int) := by omega
      obtain ⟨d, hd, hd16⟩ : ∃ d, q % 16 = d ∧ d < 16 := ⟨_, rfl, Nat.mod_lt _ (by decide)⟩
      have hb : bits .and .i32 (q : Int) 15 = (d : Int) := by rw [i32_and15 q hq31, hd]
      have hw := wrap32_digit d hd16
      have i2 : ((d : Int) + 1).toNat = d + 1 := by omega
      have i3 : (0 : Int) ≤ (d : Int) + 1 := by omega
      have i4 : (d : Int) + 1 ≤ 16 := by omega
      have i5 : (0 : Int) ≤ (d : Int) := by omega
      have i6 : (d : Int) ≤ (d : Int) + 1 := by omega
      have i7 := digit_at d hd16
      have i9 : ¬ 9223372036854775807 < 1 + acc.length := by omega
      unfold digitsT at i7
      go_wp2_with fail
      obtain ⟨f, rfl⟩ : ∃ f', f = f' + 1 := by
        cases f with
        | zero => simp at hqf; omega
        | succ f' => exact ⟨f', rfl⟩
      refine ⟨⟨q / 16, f, hexd d :: acc, by congr 1, ?_, ?_, ?_, by simp; omega, by omega, trivial⟩, ?_⟩
      · congr 1
      · show _ = _
        rw [← hx.out, hexF_succ f hq, hd]; simp
      · rw [Nat.pow_succ] at hqf; omega
      · simp [intOf]; omega
    · have i0 : ¬ (0 : Int) < (q : Int) := by omega
      go_wp2_with fail
      go_ret
      have hq0 : q = 0 := by omega
      have := hx.out
      rw [hq0, hexF_zero, List.nil_append] at this
      exact ⟨by rw [← this]; rfl, Below.refl _ _⟩

set_option maxHeartbeats 400000 in
theorem hidden_any (r : Int) (w : World) :
    Calls Try.prog 22 #[.int .i32 r] w fun e w' => e = .returned (.bool (hiddenB r)) ∧ w = w' := by
  go_enter Try.func22, Try.ntmps22
  go_wp2
  all_goals go_light
  all_goals (go_ret; refine ⟨ret_bool ?_, rfl⟩)
  all_goals (
    try simp only [beq_iff_eq, beq_eq_false_iff_ne, ne_eq] at *
    unfold hiddenB
    rw [Bool.eq_iff_iff]
    simp only [decide_eq_true_eq, Bool.or_eq_true, Bool.false_eq_true, iff_true, true_iff, iff_false, false_iff]
    omega)

end Go.Proofs.Ytcfbbmgpfeholaa
