/- Walks: mayBe, isSeq, take, put (the slot's small functions). -/
import Derived.Test.YtpfiaepoibablaaSlotM
import Derived.Test.YtpfiaepoibablaaCells
import Derived.Laws.Bits64b
namespace Go.Proofs.Ytpfiaepoibablaa
set_option linter.unusedVariables false
set_option linter.unusedSimpArgs false
open Go.RowKit

theorem bits_or_i64 (a b : Nat) (ha : a < 9223372036854775808) (hb : b < 9223372036854775808) : bits .or .i64 (a : Int) (b : Int) = ((a ||| b : Nat) : Int) := by
  have h3 : a ||| b < 2 ^ 63 := Nat.or_lt_two_pow (by omega) (by omega)
  have h1 : (BitVec.ofInt 64 (a : Int)).toNat = a := by rw [BitVec.ofInt_natCast, BitVec.toNat_ofNat]; exact Nat.mod_eq_of_lt (by omega)
  have h2 : (BitVec.ofInt 64 (b : Int)).toNat = b := by rw [BitVec.ofInt_natCast, BitVec.toNat_ofNat]; exact Nat.mod_eq_of_lt (by omega)
  show IntKind.i64.wrap ((BitVec.ofInt 64 (a : Int) ||| BitVec.ofInt 64 (b : Int)).toNat : Int) = _
  rw [BitVec.toNat_or, h1, h2, IntKind.wrap_i64]
  omega
theorem or_shift (x c : Nat) (hx : x < 281474976710656) (hc : c < 256) : bits .or .i64 ((x : Int) * 256) (c : Int) = ((x * 256 + c : Nat) : Int) := by
  have h := bits_or_i64 (x * 256) c (by omega) (by omega)
  rw [show ((x * 256 : Nat) : Int) = (x : Int) * 256 from by omega] at h
  rw [h, show x * 256 = 2 ^ 8 * x from by omega, ← Nat.two_pow_add_eq_or_of_lt (by omega)]
/-- A record as a value. -/
def recV (a b c : Int) : Value := .agg #[.int .i64 a, .int .i64 b, .int .i64 c]
def keptV (r : Rc) : Value := .agg #[.int .i64 (r.life : Int), .int .i64 (r.round : Int), .int .i64 (r.tag : Int), .int .i64 (r.seq : Int)]
theorem takeF_drop {x k : Nat} {l : List Nat} {c : Nat} (hc : l[k]? = some c) : takeF x (l.drop k) = if 281474976710656 ≤ x then 72057594037927936 else takeF (x * 256 + c) (l.drop (k + 1)) := by
  obtain ⟨hk, hv⟩ := List.getElem?_eq_some_iff.1 hc
  rw [List.drop_eq_getElem_cons hk, hv]
  rfl
end Go.Proofs.Ytpfiaepoibablaa
