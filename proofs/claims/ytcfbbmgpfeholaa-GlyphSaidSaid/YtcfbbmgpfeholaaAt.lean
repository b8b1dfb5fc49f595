/- Walks: earshotref1.more, earshotref1.At: what stands at a byte, as the model's own decoding has it. -/
import Derived.Test.YtcfbbmgpfeholaaClass
import Derived.Test.YtcfbbmgpfeholaaPure
import Derived.Deep.QuietTactic
import Derived.BigQuiet
import Derived.IntWalk
namespace Go.Proofs.Ytcfbbmgpfeholaa
open Go.RowKit

def moreB (s : ByteArray) (j : Nat) : Bool := decide (j < s.size ∧ 0x80 ≤ bt s j ∧ bt s j ≤ 0xBF)

theorem bt_get (s : ByteArray) (i : Nat) (h : i < s.size) : (s[i]'h).toNat = bt s i := by
  rw [← get_at s i h]; rfl

theorem moreB_iff (s : ByteArray) (j : Nat) : moreB s j = true ↔ j < s.size ∧ 0x80 ≤ bt s j ∧ bt s j ≤ 0xBF := by simp [moreB]

def atV (s : ByteArray) (i : Nat) : Value := .tuple #[.int .i64 (rn s i), .int .i64 (wd s i), .bool (lo s i)]

theorem at_end {s : ByteArray} {i : Nat} {X Y : Int} {Z : Bool} {r n : Nat} (h : Hid (dec s i = (r, n))) (hX : X = r) (hY : Y = n) (hZ : Z = decide ((r, n) = (65533, 1))) :
    Ending.returned (.tuple #[.int .i64 X, .int .i64 Y, .bool Z]) = .returned (atV s i) := by
  unfold atV rn wd lo; rw [h.out, hX, hY, hZ]

end Go.Proofs.Ytcfbbmgpfeholaa
