/- Lemmas of this chapter, laid one behind the other. -/
import Derived.Laws.RangeAny
import Derived.Lib.Strings
import Derived.Lib.Small
import Derived.Lib.RuneBytes
import Derived.WalkKit
import Derived.Lib.OthersKept
import Derived.Lib.Hide
import Derived.Deep.Draws
import Derived.Deep.QuietTactic
import Derived.BigQuiet
import Derived.Maps.AppendAt
import Derived.Lib.AppendStr
import Derived.Laws.IdiomStrings
import Derived.Laws.IdiomCopy
import Derived.Laws.Bits64b
import Derived.Test.YtppmiggkknhdkaaDoorChecked
import Derived.IntWalk
import Derived.StillTail
import Derived.StillTailTactics
import Derived.RangeFuncNested
import Derived.RangeFuncCalls
import Derived.OwnWalkIn
import Derived.StillTactics
import Derived.Test.YtppmiggkknhdkaaDoorRows
import Derived.OrdersHeld
import Derived.Deep.RegionHeld3
import Derived.Deep.DeepCutAuto
import Derived.Deep.MidRow
import Derived.Laws.Rows
import Derived.Below
import Derived.ChangeSame
import Derived.ProofKit
import Derived.OpenShut
import Derived.ShutString
import Derived.SizedLaws
import Derived.WideKeyArgs
import Derived.ChangeSlices
import Derived.OwnWalk
import Derived.Laws.CopyOwn
namespace Go.Proofs.YtppmiggkknhdkaaDoor

/-- The byte at a place as a number; 0 beyond the end. -/
def bt (s : ByteArray) (p : Nat) : Nat := (s.get! p).toNat

theorem bt_lt (s : ByteArray) (p : Nat) : bt s p < 256 := (s.get! p).toNat_lt

/-- P101 in numbers: the two, by the bytes. -/
def dec (s : ByteArray) (p : Nat) : Nat × Nat :=
  if bt s p < 0x80 then (bt s p, 1)
  else if 0xC2 ≤ bt s p ∧ bt s p ≤ 0xDF ∧ (p + 1 < s.size ∧ 0x80 ≤ bt s (p + 1) ∧ bt s (p + 1) ≤ 0xBF) then
    ((bt s p - 0xC0) * 64 + (bt s (p + 1) - 0x80), 2)
  else if 0xE0 ≤ bt s p ∧ bt s p ≤ 0xEF ∧ (p + 1 < s.size ∧ 0x80 ≤ bt s (p + 1) ∧ bt s (p + 1) ≤ 0xBF) ∧ (p + 2 < s.size ∧ 0x80 ≤ bt s (p + 2) ∧ bt s (p + 2) ≤ 0xBF) ∧
      0x800 ≤ (bt s p - 0xE0) * 4096 + (bt s (p + 1) - 0x80) * 64 + (bt s (p + 2) - 0x80) ∧
      ¬ (0xD800 ≤ (bt s p - 0xE0) * 4096 + (bt s (p + 1) - 0x80) * 64 + (bt s (p + 2) - 0x80) ∧ (bt s p - 0xE0) * 4096 + (bt s (p + 1) - 0x80) * 64 + (bt s (p + 2) - 0x80) ≤ 0xDFFF) then
    ((bt s p - 0xE0) * 4096 + (bt s (p + 1) - 0x80) * 64 + (bt s (p + 2) - 0x80), 3)
  else if 0xF0 ≤ bt s p ∧ bt s p ≤ 0xF4 ∧ (p + 1 < s.size ∧ 0x80 ≤ bt s (p + 1) ∧ bt s (p + 1) ≤ 0xBF) ∧ (p + 2 < s.size ∧ 0x80 ≤ bt s (p + 2) ∧ bt s (p + 2) ≤ 0xBF) ∧
      (p + 3 < s.size ∧ 0x80 ≤ bt s (p + 3) ∧ bt s (p + 3) ≤ 0xBF) ∧
      0x10000 ≤ (bt s p - 0xF0) * 262144 + (bt s (p + 1) - 0x80) * 4096 + (bt s (p + 2) - 0x80) * 64 + (bt s (p + 3) - 0x80) ∧
      (bt s p - 0xF0) * 262144 + (bt s (p + 1) - 0x80) * 4096 + (bt s (p + 2) - 0x80) * 64 + (bt s (p + 3) - 0x80) ≤ 0x10FFFF then
    ((bt s p - 0xF0) * 262144 + (bt s (p + 1) - 0x80) * 4096 + (bt s (p + 2) - 0x80) * 64 + (bt s (p + 3) - 0x80), 4)
  else (65533, 1)

theorem decode_dec (s : ByteArray) (p : Nat) : Utf8.decode s p = dec s p := by
  have h0 := bt_lt s p; have h1 := bt_lt s (p + 1); have h2 := bt_lt s (p + 2); have h3 := bt_lt s (p + 3)
  simp only [Utf8.decode, Utf8.valid, Utf8.runeError, show (s.get! (p + 0)).toNat = bt s p from rfl, show (s.get! (p + 1)).toNat = bt s (p + 1) from rfl,
    show (s.get! (p + 2)).toNat = bt s (p + 2) from rfl, show (s.get! (p + 3)).toNat = bt s (p + 3) from rfl, Bool.and_eq_true, Bool.or_eq_true, decide_eq_true_eq, beq_iff_eq, ge_iff_le]
  unfold dec
  generalize bt s p = a at *
  generalize bt s (p + 1) = b at *
  generalize bt s (p + 2) = c at *
  generalize bt s (p + 3) = d at *
  generalize s.size = n
  by_cases ha : a < 0x80
  · rw [if_pos ha, if_pos ha]
  · rw [if_neg ha, if_neg ha]
    by_cases h6 : a / 32 = 6
    · rw [if_neg (c := 0xE0 ≤ a ∧ _) (by omega), if_neg (c := 0xF0 ≤ a ∧ _) (by omega)]
      by_cases hb : p + 1 < n ∧ b / 64 = 2
      · rw [if_pos ⟨h6, hb⟩]
        by_cases hc : 128 ≤ a % 32 * 64 + b % 64
        · rw [if_pos hc, if_pos (by omega)]; rw [show a % 32 * 64 + b % 64 = (a - 0xC0) * 64 + (b - 0x80) from by omega]
        · rw [if_neg hc, if_neg (by omega)]
      · rw [if_neg (by omega), if_neg (by omega), if_neg (by omega), if_neg (by omega)]
    · rw [if_neg (by omega), if_neg (c := 0xC2 ≤ a ∧ _) (by omega)]
      by_cases h14 : a / 16 = 14
      · rw [if_neg (c := 0xF0 ≤ a ∧ _) (by omega)]
        by_cases hb : (p + 1 < n ∧ b / 64 = 2) ∧ (p + 2 < n ∧ c / 64 = 2)
        · rw [if_pos ⟨⟨h14, hb.1⟩, hb.2⟩]
          have e : a % 16 * 4096 + b % 64 * 64 + c % 64 = (a - 0xE0) * 4096 + (b - 0x80) * 64 + (c - 0x80) := by omega
          rw [e]
          obtain ⟨x, hx⟩ : ∃ x, (a - 0xE0) * 4096 + (b - 0x80) * 64 + (c - 0x80) = x := ⟨_, rfl⟩
          rw [hx]
          by_cases hc : 0x800 ≤ x ∧ ¬ (0xD800 ≤ x ∧ x ≤ 0xDFFF)
          · rw [if_pos (by omega), if_pos (by omega)]
          · rw [if_neg (by omega), if_neg (by omega)]
        · rw [if_neg (by omega), if_neg (by omega), if_neg (by omega)]
      · rw [if_neg (by omega), if_neg (c := 0xE0 ≤ a ∧ _) (by omega)]
        by_cases h30 : (a / 8 = 30 ∧ (p + 1 < n ∧ b / 64 = 2)) ∧ (p + 2 < n ∧ c / 64 = 2) ∧ (p + 3 < n ∧ d / 64 = 2)
        · rw [if_pos ⟨⟨h30.1, h30.2.1⟩, h30.2.2⟩]
          have e : a % 8 * 262144 + b % 64 * 4096 + c % 64 * 64 + d % 64 = (a - 0xF0) * 262144 + (b - 0x80) * 4096 + (c - 0x80) * 64 + (d - 0x80) := by omega
          rw [e]
          obtain ⟨x, hx⟩ : ∃ x, (a - 0xF0) * 262144 + (b - 0x80) * 4096 + (c - 0x80) * 64 + (d - 0x80) = x := ⟨_, rfl⟩
          rw [hx]
          by_cases hc : 0x10000 ≤ x ∧ x ≤ 0x10FFFF
          · rw [if_pos (by omega), if_pos (by omega)]
          · rw [if_neg (by omega), if_neg (by omega)]
        · rw [if_neg (by omega), if_neg (by omega)]

/-- The rune and the width at a place; is it a loose byte? -/
def rn (s : ByteArray) (p : Nat) : Nat := (dec s p).1
def wd (s : ByteArray) (p : Nat) : Nat := (dec s p).2
def lo (s : ByteArray) (p : Nat) : Bool := decide (dec s p = (65533, 1))

/-- What 'dec' may answer. -/
theorem dec_cases (s : ByteArray) (p : Nat) :
    (bt s p < 0x80 ∧ dec s p = (bt s p, 1))
    ∨ (dec s p = (65533, 1) ∧ 0x80 ≤ bt s p)
    ∨ (∃ r, dec s p = (r, 2) ∧ 0x80 ≤ r ∧ r ≤ 0x7FF ∧ p + 1 < s.size ∧ bt s p = 192 + r / 64 ∧ bt s (p + 1) = 128 + r % 64)
    ∨ (∃ r, dec s p = (r, 3) ∧ 0x800 ≤ r ∧ r ≤ 0xFFFF ∧ ¬ (0xD800 ≤ r ∧ r ≤ 0xDFFF) ∧ p + 2 < s.size ∧ bt s p = 224 + r / 4096 ∧ bt s (p + 1) = 128 + r / 64 % 64 ∧ bt s (p + 2) = 128 + r % 64)
    ∨ (∃ r, dec s p = (r, 4) ∧ 0x10000 ≤ r ∧ r ≤ 0x10FFFF ∧ p + 3 < s.size ∧ bt s p = 240 + r / 262144 ∧ bt s (p + 1) = 128 + r / 4096 % 64 ∧ bt s (p + 2) = 128 + r / 64 % 64 ∧ bt s (p + 3) = 128 + r % 64) := by
  unfold dec
  split
  · rename_i h; exact .inl ⟨h, rfl⟩
  · split
    · rename_i h0 h; exact .inr (.inr (.inl ⟨_, rfl, by omega, by omega, by omega, by omega, by omega⟩))
    · split
      · rename_i h0 h1 h; exact .inr (.inr (.inr (.inl ⟨_, rfl, by omega, by omega, by omega, by omega, by omega, by omega, by omega⟩)))
      · split
        · rename_i h0 h1 h2 h; exact .inr (.inr (.inr (.inr ⟨_, rfl, by omega, by omega, by omega, by omega, by omega, by omega, by omega⟩)))
        · rename_i h0 h1 h2 h3; exact .inr (.inl ⟨rfl, by omega⟩)

/-- The other way round: the bytes of a rune that may be are that rune. -/
theorem dec_one {s : ByteArray} {p : Nat} (h : bt s p < 0x80) : dec s p = (bt s p, 1) := by unfold dec; rw [if_pos h]
theorem dec_two {s : ByteArray} {p r : Nat} (h0 : 0x80 ≤ r) (h1 : r ≤ 0x7FF) (hp : p + 1 < s.size) (a : bt s p = 192 + r / 64) (b : bt s (p + 1) = 128 + r % 64) : dec s p = (r, 2) := by
  unfold dec; rw [if_neg (by omega), if_pos (by omega)]
  rw [show (bt s p - 0xC0) * 64 + (bt s (p + 1) - 0x80) = r from by omega]
theorem dec_three {s : ByteArray} {p r : Nat} (h0 : 0x800 ≤ r) (h1 : r ≤ 0xFFFF) (hv : ¬ (0xD800 ≤ r ∧ r ≤ 0xDFFF)) (hp : p + 2 < s.size) (a : bt s p = 224 + r / 4096) (b : bt s (p + 1) = 128 + r / 64 % 64) (c : bt s (p + 2) = 128 + r % 64) : dec s p = (r, 3) := by
  have e : (bt s p - 0xE0) * 4096 + (bt s (p + 1) - 0x80) * 64 + (bt s (p + 2) - 0x80) = r := by omega
  unfold dec; rw [if_neg (by omega), if_neg (by omega), e, if_pos (by omega)]
theorem dec_four {s : ByteArray} {p r : Nat} (h0 : 0x10000 ≤ r) (h1 : r ≤ 0x10FFFF) (hp : p + 3 < s.size) (a : bt s p = 240 + r / 262144) (b : bt s (p + 1) = 128 + r / 4096 % 64) (c : bt s (p + 2) = 128 + r / 64 % 64) (d : bt s (p + 3) = 128 + r % 64) : dec s p = (r, 4) := by
  have e : (bt s p - 0xF0) * 262144 + (bt s (p + 1) - 0x80) * 4096 + (bt s (p + 2) - 0x80) * 64 + (bt s (p + 3) - 0x80) = r := by omega
  unfold dec; rw [if_neg (by omega), if_neg (by omega), if_neg (by omega), e, if_pos (by omega)]

theorem wd_bd (s : ByteArray) (p : Nat) (h : p < s.size) : 1 ≤ wd s p ∧ wd s p ≤ 4 ∧ p + wd s p ≤ s.size := by
  unfold wd
  rcases dec_cases s p with ⟨_, e⟩ | ⟨e, _⟩ | ⟨r, e, _, _, hp, _⟩ | ⟨r, e, _, _, _, hp, _⟩ | ⟨r, e, _, _, hp, _⟩ <;> (rw [e]; simp only []; omega)

theorem rn_bd (s : ByteArray) (p : Nat) : rn s p ≤ 0x10FFFF ∧ ¬ (0xD800 ≤ rn s p ∧ rn s p ≤ 0xDFFF) := by
  unfold rn
  rcases dec_cases s p with ⟨_, e⟩ | ⟨e, _⟩ | ⟨r, e, _, _, hp, _⟩ | ⟨r, e, _, _, _, hp, _⟩ | ⟨r, e, _, _, hp, _⟩ <;> (rw [e]; simp only []; omega)

theorem lo_iff (s : ByteArray) (p : Nat) : lo s p = true ↔ rn s p = 65533 ∧ wd s p = 1 := by
  unfold lo rn wd; rw [decide_eq_true_eq, Prod.ext_iff]

/-- A character that is no loose byte has as many bytes as its rune takes. -/
theorem runeLen_wd (s : ByteArray) (p : Nat) (h : lo s p = false) : Lib.runeLen (rn s p : Int) = (wd s p : Int) := by
  unfold rn wd Lib.runeLen
  unfold lo at h
  rcases dec_cases s p with ⟨hb, e⟩ | ⟨e, _⟩ | ⟨r, e, h1, h2, hp, _⟩ | ⟨r, e, h1, h2, h3, hp, _⟩ | ⟨r, e, h1, h2, hp, _⟩
  all_goals rw [e] at h ⊢
  · simp only []; rw [if_neg (by omega), if_pos (by omega)]; rfl
  · simp at h
  · simp only []; rw [if_neg (by omega), if_neg (by omega), if_pos (by omega)]; rfl
  · simp only []; rw [if_neg (by omega), if_neg (by omega), if_neg (by omega), if_neg (by omega), if_pos (by omega)]; rfl
  · simp only []; rw [if_neg (by omega), if_neg (by omega), if_neg (by omega), if_neg (by omega), if_neg (by omega), if_pos (by omega)]; rfl

/-- The byte at a place, out of the list of bytes. -/
theorem bt_list (s : ByteArray) (p : Nat) (h : p < s.size) : s.data.toList[p]? = some (UInt8.ofNat (bt s p)) := by
  have h2 : p < s.data.size := h
  rw [Array.getElem?_toList, Array.getElem?_eq_getElem h2]
  have : bt s p = (s.data[p]'h2).toNat := by
    have := get_at s p h
    unfold bt
    show (s.get! (p + 0)).toNat = _
    rw [this]; rfl
  rw [this]; simp

theorem drop_bt (s : ByteArray) (p : Nat) (h : p < s.size) : s.data.toList.drop p = UInt8.ofNat (bt s p) :: s.data.toList.drop (p + 1) := by
  have h2 : p < s.data.toList.length := by simpa using h
  have := bt_list s p h
  rw [List.getElem?_eq_getElem h2] at this
  rw [List.drop_eq_getElem_cons h2]
  congr 1
  exact Option.some.inj this

theorem u8_eq {a b : Nat} (ha : a < 256) (hb : b < 256) : UInt8.ofNat a = UInt8.ofNat b ↔ a = b := by
  constructor
  · intro h
    have := congrArg UInt8.toNat h
    simpa [UInt8.toNat_ofNat, Nat.mod_eq_of_lt ha, Nat.mod_eq_of_lt hb] using this
  · rintro rfl; rfl

/-- A well-formed U+FFFD is told by its three bytes. -/
theorem prefix_fffd (s : ByteArray) (p : Nat) (h : p < s.size) (hr : rn s p = 65533) : Lib.hasPrefix (s.data.toList.drop p) [239, 191, 189] = !lo s p := by
  have b0 := bt_lt s p
  have b1 := bt_lt s (p + 1)
  have b2 := bt_lt s (p + 2)
  have three : ∀ (hp : p + 2 < s.size), Lib.hasPrefix (s.data.toList.drop p) [239, 191, 189] = decide (bt s p = 239 ∧ bt s (p + 1) = 191 ∧ bt s (p + 2) = 189) := by
    intro hp
    rw [drop_bt s p h, drop_bt s (p + 1) (by omega), drop_bt s (p + 1 + 1) (by omega)]
    unfold Lib.hasPrefix
    simp only [List.isPrefixOf, Bool.and_true]
    rw [Bool.eq_iff_iff]
    simp only [Bool.and_eq_true, beq_iff_eq, decide_eq_true_eq]
    rw [show (239 : UInt8) = UInt8.ofNat 239 from rfl, show (191 : UInt8) = UInt8.ofNat 191 from rfl, show (189 : UInt8) = UInt8.ofNat 189 from rfl,
      u8_eq (by omega) b0, u8_eq (by omega) b1, show p + 1 + 1 = p + 2 from rfl, u8_eq (by omega) b2]
    omega
  have short : ¬ p + 2 < s.size → Lib.hasPrefix (s.data.toList.drop p) [239, 191, 189] = false := by
    intro hp
    unfold Lib.hasPrefix
    cases hh : [239, 191, 189].isPrefixOf (s.data.toList.drop p) with
    | false => rfl
    | true =>
      have := (List.isPrefixOf_iff_prefix.1 hh).length_le
      rw [List.length_drop] at this
      have e : s.data.toList.length = s.size := by simp
      rw [e] at this
      simp only [List.length_cons, List.length_nil] at this
      omega
  unfold rn at hr
  unfold lo
  rcases dec_cases s p with ⟨hb, e⟩ | ⟨e, hb⟩ | ⟨r, e, h1, h2, hp, _⟩ | ⟨r, e, h1, h2, h3, hp, ha, hb, hc⟩ | ⟨r, e, h1, h2, hp, _⟩
  · rw [e] at hr; simp only [] at hr; omega
  · rw [e]; simp only [decide_true, Bool.not_true]
    by_cases hp : p + 2 < s.size
    · rw [three hp]
      simp only [decide_eq_false_iff_not]
      rintro ⟨ha, hb, hc⟩
      have := dec_three (s := s) (p := p) (r := 65533) (by omega) (by omega) (by omega) hp (by omega) (by omega) (by omega)
      rw [e] at this; simp at this
    · exact short hp
  · rw [e] at hr; simp only [] at hr; omega
  · rw [e] at hr ⊢; simp only [] at hr; subst hr
    rw [three hp]
    simp
    omega
  · rw [e] at hr; simp only [] at hr; omega

end Go.Proofs.YtppmiggkknhdkaaDoor
namespace Go.Proofs.YtppmiggkknhdkaaDoor
set_option linter.unusedVariables false
open Go.RowKit

theorem blk_new (w : World) (o : Obj) : (w.alloc o).heap[w.heap.size]? = some o := heap_alloc_new w o
theorem blk_old {w : World} {k : Nat} {x : Obj} (h : w.heap[k]? = some x) (o : Obj) : (w.alloc o).heap[k]? = some x :=
  (Below.heap_alloc w o k (Array.getElem?_eq_some_iff.1 h).1).trans h
theorem blk_lt {w : World} {k : Nat} {x : Obj} (h : w.heap[k]? = some x) : k < w.heap.size := (Array.getElem?_eq_some_iff.1 h).1
theorem blk_grown {w w1 : World} {row : Option Nat} (hg : w.grownBy w1 row) {k : Nat} {x : Obj} (h : w.heap[k]? = some x) (hne : some k ≠ row) : w1.heap[k]? = some x :=
  (hg.block k (blk_lt h) hne).trans h
theorem blk_below {B : Nat} {w w1 : World} (hb : Below B w w1) {k : Nat} {x : Obj} (h : w.heap[k]? = some x) (hk : k < B) : w1.heap[k]? = some x := (hb.block k hk).trans h
theorem blk_below' {w w1 : World} (hb : Below w.heap.size w w1) {k : Nat} {x : Obj} (h : w.heap[k]? = some x) : w1.heap[k]? = some x := blk_below hb h (blk_lt h)
theorem blk_set {w : World} {k : Nat} {x : Obj} (h : w.heap[k]? = some x) (p : Addr) (v : Value) (hne : k ≠ p.block) : (w.setCell p v).heap[k]? = some x :=
  (Below.heap_setCell w p v k hne).trans h
theorem blk_drewN {w : World} {k : Nat} {x : Obj} (h : w.heap[k]? = some x) (n : Nat) : (w.drewN n).heap[k]? = some x := h

theorem below_drewN {B : Nat} {a w : World} (h : Below B a w) (n : Nat) : Below B a (w.drewN n) := ⟨h.os, h.tape, h.output, h.size, h.block⟩
theorem below_iter {B : Nat} {a w : World} (h : Below B a w) (hB : B ≤ w.heap.size) (s : ByteArray) (p : Nat) : Below B a (w.iter s p) := h.alloc hB _
theorem below_then {w a b : World} (h : Below w.heap.size w a) (k : Below a.heap.size a b) : Below w.heap.size w b := h.trans (k.mono h.size)
theorem below_alloc_then {w a b : World} {o : Obj} (h : Below w.heap.size w a) (k : Below (a.alloc o).heap.size (a.alloc o) b) : Below w.heap.size w b := below_then (h.alloc h.size o) k
theorem iterPos_of {w : World} {k : Nat} {s : ByteArray} {p : Nat} (h : w.heap[k]? = some (.stringIter s p)) : w.iterPos k = p := by simp [World.iterPos, h]

/-- 'next' on a text's iterator that lies in whatever block: one round more. -/
theorem next_at (P : Program) {wr : World} {B : Nat} {s : ByteArray} {pos : Nat} (hit : wr.heap[B]? = some (.stringIter s pos)) (hp : pos < s.size) :
    ∃ W1, (∀ ty, (Instr.next (.pointer (some ⟨B, 0, none⟩)) true ty).run P wr = .ok (.tuple #[.bool true, .int .i64 pos, .int .i32 (rn s pos)]) W1) ∧
      W1.heap[B]? = some (.stringIter s (pos + wd s pos)) ∧ wr.grownBy W1 (some B) ∧ W1.heap.size = wr.heap.size := by
  refine ⟨wr.iterAt B s (pos + wd s pos), ?_, Lib.iterAt_heap wr B s pos _ hit, ?_, ?_⟩
  · intro ty
    have := Lib.run_next_any_at (P := P) wr B s pos ty hit hp
    rw [decode_dec] at this
    exact this
  · refine ⟨rfl, rfl, rfl, ?_, fun k _ hk => Lib.iterAt_other _ _ _ _ _ (fun e => hk (by rw [e]))⟩
    rw [Lib.iterAt_size]; exact Nat.le_refl _
  · exact Lib.iterAt_size _ _ _ _

theorem next_end (P : Program) {wr : World} {B : Nat} {s : ByteArray} {pos : Nat} (hit : wr.heap[B]? = some (.stringIter s pos)) (hp : ¬ pos < s.size) :
    ∀ ty, (Instr.next (.pointer (some ⟨B, 0, none⟩)) true ty).run P wr = .ok (.tuple #[.bool false]) wr := fun ty => Lib.run_next_end_at wr B s pos ty hit hp

/-- Blocks of a few cells, none of them frozen. -/
theorem one_cell {W : World} {b : Nat} {t : TypeId} {v0 : Value} (h : W.heap[b]? = some (.cells #[v0] t (0, 0))) : W.cell? ⟨b, 0, none⟩ = some v0 ∧ W.frozen? ⟨b, 0, none⟩ = false := by
  simp [World.cell?, World.frozen?, h]
theorem two_cells {W : World} {b : Nat} {t : TypeId} {v0 v1 : Value} (h : W.heap[b]? = some (.cells #[v0, v1] t (0, 0))) :
    W.cell? ⟨b, 0, none⟩ = some v0 ∧ W.cell? ⟨b, 1, none⟩ = some v1 ∧ W.frozen? ⟨b, 0, none⟩ = false ∧ W.frozen? ⟨b, 1, none⟩ = false := by
  simp [World.cell?, World.frozen?, h]
theorem four_cells {W : World} {b : Nat} {t : TypeId} {v0 v1 v2 v3 : Value} (h : W.heap[b]? = some (.cells #[v0, v1, v2, v3] t (0, 0))) :
    W.cell? ⟨b, 0, none⟩ = some v0 ∧ W.cell? ⟨b, 1, none⟩ = some v1 ∧ W.cell? ⟨b, 2, none⟩ = some v2 ∧ W.cell? ⟨b, 3, none⟩ = some v3 ∧
    W.frozen? ⟨b, 0, none⟩ = false ∧ W.frozen? ⟨b, 1, none⟩ = false ∧ W.frozen? ⟨b, 2, none⟩ = false ∧ W.frozen? ⟨b, 3, none⟩ = false := by
  simp [World.cell?, World.frozen?, h]

end Go.Proofs.YtppmiggkknhdkaaDoor
namespace Go.Proofs.YtppmiggkknhdkaaDoor
set_option linter.unusedVariables false
open Go.RowKit

/-- A block of cells that is known whole: its cells, what a store leaves of it. -/
theorem blk_cell {W : World} {b : Nat} {t : TypeId} {cs : Array Value} (h : W.heap[b]? = some (.cells cs t (0, 0))) (i : Nat) : W.cell? ⟨b, i, none⟩ = cs[i]? := by simp [World.cell?, h]
theorem blk_free {W : World} {b : Nat} {t : TypeId} {cs : Array Value} (h : W.heap[b]? = some (.cells cs t (0, 0))) (i : Nat) : W.frozen? ⟨b, i, none⟩ = false := by simp [World.frozen?, h]
theorem blk_store {W : World} {b : Nat} {t : TypeId} {cs : Array Value} (h : W.heap[b]? = some (.cells cs t (0, 0))) (i : Nat) (v : Value) : (W.setCell ⟨b, i, none⟩ v).heap[b]? = some (.cells (cs.setIfInBounds i v) t (0, 0)) := by
  simp [World.setCell, Array.getElem?_modify, h]
theorem row_blk {W : World} {b base size n : Nat} {e : TypeId} {v : Value} {xs : List Value} (h : W.ownsRow base e size v n xs) (hb : b < base) : some b ≠ v.ownBlock := by
  intro e1
  have := (h.lt b e1.symm).1
  omega
theorem ownsRow_base {w : World} {B B' : Nat} {e : TypeId} {size : Nat} {v : Value} {n : Nat} {xs : List Value} (h : w.ownsRow B e size v n xs) (hb : B' ≤ B) : w.ownsRow B' e size v n xs := by
  refine ⟨h.1, ?_⟩
  rcases h.2 with h2 | ⟨g, cap, cur, h2, h3, h4⟩
  · exact .inl h2
  · exact .inr ⟨g, cap, cur, h2, Nat.le_trans hb h3, h4⟩
theorem grownBy_set (W : World) (p : Addr) (v : Value) : W.grownBy (W.setCell p v) (some p.block) :=
  ⟨rfl, rfl, rfl, by simp, fun k _ hne => Below.heap_setCell W p v k (fun e => hne (by rw [e]))⟩
theorem ownsRow_set {w : World} {B : Nat} {e : TypeId} {size : Nat} {v : Value} {n : Nat} {xs : List Value} (h : w.ownsRow B e size v n xs) {p : Addr} (hp : p.block < B) (u : Value) : (w.setCell p u).ownsRow B e size v n xs :=
  h.kept (grownBy_set w p u) (.inr (row_blk h hp).symm)
theorem below_grown {B : Nat} {a w w1 : World} {row : Option Nat} (h : Below B a w) (hg : w.grownBy w1 row) (hB : B ≤ w.heap.size) (hr : ∀ j, row = some j → B ≤ j) : Below B a w1 := h.grown hg hB hr
theorem three_cells {W : World} {b : Nat} {t : TypeId} {v0 v1 v2 : Value} (h : W.heap[b]? = some (.cells #[v0, v1, v2] t (0, 0))) :
    W.cell? ⟨b, 0, none⟩ = some v0 ∧ W.cell? ⟨b, 1, none⟩ = some v1 ∧ W.cell? ⟨b, 2, none⟩ = some v2 ∧ W.frozen? ⟨b, 0, none⟩ = false ∧ W.frozen? ⟨b, 1, none⟩ = false ∧ W.frozen? ⟨b, 2, none⟩ = false := by
  simp [World.cell?, World.frozen?, h]

theorem cell_four_new (w : World) (a b c d : Value) (t : TypeId) : ∀ j u, [a, b, c, d][j]? = some u → (w.alloc (.cells #[a, b, c, d] t)).cell? ((⟨w.heap.size, 0, none⟩ : Addr).add j) = some u := by
  intro j u hj
  match j, hj with
  | 0, hj => simp at hj; subst hj; simp [Addr.add]
  | 1, hj => simp at hj; subst hj; simp [Addr.add]
  | 2, hj => simp at hj; subst hj; simp [Addr.add]
  | 3, hj => simp at hj; subst hj; simp [Addr.add]
  | j + 4, hj => simp at hj

theorem ownsRow_drewN {w : World} {base : Nat} {e : TypeId} {size : Nat} {v : Value} {n : Nat} {xs : List Value} (h : w.ownsRow base e size v n xs) (k : Nat) : (w.drewN k).ownsRow base e size v n xs := h

/-- The shape of a slice that owns a row. -/
theorem ownsRow_slice {w : World} {base : Nat} {e : TypeId} {size : Nat} {v : Value} {n : Nat} {xs : List Value} (h : w.ownsRow base e size v n xs) : ∃ a cap, v = .slice a n cap ∧ (n = 0 ∨ ∃ g, a = some ⟨g, 0, none⟩ ∧ base ≤ g ∧ g < w.heap.size) := by
  rcases h.2 with ⟨rfl, h0⟩ | ⟨g, cap, cur, rfl, hb, hg, _⟩
  · exact ⟨none, 0, by rw [h0], .inl h0⟩
  · exact ⟨_, cap, rfl, .inr ⟨g, rfl, hb, (Array.getElem?_eq_some_iff.1 hg).1⟩⟩

theorem ownsRow_pos {w : World} {base : Nat} {e : TypeId} {size : Nat} {v : Value} {n : Nat} {xs : List Value} (h : w.ownsRow base e size v n xs) (hn : 0 < n) : ∃ g cap, v = .slice (some ⟨g, 0, none⟩) n cap ∧ base ≤ g ∧ g < w.heap.size := by
  obtain ⟨a, cap, rfl, h0 | ⟨g, rfl, hb, hg⟩⟩ := ownsRow_slice h
  · omega
  · exact ⟨g, cap, rfl, hb, hg⟩

/-- What is owned stays owned behind a call that has turned nothing. -/
theorem ownsRow_below {w w1 : World} {base : Nat} {e : TypeId} {size : Nat} {v : Value} {n : Nat} {xs : List Value} (h : w.ownsRow base e size v n xs) (hb : Below w.heap.size w w1) : w1.ownsRow base e size v n xs := by
  refine h.kept (row := none) ⟨hb.os, hb.tape, hb.output, hb.size, fun k hk _ => hb.block k hk⟩ ?_
  cases hv : v.ownBlock with
  | none =>
    rcases h.2 with ⟨rfl, _⟩ | ⟨g, cap, cur, rfl, _⟩
    · exact .inl rfl
    · simp [Value.ownBlock] at hv
  | some g => exact .inr (by simp)

/-- What the law on append leaves, for a row of the call's own: below the base nothing has turned. -/
theorem below_append {B : Nat} {a w w1 : World} {e : TypeId} {size : Nat} {v : Value} {n : Nat} {xs : List Value} {o : Obj} (hb : Below B a w) (hB : B ≤ w.heap.size) (hown : w.ownsRow B e size v n xs) (hg : (w.alloc o).grownBy w1 v.ownBlock) : Below B a w1 :=
  (hb.alloc hB o).grown hg (by simp; omega) (fun j hj => by have := (hown.lt _ hj).1; omega)

theorem byteCells_get (l : List UInt8) (j : Nat) (hj : j < l.length) : (Lib.byteCells l)[j]? = some (.int .u8 (l[j].toNat : Int)) := by
  simp [Lib.byteCells, hj]
theorem byteCells_app (a b : List UInt8) : Lib.byteCells (a ++ b) = Lib.byteCells a ++ Lib.byteCells b := by simp [Lib.byteCells]
theorem strCells_bytes (s : ByteArray) : Lib.strCells s = Lib.byteCells s.data.toList := rfl

/-- 'string(b)' of a row of bytes that the call owns. -/
theorem own_string {P : Program} {w : World} {src dst e : TypeId} (hs : P.underlying src = some (.slice e)) (he : P.underlying e = some (.int .u8)) (hd : P.underlying dst = some .string)
    {base : Nat} {v : Value} {n : Nat} {l : List UInt8} (h : w.ownsRow base e 1 v n (Lib.byteCells l)) (hn : n = l.length) : (convert src dst v).run P w = .ok (.string ⟨l.toArray⟩) w := by
  subst hn
  rcases h.2 with ⟨rfl, h0⟩ | ⟨g, cap, cur, rfl, _⟩
  · have hl : l = [] := List.length_eq_zero_iff.1 h0
    subst hl
    rw [run_convert_bytes_string w src dst e none 0 0 hs he hd]
    rfl
  · refine run_convert_bytes_back w src dst e ⟨g, 0, none⟩ cap l hs he hd (fun j hj => ?_)
    have := h.cellAt j (by omega)
    rw [byteCells_get l j hj] at this
    rw [Addr.add_lit]; simpa using this

/-- The cells of a block that has just been laid. -/
theorem cells_new (w : World) (cs : List Value) (t : TypeId) : ∀ j u, cs[j]? = some u → (w.alloc (.cells cs.toArray t)).cell? ((⟨w.heap.size, 0, none⟩ : Addr).add j) = some u := by
  intro j u h
  rw [Addr.add_lit, Nat.zero_add, World.cell?_alloc_mark]
  simpa using h
theorem byteCells_one (l : List UInt8) : ∀ u ∈ Lib.byteCells l, u.oneCell' = true := by
  intro u hu
  simp only [Lib.byteCells, List.mem_map] at hu
  obtain ⟨b, _, rfl⟩ := hu
  rfl

theorem own_append_pos {w : World} {base : Nat} {e : TypeId} {v : Value} {n : Nat} {xs : List Value} (h : w.ownsRow base e 1 v n xs) (hn : 0 < n) : ∃ g cap, v = .slice (some ⟨g, 0, none⟩) n cap ∧ base ≤ g ∧ g < w.heap.size := ownsRow_pos h hn

end Go.Proofs.YtppmiggkknhdkaaDoor
namespace Go.Proofs.YtppmiggkknhdkaaDoor
set_option linter.unusedVariables false
set_option linter.unusedSimpArgs false
open Go.RowKit

/-- A notice as a value. -/
def nV (o t k : Int) : Value := .agg #[.int .i64 o, .int .i64 t, .int .i64 k]
/-- Is it one of n nodes? -/
def vN (n o t k : Int) : Bool := decide (1 ≤ n ∧ n ≤ 100 ∧ 0 ≤ o ∧ o < n ∧ 0 ≤ t ∧ t ≤ 1048576 ∧ (k = 1 ∨ k = 2))
/-- Its place in the order; -1: none. -/
def rkI (t k : Int) : Int := if 0 ≤ t ∧ t ≤ 1048576 ∧ (k = 1 ∨ k = 2) then 2 * t + k - 1 else -1
theorem rkI_lo (t k : Int) : -1 ≤ rkI t k ∧ rkI t k ≤ 2097153 := by unfold rkI; split <;> omega
def tgN (r : Nat) : Nat := r / 2
def kdN (r : Nat) : Nat := r % 2 + 1
theorem rkI_nat {r : Nat} (h : r ≤ 2097153) : rkI (tgN r : Nat) (kdN r : Nat) = (r : Int) := by
  unfold rkI tgN kdN; rw [if_pos ⟨by omega, by omega, by omega⟩]; omega
theorem tg_le {r : Nat} (h : r ≤ 2097153) : tgN r ≤ 1048576 := by unfold tgN; omega
theorem kd_le (r : Nat) : 1 ≤ kdN r ∧ kdN r ≤ 2 := by unfold kdN; omega
/-- A right notice is that of a node and a rank. -/
theorem vN_nat {n : Nat} {o t k : Int} (h : vN (n : Int) o t k = true) : ∃ i r : Nat, o = (i : Int) ∧ t = (tgN r : Int) ∧ k = (kdN r : Int) ∧ i < n ∧ r ≤ 2097153 ∧ n ≤ 100 := by
  have h := of_decide_eq_true h
  exact ⟨o.toNat, (2 * t + k - 1).toNat, by omega, by unfold tgN; omega, by unfold kdN; omega, by omega, by omega, by omega⟩
theorem vN_of {n i r : Nat} (hi : i < n) (hn : n ≤ 100) (hr : r ≤ 2097153) : vN (n : Int) (i : Int) (tgN r : Nat) (kdN r : Nat) = true := by
  unfold vN tgN kdN; exact decide_eq_true (by omega)

/-- The cells of a list, the nodes counted from i on. -/
def ntC : Nat → List Nat → List Value
  | _, [] => []
  | i, r :: R => .int .i64 (i : Int) :: .int .i64 (tgN r : Nat) :: .int .i64 (kdN r : Nat) :: ntC (i + 1) R
theorem ntC_len : ∀ (R : List Nat) (i : Nat), (ntC i R).length = R.length * 3
  | [], _ => rfl
  | r :: R, i => by simp only [ntC, List.length_cons, ntC_len R]; omega
theorem ntC_app : ∀ (R S : List Nat) (i : Nat), ntC i (R ++ S) = ntC i R ++ ntC (i + R.length) S
  | [], _, _ => by simp [ntC]
  | r :: R, S, i => by simp only [List.cons_append, ntC, ntC_app R S (i + 1), List.length_cons]; congr 5; omega
theorem ntC_get : ∀ (R : List Nat) (i k r : Nat), R[k]? = some r →
    (ntC i R)[k * 3]? = some (.int .i64 ((i + k : Nat) : Int)) ∧ (ntC i R)[k * 3 + 1]? = some (.int .i64 (tgN r : Nat)) ∧ (ntC i R)[k * 3 + 2]? = some (.int .i64 (kdN r : Nat))
  | [], _, _, _, h => by simp at h
  | q :: R, i, 0, r, h => by
    obtain rfl : q = r := by simpa using h
    exact ⟨rfl, rfl, rfl⟩
  | q :: R, i, k + 1, r, h => by
    obtain ⟨h1, h2, h3⟩ := ntC_get R (i + 1) k r (by simpa using h)
    have e : (k + 1) * 3 = k * 3 + 1 + 1 + 1 := by omega
    rw [e]
    exact ⟨by rw [show i + (k + 1) = i + 1 + k by omega]; exact h1, h2, h3⟩
theorem ntC_one : ∀ (R : List Nat) (i : Nat), ∀ u ∈ ntC i R, u.oneCell' = true
  | [], _ => by simp [ntC]
  | r :: R, i => by
    intro u hu
    simp only [ntC, List.mem_cons] at hu
    rcases hu with rfl | rfl | rfl | hu
    · rfl
    · rfl
    · rfl
    · exact ntC_one R (i + 1) u hu
theorem ntC_set : ∀ (R : List Nat) (i k q : Nat), k < R.length →
    (((ntC i R).set (k * 3) (.int .i64 ((i + k : Nat) : Int))).set (k * 3 + 1) (.int .i64 (tgN q : Nat))).set (k * 3 + 2) (.int .i64 (kdN q : Nat)) = ntC i (R.set k q)
  | [], _, _, _, h => by simp at h
  | r :: R, i, 0, q, _ => rfl
  | r :: R, i, k + 1, q, h => by
    have := ntC_set R (i + 1) k q (by simpa using h)
    have e : (k + 1) * 3 = k * 3 + 1 + 1 + 1 := by omega
    rw [e, show i + (k + 1) = i + 1 + k by omega]
    simp only [ntC, List.set_cons_succ] at this ⊢
    rw [← this]

/-- A list of notices of the nodes 0, 1 ..: the slice v over the block g. -/
def NL (W : World) (v : Value) (g : Nat) (R : List Nat) : Prop := ∃ cap sp, v = .slice (some ⟨g, 0, none⟩) R.length cap ∧ W.heap[g]? = some (.cells (ntC 0 R ++ sp).toArray 24 (0, 0))
theorem NL.below {W X : World} {v : Value} {g : Nat} {R : List Nat} (h : NL W v g R) (hb : Below W.heap.size W X) : NL X v g R := by
  obtain ⟨cap, sp, rfl, h1⟩ := h; exact ⟨cap, sp, rfl, blk_below' hb h1⟩
theorem NL.lt {W : World} {v : Value} {g : Nat} {R : List Nat} (h : NL W v g R) : g < W.heap.size := by
  obtain ⟨cap, sp, rfl, h1⟩ := h; exact (Array.getElem?_eq_some_iff.1 h1).1
theorem NL.cells {W : World} {v : Value} {g : Nat} {R : List Nat} (h : NL W v g R) {k r : Nat} (hr : R[k]? = some r) :
    (W.cell? ⟨g, k * 3, none⟩ = some (.int .i64 (k : Int)) ∧ W.cell? ⟨g, k * 3 + 1, none⟩ = some (.int .i64 (tgN r : Nat)) ∧ W.cell? ⟨g, k * 3 + 2, none⟩ = some (.int .i64 (kdN r : Nat))) ∧
    (W.frozen? ⟨g, k * 3, none⟩ = false ∧ W.frozen? ⟨g, k * 3 + 1, none⟩ = false ∧ W.frozen? ⟨g, k * 3 + 2, none⟩ = false) := by
  obtain ⟨cap, sp, rfl, h1⟩ := h
  have hk : k < R.length := (List.getElem?_eq_some_iff.1 hr).1
  obtain ⟨g0, g1, g2⟩ := ntC_get R 0 k r hr
  have hl := ntC_len R 0
  refine ⟨⟨?_, ?_, ?_⟩, blk_free h1 _, blk_free h1 _, blk_free h1 _⟩
  · rw [blk_cell h1, List.getElem?_toArray, List.getElem?_append_left (by omega), g0]; simp
  · rw [blk_cell h1, List.getElem?_toArray, List.getElem?_append_left (by omega), g1]
  · rw [blk_cell h1, List.getElem?_toArray, List.getElem?_append_left (by omega), g2]
/-- A notice is stored in its place. -/
theorem NL.set {W : World} {v : Value} {g : Nat} {R : List Nat} (h : NL W v g R) {k : Nat} (hk : k < R.length) (q : Nat) :
    NL (((W.setCell ⟨g, k * 3, none⟩ (.int .i64 (k : Int))).setCell ⟨g, k * 3 + 1, none⟩ (.int .i64 (tgN q : Nat))).setCell ⟨g, k * 3 + 2, none⟩ (.int .i64 (kdN q : Nat))) v g (R.set k q) := by
  obtain ⟨cap, sp, rfl, h1⟩ := h
  have hl := ntC_len R 0
  refine ⟨cap, sp, by rw [List.length_set], ?_⟩
  have h2 := blk_store (blk_store (blk_store h1 (k * 3) (.int .i64 (k : Int))) (k * 3 + 1) (.int .i64 (tgN q : Nat))) (k * 3 + 2) (.int .i64 (kdN q : Nat))
  rw [h2]
  congr 2
  simp only [List.setIfInBounds_toArray]
  rw [List.set_append_left _ _ (by omega), List.set_append_left _ _ (by simp only [List.length_set]; omega), List.set_append_left _ _ (by simp only [List.length_set]; omega)]
  congr 2
  have := ntC_set R 0 k q hk
  simpa using this
/-- A notice is stored behind the last one, where there is room. -/
theorem ntC_next (R : List Nat) (q : Nat) (a b c : Value) (sp : List Value) :
    ((((ntC 0 R ++ a :: b :: c :: sp).toArray.setIfInBounds (R.length * 3) (.int .i64 (R.length : Int))).setIfInBounds (R.length * 3 + 1) (.int .i64 (tgN q : Nat))).setIfInBounds (R.length * 3 + 2) (.int .i64 (kdN q : Nat))) = (ntC 0 (R ++ [q]) ++ sp).toArray := by
  have hl := ntC_len R 0
  simp only [List.setIfInBounds_toArray]
  rw [List.set_append_right _ _ (by omega), List.set_append_right _ _ (by omega), List.set_append_right _ _ (by omega), ntC_app, hl]
  simp [ntC]
/-- What a book is behind a notice: the greater rank. -/
def tkR (R : List Nat) (i r : Nat) : List Nat := if R.getD i 0 < r then R.set i r else R
theorem tkR_len (R : List Nat) (i r : Nat) : (tkR R i r).length = R.length := by unfold tkR; split <;> simp
theorem tkR_le {R : List Nat} (h : ∀ x ∈ R, x ≤ 2097153) {i r : Nat} (hr : r ≤ 2097153) : ∀ x ∈ tkR R i r, x ≤ 2097153 := by
  unfold tkR; split
  · intro x hx; rcases List.mem_or_eq_of_mem_set hx with h' | rfl
    · exact h x h'
    · exact hr
  · exact h
end Go.Proofs.YtppmiggkknhdkaaDoor
namespace Go.Proofs.YtppmiggkknhdkaaDoor
set_option linter.unusedVariables false
open Go.RowKit

theorem bits_and_u32 (a b : Nat) (ha : a < 4294967296) (hb : b < 4294967296) : bits .and .u32 (a : Int) (b : Int) = ((a &&& b : Nat) : Int) := by
  have hx : a &&& b < 2 ^ 32 := Nat.and_lt_two_pow _ (by omega)
  have h1 : (BitVec.ofInt 32 (a : Int)).toNat = a := by rw [BitVec.ofInt_natCast, BitVec.toNat_ofNat]; exact Nat.mod_eq_of_lt (by omega)
  have h2 : (BitVec.ofInt 32 (b : Int)).toNat = b := by rw [BitVec.ofInt_natCast, BitVec.toNat_ofNat]; exact Nat.mod_eq_of_lt (by omega)
  show IntKind.u32.wrap ((BitVec.ofInt 32 (a : Int) &&& BitVec.ofInt 32 (b : Int)).toNat : Int) = _
  rw [BitVec.toNat_and, h1, h2, IntKind.wrap_u32]
  omega
theorem bits_or_u32 (a b : Nat) (ha : a < 4294967296) (hb : b < 4294967296) : bits .or .u32 (a : Int) (b : Int) = ((a ||| b : Nat) : Int) := by
  have hx : a ||| b < 2 ^ 32 := Nat.or_lt_two_pow (by omega) (by omega)
  have h1 : (BitVec.ofInt 32 (a : Int)).toNat = a := by rw [BitVec.ofInt_natCast, BitVec.toNat_ofNat]; exact Nat.mod_eq_of_lt (by omega)
  have h2 : (BitVec.ofInt 32 (b : Int)).toNat = b := by rw [BitVec.ofInt_natCast, BitVec.toNat_ofNat]; exact Nat.mod_eq_of_lt (by omega)
  show IntKind.u32.wrap ((BitVec.ofInt 32 (a : Int) ||| BitVec.ofInt 32 (b : Int)).toNat : Int) = _
  rw [BitVec.toNat_or, h1, h2, IntKind.wrap_u32]
  omega

/-- The word j of a set. -/
def sw (x j : Nat) : Nat := x >>> (32 * j) % 2 ^ 32
theorem sw_lt (x j : Nat) : sw x j < 4294967296 := Nat.mod_lt _ (by decide)
theorem sw_bit (x j i : Nat) : (sw x j).testBit i = (decide (i < 32) && x.testBit (32 * j + i)) := by
  unfold sw; rw [Nat.testBit_mod_two_pow, Nat.testBit_shiftRight]
theorem sw_and (x y j : Nat) : sw (x &&& y) j = sw x j &&& sw y j := by
  apply Nat.eq_of_testBit_eq
  intro i
  rw [Nat.testBit_and, sw_bit, sw_bit, sw_bit, Nat.testBit_and]
  cases decide (i < 32) <;> simp
/-- Is the id in the set? -/
theorem sw_has (x i : Nat) : sw x (i / 32) >>> (i % 32) % 2 = (x.testBit i).toNat := by
  have h := sw_bit x (i / 32) (i % 32)
  rw [show decide (i % 32 < 32) = true from by simp; omega, Bool.true_and, show 32 * (i / 32) + i % 32 = i from by omega] at h
  rw [← h, Nat.testBit_eq_decide_div_mod_eq, Nat.shiftRight_eq_div_pow]
  rcases Nat.mod_two_eq_zero_or_one (sw x (i / 32) / 2 ^ (i % 32)) with e | e <;> rw [e] <;> rfl
theorem sw_with (x i j : Nat) : sw (x ||| 2 ^ i) j = if j = i / 32 then sw x j ||| 2 ^ (i % 32) else sw x j := by
  apply Nat.eq_of_testBit_eq
  intro k
  by_cases hj : j = i / 32
  · rw [if_pos hj, Nat.testBit_or, sw_bit, sw_bit, Nat.testBit_or, Nat.testBit_two_pow, Nat.testBit_two_pow]
    by_cases hk : k < 32
    · have : (i = 32 * j + k) = (i % 32 = k) := by rw [eq_iff_iff]; omega
      simp [hk, this]
    · have : ¬ i % 32 = k := by omega
      simp [hk, this]
  · rw [if_neg hj, sw_bit, sw_bit, Nat.testBit_or, Nat.testBit_two_pow]
    by_cases hk : k < 32
    · have : ¬ i = 32 * j + k := by omega
      simp [hk, this]
    · simp [hk]
theorem sw_mask (n j : Nat) : sw (2 ^ n - 1) j = 2 ^ (min (n - 32 * j) 32) - 1 := by
  apply Nat.eq_of_testBit_eq
  intro k
  rw [sw_bit, Nat.testBit_two_pow_sub_one, Nat.testBit_two_pow_sub_one]
  by_cases hk : k < 32
  · have : (32 * j + k < n) = (k < min (n - 32 * j) 32) := by rw [eq_iff_iff]; omega
    simp only [hk, decide_true, Bool.true_and, this]
  · have : ¬ k < min (n - 32 * j) 32 := by omega
    simp [hk, this]
theorem set_ext {x y : Nat} (hx : x < 2 ^ 128) (hy : y < 2 ^ 128) (h : ∀ j, j < 4 → sw x j = sw y j) : x = y := by
  apply Nat.eq_of_testBit_eq
  intro k
  by_cases hk : k < 128
  · have h2 := congrArg (fun n => n.testBit (k % 32)) (h (k / 32) (by omega))
    simp only [sw_bit] at h2
    rw [show decide (k % 32 < 32) = true from by simp; omega, show 32 * (k / 32) + k % 32 = k from by omega] at h2
    simpa using h2
  · rw [Nat.testBit_lt_two_pow (Nat.lt_of_lt_of_le hx (Nat.pow_le_pow_right (by decide) (by omega))), Nat.testBit_lt_two_pow (Nat.lt_of_lt_of_le hy (Nat.pow_le_pow_right (by decide) (by omega)))]
/-- Any four words are a set's. -/
def setOf4 (a b c d : Nat) : Nat := a + 2 ^ 32 * b + 2 ^ 64 * c + 2 ^ 96 * d
theorem setOf4_lt {a b c d : Nat} (ha : a < 2 ^ 32) (hb : b < 2 ^ 32) (hc : c < 2 ^ 32) (hd : d < 2 ^ 32) : setOf4 a b c d < 2 ^ 128 := by unfold setOf4; omega
theorem setOf4_sw {a b c d : Nat} (ha : a < 2 ^ 32) (hb : b < 2 ^ 32) (hc : c < 2 ^ 32) (hd : d < 2 ^ 32) :
    sw (setOf4 a b c d) 0 = a ∧ sw (setOf4 a b c d) 1 = b ∧ sw (setOf4 a b c d) 2 = c ∧ sw (setOf4 a b c d) 3 = d := by
  unfold sw setOf4
  simp only [Nat.shiftRight_eq_div_pow, Nat.mul_zero, Nat.pow_zero, Nat.div_one, Nat.mul_one, show (32 * 2 : Nat) = 64 from rfl, show (32 * 3 : Nat) = 96 from rfl]
  omega

def setC (x : Nat) : Array Value := #[.int .u32 (sw x 0 : Nat), .int .u32 (sw x 1 : Nat), .int .u32 (sw x 2 : Nat), .int .u32 (sw x 3 : Nat)]
def setV (x : Nat) : Value := .agg (setC x)
theorem setC_get (x j : Nat) (hj : j < 4) : (setC x)[j]? = some (.int .u32 (sw x j : Nat)) := by
  match j, hj with
  | 0, _ => rfl
  | 1, _ => rfl
  | 2, _ => rfl
  | 3, _ => rfl
theorem clean_mod (x : Nat) : x &&& (2 ^ 100 - 1) = x % 2 ^ 100 := Nat.and_two_pow_sub_one_eq_mod x 100
end Go.Proofs.YtppmiggkknhdkaaDoor
namespace Go.Proofs.YtppmiggkknhdkaaDoor
set_option linter.unusedVariables false
open Go.RowKit

theorem ret_b {a b : Bool} (h : a = b) : Ending.returned (.bool a) = .returned (.bool b) := by rw [h]
theorem isId_yes (i : Int) (h0 : 0 ≤ i) (h1 : i < 100) (w : World) :
    Calls Tryd.prog 45 #[.int .i64 i] w fun e w' => e = .returned (.bool true) ∧ w = w' := by
  go_enter Tryd.func45, Tryd.ntmps45
  go_wp2
  go_ret
  exact ⟨rfl, rfl⟩
theorem isId_no (i : Int) (h : ¬ (0 ≤ i ∧ i < 100)) (w : World) :
    Calls Tryd.prog 45 #[.int .i64 i] w fun e w' => e = .returned (.bool false) ∧ w = w' := by
  by_cases h0 : 0 ≤ i
  · have h1 : 100 ≤ i := by omega
    have h2 : decide (i < 100) = false := by simp; omega
    clear h
    go_enter Tryd.func45, Tryd.ntmps45
    go_wp2
    go_ret
    exact ⟨rfl, rfl⟩
  · have h1 : i < 0 := by omega
    clear h h0
    go_enter Tryd.func45, Tryd.ntmps45
    go_wp2
    go_ret
    exact ⟨rfl, rfl⟩

theorem has_word (x k : Nat) : (bits .and .u32 ((sw x (k / 32) : Nat) / 2 ^ (k % 32) : Int) 1 == (1 : Int)) = x.testBit (k : Int).toNat := by
  have h1 : ((sw x (k / 32) : Nat) / 2 ^ (k % 32) : Int) = ((sw x (k / 32) / 2 ^ (k % 32) : Nat) : Int) := by push_cast; rfl
  have h2 := sw_has x k
  rw [Nat.shiftRight_eq_div_pow] at h2
  have h3 : sw x (k / 32) / 2 ^ (k % 32) < 4294967296 := Nat.lt_of_le_of_lt (Nat.div_le_self _ _) (sw_lt _ _)
  rw [h1, show (1 : Int) = ((1 : Nat) : Int) from rfl, bits_and_u32 _ _ h3 (by decide), show (sw x (k / 32) / 2 ^ (k % 32)) &&& 1 = (sw x (k / 32) / 2 ^ (k % 32)) % 2 from Nat.and_one_is_mod _, h2]
  rw [Int.toNat_natCast]; cases x.testBit k <;> rfl
def hasB (x : Nat) (i : Int) : Bool := decide (0 ≤ i ∧ i < 100) && x.testBit i.toNat
set_option maxHeartbeats 400000 in
theorem has_any (x : Nat) (i : Int) (w : World) :
    Calls Tryd.prog 26 #[setV x, .int .i64 i] w fun e w' => e = .returned (.bool (hasB x i)) ∧ Below w.heap.size w w' := by
  by_cases h : 0 ≤ i ∧ i < 100
  · have hh : hasB x i = x.testBit i.toNat := by unfold hasB; simp [h]
    obtain ⟨h0, h1⟩ := h
    obtain ⟨k, rfl⟩ := Int.eq_ofNat_of_zero_le h0
    have H := Lib.hid (fun w => isId_yes k h0 h1 w)
    have HH := Lib.hid hh
    clear hh
    have b0 := blk_new w (.cells (setC x) 59)
    have c0 : (w.alloc (.cells (setC x) 59)).cell? ⟨w.heap.size, k / 32, none⟩ = some (.int .u32 (sw x (k / 32) : Nat)) := (blk_cell b0 (k / 32)).trans (setC_get x _ (by omega))
    have hw := sw_lt x (k / 32)
    unfold setC at c0 b0
    unfold setV setC
    go_enter Tryd.func26, Tryd.ntmps26
    go_wp2_with (go_at_call 45; refine (H.out _).mono ?_; rintro e w1 ⟨rfl, rfl⟩)
    go_ret
    refine ⟨ret_b ?_, (Below.refl _ _).alloc (Nat.le_refl _) _⟩
    rw [HH.out]
    exact has_word x k
  · have hh : hasB x i = false := by unfold hasB; simp [h]
    rw [hh]
    unfold setV setC
    have H := Lib.hid (fun w => isId_no i h w)
    clear h hh
    go_enter Tryd.func26, Tryd.ntmps26
    go_wp2_with (go_at_call 45; refine (H.out _).mono ?_; rintro e w1 ⟨rfl, rfl⟩)
    go_ret
    exact ⟨rfl, (Below.refl _ _).alloc (Nat.le_refl _) _⟩
end Go.Proofs.YtppmiggkknhdkaaDoor
namespace Go.Proofs.YtppmiggkknhdkaaDoor
open Go.RowKit
set_option linter.unusedVariables false

def noDefer (o : Oper) : Bool := match o.op with | .defer _ => false | _ => true
theorem noDefer_spec {o : Oper} (h : noDefer o = true) : ∀ c, o.op ≠ .defer c := by
  intro c hc; simp [noDefer, hc] at h

section
variable {P : Program} {l0 m : Nat}

theorem rows_in {row : String} {args : Array Value} {w : World} {R : Value → World → Prop} (h : Rows P row args w R) : RowsIn (Fence.wide.inRound l0) m P row args w R :=
  fun c cs _ => let ⟨v, w', r, s⟩ := h c cs; ⟨v, w', r, by rw [fenced_inRound]; exact stepsIn_wide.2 s⟩

theorem upon_in {o : Oper} {a : Act} {next : Act → World → Prop} {Q : Exit → Act → World → Prop} {r : Result Next} (h : o.upon P a next Q r) : o.uponIn (Fence.wide.inRound l0) m P a next Q r := by
  cases r with
  | ok n w =>
    cases n with
    | value v => exact h
    | skip => exact h
    | defer d => exact h
    | enter f args => exact ⟨fun hd => by simp [Fence.wide] at hd, CallsIn.inRound l0 (callsIn_wide.2 h)⟩
    | row row args => exact ⟨fun hd => by simp [Fence.wide] at hd, rows_in h⟩
    | _ => exact h.elim
  | halt x w =>
    cases x <;> first | exact h | exact h.elim

theorem wp_in {o : Oper} (hn : noDefer o = true) {a : Act} {w : World} {next : Act → World → Prop} {Q : Exit → Act → World → Prop} (h : o.wp P a w next Q) : o.wpIn (Fence.wide.inRound l0) m P a w next Q := by
  refine ⟨fun _ _ => trivial, ?_⟩
  rw [Oper.semAt_plain _ _ _ (noDefer_spec hn)]
  exact upon_in h

theorem wpAny_in {md : Region.Mode} {ops : Array Oper} {Q : Exit → Act → World → Prop} (hn : ∀ (i : Nat) (o : Oper), ops[i]? = some o → noDefer o = true) (hQ : ¬ LetsOut Q) :
    ∀ (fuel : Nat) (listed : Array Bool) (a : Act) (w : World), wpAny P md ops Q fuel listed a w → wpAnyIn (Fence.wide.inRound l0) m P md ops Q fuel listed a w := by
  intro fuel
  induction fuel with
  | zero => exact fun _ _ _ h => h
  | succ fuel ih =>
    intro listed a w h
    refine ⟨h.1, fun i hi => ?_⟩
    have h2 := h.2 i hi
    unfold wpOp at h2
    unfold wpOpIn
    cases ho : ops[i]? with
    | none => simp only [ho] at h2 ⊢; exact ih _ _ _ h2
    | some o =>
      simp only [ho] at h2 ⊢
      by_cases hw : Region.wanted o (yielded ops a.tmps) = true
      · rw [if_pos hw] at h2 ⊢
        rcases h2 with h2 | ⟨_, h2⟩
        · exact wp_in (hn i o ho) (Oper.wp_mono (fun a w hh => ih _ _ _ hh) h2)
        · exact absurd h2 hQ
      · rw [if_neg hw] at h2 ⊢
        exact ⟨fun _ _ => trivial, ih _ _ _ h2⟩

theorem wpIn_region_still_tail {id : Nat} {Q : Exit → Act → World → Prop} {a : Act} {w : World} {l : List Oper} (n : Nat) (hm : P.follows .mixedOrders = true) (hB : Region.lexTailB .any l.toArray n = true) (hnd : l.all noDefer = true) (hQ : ¬ LetsOut Q)
    (h : wpStill P l.toArray { w with drawn := w.drawn + 1 } (fun a' => wpList P l.toArray Q (l.drop n) a' { w with drawn := w.drawn + 1 }) (l.take n) a) : (Code.region id l.toArray true).wpIn (Fence.wide.inRound l0) m P Q a w := by
  simp only [Region.lexTailB, Bool.and_eq_true, decide_eq_true_eq] at hB
  obtain ⟨⟨⟨⟨hsel, hn⟩, hs⟩, hc⟩, hlex⟩ := hB
  have hn' : n < l.length := by simpa using hn
  have htl : (l.take n).length = n := by simp; omega
  have hdl : (l.drop n).length = l.toArray.size - n := by simp
  have inv0 : HeadInv .any l.toArray n (Array.replicate l.toArray.size false) :=
    ⟨by simp, fun j oj _ hl => (by rw [getD_replicate_false] at hl; cases hl), fun t _ ht => getD_in (by simpa using ht) (getD_replicate_false _ _)⟩
  have H := wpAnyL_lex (md := .any) (g := l.toArray.size - n) hsel hs hc hn (l.take n) 0 _ a (fun j hj => by
    have hj' : j < n := by rw [htl] at hj; exact hj
    simp [hj']) (by simpa using htl) inv0 (by rw [htl]; exact hlex) h
  refine wpIn_region_any hm ?_
  have := wpAny_of_head (Q' := Q) (g := l.toArray.size - n) (fun listed a' hL => by
    have := wpAny_of_seq (md := .any) (Q' := Q) (l.drop n) n listed a' { w with drawn := w.drawn + 1 } (fun j => by simp [List.getElem?_drop]) (by rw [hdl]; exact hL.1) hL.2
    rwa [hdl] at this) _ _ _ H
  rw [htl, show n + (l.toArray.size - n) = l.toArray.size by omega] at this
  refine wpAny_in (fun i o ho => ?_) hQ _ _ _ _ this
  rw [List.all_eq_true] at hnd
  exact hnd o (by rw [List.getElem?_toArray] at ho; exact List.mem_of_getElem? ho)
end

end Go.Proofs.YtppmiggkknhdkaaDoor
namespace Go.Proofs.YtppmiggkknhdkaaDoor
open Go.RowKit
set_option linter.unusedVariables false

section
variable {P : Program} {ops : Array Oper} {Q : Exit → Act → World → Prop} {md : Region.Mode} {S : World → Prop} {L : Nat → Bool}

/-- Whatever order is picked: S is shown anew behind each operation that is not late. -/
def wpAnyE (P : Program) (md : Region.Mode) (ops : Array Oper) (Q : Exit → Act → World → Prop) (S : World → Prop) (L : Nat → Bool) : Nat → Array Bool → Act → World → Prop
  | 0, listed, a, w => Region.ready md ops listed = [] ∧ Q .normal a w
  | fuel + 1, listed, a, w =>
    (Region.ready md ops listed = [] → Q .normal a w) ∧
    ∀ i ∈ Region.ready md ops listed, wpOp P ops Q i (fun a' w' => (L i = false → S w') ∧ wpAnyE P md ops Q S L fuel (listed.setIfInBounds i true) a' w') a w

theorem wpAny_of_early : ∀ (fuel : Nat) (listed : Array Bool) (a : Act) (w : World), wpAnyE P md ops Q S L fuel listed a w → wpAny P md ops Q fuel listed a w
  | 0, _, _, _, h => h
  | fuel + 1, _, _, _, h => ⟨h.1, fun i hi => wpOp_mono (fun a' w' h' => wpAny_of_early fuel _ a' w' h'.2) (h.2 i hi)⟩

/-- The operations that wait for i, directly or through others. -/
def waits (md : Region.Mode) (ops : Array Oper) (i : Nat) : List Nat :=
  (List.range ops.size).foldl (fun t j => match ops[j]? with
    | some o => if o.after.any (fun e => Region.binds md e && (e.on == i || t.contains e.on)) then j :: t else t
    | none => t) []

def earlyB (md : Region.Mode) (ops : Array Oper) (L : Nat → Bool) (listed : Array Bool) (i : Nat) : Bool :=
  (List.range ops.size).all fun j =>
    (!L j || (waits md ops i).contains j) &&
    (!(waits md ops i).contains j || (!listed.getD j true && match ops[j]? with
      | some o => o.after.any (fun e => Region.binds md e && (e.on == i || (waits md ops i).contains e.on))
      | none => false))

theorem earlyB_spec {listed : Array Bool} {i : Nat} (h : earlyB md ops L listed i = true) : ∀ j oj, ops[j]? = some oj →
    (L j = true → (waits md ops i).contains j = true) ∧ ((waits md ops i).contains j = true → listed.getD j true = false ∧ ∃ e ∈ oj.after, Region.binds md e = true ∧ (e.on = i ∨ (waits md ops i).contains e.on = true)) := by
  intro j oj hj
  unfold earlyB at h
  rw [List.all_eq_true] at h
  have h1 := h j (List.mem_range.2 (Array.getElem?_eq_some_iff.1 hj).1)
  simp only [hj, Bool.and_eq_true, Bool.or_eq_true, Bool.not_eq_true'] at h1
  refine ⟨fun hL => ?_, fun hw => ?_⟩
  · rcases h1.1 with h | h
    · rw [hL] at h; cases h
    · exact h
  · rcases h1.2 with h | h
    · rw [hw] at h; cases h
    · obtain ⟨h2, h3⟩ := h
      obtain ⟨e, he, hb⟩ := Array.any_eq_true'.1 h3
      simp only [Bool.and_eq_true, Bool.or_eq_true, beq_iff_eq] at hb
      exact ⟨h2, e, he, hb.1, hb.2⟩

theorem wpAnyE_first {i : Nat} {oi : Oper} {v : Value} (hi : ops[i]? = some oi) (hsel : ∀ (j : Nat) (o : Oper) cs b, ops[j]? = some o → o.op ≠ .select cs b)
    (hQ : ∀ c a w, Q (.panic c) (a.put oi.dst v) w → Q (.panic c) a w) (T : Nat → Bool) (hLT : ∀ j oj, ops[j]? = some oj → L j = true → T j = true)
    (hcl : ∀ j oj, ops[j]? = some oj → T j = true → ∃ e ∈ oj.after, Region.binds md e = true ∧ (e.on = i ∨ T e.on = true)) (hTs : ∀ j, T j = true → j < ops.size) :
    ∀ (fuel : Nat) (listed : Array Bool) (a : Act) (w : World), (∀ j, T j = true → listed.getD j true = false) →
      (∀ j oj, ops[j]? = some oj → j ≠ i → listed.getD j true = false → (∀ e ∈ oj.after, Region.binds md e = true → e.on ≠ i) → oi.apart ops oj = true) →
      i ∈ Region.ready md ops listed → YieldsIf P ops S oi v a → S w →
      wpAnyE P md ops Q S L fuel (listed.setIfInBounds i true) (a.put oi.dst v) w → wpAnyE P md ops Q S L (fuel + 1) listed a w := by
  have flip : ∀ (listed : Array Bool) k, listed.getD k true = false → listed.getD k false = true → False := by
    intro listed k h0 h1
    rcases Nat.lt_or_ge k listed.size with h' | h'
    · simp [h'] at h0 h1; rw [h0] at h1; cases h1
    · simp [Array.getElem?_eq_none h'] at h1
  intro fuel
  induction fuel with
  | zero =>
    intro listed a w _ _ hr hy hS H
    refine ⟨fun h => (by rw [h] at hr; cases hr), fun j hj => ?_⟩
    by_cases hji : j = i
    · subst hji; exact hy.wpOp hi hS ⟨fun _ => hS, H⟩
    · have := ready_mono hj hji
      rw [H.1] at this
      cases this
  | succ fuel ih =>
    intro listed a w hT hfree hr hy hS H
    refine ⟨fun h => (by rw [h] at hr; cases hr), fun j hj => ?_⟩
    by_cases hji : j = i
    · subst hji; exact hy.wpOp hi hS ⟨fun _ => hS, H⟩
    · have h1 := H.2 j (ready_mono hj hji)
      obtain ⟨hjun, oj, hoj, hall⟩ := mem_ready.1 hj
      have hiun := (mem_ready.1 hr).1
      have hnot : ∀ e ∈ oj.after, Region.binds md e = true → e.on ≠ i := fun e he hb heq => flip _ _ hiun (heq ▸ hall e he hb)
      have hTj : T j = false := by
        cases hTj : T j with
        | false => rfl
        | true =>
          obtain ⟨e, he, hb, h⟩ := hcl j oj hoj hTj
          rcases h with h | h
          · exact absurd h (hnot e he hb)
          · exact (flip _ _ (hT _ h) (hall e he hb)).elim
      have hLj : L j = false := by
        cases hLj : L j with
        | false => rfl
        | true => rw [hLT j oj hoj hLj] at hTj; cases hTj
      have h2 := wpOp_putIf hoj (hfree j oj hoj hji hjun hnot) (fun cs b => hsel i oi cs b hi) (fun cs b => hsel j oj cs b hoj) hQ hy h1
      have hfree' : ∀ k ok, ops[k]? = some ok → k ≠ i → (listed.setIfInBounds j true).getD k true = false →
          (∀ e ∈ ok.after, Region.binds md e = true → e.on ≠ i) → oi.apart ops ok = true := fun k ok hk hki hun hno => by
        refine hfree k ok hk hki ?_ hno
        by_cases hjk : j = k
        · subst hjk; exact hjun
        · rw [getD_set_ne true hjk] at hun; exact hun
      have hT' : ∀ k, T k = true → (listed.setIfInBounds j true).getD k true = false := fun k hk => by
        have hjk : j ≠ k := fun h => by subst h; rw [hTj] at hk; cases hk
        rw [getD_set_ne true hjk]; exact hT k hk
      refine wpOp_mono (fun a' w' h3 => ⟨h3.2.1, ih (listed.setIfInBounds j true) a' w' hT' hfree' (ready_mono hr (Ne.symm hji)) h3.1 (h3.2.1 hLj) ?_⟩) h2
      rw [Array.setIfInBounds_comm _ _ hji]
      exact h3.2.2

theorem mem_waits {i j : Nat} (h : (waits md ops i).contains j = true) : j < ops.size := by
  have key : ∀ (l : List Nat) (t : List Nat), (∀ k ∈ t, k < ops.size) → ∀ k ∈ l.foldl (fun t j => match ops[j]? with
    | some o => if o.after.any (fun e => Region.binds md e && (e.on == i || t.contains e.on)) then j :: t else t
    | none => t) t, k < ops.size := by
    intro l
    induction l with
    | nil => intro t ht k hk; exact ht k hk
    | cons x l ih =>
      intro t ht k hk
      refine ih _ ?_ k hk
      intro k' hk'
      dsimp only at hk'
      cases ho : ops[x]? with
      | none => rw [ho] at hk'; exact ht k' hk'
      | some o =>
        rw [ho] at hk'
        simp only at hk'
        split at hk'
        · rcases List.mem_cons.1 hk' with rfl | h
          · exact (Array.getElem?_eq_some_iff.1 ho).1
          · exact ht k' h
        · exact ht k' hk'
  exact key _ [] (by simp) j (by simpa [waits] using h)

/-- Take number i first. -/
theorem wpAnyE_take {i : Nat} {oi : Oper} {v : Value} {fuel : Nat} {listed : Array Bool} {a : Act} {w : World} (hi : ops[i]? = some oi)
    (hs : Region.noSelect ops = true) (hf : Region.free md ops listed i = true) (hr : (Region.ready md ops listed).contains i = true) (he : earlyB md ops L listed i = true)
    (hQ : ∀ c a w, Q (.panic c) (a.put oi.dst v) w → Q (.panic c) a w) (hy : YieldsIf P ops S oi v a) (hS : S w)
    (h : wpAnyE P md ops Q S L fuel (listed.setIfInBounds i true) (a.put oi.dst v) w) : wpAnyE P md ops Q S L (fuel + 1) listed a w :=
  wpAnyE_first hi (Region.noSelect_spec hs) hQ (fun j => (waits md ops i).contains j) (fun j oj hj => (earlyB_spec he j oj hj).1)
    (fun j oj hj hw => ((earlyB_spec he j oj hj).2 hw).2) (fun j hj => mem_waits hj) fuel listed a w
    (fun j hj => ((earlyB_spec he j (ops[j]'(mem_waits hj)) (by simp [mem_waits hj])).2 hj).1) (Region.free_spec hi hf) (by simpa using hr) hy hS h

/-- The operations one behind the other, each alone. -/
def wpListE (P : Program) (ops : Array Oper) (Q : Exit → Act → World → Prop) (S : World → Prop) (L : Nat → Bool) : Nat → List Oper → Act → World → Prop
  | _, [], a, w => Q .normal a w
  | k, o :: l, a, w => wpList P ops (Exit.then (fun a' w' => (L k = false → S w') ∧ wpListE P ops Q S L (k + 1) l a' w') Q) [o] a w

theorem upon_then {o : Oper} {a : Act} {K : Act → World → Prop} {r : Result Next} (h : o.upon P a K (Exit.then K Q) r) : o.upon P a K Q r := by
  have hl : LetsOut (Exit.then K Q) → LetsOut Q := fun ⟨a, w, h⟩ => ⟨a, w, h⟩
  cases r with
  | ok n w' =>
    cases n <;> simp only [Oper.upon] at h ⊢ <;>
      first
        | exact h
        | exact Calls.mono h (fun e w'' he => by cases e <;> first | exact he | exact hl he)
  | halt x w' => cases x <;> simp only [Oper.upon] at h ⊢ <;> exact h

theorem wpOp_of_single {i : Nat} {o : Oper} {K : Act → World → Prop} {a : Act} {w : World} (hi : ops[i]? = some o) (h : wpList P ops (Exit.then K Q) [o] a w) : wpOp P ops Q i K a w := by
  unfold wpOp
  simp only [hi]
  unfold wpList at h
  split
  · rename_i hw
    rw [if_pos hw] at h
    rcases h with h | ⟨hasks, hlets⟩
    · exact .inl (upon_then h)
    · exact .inr ⟨hasks, let ⟨a, w, h⟩ := hlets; ⟨a, w, h⟩⟩
  · rename_i hw
    rw [if_neg hw] at h
    exact h

theorem wpAnyE_seq : ∀ (l : List Oper) (k : Nat) (listed : Array Bool) (a : Act) (w : World), (∀ j, l[j]? = ops[k + j]?) →
    Region.seqB md ops l.length k listed = true → wpListE P ops Q S L k l a w → wpAnyE P md ops Q S L l.length listed a w
  | [], _, _, _, _, _, hB, h => ⟨by simpa [Region.seqB] using hB, h⟩
  | o :: l, k, listed, a, w, hl, hB, h => by
    have h0 : ops[k]? = some o := by simpa using (hl 0).symm
    simp only [List.length_cons, Region.seqB, Bool.and_eq_true, decide_eq_true_eq] at hB
    refine ⟨fun h1 => (by rw [hB.1] at h1; cases h1), fun i hi => ?_⟩
    rw [hB.1] at hi
    have hik : i = k := by simpa using hi
    subst hik
    exact wpOp_mono (fun a' w' h' => ⟨h'.1, wpAnyE_seq l (i + 1) _ a' w' (fun j => by have := hl (j + 1); simpa [Nat.add_assoc, Nat.add_comm 1 j] using this) hB.2 h'.2⟩) (wpOp_of_single h0 h)

/-- The tail from operation k on, one operation at a time. -/
theorem wpAnyE_tail {l : List Oper} (k : Nat) {fuel : Nat} {listed : Array Bool} {a : Act} {w : World} (hf : (l.drop k).length = fuel)
    (hB : Region.seqB md l.toArray (l.drop k).length k listed = true) (h : wpListE P l.toArray Q S L k (l.drop k) a w) : wpAnyE P md l.toArray Q S L fuel listed a w :=
  hf ▸ wpAnyE_seq (l.drop k) k listed a w (fun j => by simp [List.getElem?_drop]) hB h

/-- From here on S is not asked: every operation left is late. -/
theorem wpListE_late : ∀ (l : List Oper) (k : Nat) (a : Act) (w : World), (∀ j, j < l.length → L (k + j) = true) → wpList P ops Q l a w → wpListE P ops Q S L k l a w
  | [], _, _, _, _, h => h
  | o :: l, k, a, w, hL, h => by
    have ih := fun a' w' => wpListE_late l (k + 1) a' w' (fun j hj => by have := hL (j + 1) (by simp; omega); rwa [Nat.add_assoc, Nat.add_comm 1 j])
    have h0 : L k = true := hL 0 (by simp)
    unfold wpListE
    unfold wpList at h ⊢
    have hK : ∀ a' w', wpList P ops Q l a' w' → wpList P ops (Exit.then (fun a' w' => (L k = false → S w') ∧ wpListE P ops Q S L (k + 1) l a' w') Q) [] a' w' :=
      fun a' w' h => ⟨fun hf => (by rw [h0] at hf; cases hf), ih a' w' h⟩
    split
    · rename_i hw
      rw [if_pos hw] at h
      rcases h with h | ⟨hasks, hlets⟩
      · refine .inl ?_
        unfold Oper.wp at h ⊢
        generalize (execOp a.eval o).run P w = r at *
        cases r with
        | ok n w' =>
          cases n <;> simp only [Oper.upon] at h ⊢ <;>
            first
              | exact hK _ _ h
              | exact Calls.mono h (fun e w'' he => by cases e <;> first | exact hK _ _ he | exact he | exact (let ⟨a, w, h⟩ := he; ⟨a, w, h⟩))
              | exact Rows.mono h (fun _ _ he => hK _ _ he)
        | halt x w' => cases x <;> simp only [Oper.upon] at h ⊢ <;> exact h
      · exact .inr ⟨hasks, let ⟨a, w, h⟩ := hlets; ⟨a, w, h⟩⟩
    · rename_i hw
      rw [if_neg hw] at h
      exact hK _ _ h

theorem wp_region_early {id : Nat} {a : Act} {w : World} (S : World → Prop) (L : Nat → Bool) (hm : P.follows .mixedOrders = true)
    (h : wpAnyE P .any ops Q S L ops.size (Array.replicate ops.size false) a w.drew) : (Code.region id ops true).wp P Q a w :=
  wp_region_any hm (wpAny_of_early _ _ _ _ h)

theorem wpIn_region_early {id l0 m : Nat} {a : Act} {w : World} (S : World → Prop) (L : Nat → Bool) (hm : P.follows .mixedOrders = true) (hnd : ops.all noDefer = true) (hQ : ¬ LetsOut Q)
    (h : wpAnyE P .any ops Q S L ops.size (Array.replicate ops.size false) a w.drew) : (Code.region id ops true).wpIn (Fence.wide.inRound l0) m P Q a w := by
  refine wpIn_region_any hm (wpAny_in (fun i o ho => ?_) hQ _ _ _ _ (wpAny_of_early _ _ _ _ h))
  exact Array.all_eq_true_iff_forall_mem.1 hnd o (Array.mem_of_getElem? ho)
end

end Go.Proofs.YtppmiggkknhdkaaDoor
namespace Go.Proofs.YtppmiggkknhdkaaDoor
open Go.RowKit
set_option linter.unusedVariables false
section
variable {P : Program} {ops : Array Oper} {Q : Exit → Act → World → Prop} {md : Region.Mode} {S : World → Prop} {L : Nat → Bool}
theorem wpAnyE_one {i : Nat} {oi : Oper} {fuel : Nat} {listed : Array Bool} {a : Act} {w : World} (hr : Region.ready md ops listed = [i]) (hi : ops[i]? = some oi)
    (h : wpList P ops (Exit.then (fun a' w' => (L i = false → S w') ∧ wpAnyE P md ops Q S L fuel (listed.setIfInBounds i true) a' w') Q) [oi] a w) : wpAnyE P md ops Q S L (fuel + 1) listed a w := by
  refine ⟨fun h' => (by rw [hr] at h'; cases h'), fun k hk => ?_⟩
  rw [hr] at hk
  obtain rfl : k = i := by simpa using hk
  exact wpOp_of_single hi h
theorem wpAnyE_two {i j : Nat} {oi oj : Oper} {fuel : Nat} {listed : Array Bool} {a : Act} {w : World} (hr : Region.ready md ops listed = [i, j]) (hi : ops[i]? = some oi) (hj : ops[j]? = some oj)
    (h1 : wpList P ops (Exit.then (fun a' w' => (L i = false → S w') ∧ wpAnyE P md ops Q S L fuel (listed.setIfInBounds i true) a' w') Q) [oi] a w)
    (h2 : wpList P ops (Exit.then (fun a' w' => (L j = false → S w') ∧ wpAnyE P md ops Q S L fuel (listed.setIfInBounds j true) a' w') Q) [oj] a w) : wpAnyE P md ops Q S L (fuel + 1) listed a w := by
  refine ⟨fun h' => (by rw [hr] at h'; cases h'), fun k hk => ?_⟩
  rw [hr] at hk
  rcases List.mem_cons.1 hk with rfl | hk
  · exact wpOp_of_single hi h1
  · obtain rfl : k = j := by simpa using hk
    exact wpOp_of_single hj h2
theorem wpAnyE_end {listed : Array Bool} {a : Act} {w : World} (hr : Region.ready md ops listed = []) (h : Q .normal a w) : wpAnyE P md ops Q S L 0 listed a w := ⟨hr, h⟩
end
end Go.Proofs.YtppmiggkknhdkaaDoor
namespace Go.Proofs.YtppmiggkknhdkaaDoor
set_option linter.unusedVariables false
set_option linter.unusedSimpArgs false
open Go.RowKit

theorem isTag_yes (t : Int) (h0 : 0 ≤ t) (h1 : t ≤ 1048576) (w : World) :
    Calls Tryd.prog 51 #[.int .i64 t] w fun e w' => e = .returned (.bool true) ∧ w' = w := by
  go_enter Tryd.func51, Tryd.ntmps51
  go_wp2
  go_ret
  exact ⟨rfl, rfl⟩
theorem isTag_no (t : Int) (h : ¬ (0 ≤ t ∧ t ≤ 1048576)) (w : World) :
    Calls Tryd.prog 51 #[.int .i64 t] w fun e w' => e = .returned (.bool false) ∧ w' = w := by
  by_cases h0 : 0 ≤ t
  · have h1 : 1048576 < t := by omega
    have h2 : decide (t ≤ 1048576) = false := by simp; omega
    clear h
    go_enter Tryd.func51, Tryd.ntmps51
    go_wp2
    go_ret
    exact ⟨rfl, rfl⟩
  · have h1 : t < 0 := by omega
    clear h h0
    go_enter Tryd.func51, Tryd.ntmps51
    go_wp2
    go_ret
    exact ⟨rfl, rfl⟩
theorem isKind_any (k : Int) (w : World) :
    Calls Tryd.prog 52 #[.int .i64 k] w fun e w' => e = .returned (.bool (decide (k = 1 ∨ k = 2))) ∧ w' = w := by
  by_cases h1 : k = 1
  · subst h1
    go_enter Tryd.func52, Tryd.ntmps52
    go_wp2
    go_ret
    exact ⟨rfl, rfl⟩
  · by_cases h2 : k = 2
    · subst h2
      go_enter Tryd.func52, Tryd.ntmps52
      go_wp2
      go_ret
      exact ⟨rfl, rfl⟩
    · have e1 : (k == 1) = false := by simp [h1]
      have e2 : (k == 2) = false := by simp [h2]
      have e3 : decide (k = 1 ∨ k = 2) = false := decide_eq_false (by omega)
      rw [e3]
      clear e3
      go_enter Tryd.func52, Tryd.ntmps52
      go_wp2
      go_ret
      exact ⟨rfl, rfl⟩
theorem rank_any (o t k : Int) (w : World) :
    Calls Tryd.prog 44 #[nV o t k] w fun e w' => e = .returned (.int .i64 (rkI t k)) ∧ Below w.heap.size w w' := by
  unfold nV
  by_cases ht : 0 ≤ t ∧ t ≤ 1048576
  · have HT := Lib.hid (fun w => isTag_yes t ht.1 ht.2 w)
    obtain ⟨t0, t1⟩ := ht
    by_cases h1 : k = 1
    · subst h1
      have hr : rkI t 1 = 2 * t := by unfold rkI; rw [if_pos ⟨t0, t1, Or.inl rfl⟩]; omega
      rw [hr]
      clear hr
      go_enter Tryd.func44, Tryd.ntmps44
      go_wp2_with (go_at_call 51; refine (HT.out _).mono ?_; rintro e w1 ⟨rfl, rfl⟩)
      go_ret
      exact ⟨rfl, (Below.refl _ _).alloc (Nat.le_refl _) _⟩
    · by_cases h2 : k = 2
      · subst h2
        have hr : rkI t 2 = 2 * t + 1 := by unfold rkI; rw [if_pos ⟨t0, t1, Or.inr rfl⟩]; omega
        rw [hr]
        clear hr
        go_enter Tryd.func44, Tryd.ntmps44
        go_wp2_with (go_at_call 51; refine (HT.out _).mono ?_; rintro e w1 ⟨rfl, rfl⟩)
        go_ret
        exact ⟨rfl, (Below.refl _ _).alloc (Nat.le_refl _) _⟩
      · have e1 : (k == 1) = false := by simp [h1]
        have e2 : (k == 2) = false := by simp [h2]
        have hr : rkI t k = -1 := by unfold rkI; rw [if_neg (by omega)]
        rw [hr]
        clear hr
        go_enter Tryd.func44, Tryd.ntmps44
        go_wp2_with (go_at_call 51; refine (HT.out _).mono ?_; rintro e w1 ⟨rfl, rfl⟩)
        go_ret
        exact ⟨rfl, (Below.refl _ _).alloc (Nat.le_refl _) _⟩
  · have HT := Lib.hid (fun w => isTag_no t ht w)
    have hr : rkI t k = -1 := by unfold rkI; rw [if_neg (by omega)]
    rw [hr]
    clear hr ht
    go_enter Tryd.func44, Tryd.ntmps44
    go_wp2_with (go_at_call 51; refine (HT.out _).mono ?_; rintro e w1 ⟨rfl, rfl⟩)
    go_ret
    exact ⟨rfl, (Below.refl _ _).alloc (Nat.le_refl _) _⟩
theorem valid_any (n o t k : Int) (w : World) :
    Calls Tryd.prog 31 #[.int .i64 n, nV o t k] w fun e w' => e = .returned (.bool (vN n o t k)) ∧ Below w.heap.size w w' := by
  unfold nV
  have HK := Lib.hid (fun w => isKind_any k w)
  by_cases h1 : 1 ≤ n
  · by_cases h2 : n ≤ 100
    · by_cases h3 : 0 ≤ o
      · by_cases h4 : o < n
        · by_cases ht : 0 ≤ t ∧ t ≤ 1048576
          · have HT := Lib.hid (fun w => isTag_yes t ht.1 ht.2 w)
            have hv : vN n o t k = decide (k = 1 ∨ k = 2) := by unfold vN; congr 1; simp only [h1, h2, h3, h4, ht.1, ht.2, true_and]
            rw [hv]
            clear hv
            obtain ⟨t0, t1⟩ := ht
            go_enter Tryd.func31, Tryd.ntmps31
            go_wp2_with (first
              | (go_at_call 51; refine (HT.out _).mono ?_; rintro e w1 ⟨rfl, rfl⟩)
              | (go_at_call 52; refine (HK.out _).mono ?_; rintro e w1 ⟨rfl, rfl⟩))
            go_ret
            exact ⟨ret_b (by simp), (Below.refl _ _).alloc (Nat.le_refl _) _⟩
          · have HT := Lib.hid (fun w => isTag_no t ht w)
            have hv : vN n o t k = false := decide_eq_false (by omega)
            rw [hv]
            clear hv ht
            go_enter Tryd.func31, Tryd.ntmps31
            go_wp2_with (first
              | (go_at_call 51; refine (HT.out _).mono ?_; rintro e w1 ⟨rfl, rfl⟩)
              | (go_at_call 52; refine (HK.out _).mono ?_; rintro e w1 ⟨rfl, rfl⟩))
            go_ret
            exact ⟨rfl, (Below.refl _ _).alloc (Nat.le_refl _) _⟩
        · have hv : vN n o t k = false := decide_eq_false (by omega)
          have HT := Lib.hid hv
          rw [hv]
          clear hv
          have e4 : n ≤ o := by omega
          have e5 : decide (o < n) = false := by simp; omega
          clear h4
          go_enter Tryd.func31, Tryd.ntmps31
          go_wp2_with (first
            | (go_at_call 51; refine (HT.out _).mono ?_; rintro e w1 ⟨rfl, rfl⟩)
            | (go_at_call 52; refine (HK.out _).mono ?_; rintro e w1 ⟨rfl, rfl⟩))
          go_ret
          exact ⟨rfl, (Below.refl _ _).alloc (Nat.le_refl _) _⟩
      · have hv : vN n o t k = false := decide_eq_false (by omega)
        have HT := Lib.hid hv
        rw [hv]
        clear hv
        have e4 : o < 0 := by omega
        clear h3
        go_enter Tryd.func31, Tryd.ntmps31
        go_wp2_with (first
          | (go_at_call 51; refine (HT.out _).mono ?_; rintro e w1 ⟨rfl, rfl⟩)
          | (go_at_call 52; refine (HK.out _).mono ?_; rintro e w1 ⟨rfl, rfl⟩))
        go_ret
        exact ⟨rfl, (Below.refl _ _).alloc (Nat.le_refl _) _⟩
    · have hv : vN n o t k = false := decide_eq_false (by omega)
      have HT := Lib.hid hv
      rw [hv]
      clear hv
      have e4 : 100 < n := by omega
      have e5 : decide (n ≤ 100) = false := by simp; omega
      clear h2
      go_enter Tryd.func31, Tryd.ntmps31
      go_wp2_with (first
        | (go_at_call 51; refine (HT.out _).mono ?_; rintro e w1 ⟨rfl, rfl⟩)
        | (go_at_call 52; refine (HK.out _).mono ?_; rintro e w1 ⟨rfl, rfl⟩))
      go_ret
      exact ⟨rfl, (Below.refl _ _).alloc (Nat.le_refl _) _⟩
  · have hv : vN n o t k = false := decide_eq_false (by omega)
    have HT := Lib.hid hv
    rw [hv]
    clear hv
    have e4 : n < 1 := by omega
    clear h1
    go_enter Tryd.func31, Tryd.ntmps31
    go_wp2_with (first
      | (go_at_call 51; refine (HT.out _).mono ?_; rintro e w1 ⟨rfl, rfl⟩)
      | (go_at_call 52; refine (HK.out _).mono ?_; rintro e w1 ⟨rfl, rfl⟩))
    go_ret
    exact ⟨rfl, (Below.refl _ _).alloc (Nat.le_refl _) _⟩
/-- Two boxes. -/
def Bx2 (w : World) (x y : Obj) (W : World) : Prop := W.heap[w.heap.size]? = some x ∧ W.heap[w.heap.size + 1]? = some y ∧ Below w.heap.size w W
theorem Bx2.below {w : World} {x y : Obj} {W X : World} (h : Bx2 w x y W) (hb : Below W.heap.size W X) : Bx2 w x y X := ⟨blk_below' hb h.1, blk_below' hb h.2.1, below_then h.2.2 hb⟩
theorem Bx2.drew {w : World} {x y : Obj} {W : World} (h : Bx2 w x y W) : Bx2 w x y W.drew := ⟨h.1, h.2.1, below_drewN h.2.2 1⟩
theorem Bx2.new (w : World) (x y : Obj) : Bx2 w x y ((w.alloc x).alloc y) :=
  ⟨blk_old (blk_new w x) y, by have := blk_new (w.alloc x) y; rwa [World.size_alloc] at this, ((Below.refl _ _).alloc (Nat.le_refl _) x).alloc (by simp) y⟩
theorem Bx2.cells {w W : World} {a0 a1 a2 b0 b1 b2 : Value} {t s : TypeId} (h : Bx2 w (.cells #[a0, a1, a2] t) (.cells #[b0, b1, b2] s) W) :
    (W.cell? ⟨w.heap.size, 0, none⟩ = some a0 ∧ W.cell? ⟨w.heap.size, 1, none⟩ = some a1 ∧ W.cell? ⟨w.heap.size, 2, none⟩ = some a2) ∧
    (W.cell? ⟨w.heap.size + 1, 0, none⟩ = some b0 ∧ W.cell? ⟨w.heap.size + 1, 1, none⟩ = some b1 ∧ W.cell? ⟨w.heap.size + 1, 2, none⟩ = some b2) ∧ Bx2 w (.cells #[a0, a1, a2] t) (.cells #[b0, b1, b2] s) W :=
  ⟨⟨blk_cell h.1 0, blk_cell h.1 1, blk_cell h.1 2⟩, ⟨blk_cell h.2.1 0, blk_cell h.2.1 1, blk_cell h.2.1 2⟩, h⟩
theorem rank_nat (o : Int) (r : Nat) (w : World) (hr : r ≤ 2097153) :
    Calls Tryd.prog 44 #[nV o (tgN r : Nat) (kdN r : Nat)] w fun e w' => e = .returned (.int .i64 (r : Int)) ∧ Below w.heap.size w w' := by
  have := rank_any o (tgN r : Nat) (kdN r : Nat) w
  rwa [rkI_nat hr] at this

def Six (w : World) (i : Nat) (r q : Nat) (w' : World) : Prop := (w'.cell? ⟨w.heap.size, 0, none⟩ = some (.int .i64 (i : Int)) ∧ w'.cell? ⟨w.heap.size, 1, none⟩ = some (.int .i64 (tgN r : Nat)) ∧ w'.cell? ⟨w.heap.size, 2, none⟩ = some (.int .i64 (kdN r : Nat))) ∧ (w'.cell? ⟨w.heap.size + 1, 0, none⟩ = some (.int .i64 (i : Int)) ∧ w'.cell? ⟨w.heap.size + 1, 1, none⟩ = some (.int .i64 (tgN q : Nat)) ∧ w'.cell? ⟨w.heap.size + 1, 2, none⟩ = some (.int .i64 (kdN q : Nat))) ∧ Below w.heap.size w w'
theorem Bx2.six {w W : World} {i r q : Nat} {t s : TypeId} (h : (W.cell? ⟨w.heap.size, 0, none⟩ = some (.int .i64 (i : Int)) ∧ W.cell? ⟨w.heap.size, 1, none⟩ = some (.int .i64 (tgN r : Nat)) ∧ W.cell? ⟨w.heap.size, 2, none⟩ = some (.int .i64 (kdN r : Nat))) ∧ (W.cell? ⟨w.heap.size + 1, 0, none⟩ = some (.int .i64 (i : Int)) ∧ W.cell? ⟨w.heap.size + 1, 1, none⟩ = some (.int .i64 (tgN q : Nat)) ∧ W.cell? ⟨w.heap.size + 1, 2, none⟩ = some (.int .i64 (kdN q : Nat))) ∧ Bx2 w (.cells #[.int .i64 (i : Int), .int .i64 (tgN r : Nat), .int .i64 (kdN r : Nat)] t) (.cells #[.int .i64 (i : Int), .int .i64 (tgN q : Nat), .int .i64 (kdN q : Nat)] s) W) : Six w i r q W := ⟨h.1, h.2.1, h.2.2.2.2⟩
set_option maxRecDepth 100000 in
theorem beats_nat (i r q : Nat) (hr : r ≤ 2097153) (hq : q ≤ 2097153) (w : World) :
    Calls Tryd.prog 25 #[nV (i : Int) (tgN r : Nat) (kdN r : Nat), nV (i : Int) (tgN q : Nat) (kdN q : Nat)] w fun e w' => e = .returned (.bool (decide (q < r))) ∧ Below w.heap.size w w' := by
  have HR : Hid (∀ (o : Int) (r : Nat) (w : World), r ≤ 2097153 → Calls Tryd.prog 44 #[.agg #[.int .i64 o, .int .i64 (tgN r : Nat), .int .i64 (kdN r : Nat)]] w fun e w' => e = .returned (.int .i64 (r : Int)) ∧ Below w.heap.size w w') := Lib.hid rank_nat
  unfold nV
  go_enter Tryd.func25, Tryd.ntmps25
  go_upto_region 1 with fail
  have hk := (Bx2.new w (.cells #[.int .i64 (i : Int), .int .i64 (tgN r : Nat), .int .i64 (kdN r : Nat)] 24) (.cells #[.int .i64 (i : Int), .int .i64 (tgN q : Nat), .int .i64 (kdN q : Nat)] 24)).drew
  refine wp_region_early (Six w i r q) (fun _ => false) (by kernel_rfl) ?_
  simp only [List.size_toArray, List.length_cons, List.length_nil, Nat.reduceAdd, Array.replicate_succ, Array.replicate_zero, List.push_toArray, List.nil_append, List.cons_append]
  generalize World.drew _ = W at *
  have hSS := (Bx2.six hk.cells)
  refine wpAnyE_take (i := 0) (v := ?_) rfl (by kernel_rfl) (by kernel_rfl) (by kernel_rfl) (by kernel_rfl) (fun _ _ _ h => h) (Or.inl ⟨by rfl, ?_⟩) hSS ?_
  rotate_left
  · intro w hSw
    obtain ⟨⟨j0, j1, j2⟩, ⟨j3, j4, j5⟩, _⟩ := hSw
    go_simp
    all_goals with_reducible rfl
  simp only [Act.put, List.setIfInBounds_toArray, List.set_cons_zero, List.set_cons_succ, List.getElem_toArray, List.getElem_cons_zero, List.getElem_cons_succ]
  refine wpAnyE_take (i := 1) (v := ?_) rfl (by kernel_rfl) (by kernel_rfl) (by kernel_rfl) (by kernel_rfl) (fun _ _ _ h => h) (Or.inl ⟨by rfl, ?_⟩) hSS ?_
  rotate_left
  · intro w hSw
    obtain ⟨⟨j0, j1, j2⟩, ⟨j3, j4, j5⟩, _⟩ := hSw
    go_simp
    all_goals with_reducible rfl
  simp only [Act.put, List.setIfInBounds_toArray, List.set_cons_zero, List.set_cons_succ, List.getElem_toArray, List.getElem_cons_zero, List.getElem_cons_succ]
  refine wpAnyE_take (i := 2) (v := ?_) rfl (by kernel_rfl) (by kernel_rfl) (by kernel_rfl) (by kernel_rfl) (fun _ _ _ h => h) (Or.inl ⟨by rfl, ?_⟩) hSS ?_
  rotate_left
  · intro w hSw
    obtain ⟨⟨j0, j1, j2⟩, ⟨j3, j4, j5⟩, _⟩ := hSw
    go_simp
    all_goals with_reducible rfl
  simp only [Act.put, List.setIfInBounds_toArray, List.set_cons_zero, List.set_cons_succ, List.getElem_toArray, List.getElem_cons_zero, List.getElem_cons_succ]
  refine wpAnyE_take (i := 3) (v := ?_) rfl (by kernel_rfl) (by kernel_rfl) (by kernel_rfl) (by kernel_rfl) (fun _ _ _ h => h) (Or.inl ⟨by rfl, ?_⟩) hSS ?_
  rotate_left
  · intro w hSw
    obtain ⟨⟨j0, j1, j2⟩, ⟨j3, j4, j5⟩, _⟩ := hSw
    go_simp
    all_goals with_reducible rfl
  simp only [Act.put, List.setIfInBounds_toArray, List.set_cons_zero, List.set_cons_succ, List.getElem_toArray, List.getElem_cons_zero, List.getElem_cons_succ]
  refine wpAnyE_take (i := 4) (v := ?_) rfl (by kernel_rfl) (by kernel_rfl) (by kernel_rfl) (by kernel_rfl) (fun _ _ _ h => h) (Or.inl ⟨by rfl, ?_⟩) hSS ?_
  rotate_left
  · intro w hSw
    obtain ⟨⟨j0, j1, j2⟩, ⟨j3, j4, j5⟩, _⟩ := hSw
    go_simp
    all_goals with_reducible rfl
  simp only [Act.put, List.setIfInBounds_toArray, List.set_cons_zero, List.set_cons_succ, List.getElem_toArray, List.getElem_cons_zero, List.getElem_cons_succ]
  refine wpAnyE_take (i := 5) (v := ?_) rfl (by kernel_rfl) (by kernel_rfl) (by kernel_rfl) (by kernel_rfl) (fun _ _ _ h => h) (Or.inl ⟨by rfl, ?_⟩) hSS ?_
  rotate_left
  · intro w hSw
    obtain ⟨⟨j0, j1, j2⟩, ⟨j3, j4, j5⟩, _⟩ := hSw
    go_simp
    all_goals with_reducible rfl
  simp only [Act.put, List.setIfInBounds_toArray, List.set_cons_zero, List.set_cons_succ, List.getElem_toArray, List.getElem_cons_zero, List.getElem_cons_succ]
  refine wpAnyE_take (i := 6) (v := ?_) rfl (by kernel_rfl) (by kernel_rfl) (by kernel_rfl) (by kernel_rfl) (fun _ _ _ h => h) (Or.inl ⟨by rfl, ?_⟩) hSS ?_
  rotate_left
  · intro w hSw
    obtain ⟨⟨j0, j1, j2⟩, ⟨j3, j4, j5⟩, _⟩ := hSw
    go_simp
    all_goals with_reducible rfl
  simp only [Act.put, List.setIfInBounds_toArray, List.set_cons_zero, List.set_cons_succ, List.getElem_toArray, List.getElem_cons_zero, List.getElem_cons_succ]
  refine wpAnyE_one (i := 7) (by kernel_rfl) rfl ?_
  change wpList _ _ (Exit.then _ _) [_] _ _
  try simp only [List.setIfInBounds_toArray, List.set_cons_zero, List.set_cons_succ, List.getElem_toArray, List.getElem_cons_zero, List.getElem_cons_succ]
  go_wp2_with (go_at_call 44; refine (HR.out _ q _ hq).mono ?_; rintro e w1 ⟨rfl, hB⟩; have hk := hk.below hB; clear hB; have hSS := (Bx2.six hk.cells))
  refine ⟨fun _ => hSS, ?_⟩
  try simp only [List.setIfInBounds_toArray, List.set_cons_zero, List.set_cons_succ, List.getElem_toArray, List.getElem_cons_zero, List.getElem_cons_succ]
  refine wpAnyE_take (i := 8) (v := ?_) rfl (by kernel_rfl) (by kernel_rfl) (by kernel_rfl) (by kernel_rfl) (fun _ _ _ h => h) (Or.inl ⟨by rfl, ?_⟩) hSS ?_
  rotate_left
  · intro w hSw
    obtain ⟨⟨j0, j1, j2⟩, ⟨j3, j4, j5⟩, _⟩ := hSw
    go_simp
    all_goals with_reducible rfl
  simp only [Act.put, List.setIfInBounds_toArray, List.set_cons_zero, List.set_cons_succ, List.getElem_toArray, List.getElem_cons_zero, List.getElem_cons_succ]
  refine wpAnyE_take (i := 9) (v := ?_) rfl (by kernel_rfl) (by kernel_rfl) (by kernel_rfl) (by kernel_rfl) (fun _ _ _ h => h) (Or.inl ⟨by rfl, ?_⟩) hSS ?_
  rotate_left
  · intro w hSw
    obtain ⟨⟨j0, j1, j2⟩, ⟨j3, j4, j5⟩, _⟩ := hSw
    go_simp
    all_goals with_reducible rfl
  simp only [Act.put, List.setIfInBounds_toArray, List.set_cons_zero, List.set_cons_succ, List.getElem_toArray, List.getElem_cons_zero, List.getElem_cons_succ]
  refine wpAnyE_take (i := 10) (v := ?_) rfl (by kernel_rfl) (by kernel_rfl) (by kernel_rfl) (by kernel_rfl) (fun _ _ _ h => h) (Or.inl ⟨by rfl, ?_⟩) hSS ?_
  rotate_left
  · intro w hSw
    obtain ⟨⟨j0, j1, j2⟩, ⟨j3, j4, j5⟩, _⟩ := hSw
    go_simp
    all_goals with_reducible rfl
  simp only [Act.put, List.setIfInBounds_toArray, List.set_cons_zero, List.set_cons_succ, List.getElem_toArray, List.getElem_cons_zero, List.getElem_cons_succ]
  refine wpAnyE_take (i := 11) (v := ?_) rfl (by kernel_rfl) (by kernel_rfl) (by kernel_rfl) (by kernel_rfl) (fun _ _ _ h => h) (Or.inl ⟨by rfl, ?_⟩) hSS ?_
  rotate_left
  · intro w hSw
    obtain ⟨⟨j0, j1, j2⟩, ⟨j3, j4, j5⟩, _⟩ := hSw
    go_simp
    all_goals with_reducible rfl
  simp only [Act.put, List.setIfInBounds_toArray, List.set_cons_zero, List.set_cons_succ, List.getElem_toArray, List.getElem_cons_zero, List.getElem_cons_succ]
  refine wpAnyE_take (i := 13) (v := ?_) rfl (by kernel_rfl) (by kernel_rfl) (by kernel_rfl) (by kernel_rfl) (fun _ _ _ h => h) (Or.inl ⟨by rfl, ?_⟩) hSS ?_
  rotate_left
  · intro w hSw
    obtain ⟨⟨j0, j1, j2⟩, ⟨j3, j4, j5⟩, _⟩ := hSw
    go_simp
    all_goals with_reducible rfl
  simp only [Act.put, List.setIfInBounds_toArray, List.set_cons_zero, List.set_cons_succ, List.getElem_toArray, List.getElem_cons_zero, List.getElem_cons_succ]
  refine wpAnyE_one (i := 12) (by kernel_rfl) rfl ?_
  change wpList _ _ (Exit.then _ _) [_] _ _
  try simp only [List.setIfInBounds_toArray, List.set_cons_zero, List.set_cons_succ, List.getElem_toArray, List.getElem_cons_zero, List.getElem_cons_succ]
  go_wp2_with (go_at_call 44; refine (HR.out _ r _ hr).mono ?_; rintro e w1 ⟨rfl, hB⟩; have hk := hk.below hB; clear hB; have hSS := (Bx2.six hk.cells))
  refine ⟨fun _ => hSS, ?_⟩
  try simp only [List.setIfInBounds_toArray, List.set_cons_zero, List.set_cons_succ, List.getElem_toArray, List.getElem_cons_zero, List.getElem_cons_succ]
  refine wpAnyE_one (i := 14) (by kernel_rfl) rfl ?_
  change wpList _ _ (Exit.then _ _) [_] _ _
  try simp only [List.setIfInBounds_toArray, List.set_cons_zero, List.set_cons_succ, List.getElem_toArray, List.getElem_cons_zero, List.getElem_cons_succ]
  go_wp2_with (go_at_call 44; refine (HR.out _ q _ hq).mono ?_; rintro e w1 ⟨rfl, hB⟩; have hk := hk.below hB; clear hB; have hSS := (Bx2.six hk.cells))
  refine ⟨fun _ => hSS, ?_⟩
  try simp only [List.setIfInBounds_toArray, List.set_cons_zero, List.set_cons_succ, List.getElem_toArray, List.getElem_cons_zero, List.getElem_cons_succ]
  refine wpAnyE_take (i := 15) (v := ?_) rfl (by kernel_rfl) (by kernel_rfl) (by kernel_rfl) (by kernel_rfl) (fun _ _ _ h => h) (Or.inl ⟨by rfl, ?_⟩) hSS ?_
  rotate_left
  · intro w hSw
    obtain ⟨⟨j0, j1, j2⟩, ⟨j3, j4, j5⟩, _⟩ := hSw
    go_simp
    all_goals with_reducible rfl
  simp only [Act.put, List.setIfInBounds_toArray, List.set_cons_zero, List.set_cons_succ, List.getElem_toArray, List.getElem_cons_zero, List.getElem_cons_succ]
  refine wpAnyE_take (i := 16) (v := ?_) rfl (by kernel_rfl) (by kernel_rfl) (by kernel_rfl) (by kernel_rfl) (fun _ _ _ h => h) (Or.inl ⟨by rfl, ?_⟩) hSS ?_
  rotate_left
  · intro w hSw
    obtain ⟨⟨j0, j1, j2⟩, ⟨j3, j4, j5⟩, _⟩ := hSw
    go_simp
    all_goals with_reducible rfl
  simp only [Act.put, List.setIfInBounds_toArray, List.set_cons_zero, List.set_cons_succ, List.getElem_toArray, List.getElem_cons_zero, List.getElem_cons_succ]
  refine wpAnyE_one (i := 17) (by kernel_rfl) rfl ?_
  change wpList _ _ (Exit.then _ _) [_] _ _
  try simp only [List.setIfInBounds_toArray, List.set_cons_zero, List.set_cons_succ, List.getElem_toArray, List.getElem_cons_zero, List.getElem_cons_succ]
  go_wp2_with fail
  refine ⟨fun _ => hSS, ?_⟩
  try simp only [List.setIfInBounds_toArray, List.set_cons_zero, List.set_cons_succ, List.getElem_toArray, List.getElem_cons_zero, List.getElem_cons_succ]
  refine wpAnyE_end (by kernel_rfl) ?_
  go_wp2_with fail
  go_ret
  exact ⟨ret_b (by simp), hk.2.2⟩
theorem fresh_any (o : Int) (w : World) :
    Calls Tryd.prog 32 #[.int .i64 o] w fun e w' => e = .returned (nV o 0 1) ∧ Below w.heap.size w w' := by
  unfold nV
  go_enter Tryd.func32, Tryd.ntmps32
  go_wp2_with fail
  have h0 := blk_new w (.cells #[.int .i64 o, .int .i64 0, .int .i64 1] 24)
  exact bodyPost_ret (v := .agg #[.int .i64 o, .int .i64 0, .int .i64 1]) (results_cell_row rfl _ _ w.heap.size _ _ _ _ rfl h0 Tryd.underlying24 rfl (by kernel_rfl)) rfl ⟨rfl, (Below.refl _ _).alloc (Nat.le_refl _) _⟩
/-- Reply at a right notice. -/
def rpV (i r : Nat) : Value := if kdN r = 2 then if tgN r = 1048576 then .tuple #[nV 0 0 0, .int .i64 120] else .tuple #[nV (i : Int) (((tgN r : Nat) : Int) + 1) 1, .int .i64 0] else .tuple #[nV 0 0 0, .int .i64 50]
set_option maxRecDepth 100000 in
theorem reply_nat (i r : Nat) (hr : r ≤ 2097153) (w : World) :
    Calls Tryd.prog 24 #[nV (i : Int) (tgN r : Nat) (kdN r : Nat)] w fun e w' => e = .returned (rpV i r) ∧ Below w.heap.size w w' := by
  have ht := tg_le hr
  obtain ⟨hk1, hk2⟩ := kd_le r
  have h0 : ¬ (r : Int) < 0 := by omega
  by_cases h2 : kdN r = 2
  · by_cases h3 : tgN r = 1048576
    · have hv : rpV i r = .tuple #[nV 0 0 0, .int .i64 120] := by unfold rpV; rw [if_pos h2, if_pos h3]
      rw [hv]
      clear hv
      have e2 : (((kdN r : Nat) : Int) != 2) = false := by simp; omega
      have e3 : (((tgN r : Nat) : Int) == 1048576) = true := by simp; omega
      clear h2 h3
      have HR : Hid (∀ w : World, Calls Tryd.prog 44 #[.agg #[.int .i64 (i : Int), .int .i64 (tgN r : Nat), .int .i64 (kdN r : Nat)]] w fun e w' => e = .returned (.int .i64 (r : Int)) ∧ Below w.heap.size w w') := Lib.hid (fun w => rank_nat (i : Int) r w hr)
      unfold nV
      generalize ((tgN r : Nat) : Int) = T at *
      generalize ((kdN r : Nat) : Int) = K at *
      clear hr ht hk1 hk2
      go_enter Tryd.func24, Tryd.ntmps24
      go_wp2_with (go_at_call 44; refine (HR.out _).mono ?_; rintro e w1 ⟨rfl, hB⟩; have hk := (Bx2.new w (.cells #[.int .i64 (i : Int), .int .i64 T, .int .i64 K] 24) (.cells #[.int .i64 0, .int .i64 0, .int .i64 0] 24)).below hB; obtain ⟨⟨k0, k1, k2⟩, ⟨m0, m1, m2⟩, _⟩ := hk.cells; have f0 := blk_free hk.2.1 0; have f1 := blk_free hk.2.1 1; have f2 := blk_free hk.2.1 2)
      all_goals
        first
        | contradiction
        | (refine bodyPost_ret (v := .tuple #[.agg #[.int .i64 0, .int .i64 0, .int .i64 0], .int .i64 120]) ?_ rfl ⟨rfl, ((hk.2.2.setCell (by simp) _).setCell (by simp) _).setCell (by simp) _⟩
           simp [results, Tryd.results24, go_sem, k0, k1, k2, m0, m1, m2])
    · have hv : rpV i r = .tuple #[nV (i : Int) (((tgN r : Nat) : Int) + 1) 1, .int .i64 0] := by unfold rpV; rw [if_pos h2, if_neg h3]
      rw [hv]
      clear hv
      have e2 : (((kdN r : Nat) : Int) != 2) = false := by simp; omega
      have e3 : (((tgN r : Nat) : Int) == 1048576) = false := by simp; omega
      have e4 : IntKind.i64.wrap (((tgN r : Nat) : Int) + 1) = ((tgN r : Nat) : Int) + 1 := IntWalk.i64_in _ (by omega)
      clear h2 h3
      have HR : Hid (∀ w : World, Calls Tryd.prog 44 #[.agg #[.int .i64 (i : Int), .int .i64 (tgN r : Nat), .int .i64 (kdN r : Nat)]] w fun e w' => e = .returned (.int .i64 (r : Int)) ∧ Below w.heap.size w w') := Lib.hid (fun w => rank_nat (i : Int) r w hr)
      unfold nV
      generalize ((tgN r : Nat) : Int) = T at *
      generalize ((kdN r : Nat) : Int) = K at *
      clear hr ht hk1 hk2
      go_enter Tryd.func24, Tryd.ntmps24
      go_wp2_with (go_at_call 44; refine (HR.out _).mono ?_; rintro e w1 ⟨rfl, hB⟩; have hk := (Bx2.new w (.cells #[.int .i64 (i : Int), .int .i64 T, .int .i64 K] 24) (.cells #[.int .i64 0, .int .i64 0, .int .i64 0] 24)).below hB; obtain ⟨⟨k0, k1, k2⟩, ⟨m0, m1, m2⟩, _⟩ := hk.cells; have f0 := blk_free hk.2.1 0; have f1 := blk_free hk.2.1 1; have f2 := blk_free hk.2.1 2)
      all_goals
        first
        | contradiction
        | (refine bodyPost_ret (v := .tuple #[.agg #[.int .i64 (i : Int), .int .i64 (T + 1), .int .i64 1], .int .i64 0]) ?_ rfl ⟨rfl, ((hk.2.2.setCell (by simp) _).setCell (by simp) _).setCell (by simp) _⟩
           simp [results, Tryd.results24, go_sem, k0, k1, k2, m0, m1, m2])
  · have hv : rpV i r = .tuple #[nV 0 0 0, .int .i64 50] := by unfold rpV; rw [if_neg h2]
    rw [hv]
    clear hv
    have e2 : (((kdN r : Nat) : Int) != 2) = true := by simp; omega
    clear h2
    have HR : Hid (∀ w : World, Calls Tryd.prog 44 #[.agg #[.int .i64 (i : Int), .int .i64 (tgN r : Nat), .int .i64 (kdN r : Nat)]] w fun e w' => e = .returned (.int .i64 (r : Int)) ∧ Below w.heap.size w w') := Lib.hid (fun w => rank_nat (i : Int) r w hr)
    unfold nV
    generalize ((tgN r : Nat) : Int) = T at *
    generalize ((kdN r : Nat) : Int) = K at *
    clear hr ht hk1 hk2
    go_enter Tryd.func24, Tryd.ntmps24
    go_wp2_with (go_at_call 44; refine (HR.out _).mono ?_; rintro e w1 ⟨rfl, hB⟩; have hk := (Bx2.new w (.cells #[.int .i64 (i : Int), .int .i64 T, .int .i64 K] 24) (.cells #[.int .i64 0, .int .i64 0, .int .i64 0] 24)).below hB; obtain ⟨⟨k0, k1, k2⟩, ⟨m0, m1, m2⟩, _⟩ := hk.cells; have f0 := blk_free hk.2.1 0; have f1 := blk_free hk.2.1 1; have f2 := blk_free hk.2.1 2)
    all_goals
      first
      | contradiction
      | (refine bodyPost_ret (v := .tuple #[.agg #[.int .i64 0, .int .i64 0, .int .i64 0], .int .i64 50]) ?_ rfl ⟨rfl, ((hk.2.2.setCell (by simp) _).setCell (by simp) _).setCell (by simp) _⟩
         simp [results, Tryd.results24, go_sem, k0, k1, k2, m0, m1, m2])
end Go.Proofs.YtppmiggkknhdkaaDoor
namespace Go.Proofs.YtppmiggkknhdkaaDoor
set_option linter.unusedVariables false
open Go.RowKit

def setAll (cs : Array Value) : Nat → List Value → Array Value
  | _, [] => cs
  | o, v :: vs => setAll (cs.setIfInBounds o v) (o + 1) vs
theorem setAll_size (vs : List Value) : ∀ (o : Nat) (cs : Array Value), (setAll cs o vs).size = cs.size := by
  induction vs with
  | nil => intro o cs; rfl
  | cons v vs ih => intro o cs; rw [setAll, ih, Array.size_setIfInBounds]
theorem setAll_get (vs : List Value) : ∀ (o : Nat) (cs : Array Value) (j : Nat), (setAll cs o vs)[j]? = if o ≤ j ∧ j < o + vs.length ∧ j < cs.size then vs[j - o]? else cs[j]? := by
  induction vs with
  | nil => intro o cs j; simp [setAll]; intro h1 h2; omega
  | cons v vs ih =>
    intro o cs j
    rw [setAll, ih, Array.size_setIfInBounds, List.length_cons]
    by_cases h1 : o + 1 ≤ j ∧ j < o + 1 + vs.length ∧ j < cs.size
    · rw [if_pos h1, if_pos (by omega), show j - o = (j - (o + 1)) + 1 from by omega, List.getElem?_cons_succ]
    · rw [if_neg h1, Array.getElem?_setIfInBounds]
      by_cases h2 : o = j
      · subst h2
        by_cases h3 : o < cs.size
        · rw [if_pos rfl, if_pos h3, if_pos (by omega)]; simp
        · rw [if_pos rfl, if_neg h3, if_neg (by omega)]; rw [Array.getElem?_eq_none (by omega)]
      · rw [if_neg h2, if_neg (by omega)]
theorem setAll_whole (vs : List Value) (cs : Array Value) (h : vs.length = cs.size) : setAll cs 0 vs = vs.toArray := by
  apply Array.ext_getElem?
  intro j
  rw [setAll_get]
  by_cases hj : j < vs.length
  · rw [if_pos (by omega)]; simp
  · rw [if_neg (by omega), Array.getElem?_eq_none (by omega), List.getElem?_toArray, List.getElem?_eq_none (by omega)]

theorem setCells_blk {b : Nat} {t : TypeId} (vs : List Value) : ∀ (o : Nat) (W : World) (cs : Array Value), W.heap[b]? = some (.cells cs t (0, 0)) → (W.setCells b o vs).heap[b]? = some (.cells (setAll cs o vs) t (0, 0)) := by
  induction vs with
  | nil => intro o W cs h; exact h
  | cons v vs ih => intro o W cs h; exact ih (o + 1) _ _ (blk_store h o v)
theorem setCells_other {b k : Nat} (vs : List Value) : ∀ (o : Nat) (W : World) {x : Obj}, W.heap[k]? = some x → k ≠ b → (W.setCells b o vs).heap[k]? = some x := by
  induction vs with
  | nil => intro o W x h _; exact h
  | cons v vs ih => intro o W x h hne; exact ih (o + 1) _ (blk_set h _ _ hne) hne
theorem setCells_below {b B : Nat} {w0 : World} (vs : List Value) : ∀ (o : Nat) (W : World), Below B w0 W → B ≤ b → Below B w0 (W.setCells b o vs) := by
  induction vs with
  | nil => intro o W h _; exact h
  | cons v vs ih => intro o W h hb; exact ih (o + 1) _ (h.setCell (p := ⟨b, o, none⟩) (by simpa using hb) v) hb
theorem setCells_size {b : Nat} (vs : List Value) : ∀ (o : Nat) (W : World), (W.setCells b o vs).heap.size = W.heap.size := by
  induction vs with
  | nil => intro o W; rfl
  | cons v vs ih => intro o W; exact (ih (o + 1) _).trans (by simp)
theorem there_blk {W : World} {b : Nat} {t : TypeId} {cs : Array Value} (h : W.heap[b]? = some (.cells cs t (0, 0))) (o n : Nat) (hn : o + n ≤ cs.size) : W.there b o n := by
  intro j hj
  rw [blk_cell h, blk_free h]
  exact ⟨by rw [Array.getElem?_eq_getElem (by omega)]; rfl, rfl⟩
/-- A whole block is written anew. -/
theorem setCells_whole {W : World} {b : Nat} {t : TypeId} {cs : Array Value} (h : W.heap[b]? = some (.cells cs t (0, 0))) (vs : Array Value) (hs : vs.size = cs.size) : (W.setCells b 0 vs.toList).heap[b]? = some (.cells vs t (0, 0)) := by
  rw [setCells_blk _ 0 W cs h, setAll_whole _ _ (by simpa using hs)]
end Go.Proofs.YtppmiggkknhdkaaDoor
namespace Go.Proofs.YtppmiggkknhdkaaDoor
set_option linter.unusedVariables false
open Go.RowKit

structure Dk where
  bs : List Nat
  off : Bool
  fused : Bool
  fuse : Nat
  writes : Nat
def bC (l : List Nat) : List Value := l.map fun x : Nat => .int .u8 (x : Int)
theorem bC_len (l : List Nat) : (bC l).length = l.length := by simp [bC]
def dkT (d : Dk) : List Value := [.bool d.off, .bool d.fused, .int .i64 d.fuse, .int .i64 d.writes]
def dkC (d : Dk) : Array Value := (bC d.bs ++ dkT d).toArray
def DkAt (W : World) (b : Nat) (d : Dk) : Prop := W.heap[b]? = some (.cells (dkC d) 83 (0, 0)) ∧ d.bs.length = 256
def Dk.new : Dk := ⟨List.replicate 256 0, false, false, 0, 0⟩
theorem dkC_size {d : Dk} (h : d.bs.length = 256) : (dkC d).size = 260 := by simp [dkC, dkT, bC_len, h]
theorem dkC_at {d : Dk} (h : d.bs.length = 256) (j : Nat) : (dkC d)[256 + j]? = (dkT d)[j]? := by
  unfold dkC
  rw [List.getElem?_toArray, List.getElem?_append_right (by rw [bC_len]; omega), bC_len, h, Nat.add_sub_cancel_left]
theorem DkAt.cells {W : World} {b : Nat} {d : Dk} (h : DkAt W b d) :
    W.cell? ⟨b, 256, none⟩ = some (.bool d.off) ∧ W.cell? ⟨b, 257, none⟩ = some (.bool d.fused) ∧ W.cell? ⟨b, 258, none⟩ = some (.int .i64 d.fuse) ∧ W.cell? ⟨b, 259, none⟩ = some (.int .i64 d.writes) :=
  ⟨by rw [blk_cell h.1]; exact dkC_at h.2 0, by rw [blk_cell h.1]; exact dkC_at h.2 1, by rw [blk_cell h.1]; exact dkC_at h.2 2, by rw [blk_cell h.1]; exact dkC_at h.2 3⟩
theorem DkAt.free {W : World} {b : Nat} {d : Dk} (h : DkAt W b d) :
    W.frozen? ⟨b, 256, none⟩ = false ∧ W.frozen? ⟨b, 257, none⟩ = false ∧ W.frozen? ⟨b, 258, none⟩ = false ∧ W.frozen? ⟨b, 259, none⟩ = false :=
  ⟨blk_free h.1 _, blk_free h.1 _, blk_free h.1 _, blk_free h.1 _⟩
theorem dkC_set {d : Dk} (h : d.bs.length = 256) (j : Nat) (v : Value) : (dkC d).setIfInBounds (256 + j) v = (bC d.bs ++ (dkT d).set j v).toArray := by
  unfold dkC
  rw [List.setIfInBounds_toArray, List.set_append_right _ _ (by rw [bC_len]; omega), bC_len, h, Nat.add_sub_cancel_left]
theorem DkAt.off {W : World} {b : Nat} {d : Dk} (h : DkAt W b d) (v : Bool) : DkAt (W.setCell ⟨b, 256, none⟩ (.bool v)) b { d with off := v } :=
  ⟨(blk_store h.1 _ _).trans (by rw [dkC_set h.2 0]; rfl), h.2⟩
theorem DkAt.fused {W : World} {b : Nat} {d : Dk} (h : DkAt W b d) (v : Bool) : DkAt (W.setCell ⟨b, 257, none⟩ (.bool v)) b { d with fused := v } :=
  ⟨(blk_store h.1 _ _).trans (by rw [dkC_set h.2 1]; rfl), h.2⟩
theorem DkAt.fuse {W : World} {b : Nat} {d : Dk} (h : DkAt W b d) (v : Nat) : DkAt (W.setCell ⟨b, 258, none⟩ (.int .i64 (v : Nat))) b { d with fuse := v } :=
  ⟨(blk_store h.1 _ _).trans (by rw [dkC_set h.2 2]; rfl), h.2⟩
theorem DkAt.writes {W : World} {b : Nat} {d : Dk} (h : DkAt W b d) (v : Nat) : DkAt (W.setCell ⟨b, 259, none⟩ (.int .i64 (v : Nat))) b { d with writes := v } :=
  ⟨(blk_store h.1 _ _).trans (by rw [dkC_set h.2 3]; rfl), h.2⟩
theorem DkAt.below {W W' : World} {b : Nat} {d : Dk} (h : DkAt W b d) (hb : Below W.heap.size W W') : DkAt W' b d := ⟨blk_below' hb h.1, h.2⟩
theorem DkAt.drew {W : World} {b : Nat} {d : Dk} (h : DkAt W b d) : DkAt W.drew b d := h
theorem DkAt.lt {W : World} {b : Nat} {d : Dk} (h : DkAt W b d) : b < W.heap.size := (Array.getElem?_eq_some_iff.1 h.1).1

/-- All but one block is as it was. -/
theorem but_refl (W : World) (r : Option Nat) : W.grownBy W r := ⟨rfl, rfl, rfl, Nat.le_refl _, fun _ _ _ => rfl⟩
theorem but_set {W X : World} {b : Nat} (h : W.grownBy X (some b)) (hb : b < W.heap.size) (i : Nat) (v : Value) : W.grownBy (X.setCell ⟨b, i, none⟩ v) (some b) := by
  obtain ⟨h1, h2, h3, h4, h5⟩ := h
  refine ⟨h1, h2, h3, by simpa using h4, fun k hk hne => ?_⟩
  rw [Below.heap_setCell X ⟨b, i, none⟩ v k (fun e => hne (by rw [e]))]
  exact h5 k hk hne
theorem but_drew {W X : World} {r : Option Nat} (h : W.grownBy X r) : W.grownBy X.drew r := ⟨h.1, h.2, h.3, h.4, h.5⟩
theorem but_then {W X Y : World} {r : Option Nat} (h : W.grownBy X r) (k : X.grownBy Y r) : W.grownBy Y r := by
  obtain ⟨h1, h2, h3, h4, h5⟩ := h
  obtain ⟨k1, k2, k3, k4, k5⟩ := k
  exact ⟨k1.trans h1, k2.trans h2, k3.trans h3, Nat.le_trans h4 k4, fun j hj hne => (k5 j (by omega) hne).trans (h5 j hj hne)⟩
theorem but_below {W X : World} (h : Below W.heap.size W X) (r : Option Nat) : W.grownBy X r := ⟨h.os, h.tape, h.output, h.size, fun k hk _ => h.block k hk⟩
theorem but_alloc {W X : World} {r : Option Nat} (h : W.grownBy X r) (o : Obj) : W.grownBy (X.alloc o) r := but_then h (but_below ((Below.refl _ _).alloc (Nat.le_refl _) o) r)
end Go.Proofs.YtppmiggkknhdkaaDoor
namespace Go.Proofs.YtppmiggkknhdkaaDoor
set_option linter.unusedVariables false
set_option linter.unusedSimpArgs false
open Go.RowKit

/-- A book in memory: its block B, its list of ranks R in the block g. -/
structure Tb (W : World) (B g cp : Nat) (R : List Nat) : Prop where
  cell : W.heap[B]? = some (.cells #[.slice (some ⟨g, 0, none⟩) R.length cp] 66 (0, 0))
  list : NL W (.slice (some ⟨g, 0, none⟩) R.length cp) g R
  ne : B ≠ g
  le : ∀ x ∈ R, x ≤ 2097153
  n : 1 ≤ R.length ∧ R.length ≤ 100
theorem Tb.below {W X : World} {B g cp : Nat} {R : List Nat} (h : Tb W B g cp R) (hb : Below W.heap.size W X) : Tb X B g cp R := ⟨blk_below' hb h.cell, h.list.below hb, h.ne, h.le, h.n⟩
theorem Tb.lt {W : World} {B g cp : Nat} {R : List Nat} (h : Tb W B g cp R) : B < W.heap.size ∧ g < W.heap.size := ⟨blk_lt h.cell, h.list.lt⟩
theorem Tb.get {W : World} {B g cp : Nat} {R : List Nat} (h : Tb W B g cp R) {i : Nat} (hi : i < R.length) : ∃ q, R[i]? = some q ∧ R.getD i 0 = q ∧ q ≤ 2097153 :=
  ⟨R[i], List.getElem?_eq_getElem hi, by simp [List.getD, List.getElem?_eq_getElem hi], h.le _ (List.getElem_mem hi)⟩
/-- A book's list turns, all else stays. -/
theorem NL.other {W X : World} {v : Value} {g k : Nat} {R : List Nat} (h : NL W v g R) (hg : W.grownBy X (some k)) (hk : g ≠ k) : NL X v g R := by
  obtain ⟨cap, sp, rfl, h1⟩ := h
  exact ⟨cap, sp, rfl, blk_grown hg h1 (by simpa using hk)⟩
theorem Tb.other {W X : World} {B g cp k : Nat} {R : List Nat} (h : Tb W B g cp R) (hg : W.grownBy X (some k)) (h1 : B ≠ k) (h2 : g ≠ k) : Tb X B g cp R :=
  ⟨blk_grown hg h.cell (by simpa using h1), h.list.other hg h2, h.ne, h.le, h.n⟩
theorem Tb.set {W : World} {B g cp : Nat} {R : List Nat} (h : Tb W B g cp R) {i r : Nat} (hi : i < R.length) (hr : r ≤ 2097153) :
    Tb (((W.setCell ⟨g, i * 3, none⟩ (.int .i64 (i : Int))).setCell ⟨g, i * 3 + 1, none⟩ (.int .i64 (tgN r : Nat))).setCell ⟨g, i * 3 + 2, none⟩ (.int .i64 (kdN r : Nat))) B g cp (R.set i r) ∧
    W.grownBy (((W.setCell ⟨g, i * 3, none⟩ (.int .i64 (i : Int))).setCell ⟨g, i * 3 + 1, none⟩ (.int .i64 (tgN r : Nat))).setCell ⟨g, i * 3 + 2, none⟩ (.int .i64 (kdN r : Nat))) (some g) := by
  refine ⟨⟨?_, ?_, h.ne, fun x hx => ?_, by rw [List.length_set]; exact h.n⟩, ?_⟩
  · rw [List.length_set]
    exact blk_set (blk_set (blk_set h.cell _ _ h.ne) _ _ h.ne) _ _ h.ne
  · rw [List.length_set]
    exact h.list.set hi r
  · rcases List.mem_or_eq_of_mem_set hx with h' | rfl
    · exact h.le x h'
    · exact hr
  · have hl := h.lt.2
    exact but_set (but_set (but_set (but_refl W _) hl _ _) hl _ _) hl _ _
/-- A notice in a box beside the book. -/
structure TkS (w : World) (B g cp : Nat) (R : List Nat) (o t k : Int) (W : World) : Prop where
  box : W.heap[w.heap.size]? = some (.cells #[.int .i64 o, .int .i64 t, .int .i64 k] 24 (0, 0))
  book : Tb W B g cp R
  low : Below w.heap.size w W
  lt : B < w.heap.size ∧ g < w.heap.size
theorem TkS.below {w W X : World} {B g cp : Nat} {R : List Nat} {o t k : Int} (h : TkS w B g cp R o t k W) (hb : Below W.heap.size W X) : TkS w B g cp R o t k X :=
  ⟨blk_below' hb h.box, h.book.below hb, below_then h.low hb, h.lt⟩
theorem TkS.drew {w W : World} {B g cp : Nat} {R : List Nat} {o t k : Int} (h : TkS w B g cp R o t k W) : TkS w B g cp R o t k W.drew := h.below ((Below.refl _ W).drew)
theorem Tb.box {w : World} {B g cp : Nat} {R : List Nat} (h : Tb w B g cp R) (o t k : Int) : TkS w B g cp R o t k (w.alloc (.cells #[.int .i64 o, .int .i64 t, .int .i64 k] 24)) :=
  ⟨blk_new w _, h.below ((Below.refl _ _).alloc (Nat.le_refl _) _), (Below.refl _ _).alloc (Nat.le_refl _) _, h.lt⟩
/-- The cells of a box with a notice. -/
def Bx3 (p : Nat) (o t k : Int) (W : World) : Prop := W.cell? ⟨p, 0, none⟩ = some (.int .i64 o) ∧ W.cell? ⟨p, 1, none⟩ = some (.int .i64 t) ∧ W.cell? ⟨p, 2, none⟩ = some (.int .i64 k)
theorem TkS.b3 {w W : World} {B g cp : Nat} {R : List Nat} {o t k : Int} (h : TkS w B g cp R o t k W) : Bx3 w.heap.size o t k W := ⟨blk_cell h.box 0, blk_cell h.box 1, blk_cell h.box 2⟩
/-- The box, the book's cell, the cells of a place of its list. -/
def Bx7 (p : Nat) (o t k : Int) (B g cp n i q : Nat) (W : World) : Prop := Bx3 p o t k W ∧ W.cell? ⟨B, 0, none⟩ = some (.slice (some ⟨g, 0, none⟩) n cp) ∧ (W.cell? ⟨g, i * 3, none⟩ = some (.int .i64 (i : Int)) ∧ W.cell? ⟨g, i * 3 + 1, none⟩ = some (.int .i64 (tgN q : Nat)) ∧ W.cell? ⟨g, i * 3 + 2, none⟩ = some (.int .i64 (kdN q : Nat)))
theorem TkS.b7 {w W : World} {B g cp : Nat} {R : List Nat} {o t k : Int} (h : TkS w B g cp R o t k W) {i q : Nat} (hq : R[i]? = some q) : Bx7 w.heap.size o t k B g cp R.length i q W :=
  ⟨h.b3, blk_cell h.book.cell 0, (h.book.list.cells hq).1⟩
theorem list_any {w : World} {B g cp : Nat} {R : List Nat} (h : Tb w B g cp R) :
    Calls Tryd.prog 53 #[.pointer (some ⟨B, 0, none⟩)] w fun e w' => e = .returned (.slice (some ⟨g, 0, none⟩) R.length cp) ∧ w' = w := by
  have b0 := blk_cell h.cell 0
  clear h
  go_enter Tryd.func53, Tryd.ntmps53
  go_wp2
  go_ret
  exact ⟨rfl, rfl⟩
theorem list_nil (w : World) : Calls Tryd.prog 53 #[.pointer none] w fun e w' => e = .returned (.slice none 0 0) ∧ w' = w := by
  go_enter Tryd.func53, Tryd.ntmps53
  go_wp2
  go_ret
  exact ⟨rfl, rfl⟩
theorem size_any {w : World} {B g cp : Nat} {R : List Nat} (h : Tb w B g cp R) :
    Calls Tryd.prog 33 #[.pointer (some ⟨B, 0, none⟩)] w fun e w' => e = .returned (.int .i64 (R.length : Int)) ∧ w' = w := by
  have HL := Lib.hid (list_any h)
  clear h
  go_enter Tryd.func33, Tryd.ntmps33
  go_wp2_with (go_at_call 53; refine HL.out.mono ?_; rintro e w1 ⟨rfl, rfl⟩)
  go_ret
  exact ⟨rfl, rfl⟩
theorem size_nil (w : World) : Calls Tryd.prog 33 #[.pointer none] w fun e w' => e = .returned (.int .i64 0) ∧ w' = w := by
  have HL := Lib.hid (list_nil w)
  go_enter Tryd.func33, Tryd.ntmps33
  go_wp2_with (go_at_call 53; refine HL.out.mono ?_; rintro e w1 ⟨rfl, rfl⟩)
  go_ret
  exact ⟨rfl, rfl⟩
set_option maxRecDepth 100000 in
theorem take_no {w : World} {B g cp : Nat} {R : List Nat} (h : Tb w B g cp R) (o t k : Int) (hv : vN (R.length : Int) o t k = false) :
    Calls Tryd.prog 10 #[.pointer (some ⟨B, 0, none⟩), nV o t k] w fun e w' => e = .returned (.tuple #[.bool false, .int .i64 50]) ∧ Below w.heap.size w w' := by
  have HS := Lib.hid (h.box o t k)
  have HV := Lib.hid (fun w => valid_any (R.length : Int) o t k w)
  rw [hv] at HV
  have HZ : Hid (∀ W, Tb W B g cp R → Calls Tryd.prog 33 #[.pointer (some ⟨B, 0, none⟩)] W fun e w' => e = .returned (.int .i64 (R.length : Int)) ∧ w' = W) := Lib.hid fun W hW => size_any hW
  unfold nV at HV ⊢
  go_enter Tryd.func10, Tryd.ntmps10
  go_upto_region 1 with fail
  refine wp_region_early (Bx3 w.heap.size o t k) (fun _ => false) (by kernel_rfl) ?_
  simp only [List.size_toArray, List.length_cons, List.length_nil, Nat.reduceAdd, Array.replicate_succ, Array.replicate_zero, List.push_toArray, List.nil_append, List.cons_append]
  have HS := Lib.hid HS.out.drew
  generalize World.drew _ = W at *
  have hSS := HS.out.b3
  refine wpAnyE_take (i := 0) (v := ?_) rfl (by kernel_rfl) (by kernel_rfl) (by kernel_rfl) (by kernel_rfl) (fun _ _ _ h => h) (Or.inl ⟨by rfl, ?_⟩) hSS ?_
  rotate_left
  · intro w hSw
    obtain ⟨j0, j1, j2⟩ := hSw
    go_simp
    all_goals with_reducible rfl
  simp only [Act.put, List.setIfInBounds_toArray, List.set_cons_zero, List.set_cons_succ, List.getElem_toArray, List.getElem_cons_zero, List.getElem_cons_succ]
  refine wpAnyE_take (i := 2) (v := ?_) rfl (by kernel_rfl) (by kernel_rfl) (by kernel_rfl) (by kernel_rfl) (fun _ _ _ h => h) (Or.inl ⟨by rfl, ?_⟩) hSS ?_
  rotate_left
  · intro w hSw
    obtain ⟨j0, j1, j2⟩ := hSw
    go_simp
    all_goals with_reducible rfl
  simp only [Act.put, List.setIfInBounds_toArray, List.set_cons_zero, List.set_cons_succ, List.getElem_toArray, List.getElem_cons_zero, List.getElem_cons_succ]
  refine wpAnyE_one (i := 1) (by kernel_rfl) rfl ?_
  change wpList _ _ (Exit.then _ _) [_] _ _
  try simp only [List.setIfInBounds_toArray, List.set_cons_zero, List.set_cons_succ, List.getElem_toArray, List.getElem_cons_zero, List.getElem_cons_succ]
  go_wp2_with (go_at_call 33; refine (HZ.out _ HS.out.book).mono ?_; rintro e w1 ⟨rfl, rfl⟩)
  refine ⟨fun _ => hSS, ?_⟩
  try simp only [List.setIfInBounds_toArray, List.set_cons_zero, List.set_cons_succ, List.getElem_toArray, List.getElem_cons_zero, List.getElem_cons_succ]
  refine wpAnyE_one (i := 3) (by kernel_rfl) rfl ?_
  change wpList _ _ (Exit.then _ _) [_] _ _
  try simp only [List.setIfInBounds_toArray, List.set_cons_zero, List.set_cons_succ, List.getElem_toArray, List.getElem_cons_zero, List.getElem_cons_succ]
  go_wp2_with (go_at_call 31; refine (HV.out _).mono ?_; rintro e w2 ⟨rfl, hB⟩)
  have HS := Lib.hid (HS.out.below hB)
  clear hB hSS
  have hSS := HS.out.b3
  refine ⟨fun _ => hSS, ?_⟩
  try simp only [List.setIfInBounds_toArray, List.set_cons_zero, List.set_cons_succ, List.getElem_toArray, List.getElem_cons_zero, List.getElem_cons_succ]
  refine wpAnyE_take (i := 4) (v := ?_) rfl (by kernel_rfl) (by kernel_rfl) (by kernel_rfl) (by kernel_rfl) (fun _ _ _ h => h) (Or.inl ⟨by rfl, ?_⟩) hSS ?_
  rotate_left
  · intro w hSw
    obtain ⟨j0, j1, j2⟩ := hSw
    go_simp
    all_goals with_reducible rfl
  simp only [Act.put, List.setIfInBounds_toArray, List.set_cons_zero, List.set_cons_succ, List.getElem_toArray, List.getElem_cons_zero, List.getElem_cons_succ]
  refine wpAnyE_end (by kernel_rfl) ?_
  go_wp2_with fail
  go_ret2
  exact ⟨rfl, HS.out.low⟩
set_option maxRecDepth 100000 in
set_option maxHeartbeats 1000000 in
theorem take_yes {w : World} {B g cp : Nat} {R : List Nat} (h : Tb w B g cp R) (i r : Nat) (hi : i < R.length) (hr : r ≤ 2097153) :
    Calls Tryd.prog 10 #[.pointer (some ⟨B, 0, none⟩), nV (i : Int) (tgN r : Nat) (kdN r : Nat)] w fun e w' => e = .returned (.tuple #[.bool (decide (R.getD i 0 < r)), .int .i64 0]) ∧ Tb w' B g cp (tkR R i r) ∧ w.grownBy w' (some g) := by
  have hv := vN_of (n := R.length) hi h.n.2 hr
  obtain ⟨q, hq, hqd, hql⟩ := h.get hi
  have HB := Lib.hid (fun w => beats_nat i r q hr hql w)
  have HQ := Lib.hid hq
  have HLE := Lib.hid h.le
  rw [hqd]
  have i1 : (i : Int) < (R.length : Int) := by omega
  have i2 : (0 : Int) ≤ (i : Int) := by omega
  have i3 : (i : Int).toNat = i := Int.toNat_natCast i
  have HHI := Lib.hid hi
  have HHR := Lib.hid hr
  have hT : tkR R i r = if q < r then R.set i r else R := by unfold tkR; rw [hqd]
  have HT := Lib.hid hT
  unfold nV at HB
  by_cases hlt : q < r
  · rw [decide_eq_true hlt] at HB ⊢
    have HX := Lib.hid (HT.out.trans (if_pos hlt))
    clear hT HT hlt hq hqd hql hi hr
    have HS := Lib.hid (h.box (i : Int) (tgN r : Nat) (kdN r : Nat))
    have HV := Lib.hid (fun w => valid_any (R.length : Int) (i : Int) (tgN r : Nat) (kdN r : Nat) w)
    rw [hv] at HV
    have HZ : Hid (∀ W, Tb W B g cp R → Calls Tryd.prog 33 #[.pointer (some ⟨B, 0, none⟩)] W fun e w' => e = .returned (.int .i64 (R.length : Int)) ∧ w' = W) := Lib.hid fun W hW => size_any hW
    unfold nV at HV ⊢
    go_enter Tryd.func10, Tryd.ntmps10
    go_upto_region 1 with fail
    refine wp_region_early (Bx3 w.heap.size (i : Int) (tgN r : Nat) (kdN r : Nat)) (fun _ => false) (by kernel_rfl) ?_
    simp only [List.size_toArray, List.length_cons, List.length_nil, Nat.reduceAdd, Array.replicate_succ, Array.replicate_zero, List.push_toArray, List.nil_append, List.cons_append]
    have HS := Lib.hid HS.out.drew
    generalize World.drew _ = W at *
    have hSS := HS.out.b3
    refine wpAnyE_take (i := 0) (v := ?_) rfl (by kernel_rfl) (by kernel_rfl) (by kernel_rfl) (by kernel_rfl) (fun _ _ _ h => h) (Or.inl ⟨by rfl, ?_⟩) hSS ?_
    rotate_left
    · intro w hSw
      obtain ⟨j0, j1, j2⟩ := hSw
      go_simp
      all_goals with_reducible rfl
    simp only [Act.put, List.setIfInBounds_toArray, List.set_cons_zero, List.set_cons_succ, List.getElem_toArray, List.getElem_cons_zero, List.getElem_cons_succ]
    refine wpAnyE_take (i := 2) (v := ?_) rfl (by kernel_rfl) (by kernel_rfl) (by kernel_rfl) (by kernel_rfl) (fun _ _ _ h => h) (Or.inl ⟨by rfl, ?_⟩) hSS ?_
    rotate_left
    · intro w hSw
      obtain ⟨j0, j1, j2⟩ := hSw
      go_simp
      all_goals with_reducible rfl
    simp only [Act.put, List.setIfInBounds_toArray, List.set_cons_zero, List.set_cons_succ, List.getElem_toArray, List.getElem_cons_zero, List.getElem_cons_succ]
    refine wpAnyE_one (i := 1) (by kernel_rfl) rfl ?_
    change wpList _ _ (Exit.then _ _) [_] _ _
    try simp only [List.setIfInBounds_toArray, List.set_cons_zero, List.set_cons_succ, List.getElem_toArray, List.getElem_cons_zero, List.getElem_cons_succ]
    go_wp2_with (go_at_call 33; refine (HZ.out _ HS.out.book).mono ?_; rintro e w1 ⟨rfl, rfl⟩)
    refine ⟨fun _ => hSS, ?_⟩
    try simp only [List.setIfInBounds_toArray, List.set_cons_zero, List.set_cons_succ, List.getElem_toArray, List.getElem_cons_zero, List.getElem_cons_succ]
    refine wpAnyE_one (i := 3) (by kernel_rfl) rfl ?_
    change wpList _ _ (Exit.then _ _) [_] _ _
    try simp only [List.setIfInBounds_toArray, List.set_cons_zero, List.set_cons_succ, List.getElem_toArray, List.getElem_cons_zero, List.getElem_cons_succ]
    go_wp2_with (go_at_call 31; refine (HV.out _).mono ?_; rintro e w2 ⟨rfl, hB⟩)
    have HS := Lib.hid (HS.out.below hB)
    clear hB hSS
    have hSS := HS.out.b3
    refine ⟨fun _ => hSS, ?_⟩
    try simp only [List.setIfInBounds_toArray, List.set_cons_zero, List.set_cons_succ, List.getElem_toArray, List.getElem_cons_zero, List.getElem_cons_succ]
    refine wpAnyE_take (i := 4) (v := ?_) rfl (by kernel_rfl) (by kernel_rfl) (by kernel_rfl) (by kernel_rfl) (fun _ _ _ h => h) (Or.inl ⟨by rfl, ?_⟩) hSS ?_
    rotate_left
    · intro w hSw
      obtain ⟨j0, j1, j2⟩ := hSw
      go_simp
      all_goals with_reducible rfl
    simp only [Act.put, List.setIfInBounds_toArray, List.set_cons_zero, List.set_cons_succ, List.getElem_toArray, List.getElem_cons_zero, List.getElem_cons_succ]
    refine wpAnyE_end (by kernel_rfl) ?_
    go_upto_region 3 with fail
    refine wp_region_early (Bx7 w.heap.size (i : Int) (tgN r : Nat) (kdN r : Nat) B g cp R.length i q) (fun _ => false) (by kernel_rfl) ?_
    simp only [List.size_toArray, List.length_cons, List.length_nil, Nat.reduceAdd, Array.replicate_succ, Array.replicate_zero, List.push_toArray, List.nil_append, List.cons_append]
    have HS := Lib.hid HS.out.drew
    generalize World.drew _ = W3 at *
    have hSS := HS.out.b7 HQ.out
    refine wpAnyE_take (i := 0) (v := ?_) rfl (by kernel_rfl) (by kernel_rfl) (by kernel_rfl) (by kernel_rfl) (fun _ _ _ h => h) (Or.inl ⟨by rfl, ?_⟩) hSS ?_
    rotate_left
    · intro w hSw
      obtain ⟨⟨j0, j1, j2⟩, j3, j4, j5, j6⟩ := hSw
      go_simp
      all_goals with_reducible rfl
    simp only [Act.put, List.setIfInBounds_toArray, List.set_cons_zero, List.set_cons_succ, List.getElem_toArray, List.getElem_cons_zero, List.getElem_cons_succ]
    refine wpAnyE_take (i := 1) (v := ?_) rfl (by kernel_rfl) (by kernel_rfl) (by kernel_rfl) (by kernel_rfl) (fun _ _ _ h => h) (Or.inl ⟨by rfl, ?_⟩) hSS ?_
    rotate_left
    · intro w hSw
      obtain ⟨⟨j0, j1, j2⟩, j3, j4, j5, j6⟩ := hSw
      go_simp
      all_goals with_reducible rfl
    simp only [Act.put, List.setIfInBounds_toArray, List.set_cons_zero, List.set_cons_succ, List.getElem_toArray, List.getElem_cons_zero, List.getElem_cons_succ]
    refine wpAnyE_take (i := 2) (v := ?_) rfl (by kernel_rfl) (by kernel_rfl) (by kernel_rfl) (by kernel_rfl) (fun _ _ _ h => h) (Or.inl ⟨by rfl, ?_⟩) hSS ?_
    rotate_left
    · intro w hSw
      obtain ⟨⟨j0, j1, j2⟩, j3, j4, j5, j6⟩ := hSw
      go_simp
      all_goals with_reducible rfl
    simp only [Act.put, List.setIfInBounds_toArray, List.set_cons_zero, List.set_cons_succ, List.getElem_toArray, List.getElem_cons_zero, List.getElem_cons_succ]
    refine wpAnyE_take (i := 3) (v := ?_) rfl (by kernel_rfl) (by kernel_rfl) (by kernel_rfl) (by kernel_rfl) (fun _ _ _ h => h) (Or.inl ⟨by rfl, ?_⟩) hSS ?_
    rotate_left
    · intro w hSw
      obtain ⟨⟨j0, j1, j2⟩, j3, j4, j5, j6⟩ := hSw
      go_simp
      all_goals with_reducible rfl
    simp only [Act.put, List.setIfInBounds_toArray, List.set_cons_zero, List.set_cons_succ, List.getElem_toArray, List.getElem_cons_zero, List.getElem_cons_succ]
    refine wpAnyE_take (i := 4) (v := ?_) rfl (by kernel_rfl) (by kernel_rfl) (by kernel_rfl) (by kernel_rfl) (fun _ _ _ h => h) (Or.inl ⟨by rfl, ?_⟩) hSS ?_
    rotate_left
    · intro w hSw
      obtain ⟨⟨j0, j1, j2⟩, j3, j4, j5, j6⟩ := hSw
      go_simp
      all_goals with_reducible rfl
    simp only [Act.put, List.setIfInBounds_toArray, List.set_cons_zero, List.set_cons_succ, List.getElem_toArray, List.getElem_cons_zero, List.getElem_cons_succ]
    refine wpAnyE_take (i := 5) (v := ?_) rfl (by kernel_rfl) (by kernel_rfl) (by kernel_rfl) (by kernel_rfl) (fun _ _ _ h => h) (Or.inl ⟨by rfl, ?_⟩) hSS ?_
    rotate_left
    · intro w hSw
      obtain ⟨⟨j0, j1, j2⟩, j3, j4, j5, j6⟩ := hSw
      go_simp
      all_goals with_reducible rfl
    simp only [Act.put, List.setIfInBounds_toArray, List.set_cons_zero, List.set_cons_succ, List.getElem_toArray, List.getElem_cons_zero, List.getElem_cons_succ]
    refine wpAnyE_take (i := 6) (v := ?_) rfl (by kernel_rfl) (by kernel_rfl) (by kernel_rfl) (by kernel_rfl) (fun _ _ _ h => h) (Or.inl ⟨by rfl, ?_⟩) hSS ?_
    rotate_left
    · intro w hSw
      obtain ⟨⟨j0, j1, j2⟩, j3, j4, j5, j6⟩ := hSw
      go_simp
      all_goals with_reducible rfl
    simp only [Act.put, List.setIfInBounds_toArray, List.set_cons_zero, List.set_cons_succ, List.getElem_toArray, List.getElem_cons_zero, List.getElem_cons_succ]
    refine wpAnyE_take (i := 7) (v := ?_) rfl (by kernel_rfl) (by kernel_rfl) (by kernel_rfl) (by kernel_rfl) (fun _ _ _ h => h) (Or.inl ⟨by rfl, ?_⟩) hSS ?_
    rotate_left
    · intro w hSw
      obtain ⟨⟨j0, j1, j2⟩, j3, j4, j5, j6⟩ := hSw
      go_simp
      all_goals with_reducible rfl
    simp only [Act.put, List.setIfInBounds_toArray, List.set_cons_zero, List.set_cons_succ, List.getElem_toArray, List.getElem_cons_zero, List.getElem_cons_succ]
    refine wpAnyE_take (i := 8) (v := ?_) rfl (by kernel_rfl) (by kernel_rfl) (by kernel_rfl) (by kernel_rfl) (fun _ _ _ h => h) (Or.inl ⟨by rfl, ?_⟩) hSS ?_
    rotate_left
    · intro w hSw
      obtain ⟨⟨j0, j1, j2⟩, j3, j4, j5, j6⟩ := hSw
      go_simp
      all_goals with_reducible rfl
    simp only [Act.put, List.setIfInBounds_toArray, List.set_cons_zero, List.set_cons_succ, List.getElem_toArray, List.getElem_cons_zero, List.getElem_cons_succ]
    refine wpAnyE_one (i := 9) (by kernel_rfl) rfl ?_
    change wpList _ _ (Exit.then _ _) [_] _ _
    try simp only [List.setIfInBounds_toArray, List.set_cons_zero, List.set_cons_succ, List.getElem_toArray, List.getElem_cons_zero, List.getElem_cons_succ]
    go_wp2_with (go_at_call 25; refine (HB.out _).mono ?_; rintro e w3 ⟨rfl, hB⟩)
    have HS := Lib.hid (HS.out.below hB)
    clear hB hSS
    have hSS := HS.out.b7 HQ.out
    refine ⟨fun _ => hSS, ?_⟩
    try simp only [List.setIfInBounds_toArray, List.set_cons_zero, List.set_cons_succ, List.getElem_toArray, List.getElem_cons_zero, List.getElem_cons_succ]
    refine wpAnyE_take (i := 10) (v := ?_) rfl (by kernel_rfl) (by kernel_rfl) (by kernel_rfl) (by kernel_rfl) (fun _ _ _ h => h) (Or.inl ⟨by rfl, ?_⟩) hSS ?_
    rotate_left
    · intro w hSw
      obtain ⟨⟨j0, j1, j2⟩, j3, j4, j5, j6⟩ := hSw
      go_simp
      all_goals with_reducible rfl
    simp only [Act.put, List.setIfInBounds_toArray, List.set_cons_zero, List.set_cons_succ, List.getElem_toArray, List.getElem_cons_zero, List.getElem_cons_succ]
    refine wpAnyE_end (by kernel_rfl) ?_
    go_upto_region 5 with fail
    refine wp_region_early (Bx7 w.heap.size (i : Int) (tgN r : Nat) (kdN r : Nat) B g cp R.length i q) (fun j => j == 8) (by kernel_rfl) ?_
    simp only [List.size_toArray, List.length_cons, List.length_nil, Nat.reduceAdd, Array.replicate_succ, Array.replicate_zero, List.push_toArray, List.nil_append, List.cons_append]
    have HS := Lib.hid HS.out.drew
    clear hSS
    generalize World.drew _ = W5 at *
    have hSS := HS.out.b7 HQ.out
    refine wpAnyE_take (i := 0) (v := ?_) rfl (by kernel_rfl) (by kernel_rfl) (by kernel_rfl) (by kernel_rfl) (fun _ _ _ h => h) (Or.inl ⟨by rfl, ?_⟩) hSS ?_
    rotate_left
    · intro w hSw
      obtain ⟨⟨j0, j1, j2⟩, j3, j4, j5, j6⟩ := hSw
      go_simp
      all_goals with_reducible rfl
    simp only [Act.put, List.setIfInBounds_toArray, List.set_cons_zero, List.set_cons_succ, List.getElem_toArray, List.getElem_cons_zero, List.getElem_cons_succ]
    refine wpAnyE_take (i := 1) (v := ?_) rfl (by kernel_rfl) (by kernel_rfl) (by kernel_rfl) (by kernel_rfl) (fun _ _ _ h => h) (Or.inl ⟨by rfl, ?_⟩) hSS ?_
    rotate_left
    · intro w hSw
      obtain ⟨⟨j0, j1, j2⟩, j3, j4, j5, j6⟩ := hSw
      go_simp
      all_goals with_reducible rfl
    simp only [Act.put, List.setIfInBounds_toArray, List.set_cons_zero, List.set_cons_succ, List.getElem_toArray, List.getElem_cons_zero, List.getElem_cons_succ]
    refine wpAnyE_take (i := 2) (v := ?_) rfl (by kernel_rfl) (by kernel_rfl) (by kernel_rfl) (by kernel_rfl) (fun _ _ _ h => h) (Or.inl ⟨by rfl, ?_⟩) hSS ?_
    rotate_left
    · intro w hSw
      obtain ⟨⟨j0, j1, j2⟩, j3, j4, j5, j6⟩ := hSw
      go_simp
      all_goals with_reducible rfl
    simp only [Act.put, List.setIfInBounds_toArray, List.set_cons_zero, List.set_cons_succ, List.getElem_toArray, List.getElem_cons_zero, List.getElem_cons_succ]
    refine wpAnyE_take (i := 3) (v := ?_) rfl (by kernel_rfl) (by kernel_rfl) (by kernel_rfl) (by kernel_rfl) (fun _ _ _ h => h) (Or.inl ⟨by rfl, ?_⟩) hSS ?_
    rotate_left
    · intro w hSw
      obtain ⟨⟨j0, j1, j2⟩, j3, j4, j5, j6⟩ := hSw
      go_simp
      all_goals with_reducible rfl
    simp only [Act.put, List.setIfInBounds_toArray, List.set_cons_zero, List.set_cons_succ, List.getElem_toArray, List.getElem_cons_zero, List.getElem_cons_succ]
    refine wpAnyE_take (i := 4) (v := ?_) rfl (by kernel_rfl) (by kernel_rfl) (by kernel_rfl) (by kernel_rfl) (fun _ _ _ h => h) (Or.inl ⟨by rfl, ?_⟩) hSS ?_
    rotate_left
    · intro w hSw
      obtain ⟨⟨j0, j1, j2⟩, j3, j4, j5, j6⟩ := hSw
      go_simp
      all_goals with_reducible rfl
    simp only [Act.put, List.setIfInBounds_toArray, List.set_cons_zero, List.set_cons_succ, List.getElem_toArray, List.getElem_cons_zero, List.getElem_cons_succ]
    refine wpAnyE_take (i := 5) (v := ?_) rfl (by kernel_rfl) (by kernel_rfl) (by kernel_rfl) (by kernel_rfl) (fun _ _ _ h => h) (Or.inl ⟨by rfl, ?_⟩) hSS ?_
    rotate_left
    · intro w hSw
      obtain ⟨⟨j0, j1, j2⟩, j3, j4, j5, j6⟩ := hSw
      go_simp
      all_goals with_reducible rfl
    simp only [Act.put, List.setIfInBounds_toArray, List.set_cons_zero, List.set_cons_succ, List.getElem_toArray, List.getElem_cons_zero, List.getElem_cons_succ]
    refine wpAnyE_take (i := 6) (v := ?_) rfl (by kernel_rfl) (by kernel_rfl) (by kernel_rfl) (by kernel_rfl) (fun _ _ _ h => h) (Or.inl ⟨by rfl, ?_⟩) hSS ?_
    rotate_left
    · intro w hSw
      obtain ⟨⟨j0, j1, j2⟩, j3, j4, j5, j6⟩ := hSw
      go_simp
      all_goals with_reducible rfl
    simp only [Act.put, List.setIfInBounds_toArray, List.set_cons_zero, List.set_cons_succ, List.getElem_toArray, List.getElem_cons_zero, List.getElem_cons_succ]
    refine wpAnyE_take (i := 7) (v := ?_) rfl (by kernel_rfl) (by kernel_rfl) (by kernel_rfl) (by kernel_rfl) (fun _ _ _ h => h) (Or.inl ⟨by rfl, ?_⟩) hSS ?_
    rotate_left
    · intro w hSw
      obtain ⟨⟨j0, j1, j2⟩, j3, j4, j5, j6⟩ := hSw
      go_simp
      all_goals with_reducible rfl
    simp only [Act.put, List.setIfInBounds_toArray, List.set_cons_zero, List.set_cons_succ, List.getElem_toArray, List.getElem_cons_zero, List.getElem_cons_succ]
    refine wpAnyE_one (i := 8) (by kernel_rfl) rfl ?_
    change wpList _ _ (Exit.then _ _) [_] _ _
    try simp only [List.setIfInBounds_toArray, List.set_cons_zero, List.set_cons_succ, List.getElem_toArray, List.getElem_cons_zero, List.getElem_cons_succ]
    obtain ⟨⟨_, _, _⟩, _, c0, c1, c2⟩ := hSS
    obtain ⟨f0, f1, f2⟩ := (HS.out.book.list.cells HQ.out).2
    go_wp2_with fail
    refine ⟨(fun h => by cases h), ?_⟩
    try simp only [List.setIfInBounds_toArray, List.set_cons_zero, List.set_cons_succ, List.getElem_toArray, List.getElem_cons_zero, List.getElem_cons_succ]
    refine wpAnyE_end (by kernel_rfl) ?_
    go_wp2_with fail
    go_ret2
    obtain ⟨hs1, hs2⟩ := HS.out.book.set HHI.out HHR.out
    exact ⟨rfl, by rw [HX.out]; exact hs1, but_then (but_below HS.out.low _) hs2⟩
  · rw [decide_eq_false hlt] at HB ⊢
    have HX := Lib.hid (HT.out.trans (if_neg hlt))
    clear hT HT hlt hq hqd hql hi hr
    have HS := Lib.hid (h.box (i : Int) (tgN r : Nat) (kdN r : Nat))
    have HV := Lib.hid (fun w => valid_any (R.length : Int) (i : Int) (tgN r : Nat) (kdN r : Nat) w)
    rw [hv] at HV
    have HZ : Hid (∀ W, Tb W B g cp R → Calls Tryd.prog 33 #[.pointer (some ⟨B, 0, none⟩)] W fun e w' => e = .returned (.int .i64 (R.length : Int)) ∧ w' = W) := Lib.hid fun W hW => size_any hW
    unfold nV at HV ⊢
    go_enter Tryd.func10, Tryd.ntmps10
    go_upto_region 1 with fail
    refine wp_region_early (Bx3 w.heap.size (i : Int) (tgN r : Nat) (kdN r : Nat)) (fun _ => false) (by kernel_rfl) ?_
    simp only [List.size_toArray, List.length_cons, List.length_nil, Nat.reduceAdd, Array.replicate_succ, Array.replicate_zero, List.push_toArray, List.nil_append, List.cons_append]
    have HS := Lib.hid HS.out.drew
    generalize World.drew _ = W at *
    have hSS := HS.out.b3
    refine wpAnyE_take (i := 0) (v := ?_) rfl (by kernel_rfl) (by kernel_rfl) (by kernel_rfl) (by kernel_rfl) (fun _ _ _ h => h) (Or.inl ⟨by rfl, ?_⟩) hSS ?_
    rotate_left
    · intro w hSw
      obtain ⟨j0, j1, j2⟩ := hSw
      go_simp
      all_goals with_reducible rfl
    simp only [Act.put, List.setIfInBounds_toArray, List.set_cons_zero, List.set_cons_succ, List.getElem_toArray, List.getElem_cons_zero, List.getElem_cons_succ]
    refine wpAnyE_take (i := 2) (v := ?_) rfl (by kernel_rfl) (by kernel_rfl) (by kernel_rfl) (by kernel_rfl) (fun _ _ _ h => h) (Or.inl ⟨by rfl, ?_⟩) hSS ?_
    rotate_left
    · intro w hSw
      obtain ⟨j0, j1, j2⟩ := hSw
      go_simp
      all_goals with_reducible rfl
    simp only [Act.put, List.setIfInBounds_toArray, List.set_cons_zero, List.set_cons_succ, List.getElem_toArray, List.getElem_cons_zero, List.getElem_cons_succ]
    refine wpAnyE_one (i := 1) (by kernel_rfl) rfl ?_
    change wpList _ _ (Exit.then _ _) [_] _ _
    try simp only [List.setIfInBounds_toArray, List.set_cons_zero, List.set_cons_succ, List.getElem_toArray, List.getElem_cons_zero, List.getElem_cons_succ]
    go_wp2_with (go_at_call 33; refine (HZ.out _ HS.out.book).mono ?_; rintro e w1 ⟨rfl, rfl⟩)
    refine ⟨fun _ => hSS, ?_⟩
    try simp only [List.setIfInBounds_toArray, List.set_cons_zero, List.set_cons_succ, List.getElem_toArray, List.getElem_cons_zero, List.getElem_cons_succ]
    refine wpAnyE_one (i := 3) (by kernel_rfl) rfl ?_
    change wpList _ _ (Exit.then _ _) [_] _ _
    try simp only [List.setIfInBounds_toArray, List.set_cons_zero, List.set_cons_succ, List.getElem_toArray, List.getElem_cons_zero, List.getElem_cons_succ]
    go_wp2_with (go_at_call 31; refine (HV.out _).mono ?_; rintro e w2 ⟨rfl, hB⟩)
    have HS := Lib.hid (HS.out.below hB)
    clear hB hSS
    have hSS := HS.out.b3
    refine ⟨fun _ => hSS, ?_⟩
    try simp only [List.setIfInBounds_toArray, List.set_cons_zero, List.set_cons_succ, List.getElem_toArray, List.getElem_cons_zero, List.getElem_cons_succ]
    refine wpAnyE_take (i := 4) (v := ?_) rfl (by kernel_rfl) (by kernel_rfl) (by kernel_rfl) (by kernel_rfl) (fun _ _ _ h => h) (Or.inl ⟨by rfl, ?_⟩) hSS ?_
    rotate_left
    · intro w hSw
      obtain ⟨j0, j1, j2⟩ := hSw
      go_simp
      all_goals with_reducible rfl
    simp only [Act.put, List.setIfInBounds_toArray, List.set_cons_zero, List.set_cons_succ, List.getElem_toArray, List.getElem_cons_zero, List.getElem_cons_succ]
    refine wpAnyE_end (by kernel_rfl) ?_
    go_upto_region 3 with fail
    refine wp_region_early (Bx7 w.heap.size (i : Int) (tgN r : Nat) (kdN r : Nat) B g cp R.length i q) (fun _ => false) (by kernel_rfl) ?_
    simp only [List.size_toArray, List.length_cons, List.length_nil, Nat.reduceAdd, Array.replicate_succ, Array.replicate_zero, List.push_toArray, List.nil_append, List.cons_append]
    have HS := Lib.hid HS.out.drew
    generalize World.drew _ = W3 at *
    have hSS := HS.out.b7 HQ.out
    refine wpAnyE_take (i := 0) (v := ?_) rfl (by kernel_rfl) (by kernel_rfl) (by kernel_rfl) (by kernel_rfl) (fun _ _ _ h => h) (Or.inl ⟨by rfl, ?_⟩) hSS ?_
    rotate_left
    · intro w hSw
      obtain ⟨⟨j0, j1, j2⟩, j3, j4, j5, j6⟩ := hSw
      go_simp
      all_goals with_reducible rfl
    simp only [Act.put, List.setIfInBounds_toArray, List.set_cons_zero, List.set_cons_succ, List.getElem_toArray, List.getElem_cons_zero, List.getElem_cons_succ]
    refine wpAnyE_take (i := 1) (v := ?_) rfl (by kernel_rfl) (by kernel_rfl) (by kernel_rfl) (by kernel_rfl) (fun _ _ _ h => h) (Or.inl ⟨by rfl, ?_⟩) hSS ?_
    rotate_left
    · intro w hSw
      obtain ⟨⟨j0, j1, j2⟩, j3, j4, j5, j6⟩ := hSw
      go_simp
      all_goals with_reducible rfl
    simp only [Act.put, List.setIfInBounds_toArray, List.set_cons_zero, List.set_cons_succ, List.getElem_toArray, List.getElem_cons_zero, List.getElem_cons_succ]
    refine wpAnyE_take (i := 2) (v := ?_) rfl (by kernel_rfl) (by kernel_rfl) (by kernel_rfl) (by kernel_rfl) (fun _ _ _ h => h) (Or.inl ⟨by rfl, ?_⟩) hSS ?_
    rotate_left
    · intro w hSw
      obtain ⟨⟨j0, j1, j2⟩, j3, j4, j5, j6⟩ := hSw
      go_simp
      all_goals with_reducible rfl
    simp only [Act.put, List.setIfInBounds_toArray, List.set_cons_zero, List.set_cons_succ, List.getElem_toArray, List.getElem_cons_zero, List.getElem_cons_succ]
    refine wpAnyE_take (i := 3) (v := ?_) rfl (by kernel_rfl) (by kernel_rfl) (by kernel_rfl) (by kernel_rfl) (fun _ _ _ h => h) (Or.inl ⟨by rfl, ?_⟩) hSS ?_
    rotate_left
    · intro w hSw
      obtain ⟨⟨j0, j1, j2⟩, j3, j4, j5, j6⟩ := hSw
      go_simp
      all_goals with_reducible rfl
    simp only [Act.put, List.setIfInBounds_toArray, List.set_cons_zero, List.set_cons_succ, List.getElem_toArray, List.getElem_cons_zero, List.getElem_cons_succ]
    refine wpAnyE_take (i := 4) (v := ?_) rfl (by kernel_rfl) (by kernel_rfl) (by kernel_rfl) (by kernel_rfl) (fun _ _ _ h => h) (Or.inl ⟨by rfl, ?_⟩) hSS ?_
    rotate_left
    · intro w hSw
      obtain ⟨⟨j0, j1, j2⟩, j3, j4, j5, j6⟩ := hSw
      go_simp
      all_goals with_reducible rfl
    simp only [Act.put, List.setIfInBounds_toArray, List.set_cons_zero, List.set_cons_succ, List.getElem_toArray, List.getElem_cons_zero, List.getElem_cons_succ]
    refine wpAnyE_take (i := 5) (v := ?_) rfl (by kernel_rfl) (by kernel_rfl) (by kernel_rfl) (by kernel_rfl) (fun _ _ _ h => h) (Or.inl ⟨by rfl, ?_⟩) hSS ?_
    rotate_left
    · intro w hSw
      obtain ⟨⟨j0, j1, j2⟩, j3, j4, j5, j6⟩ := hSw
      go_simp
      all_goals with_reducible rfl
    simp only [Act.put, List.setIfInBounds_toArray, List.set_cons_zero, List.set_cons_succ, List.getElem_toArray, List.getElem_cons_zero, List.getElem_cons_succ]
    refine wpAnyE_take (i := 6) (v := ?_) rfl (by kernel_rfl) (by kernel_rfl) (by kernel_rfl) (by kernel_rfl) (fun _ _ _ h => h) (Or.inl ⟨by rfl, ?_⟩) hSS ?_
    rotate_left
    · intro w hSw
      obtain ⟨⟨j0, j1, j2⟩, j3, j4, j5, j6⟩ := hSw
      go_simp
      all_goals with_reducible rfl
    simp only [Act.put, List.setIfInBounds_toArray, List.set_cons_zero, List.set_cons_succ, List.getElem_toArray, List.getElem_cons_zero, List.getElem_cons_succ]
    refine wpAnyE_take (i := 7) (v := ?_) rfl (by kernel_rfl) (by kernel_rfl) (by kernel_rfl) (by kernel_rfl) (fun _ _ _ h => h) (Or.inl ⟨by rfl, ?_⟩) hSS ?_
    rotate_left
    · intro w hSw
      obtain ⟨⟨j0, j1, j2⟩, j3, j4, j5, j6⟩ := hSw
      go_simp
      all_goals with_reducible rfl
    simp only [Act.put, List.setIfInBounds_toArray, List.set_cons_zero, List.set_cons_succ, List.getElem_toArray, List.getElem_cons_zero, List.getElem_cons_succ]
    refine wpAnyE_take (i := 8) (v := ?_) rfl (by kernel_rfl) (by kernel_rfl) (by kernel_rfl) (by kernel_rfl) (fun _ _ _ h => h) (Or.inl ⟨by rfl, ?_⟩) hSS ?_
    rotate_left
    · intro w hSw
      obtain ⟨⟨j0, j1, j2⟩, j3, j4, j5, j6⟩ := hSw
      go_simp
      all_goals with_reducible rfl
    simp only [Act.put, List.setIfInBounds_toArray, List.set_cons_zero, List.set_cons_succ, List.getElem_toArray, List.getElem_cons_zero, List.getElem_cons_succ]
    refine wpAnyE_one (i := 9) (by kernel_rfl) rfl ?_
    change wpList _ _ (Exit.then _ _) [_] _ _
    try simp only [List.setIfInBounds_toArray, List.set_cons_zero, List.set_cons_succ, List.getElem_toArray, List.getElem_cons_zero, List.getElem_cons_succ]
    go_wp2_with (go_at_call 25; refine (HB.out _).mono ?_; rintro e w3 ⟨rfl, hB⟩)
    have HS := Lib.hid (HS.out.below hB)
    clear hB hSS
    have hSS := HS.out.b7 HQ.out
    refine ⟨fun _ => hSS, ?_⟩
    try simp only [List.setIfInBounds_toArray, List.set_cons_zero, List.set_cons_succ, List.getElem_toArray, List.getElem_cons_zero, List.getElem_cons_succ]
    refine wpAnyE_take (i := 10) (v := ?_) rfl (by kernel_rfl) (by kernel_rfl) (by kernel_rfl) (by kernel_rfl) (fun _ _ _ h => h) (Or.inl ⟨by rfl, ?_⟩) hSS ?_
    rotate_left
    · intro w hSw
      obtain ⟨⟨j0, j1, j2⟩, j3, j4, j5, j6⟩ := hSw
      go_simp
      all_goals with_reducible rfl
    simp only [Act.put, List.setIfInBounds_toArray, List.set_cons_zero, List.set_cons_succ, List.getElem_toArray, List.getElem_cons_zero, List.getElem_cons_succ]
    refine wpAnyE_end (by kernel_rfl) ?_
    go_wp2_with fail
    go_ret2
    exact ⟨rfl, by rw [HX.out]; exact HS.out.book, but_below HS.out.low _⟩
end Go.Proofs.YtppmiggkknhdkaaDoor
namespace Go.Proofs.YtppmiggkknhdkaaDoor
set_option linter.unusedVariables false
open Go.RowKit Go.WideShapes Go.ChangeShapes
section
variable {H : Type} {enc : TypeId × Value → H} {P : Program}
theorem post_of_below {f : Func} {s : ChangeSpec} {apart fresh handsOn again : Bool} {W W' : World} {args : Array Value} {v : Value} {ds gs : List (DataW H)} {before pa pv : List MemPlace}
    (hW : DataW.Whole enc P f.params.toList s.vars apart W args.toList ds gs before)
    (hres : ∀ (b : Nat) (sp : Nat → Bool) (hd : Bool), DataW.TrodAll enc P W' b sp hd f.resultTypes.toList (v.resultList f.resultTypes.size) (s.fn H (ds ++ gs)).results [])
    (hargs : ∀ sp : Nat → Bool, (∀ p ∈ before, sp p.block = true) → DataW.TrodAll enc P W' 0 sp true f.params.toList args.toList (s.fn H (ds ++ gs)).args pa)
    (hvars : ∀ sp : Nat → Bool, (∀ p ∈ before, sp p.block = true) → DataW.TrodVars enc P W' sp s.vars (s.fn H (ds ++ gs)).vars pv)
    (hps : before = pa ++ pv) (hb : Below W.heap.size W W')
    (hok : ∀ (j : Nat) (t : TypeId) (r : Value), f.resultTypes[j]? = some t → (v.resultList f.resultTypes.size)[j]? = some r → Value.okWide P W' .any 0 t r) :
    s.post enc P f apart fresh handsOn again W args v W' := by
  have hlt : ∀ p ∈ before, p.block < W.heap.size := fun p hp => hW.lt p hp
  have hold : ∀ p ∈ before, (fun b => decide (b < W.heap.size)) p.block = true := fun p hp => by simpa using hlt p hp
  refine ⟨ds, gs, before, [], pa, pv, hW, hres _ _ _, hargs _ hold, hvars _ hold, World.keptBut_mono (fun p hp => ⟨hp, ?_⟩) (hb.frame (· ∈ before)), fun _ => ?_⟩
  · rw [hps, List.mem_append] at hp
    exact Or.inr hp
  · obtain ⟨_, _, _, _, _, hz, hn⟩ := hW
    refine ⟨hok, _, _, ([] ++ pa) ++ pv, ⟨[] ++ pa, pv, trodAll_append (hargs _ (fun _ _ => rfl)) (hres _ _ _), hvars _ (fun _ _ => rfl), rfl, ?_, ?_⟩, ?_⟩
    · intro b off hp
      have hin : MemPlace.cell b off ∈ before := by rw [hps]; simpa using hp
      rw [hb.frozen (hlt _ hin)]
      exact hz b off hin
    · intro ha
      have := hn ha
      rw [hps] at this
      simpa using this
    · intro p hp _
      rw [hps]
      simpa using hp
end
end Go.Proofs.YtppmiggkknhdkaaDoor
namespace Go.Proofs.YtppmiggkknhdkaaDoor
set_option linter.unusedVariables false
open Go.RowKit Go.WideShapes Go.ChangeShapes Go.WideElems

section
variable {H : Type} {enc : TypeId × Value → H} {P : Program}
theorem trodAll_stays (hl : laidOutB P = true) {W W' : World} {sp : Nat → Bool} : ∀ (ts : List TypeId) (vs : List Value) (ds : List (DataW H)) (p : List MemPlace), (∀ t ∈ ts, P.readableRec t = true ∧ t < P.types.size) →
    DataW.TrodAll enc P W 0 (fun _ => true) true ts vs ds p → (∀ q ∈ p, W.sameAt W' q) → (∀ q ∈ p, sp q.block = true) → DataW.TrodAll enc P W' 0 sp true ts vs ds p
  | [], _, _, _, _, h, _, _ => by
    obtain ⟨rfl, rfl, rfl⟩ := trodAll_nil h
    exact h
  | t :: ts, _, _, _, hr, h, hs, hp => by
    obtain ⟨v, vs1, d, ds1, a, b, rfl, rfl, rfl, h1, h2⟩ := trodAll_cons h
    exact ⟨a, b, Trod_stays hl (hr t (by simp)).1 (hr t (by simp)).2 h1 (fun q hq => hs q (by simp [hq])) (fun q hq => hp q (by simp [hq])),
      trodAll_stays hl ts vs1 ds1 b (fun u hu => hr u (by simp [hu])) h2 (fun q hq => hs q (by simp [hq])) (fun q hq => hp q (by simp [hq])), rfl⟩
end

def readAll (P : Program) (ts : List TypeId) : Bool := ts.all fun t => P.readableRec t && decide (t < P.types.size)
theorem readAll_spec {P : Program} {ts : List TypeId} (h : readAll P ts = true) : ∀ t ∈ ts, P.readableRec t = true ∧ t < P.types.size := by
  intro t ht
  have := List.all_eq_true.1 h t ht
  simpa using this

/-- A row of integers that came in. -/
def RowOf (W : World) (k : IntKind) (v : Value) (xs : List Int) : Prop :=
  (v = .slice none 0 0 ∧ xs = []) ∨ ∃ a cap, v = .slice (some a) xs.length cap ∧ xs.length ≤ cap ∧ cap ≤ maxLen ∧ ∀ i x, xs[i]? = some x → W.cell? (a.add i) = some (.int k x) ∧ (a.add i).block < W.heap.size

theorem RowOf.slice {W : World} {k : IntKind} {v : Value} {xs : List Int} (h : RowOf W k v xs) : ∃ a cap, v = .slice a xs.length cap ∧ xs.length ≤ cap ∧ cap ≤ maxLen ∧ ∀ i x, xs[i]? = some x → ∃ b, a = some b ∧ W.cell? (b.add i) = some (.int k x) := by
  rcases h with ⟨rfl, rfl⟩ | ⟨a, cap, rfl, h1, h2, h3⟩
  · exact ⟨none, 0, rfl, Nat.le_refl _, by unfold maxLen; omega, fun i x h => by simp at h⟩
  · exact ⟨some a, cap, rfl, h1, h2, fun i x h => ⟨a, rfl, (h3 i x h).1⟩⟩

theorem RowOf.below {W W' : World} {k : IntKind} {v : Value} {xs : List Int} (h : RowOf W k v xs) (hb : Below W.heap.size W W') : RowOf W' k v xs := by
  rcases h with h | ⟨a, cap, rfl, h1, h2, h3⟩
  · exact .inl h
  · exact .inr ⟨a, cap, rfl, h1, h2, fun i x hx => ⟨(hb.cell (h3 i x hx).2).trans (h3 i x hx).1, Nat.lt_of_lt_of_le (h3 i x hx).2 hb.size⟩⟩

theorem cell_lt {W : World} {p : Addr} {v : Value} (h : W.cell? p = some v) : p.block < W.heap.size := by
  rcases Nat.lt_or_ge p.block W.heap.size with hlt | hge
  · exact hlt
  · exfalso
    unfold World.cell? at h
    rw [Array.getElem?_eq_none hge] at h
    simp at h

theorem open_rowOf {H : Type} {enc : TypeId × Value → H} {P : Program} {W : World} {spare : Nat → Bool} {held : Bool} {r : Reach} {b0 : Nat} {t e : TypeId} {k : IntKind} {v : Value} {d : DataW H} {p : List MemPlace} (ht : P.underlying t = some (.slice e)) (he : P.underlying e = some (.int k)) (hc : P.cellsOf e = 1)
    (hval : Value.okWide P W r b0 t v) (h : DataW.Trod enc P W 0 spare held t v d p) :
    ∃ xs, RowOf W k v xs ∧ (∀ x ∈ xs, (Lit.int k x).wf = true) ∧ (d = .nil ∨ ∃ el sp, d = .slice el sp ∧ el.length = xs.length) := by
  obtain ⟨n, hn⟩ := h
  have hv : v.cells.toList = [v] := by
    cases v <;> first | rfl | (simp [Value.okWide, Cell.okWide, Cell.ok, ht] at hval)
  rw [hv] at hn
  rcases open_ints ht he hc hn with ⟨h1, h2⟩ | ⟨a, len, cap, zs, h1, hb, hl, hm, hz, h2, h3, h4⟩
  · obtain rfl : v = .slice none 0 0 := by simpa using h1
    exact ⟨[], .inl ⟨rfl, rfl⟩, by simp, .inl (by simpa using congrArg Prod.fst h2)⟩
  · obtain rfl : v = .slice (some a) len cap := by simpa using h1
    have hzl : len ≤ zs.length := by rw [hz]; split <;> omega
    have hlen : (zs.take len).length = len := by rw [List.length_take]; omega
    refine ⟨zs.take len, .inr ⟨a, cap, by rw [hlen], by omega, hm, fun i x hx => ?_⟩, fun x hx => h4 x (List.mem_of_mem_take hx), .inr ⟨lits k (zs.take len), lits k (zs.drop len), by simpa using congrArg Prod.fst h2, by simp [lits]⟩⟩
    have hi : i < len := by have := (List.getElem?_eq_some_iff.1 hx).1; omega
    have hx2 : zs[i]? = some x := by rw [List.getElem?_take_of_lt hi] at hx; exact hx
    have hc1 := h3 i (by omega)
    rw [List.getD_eq_getElem?_getD, hx2] at hc1
    exact ⟨hc1, cell_lt hc1⟩
end Go.Proofs.YtppmiggkknhdkaaDoor
namespace Go.Proofs.YtppmiggkknhdkaaDoor
set_option linter.unusedVariables false
set_option linter.unusedSimpArgs false
open Go.RowKit

theorem on_any (b : Nat) (d : Dk) (w : World) (h : DkAt w b d) : Calls Tryd.prog 64 #[.pointer (some ⟨b, 0, none⟩)] w fun e w' => e = .returned (.bool (!d.off)) ∧ Below w.heap.size w w' := by
  obtain ⟨c0, c1, c2, c3⟩ := h.cells
  go_enter Tryd.func64, Tryd.ntmps64
  go_wp2_with fail
  go_ret
  exact ⟨rfl, (Below.refl _ _)⟩
theorem on_nil (w : World) : Calls Tryd.prog 64 #[.pointer none] w fun e w' => e = .returned (.bool false) ∧ Below w.heap.size w w' := by
  go_enter Tryd.func64, Tryd.ntmps64
  go_wp2_with fail
  go_ret
  exact ⟨rfl, (Below.refl _ _)⟩
theorem restore_any (b : Nat) (d : Dk) (w : World) (h : DkAt w b d) : Calls Tryd.prog 18 #[.pointer (some ⟨b, 0, none⟩)] w fun e w' => e = .returned (.tuple #[]) ∧ DkAt w' b { d with off := false } ∧ w.grownBy w' (some b) := by
  obtain ⟨c0, c1, c2, c3⟩ := h.cells
  obtain ⟨z0, z1, z2, z3⟩ := h.free
  go_enter Tryd.func18, Tryd.ntmps18
  go_wp2_with fail
  go_end0
  exact ⟨rfl, h.off false, but_set (but_refl _ _) h.lt _ _⟩
theorem restore_nil (w : World) : Calls Tryd.prog 18 #[.pointer none] w fun e w' => e = .returned (.tuple #[]) ∧ Below w.heap.size w w' := by
  go_enter Tryd.func18, Tryd.ntmps18
  go_wp2_with fail
  go_end0
  exact ⟨rfl, (Below.refl _ _)⟩
theorem fuse_any (b : Nat) (d : Dk) (k : Int) (w : World) (h : DkAt w b d) : Calls Tryd.prog 15 #[.pointer (some ⟨b, 0, none⟩), .int .i64 k] w fun e w' => e = .returned (.tuple #[]) ∧ DkAt w' b { d with fused := decide (0 ≤ k), fuse := k.toNat } ∧ w.grownBy w' (some b) := by
  obtain ⟨c0, c1, c2, c3⟩ := h.cells
  obtain ⟨z0, z1, z2, z3⟩ := h.free
  have hD := Lib.hid h
  clear h
  by_cases hk : k < 0
  · have e1 : decide (0 ≤ k) = false := by simp; omega
    have e2 : k.toNat = 0 := by omega
    rw [e1, e2]
    go_enter Tryd.func15, Tryd.ntmps15
    go_wp2_with fail
    go_end0
    exact ⟨rfl, (hD.out.fused false).fuse 0, but_set (but_set (but_refl _ _) hD.out.lt _ _) hD.out.lt _ _⟩
  · obtain ⟨n, rfl⟩ : ∃ n : Nat, k = n := ⟨k.toNat, by omega⟩
    have e1 : decide (0 ≤ (n : Int)) = true := by simp
    have e3 : (0 : Int) ≤ n := by omega
    rw [e1, Int.toNat_natCast]
    go_enter Tryd.func15, Tryd.ntmps15
    go_wp2_with fail
    go_end0
    exact ⟨rfl, (hD.out.fused true).fuse n, but_set (but_set (but_refl _ _) hD.out.lt _ _) hD.out.lt _ _⟩
theorem fuse_nil (k : Int) (w : World) : Calls Tryd.prog 15 #[.pointer none, .int .i64 k] w fun e w' => e = .returned (.tuple #[]) ∧ Below w.heap.size w w' := by
  go_enter Tryd.func15, Tryd.ntmps15
  go_wp2_with fail
  go_end0
  exact ⟨rfl, (Below.refl _ _)⟩
/-- What asking for power and a sector answers. -/
def mayV (d : Dk) (s : Int) : Int := if d.off then 100 else if s < 0 ∨ 8 ≤ s then 101 else 0
theorem may_any (b : Nat) (d : Dk) (s : Int) (w : World) (h : DkAt w b d) : Calls Tryd.prog 68 #[.pointer (some ⟨b, 0, none⟩), .int .i64 s] w fun e w' => e = .returned (.int .i64 (mayV d s)) ∧ Below w.heap.size w w' := by
  unfold mayV
  have HO := Lib.hid (on_any b d w h)
  clear h
  obtain ⟨of, hof⟩ : ∃ of, d.off = of := ⟨_, rfl⟩
  rw [hof] at HO ⊢
  clear hof
  go_enter Tryd.func68, Tryd.ntmps68
  cases of with
  | true =>
    go_wp2_with (go_at_call 64; refine HO.out.mono ?_; rintro e w1 ⟨rfl, hB1⟩)
    go_ret
    exact ⟨rfl, hB1⟩
  | false =>
    by_cases h1 : s < 0
    · go_wp2_with (go_at_call 64; refine HO.out.mono ?_; rintro e w1 ⟨rfl, hB1⟩)
      go_ret
      exact ⟨rfl, hB1⟩
    · by_cases h2 : 8 ≤ s
      · go_wp2_with (go_at_call 64; refine HO.out.mono ?_; rintro e w1 ⟨rfl, hB1⟩)
        go_ret
        exact ⟨rfl, hB1⟩
      · go_wp2_with (go_at_call 64; refine HO.out.mono ?_; rintro e w1 ⟨rfl, hB1⟩)
        go_ret
        exact ⟨rfl, hB1⟩
theorem new_any (w : World) : Calls Tryd.prog 13 #[] w fun e w' => e = .returned (.pointer (some ⟨w.heap.size, 0, none⟩)) ∧ DkAt w' w.heap.size Dk.new ∧ Below w.heap.size w w' := by
  go_enter Tryd.func13, Tryd.ntmps13
  go_wp2_with fail
  go_ret
  exact ⟨rfl, ⟨(blk_new _ _).trans (by kernel_rfl), List.length_replicate⟩, (Below.refl _ _).alloc (Nat.le_refl _) _⟩
end Go.Proofs.YtppmiggkknhdkaaDoor
namespace Go.Proofs.YtppmiggkknhdkaaDoor
set_option linter.unusedVariables false
set_option linter.unusedSimpArgs false
open Go.RowKit

theorem Tryd.infoByte : (Tryd.prog.info? 5).map (fun i => (i.zero, i.size, i.bytes)) = some (some (.int .u8 0), 1, 1) := by kernel_rfl
/-- The bytes of a sector. -/
def secB (v : Int) (i : Nat) : Nat := ((v + 7 * i) % 256).toNat
def secL (v : Int) : List Nat := (List.range 32).map (secB v)
def secK (v : Int) (k : Nat) : List Nat := (List.range 32).map fun i => if i < k then secB v i else 0

theorem secK_zero (v : Int) : bC (secK v 0) = List.replicate 32 (.int .u8 0) := rfl
theorem secK_all (v : Int) : secK v 32 = secL v := by
  unfold secK secL
  refine List.map_congr_left fun i hi => ?_
  rw [if_pos (List.mem_range.1 hi)]
theorem secK_set (v : Int) (k : Nat) (hk : k < 32) : (bC (secK v k)).set k (.int .u8 (secB v k : Nat)) = bC (secK v (k + 1)) := by
  apply List.ext_getElem?
  intro j
  unfold bC secK
  rw [List.getElem?_set]
  by_cases hj : k = j
  · subst hj
    simp [hk]
  · rw [if_neg hj]
    simp only [List.getElem?_map]
    by_cases h2 : j < 32
    · rw [List.getElem?_range h2]
      simp only [Option.map_some]
      have : (j < k) = (j < k + 1) := by rw [eq_iff_iff]; omega
      simp only [this]
    · rw [List.getElem?_eq_none (by simp; omega)]; rfl
theorem secB_wrap (v : Int) (k : Nat) : wrap64 (v + 7 * (k : Int)) % 256 = (secB v k : Nat) := by
  unfold secB wrap64
  omega

end Go.Proofs.YtppmiggkknhdkaaDoor
namespace Go.Proofs.YtppmiggkknhdkaaDoor
set_option linter.unusedVariables false
set_option linter.unusedSimpArgs false
open Go.RowKit

/-- A slice of bytes that can be read, and lies elsewhere than the block b. -/
def Bytes (W : World) (b : Nat) (v : Value) (l : List Nat) : Prop :=
  ∃ a c, v = .slice a l.length c ∧ ∀ j x, l[j]? = some x → ∃ p, a = some p ∧ p.block ≠ b ∧ W.cell? (p.add j) = some (.int .u8 (x : Nat))
def putS (bs : List Nat) (s : Nat) (l : List Nat) : List Nat := bs.take (32 * s) ++ (l ++ bs.drop (32 * s + 32))
/-- What a write leaves, and answers. -/
def wrV (d : Dk) (s : Int) (l : List Nat) : Dk × Int :=
  if mayV d s = 0 then
    if l.length = 32 then
      if d.fused then
        if d.fuse = 0 then ({ d with off := true, fused := false }, 100)
        else ({ d with fuse := d.fuse - 1, bs := putS d.bs s.toNat l, writes := d.writes + 1 }, 0)
      else ({ d with bs := putS d.bs s.toNat l, writes := d.writes + 1 }, 0)
    else (d, 102)
  else (d, mayV d s)
theorem mayV_nat {d : Dk} {s : Int} (h : mayV d s = 0) : ∃ k : Nat, s = k ∧ k < 8 ∧ d.off = false := by
  unfold mayV at h
  split at h
  · cases h
  · split at h
    · cases h
    · rename_i h1 h2
      exact ⟨s.toNat, by omega, by omega, by simpa using h1⟩

theorem dk_copy {d : Dk} {k : Nat} {l : List Nat} (hb : d.bs.length = 256) (hk : k < 8) (hl : l.length = 32) :
    ((dkC d).toList.take (k * 32) ++ (bC l ++ (dkC d).toList.drop (k * 32 + (bC l).length))).toArray = dkC { d with bs := putS d.bs k l } := by
  unfold dkC putS
  rw [List.toList_toArray, List.take_append_of_le_length (by rw [bC_len]; omega), List.drop_append_of_le_length (by rw [bC_len, bC_len]; omega), bC_len, hl]
  show _ = (bC _ ++ dkT d).toArray
  unfold bC
  rw [List.map_append, List.map_append, List.map_take, List.map_drop, Nat.mul_comm 32 k]
  simp
theorem putS_len {bs l : List Nat} {k : Nat} (hb : bs.length = 256) (hk : k < 8) (hl : l.length = 32) : (putS bs k l).length = 256 := by
  unfold putS
  simp [hb, hl]
  omega
theorem DkAt.copy {W : World} {b k : Nat} {d : Dk} {l : List Nat} (h : DkAt W b d) (hk : k < 8) (hl : l.length = 32) :
    DkAt (W.setRow b ((dkC d).toList.take (k * 32) ++ (bC l ++ (dkC d).toList.drop (k * 32 + (bC l).length))).toArray) b { d with bs := putS d.bs k l } :=
  ⟨by rw [dk_copy h.2 hk hl]; exact setRow_heap W b _ _ _ _ h.1, putS_len h.2 hk hl⟩
theorem but_setRow {W X : World} {b : Nat} (h : W.grownBy X (some b)) (cs : Array Value) : W.grownBy (X.setRow b cs) (some b) := by
  obtain ⟨h1, h2, h3, h4, h5⟩ := h
  refine ⟨h1, h2, h3, by simpa [World.setRow] using h4, fun k hk hne => ?_⟩
  rw [setRow_other X b k cs (fun e => hne (by rw [e]))]
  exact h5 k hk hne
theorem bC_one (l : List Nat) : ∀ v ∈ bC l, v.oneCell' = true := by
  intro v hv
  obtain ⟨x, _, rfl⟩ := List.mem_map.1 hv
  rfl
theorem cell_set_other {W : World} {p q : Addr} (h : q.block ≠ p.block) (v : Value) : (W.setCell p v).cell? q = W.cell? q := by
  unfold World.cell?
  rw [Below.heap_setCell W p v q.block h]
set_option maxRecDepth 100000 in
set_option maxHeartbeats 1000000 in
theorem write_any (b : Nat) (d : Dk) (s : Int) (v : Value) (l : List Nat) (w : World) (h : DkAt w b d) (hv : Bytes w b v l) (hl : l.length ≤ 9223372036854775800) (hw : d.writes ≤ 4611686018427387904) (hfu : d.fuse ≤ 9223372036854775807) :
    Calls Tryd.prog 67 #[.pointer (some ⟨b, 0, none⟩), .int .i64 s, v] w fun e w' => e = .returned (.int .i64 (wrV d s l).2) ∧ DkAt w' b (wrV d s l).1 ∧ w.grownBy w' (some b) := by
  obtain ⟨a, c, rfl, hc⟩ := hv
  have HM := Lib.hid (may_any b d s w h)
  have HC := Lib.hid hc
  clear hc
  obtain ⟨d', er, hwr⟩ : ∃ d' er, wrV d s l = (d', er) := ⟨_, _, rfl⟩
  rw [hwr]
  show Calls _ _ _ _ fun e w' => e = .returned (.int .i64 er) ∧ DkAt w' b d' ∧ w.grownBy w' (some b)
  unfold wrV at hwr
  have HWR := Lib.hid hwr
  clear hwr
  go_enter Tryd.func67, Tryd.ntmps67
  go_wp2_with fail
  refine HM.out.mono ?_
  rintro e w1 ⟨rfl, hB1⟩
  have h1 := h.below hB1
  have hg1 := but_below hB1 (some b)
  by_cases hm : mayV d s = 0
  · obtain ⟨k, rfl, hk, hoff⟩ := mayV_nat hm
    rw [if_pos hm] at HWR
    rw [hm]
    clear hm HM
    have hlt := h.lt
    clear h
    by_cases hl32 : l.length = 32
    · rw [if_pos hl32] at HWR
      have HL := Lib.hid hl32
      rw [hl32]
      clear hl32 hl
      obtain ⟨c0, c1, c2, c3⟩ := h1.cells
      obtain ⟨z0, z1, z2, z3⟩ := h1.free
      obtain ⟨p, rfl, hpb, _⟩ := HC.out 0 _ (List.getElem?_eq_getElem (by rw [HL.out]; omega))
      have hs0 : ∀ j u, (bC l)[j]? = some u → w.cell? (p.add j) = some u := by
        intro j u hu
        unfold bC at hu
        rw [List.getElem?_map] at hu
        cases hx : l[j]? with
        | none => rw [hx] at hu; cases hu
        | some x =>
          rw [hx] at hu
          obtain ⟨p', hp1, _, hp2⟩ := HC.out j x hx
          cases hp1
          cases hu
          exact hp2
      have hsw : Hid (∀ j u, (bC l)[j]? = some u → w1.cell? (p.add j) = some u) := fun j u hu => by
        have h0 := hs0 j u hu
        exact (hB1.cell (cell_lt h0)).trans h0
      clear hs0 HC
      have k0 : (k : Int) < 8 := by omega
      have k1 : (0 : Int) ≤ (k : Int) := by omega
      have k2 : (k : Int).toNat = k := Int.toNat_natCast k
      obtain ⟨bs, off, fused, fuse, writes⟩ := d
      obtain rfl : off = false := hoff
      cases fused with
      | true =>
        rw [if_pos rfl] at HWR
        by_cases hf0 : fuse = 0
        · rw [if_pos hf0] at HWR
          subst hf0
          have hwr := HWR.out
          injection hwr with e1 e2
          subst e1 e2
          go_wp2_with fail
          go_ret
          exact ⟨rfl, (h1.off true).fused false, but_set (but_set hg1 (hlt) _ _) (hlt) _ _⟩
        · rw [if_neg hf0] at HWR
          have hwr := HWR.out
          injection hwr with e1 e2
          subst e1 e2
          have hf1 : ¬ (fuse : Int) = 0 := by omega
          have hf2 : (fuse : Int) - 1 = ((fuse - 1 : Nat) : Int) := by omega
          clear hf0
          have hwn : (writes : Int) ≤ 4611686018427387904 := by have : writes ≤ 4611686018427387904 := hw; omega
          have hsrc : Hid (∀ j u, (bC l)[j]? = some u → (w1.setCell ⟨b, 258, none⟩ (.int .i64 ((fuse - 1 : Nat) : Int))).cell? (p.add j) = some u) := fun j u hu => by
            rw [cell_set_other (by rw [show (p.add j).block = p.block from by unfold Addr.add; split <;> rfl]; exact hpb)]
            exact hsw.out j u hu
          have h2 := Lib.hid (h1.fuse (fuse - 1))
          have hg2 := Lib.hid (but_set hg1 hlt 258 (.int .i64 ((fuse - 1 : Nat) : Int)))
          go_wp2_with (refine wpList_copy_own rfl _ _ 110 110 rfl 5 Tryd.underlying110 (by kernel_rfl) b (k * 32) 32 32 p 32 c rfl rfl (dkC _) 83 h2.out.1 (bC l) (by rw [bC_len, HL.out]; rfl) hsrc.out (by rw [bC_len, HL.out, dkC_size h2.out.2]; omega) (bC_one l) ?_; have h3 := h2.out.copy hk HL.out; have hg3 := but_setRow hg2.out ((dkC ⟨bs, false, true, fuse - 1, writes⟩).toList.take (k * 32) ++ (bC l ++ (dkC ⟨bs, false, true, fuse - 1, writes⟩).toList.drop (k * 32 + (bC l).length))).toArray; obtain ⟨W3, hW3⟩ : ∃ W3, (w1.setCell ⟨b, 258, none⟩ (.int .i64 ((fuse - 1 : Nat) : Int))).setRow b ((dkC ⟨bs, false, true, fuse - 1, writes⟩).toList.take (k * 32) ++ (bC l ++ (dkC ⟨bs, false, true, fuse - 1, writes⟩).toList.drop (k * 32 + (bC l).length))).toArray = W3 := ⟨_, rfl⟩; rw [hW3] at h3 hg3 ⊢; clear hW3 c0 c1 c2 c3 z0 z1 z2 z3; obtain ⟨c0, c1, c2, c3⟩ := h3.cells; obtain ⟨z0, z1, z2, z3⟩ := h3.free)
          go_ret
          exact ⟨rfl, h3.writes (writes + 1), but_set hg3 hlt _ _⟩
      | false =>
        rw [if_neg (by simp)] at HWR
        have hwr := HWR.out
        injection hwr with e1 e2
        subst e1 e2
        have h2 := Lib.hid h1
        have hg2 := Lib.hid hg1
        have hsrc := hsw
        have hwn : (writes : Int) ≤ 4611686018427387904 := by have : writes ≤ 4611686018427387904 := hw; omega
        go_wp2_with (refine wpList_copy_own rfl _ _ 110 110 rfl 5 Tryd.underlying110 (by kernel_rfl) b (k * 32) 32 32 p 32 c rfl rfl (dkC _) 83 h2.out.1 (bC l) (by rw [bC_len, HL.out]; rfl) hsrc.out (by rw [bC_len, HL.out, dkC_size h2.out.2]; omega) (bC_one l) ?_; have h3 := h2.out.copy hk HL.out; have hg3 := but_setRow hg2.out ((dkC ⟨bs, false, false, fuse, writes⟩).toList.take (k * 32) ++ (bC l ++ (dkC ⟨bs, false, false, fuse, writes⟩).toList.drop (k * 32 + (bC l).length))).toArray; obtain ⟨W3, hW3⟩ : ∃ W3, w1.setRow b ((dkC ⟨bs, false, false, fuse, writes⟩).toList.take (k * 32) ++ (bC l ++ (dkC ⟨bs, false, false, fuse, writes⟩).toList.drop (k * 32 + (bC l).length))).toArray = W3 := ⟨_, rfl⟩; rw [hW3] at h3 hg3 ⊢; clear hW3 c0 c1 c2 c3 z0 z1 z2 z3; obtain ⟨c0, c1, c2, c3⟩ := h3.cells; obtain ⟨z0, z1, z2, z3⟩ := h3.free)
        go_ret
        exact ⟨rfl, h3.writes (writes + 1), but_set hg3 hlt _ _⟩
    · rw [if_neg hl32] at HWR
      have hne : ((l.length : Int) != 32) = true := by simp; omega
      clear hl32
      have hwr := HWR.out
      injection hwr with e1 e2
      subst e1 e2
      go_wp2_with fail
      go_ret
      exact ⟨rfl, h1, hg1⟩
  · have hne : (mayV d s != 0) = true := by simpa using hm
    rw [if_neg hm] at HWR
    have hwr := HWR.out
    injection hwr with e1 e2
    subst e1 e2
    clear hm HM HWR
    go_wp2_with fail
    go_ret
    exact ⟨rfl, h1, hg1⟩
end Go.Proofs.YtppmiggkknhdkaaDoor
namespace Go.Proofs.YtppmiggkknhdkaaDoor
set_option linter.unusedVariables false
set_option linter.unusedSimpArgs false
open Go.RowKit

theorem DkAt.range {W : World} {b : Nat} {d : Dk} (h : DkAt W b d) : W.rangeAt b 0 (bC d.bs) := by
  intro j v hv
  rw [Nat.zero_add, blk_cell h.1]
  unfold dkC
  rw [List.getElem?_toArray, List.getElem?_append_left (List.getElem?_eq_some_iff.1 hv).1]
  exact hv
theorem image_info : (Tryd.prog.info? 81).map (·.size) = some 256 := by kernel_rfl
theorem sector_info : (Tryd.prog.info? 80).map (·.size) = some 32 := by kernel_rfl
theorem run_index_sector (l : List Nat) (hl : l.length = 256) (k : Nat) (hk : k < 8) (w : World) :
    (Instr.index 81 (.agg (bC l).toArray) (.int .i64 (k : Int))).run Tryd.prog w = .ok (.agg (bC ((l.drop (k * 32)).take 32)).toArray) w := by
  have h1 : (0 : Int) ≤ (k : Int) ∧ (k : Int) < ((8 : Nat) : Int) := by omega
  have hi := sector_info
  cases hq : Tryd.prog.info? 80 with
  | none => rw [hq] at hi; cases hi
  | some i =>
    have hs : i.size = 32 := by simpa [hq] using hi
    simp [Instr.index, run_underlying Tryd.underlying81, asIntOf, h1, go_sem, hk, bC, List.map_take, List.map_drop, sizeOf, typeInfo, hq, hs, isAgg, run_underlying Tryd.underlying80]
/-- A new block that is written whole. -/
theorem new_row (wr : World) (zz : Array Value) (t : TypeId) (vs : List Value) (hz : zz.size = vs.length) :
    ((wr.alloc (.cells zz t)).setCells wr.heap.size 0 vs.toArray.toList).heap[wr.heap.size]? = some (.cells vs.toArray t (0, 0)) ∧ Below wr.heap.size wr ((wr.alloc (.cells zz t)).setCells wr.heap.size 0 vs.toArray.toList) :=
  ⟨setCells_whole (blk_new wr _) vs.toArray (by simp [hz]), setCells_below _ _ _ ((Below.refl _ wr).alloc (Nat.le_refl _) _) (Nat.le_refl _)⟩
theorem image_nil (w : World) : Calls Tryd.prog 69 #[.pointer none] w fun e w' => e = .returned (.slice none 0 0) ∧ Below w.heap.size w w' := by
  go_enter Tryd.func69, Tryd.ntmps69
  go_wp2_with fail
  go_ret
  exact ⟨rfl, Below.refl _ _⟩
set_option maxRecDepth 100000 in
set_option maxHeartbeats 1000000 in
theorem image_any (b : Nat) (d : Dk) (w : World) (h : DkAt w b d) :
    Calls Tryd.prog 69 #[.pointer (some ⟨b, 0, none⟩)] w fun e w' => ∃ v, e = .returned v ∧ w'.ownsRow w.heap.size 5 1 v 256 (bC d.bs) ∧ Below w.heap.size w w' := by
  obtain ⟨i0, hi, hz0, hz1, hz2⟩ := info_parts Tryd.infoByte
  have hD := Lib.hid h
  clear h
  go_enter Tryd.func69, Tryd.ntmps69
  go_wp2_with (first
    | (refine wpList_make_own _ rfl _ _ 110 rfl w.heap.size 5 i0 (.int .u8 0) 1 Tryd.underlying110 hi hz0 hz1 _ _ _ 256 rfl rfl rfl (by rw [hz2]; decide) (by decide) (Nat.le_refl _) ?_; intro w1 hown hg; have hb1 : Below w.heap.size w w1 := (Below.refl _ w).grown hg (Nat.le_refl _) (fun j h => by cases h); have hD1 := Lib.hid (hD.out.below hb1))
    | (refine wpList_load_mid rfl _ _ rfl b 0 rfl (bC d.bs) _ hD1.out.range Tryd.underlying81 rfl (image_info.trans (by rw [bC_len, hD1.out.2])) ?_))
  go_loopw [3, 13] (fun v i wr => ∃ k : Nat, i = .int .i64 k ∧ k ≤ 8 ∧ wr.ownsRow w.heap.size 5 1 v (32 * k) (bC (d.bs.take (32 * k))) ∧ Below w.heap.size w wr) (fun _ i _ => 8 - (intOf i).toNat)
  case atStart => exact ⟨0, rfl, by omega, hown, hb1⟩
  case round =>
    obtain ⟨k, rfl, hk, hown, hbl⟩ := hrel
    clear hb1 hD1 hg
    by_cases hlt : k < 8
    · have i1 : (k : Int) < 8 := by omega
      have i2 : (0 : Int) ≤ (k : Int) := by omega
      have i3 : (k : Int).toNat = k := Int.toNat_natCast k
      have hidx := run_index_sector d.bs hD.out.2 k hlt
      obtain ⟨L, hL⟩ : ∃ L, (d.bs.drop (k * 32)).take 32 = L := ⟨_, rfl⟩
      have hLl : L.length = 32 := by rw [← hL, List.length_take, List.length_drop, hD.out.2]; omega
      have hLa : d.bs.take (32 * k) ++ L = d.bs.take (32 * (k + 1)) := by
        rw [← hL, Nat.mul_comm k 32, show 32 * (k + 1) = 32 * k + 32 from by omega, List.take_add]
      rw [hL] at hidx
      have HL := Lib.hid hLl
      have HA := Lib.hid hLa
      clear hL hLl hLa
      go_wp2_with (first
        | (refine wpList_store_mid rfl _ _ _ rfl wr.heap.size 0 (bC L).toArray rfl rfl (there_blk (blk_new wr _) 0 _ (by simp [bC_len, HL.out])) (sector_info.trans (by simp [bC_len, HL.out])) (all_oneCell_toArray (bC_one L)) ?_; generalize hW3 : World.setCells (World.alloc wr _) _ _ _ = W3; have n3 : W3.heap[wr.heap.size]? = some (.cells (bC L).toArray 80 (0, 0)) ∧ Below wr.heap.size wr W3 := (by rw [← hW3]; exact new_row wr _ _ (bC L) (by rw [bC_len, HL.out]; rfl)); clear hW3; have hb3 := below_then hbl n3.2; have hown3 := ownsRow_below hown n3.2)
        | (at_builtin; (refine wpList_append_own _ rfl _ _ 110 rfl w.heap.size 5 i0 (.int .u8 0) 1 1 Tryd.underlying110 hi hz0 hz1 hz2 rfl (by decide) _ _ _ rfl hown3 ⟨wr.heap.size, 0, none⟩ 32 32 (bC L) rfl ?a1 ?a2 ?a3 ?a4 ?a5 ?a6 ?_)))
      case a1 => rw [bC_len, HL.out]
      case a2 => intro j u hu; rw [Addr.add_mid, Nat.zero_add, blk_cell n3.1]; simpa using hu
      case a3 => exact bC_one L
      case a4 => unfold maxLen; omega
      case a5 => omega
      case a6 => exact hb3.size
      intro v' w4 hown4 hg4 hv4
      have hb4 := hb3.grown hg4 hb3.size (fun j hj => (hown3.lt _ hj).1)
      rw [show bC (d.bs.take (32 * k)) ++ bC L = bC (d.bs.take (32 * (k + 1))) from by rw [← HA.out]; unfold bC; rw [List.map_append], show 32 * k + 32 = 32 * (k + 1) from by omega] at hown4
      clear hown hown3 hg4 n3 hb3 hbl
      go_wp2
      go_roundw
      case rel => exact ⟨k + 1, by go_num, by omega, hown4, hb4⟩
      case measure => simp [intOf]; omega
    · obtain rfl : k = 8 := by omega
      rw [List.take_of_length_le (by rw [hD.out.2]; omega)] at hown
      go_wp2
      go_ret
      exact ⟨_, rfl, hown, hbl⟩
end Go.Proofs.YtppmiggkknhdkaaDoor
namespace Go.Proofs.YtppmiggkknhdkaaDoor
set_option linter.unusedVariables false
set_option linter.unusedSimpArgs false
open Go.RowKit

set_option maxRecDepth 100000 in
theorem clone_any (p : Addr) (n c : Nat) (l : List Nat) (w : World) (hl : l.length = n) (h0 : n ≤ 1000000) (hc : ∀ j u, (bC l)[j]? = some u → w.cell? (p.add j) = some u ∧ (p.add j).block < w.heap.size) :
    Calls Tryd.prog 70 #[.slice (some p) n c] w fun e w' => ∃ v, e = .returned v ∧ w'.ownsRow w.heap.size 5 1 v n (bC l) ∧ Below w.heap.size w w' := by
  obtain ⟨i0, hi, hz0, hz1, hz2⟩ := info_parts Tryd.infoByte
  have HL := Lib.hid hl
  have HC := Lib.hid hc
  clear hl hc
  go_enter Tryd.func70, Tryd.ntmps70
  have hnil : ∀ w, (binOp .eql 110 (.slice (some p) n c) (.slice none 0 0)).run Tryd.prog w = .ok (.bool false) w := fun w => by kernel_rfl
  go_wp2_with (at_builtin; refine wpList_append_own _ rfl _ _ 110 rfl w.heap.size 5 i0 (.int .u8 0) 1 1 Tryd.underlying110 hi hz0 hz1 hz2 rfl (by decide) _ 0 [] rfl (World.ownsRow_lit w #[] 0 (Nat.le_refl _) (by unfold maxLen; omega) rfl) p n c (bC l) rfl ?a1 ?a2 ?a3 ?a4 ?a5 ?a6 ?_)
  case a1 => rw [bC_len, HL.out]; omega
  case a2 => intro j u hu; rw [World.cell?_alloc_old _ _ _ (Nat.ne_of_lt (HC.out j u hu).2)]; exact (HC.out j u hu).1
  case a3 => exact bC_one l
  case a4 => unfold maxLen; omega
  case a5 => omega
  case a6 => simp
  intro v' w4 hown4 hg4 hv4
  go_wp2
  go_ret
  exact ⟨_, rfl, hown4, ((Below.refl _ w).alloc (Nat.le_refl _) _).grown hg4 (by simp) (fun j hj => by cases hj; exact Nat.le_refl _)⟩
set_option maxRecDepth 100000 in
set_option maxHeartbeats 1000000 in
theorem read_any (b : Nat) (d : Dk) (s : Int) (w : World) (h : DkAt w b d) :
    Calls Tryd.prog 55 #[.pointer (some ⟨b, 0, none⟩), .int .i64 s] w fun e w' => ∃ v, e = .returned (.tuple #[v, .int .i64 (mayV d s)]) ∧ (mayV d s ≠ 0 → v = .slice none 0 0) ∧ (mayV d s = 0 → w'.ownsRow w.heap.size 5 1 v 32 (bC ((d.bs.drop (s.toNat * 32)).take 32))) ∧ Below w.heap.size w w' := by
  have HM := Lib.hid (may_any b d s w h)
  go_enter Tryd.func55, Tryd.ntmps55
  go_wp2_with fail
  refine HM.out.mono ?_
  rintro e w1 ⟨rfl, hB1⟩
  have h1 := h.below hB1
  by_cases hm : mayV d s = 0
  · obtain ⟨k, rfl, hk, hoff⟩ := mayV_nat hm
    rw [hm]
    have k0 : (k : Int) < 8 := by omega
    have k1 : (0 : Int) ≤ (k : Int) := by omega
    have k2 : (k : Int).toNat = k := Int.toNat_natCast k
    have HMV := Lib.hid hm
    clear hm HM
    go_wp2_with fail
    refine (image_any b d _ h1).mono ?_
    rintro e w2 ⟨v, rfl, hown, hB2⟩
    obtain ⟨g, cap, rfl, hg1, hg2⟩ := ownsRow_pos hown (by omega)
    have hcap : 256 ≤ cap := by
      rcases hown.2 with ⟨h', _⟩ | ⟨g', cap', cur, h', _, _, hnc, _⟩
      · simp at h'
      · injection h' with _ _ h'; omega
    have q1 : ((k : Int) + 1) * 32 ≤ (cap : Int) := by omega
    have q2 : (0 : Int) ≤ ((k : Int) + 1) * 32 := by omega
    have q3 : (0 : Int) ≤ (k : Int) * 32 := by omega
    have q4 : (k : Int) * 32 ≤ ((k : Int) + 1) * 32 := by omega
    have q5 : (k + 1) * 32 - k * 32 = 32 := by omega
    have q6 : ¬ (k + 1) * 32 = k * 32 := by omega
    go_wp2_with fail
    refine (clone_any _ 32 32 ((d.bs.drop (k * 32)).take 32) w2 (by rw [List.length_take, List.length_drop, h1.2]; omega) (by omega) ?_).mono ?_
    · intro j u hu
      unfold bC at hu
      rw [List.map_take, List.map_drop, List.getElem?_take] at hu
      rw [Addr.add_mid]
      refine ⟨?_, hg2⟩
      split at hu
      · rw [List.getElem?_drop] at hu
        rw [hown.cellAt _ (by omega)]
        exact hu
      · cases hu
    · rintro e w3 ⟨v3, rfl, hown3, hB3⟩
      go_wp2_with fail
      go_ret2
      exact ⟨_, by rw [HMV.out]; rfl, fun h => absurd HMV.out h, fun _ => ownsRow_base hown3 (Nat.le_trans hB1.size hB2.size), below_then (below_then hB1 hB2) hB3⟩
  · have hne : (mayV d s != 0) = true := by simpa using hm
    have HMV := Lib.hid hm
    clear hm HM
    go_wp2_with fail
    go_ret2
    exact ⟨_, rfl, fun _ => rfl, fun h => absurd h HMV.out, hB1⟩
end Go.Proofs.YtppmiggkknhdkaaDoor
namespace Go.Proofs.YtppmiggkknhdkaaDoor
set_option linter.unusedVariables false
set_option linter.unusedSimpArgs false
open Go.RowKit

theorem bytes_row {W : World} {B g n c b : Nat} {l : List Nat} (h : W.ownsRow B 5 1 (.slice (some ⟨g, 0, none⟩) n c) n (bC l)) (hl : l.length = n) (hg : g ≠ b) : Bytes W b (.slice (some ⟨g, 0, none⟩) n c) l := by
  subst hl
  refine ⟨_, _, rfl, fun j x hx => ⟨_, rfl, hg, ?_⟩⟩
  have hj := (List.getElem?_eq_some_iff.1 hx).1
  rw [Addr.add_mid, Nat.zero_add, h.cellAt j (by omega)]
  unfold bC
  rw [List.getElem?_map, hx]; rfl
def aL : List Nat := (List.replicate 32 0).set 5 9
def aD : Dk := ⟨putS (List.replicate 256 0) 1 aL, false, false, 0, 1⟩
theorem aD_is : wrV Dk.new 1 aL = (aD, 0) := by
  unfold wrV
  rw [if_pos (by rfl), if_pos (by decide +kernel), if_neg (by show ¬ false = true; decide)]
  rfl
theorem aD_row : (aD.bs.drop (Int.toNat 1 * 32)).take 32 = aL := by decide +kernel
theorem aL_five : (bC aL)[5]? = some (.int .u8 9) := by rfl
theorem aL_set : (bC (List.replicate 32 0)).set 5 (.int .u8 9) = bC aL := by rfl
end Go.Proofs.YtppmiggkknhdkaaDoor
namespace Go.Proofs.YtppmiggkknhdkaaDoor
set_option linter.unusedVariables false
set_option linter.unusedSimpArgs false
open Go.RowKit

theorem may_nil (s : Int) (w : World) : Calls Tryd.prog 68 #[.pointer none, .int .i64 s] w fun e w' => e = .returned (.int .i64 100) ∧ Below w.heap.size w w' := by
  have HO := Lib.hid (on_nil w)
  go_enter Tryd.func68, Tryd.ntmps68
  go_wp2_with (go_at_call 64; refine HO.out.mono ?_; rintro e w1 ⟨rfl, hB1⟩)
  go_ret
  exact ⟨rfl, hB1⟩
theorem write_nil (s : Int) (v : Value) (w : World) : Calls Tryd.prog 67 #[.pointer none, .int .i64 s, v] w fun e w' => e = .returned (.int .i64 100) ∧ Below w.heap.size w w' := by
  have HO := Lib.hid (may_nil s w)
  go_enter Tryd.func67, Tryd.ntmps67
  go_wp2_with (go_at_call 68; refine HO.out.mono ?_; rintro e w1 ⟨rfl, hB1⟩)
  go_ret
  exact ⟨rfl, hB1⟩
theorem read_nil (s : Int) (w : World) : Calls Tryd.prog 55 #[.pointer none, .int .i64 s] w fun e w' => e = .returned (.tuple #[.slice none 0 0, .int .i64 100]) ∧ Below w.heap.size w w' := by
  have HO := Lib.hid (may_nil s w)
  go_enter Tryd.func55, Tryd.ntmps55
  go_wp2_with (go_at_call 68; refine HO.out.mono ?_; rintro e w1 ⟨rfl, hB1⟩)
  go_ret2
  exact ⟨rfl, hB1⟩
end Go.Proofs.YtppmiggkknhdkaaDoor
namespace Go.Proofs.YtppmiggkknhdkaaDoor
set_option linter.unusedVariables false

def rowS (bs : List Nat) (s : Nat) : List Nat := (bs.drop (s * 32)).take 32
theorem rowS_len {bs : List Nat} (h : bs.length = 256) {s : Nat} (hs : s < 8) : (rowS bs s).length = 32 := by
  unfold rowS; rw [List.length_take, List.length_drop]; omega
theorem putS_get {bs l : List Nat} {k : Nat} (hb : bs.length = 256) (hk : k < 8) (hl : l.length = 32) (j : Nat) :
    (putS bs k l)[j]? = if j < 32 * k then bs[j]? else if j < 32 * k + 32 then l[j - 32 * k]? else bs[j]? := by
  unfold putS
  have h1 : (bs.take (32 * k)).length = 32 * k := by rw [List.length_take]; omega
  rw [List.getElem?_append, h1]
  by_cases c : j < 32 * k
  · rw [if_pos c, if_pos c, List.getElem?_take_of_lt c]
  · rw [if_neg c, if_neg c, List.getElem?_append, hl]
    by_cases c2 : j < 32 * k + 32
    · rw [if_pos (by omega), if_pos c2]
    · rw [if_neg (by omega), if_neg c2, List.getElem?_drop]; congr 1; omega
theorem putS_row {bs l : List Nat} {k : Nat} (hb : bs.length = 256) (hk : k < 8) (s : Nat) (hs : s < 8) (hl : l.length = 32) :
    ((putS bs k l).drop (s * 32)).take 32 = if s = k then l else (bs.drop (s * 32)).take 32 := by
  apply List.ext_getElem?
  intro j
  by_cases hj : j < 32
  · rw [List.getElem?_take_of_lt hj, List.getElem?_drop, putS_get hb hk hl]
    by_cases c : s = k
    · subst c
      rw [if_neg (by omega), if_pos (by omega), if_pos rfl]; congr 1; omega
    · rw [if_neg c, List.getElem?_take_of_lt hj, List.getElem?_drop]
      by_cases c2 : s < k
      · rw [if_pos (by omega)]
      · rw [if_neg (by omega), if_neg (by omega)]
  · rw [List.getElem?_eq_none (by rw [List.length_take]; omega)]
    symm
    apply List.getElem?_eq_none
    split
    · omega
    · rw [List.length_take]; omega
theorem wrV_cases (d : Dk) (s : Int) (l : List Nat) (hl : l.length = 32) :
    ((wrV d s l).2 = 0 ∧ ∃ k : Nat, s = k ∧ k < 8 ∧ (wrV d s l).1.bs = putS d.bs k l ∧ (wrV d s l).1.writes = d.writes + 1 ∧ (wrV d s l).1.fuse ≤ d.fuse ∧ (wrV d s l).1.off = d.off ∧ d.off = false) ∨
    ((wrV d s l).2 ≠ 0 ∧ (wrV d s l).1.bs = d.bs ∧ (wrV d s l).1.writes = d.writes ∧ (wrV d s l).1.fuse = d.fuse) := by
  unfold wrV
  by_cases hm : mayV d s = 0
  · obtain ⟨k, rfl, hk, ho⟩ := mayV_nat hm
    rw [if_pos hm, if_pos hl]
    cases hf : d.fused with
    | true =>
      rw [if_pos rfl]
      by_cases h0 : d.fuse = 0
      · rw [if_pos h0]; exact .inr ⟨by show (100 : Int) ≠ 0; decide, rfl, rfl, rfl⟩
      · rw [if_neg h0]; exact .inl ⟨rfl, k, rfl, hk, by rw [Int.toNat_natCast], rfl, by show d.fuse - 1 ≤ d.fuse; omega, rfl, ho⟩
    | false =>
      rw [if_neg (by decide)]; exact .inl ⟨rfl, k, rfl, hk, by rw [Int.toNat_natCast], rfl, Nat.le_refl _, rfl, ho⟩
  · rw [if_neg hm]; exact .inr ⟨hm, rfl, rfl, rfl⟩
theorem wrV_len {d : Dk} (h : d.bs.length = 256) (s : Int) (l : List Nat) (hl : l.length = 32) : (wrV d s l).1.bs.length = 256 := by
  rcases wrV_cases d s l hl with ⟨_, k, _, hk, hb, _⟩ | ⟨_, hb, _⟩
  · rw [hb]; exact putS_len h hk hl
  · rw [hb]; exact h

/-- Behind n writes of whole sectors: the last one of each place. -/
structure WhD (d : Dk) (last : List Nat) (n : Nat) : Prop where
  len : d.bs.length = 256
  many : last.length = 8
  rows : ∀ s v : Nat, last[s]? = some v → (d.bs.drop (s * 32)).take 32 = if v = 0 then List.replicate 32 0 else secL (v : Int)
  le : d.writes ≤ n
  fz : d.fuse ≤ 9223372036854775807
  small : ∀ s v : Nat, last[s]? = some v → v ≤ n
theorem whD_step {d : Dk} {last : List Nat} {n : Nat} (h : WhD d last n) (s : Nat) (hs : s < 8) :
    ((wrV d (s : Int) (secL ((n : Int) + 1))).2 = 0 ∧ WhD (wrV d (s : Int) (secL ((n : Int) + 1))).1 (last.set s (n + 1)) (n + 1)) ∨
    ((wrV d (s : Int) (secL ((n : Int) + 1))).2 ≠ 0 ∧ WhD (wrV d (s : Int) (secL ((n : Int) + 1))).1 last (n + 1)) := by
  have hl : (secL ((n : Int) + 1)).length = 32 := by unfold secL; simp
  obtain ⟨a1, a2, a3, a4, a5, a6⟩ := h
  rcases wrV_cases d (s : Int) (secL ((n : Int) + 1)) hl with ⟨h0, k, hk, hk8, hb, hw, hf, _⟩ | ⟨h0, hb, hw, hf⟩
  · obtain rfl : s = k := by omega
    refine .inl ⟨h0, ⟨by rw [hb]; exact putS_len a1 hk8 hl, by rw [List.length_set]; exact a2, fun j v hv => ?_, by omega, by omega, fun j v hv => ?_⟩⟩
    · have hj : j < 8 := by have := (List.getElem?_eq_some_iff.1 hv).1; rw [List.length_set] at this; omega
      rw [hb, putS_row a1 hk8 j hj hl]
      rw [List.getElem?_set] at hv
      by_cases c : s = j
      · subst c
        rw [if_pos rfl, if_pos (by omega)] at hv
        cases hv
        rw [if_pos rfl, if_neg (by omega)]; rfl
      · rw [if_neg c] at hv
        rw [if_neg (fun e => c e.symm)]
        exact a3 j v hv
    · rw [List.getElem?_set] at hv
      split at hv
      · split at hv
        · cases hv; omega
        · cases hv
      · have := a6 j v hv; omega
  · exact .inr ⟨h0, ⟨by rw [hb]; exact a1, a2, fun j v hv => by rw [hb]; exact a3 j v hv, by omega, by omega, fun j v hv => by have := a6 j v hv; omega⟩⟩
end Go.Proofs.YtppmiggkknhdkaaDoor
namespace Go.Proofs.YtppmiggkknhdkaaDoor
set_option linter.unusedVariables false

/-- A number in n bytes, the highest one first. -/
def be (n x : Nat) : List Nat := (List.range n).map fun i => x / 256 ^ (n - 1 - i) % 256
theorem be_len (n x : Nat) : (be n x).length = n := by simp [be]
theorem be_succ (n x : Nat) : be (n + 1) x = (x / 256 ^ n % 256) :: be n x := by
  unfold be
  rw [List.range_succ_eq_map, List.map_cons, List.map_map]
  congr 1
  refine List.map_congr_left fun i hi => ?_
  show x / 256 ^ (n + 1 - 1 - (i + 1)) % 256 = _
  rw [show n + 1 - 1 - (i + 1) = n - 1 - i from by omega]
theorem be_lt (n x : Nat) : ∀ c ∈ be n x, c < 256 := by
  intro c hc
  obtain ⟨i, _, rfl⟩ := List.mem_map.1 hc
  exact Nat.mod_lt _ (by decide)
/-- What the bytes tell; what is too great is told as one number that is. -/
def takeF : Nat → List Nat → Nat
  | x, [] => x
  | x, c :: l => if 281474976710656 ≤ x then 72057594037927936 else takeF (x * 256 + c) l
theorem takeF_be : ∀ (n x y : Nat), x * 256 ^ n + y % 256 ^ n ≤ 281474976710656 → takeF x (be n y) = x * 256 ^ n + y % 256 ^ n
  | 0, x, y, _ => by show x = _; simp [Nat.mod_one]
  | n + 1, x, y, h => by
    have hp : 0 < 256 ^ n := Nat.pow_pos (by decide)
    have hpe : 256 ^ (n + 1) = 256 ^ n * 256 := Nat.pow_succ 256 n
    have hm : y % 256 ^ (n + 1) = 256 ^ n * (y / 256 ^ n % 256) + y % 256 ^ n := by
      rw [hpe, Nat.mod_mul]; omega
    have h2 : (x * 256 + y / 256 ^ n % 256) * 256 ^ n + y % 256 ^ n = x * 256 ^ (n + 1) + y % 256 ^ (n + 1) := by
      rw [hm, hpe, Nat.add_mul, Nat.mul_assoc, Nat.mul_comm 256 (256 ^ n), Nat.mul_comm (y / 256 ^ n % 256) (256 ^ n)]; omega
    rw [be_succ]
    show (if 281474976710656 ≤ x then 72057594037927936 else takeF (x * 256 + y / 256 ^ n % 256) (be n y)) = _
    have hx : ¬ 281474976710656 ≤ x := by
      intro hx
      have h3 : x * 256 ≤ x * 256 ^ (n + 1) := Nat.mul_le_mul_left x (by rw [hpe]; exact Nat.le_mul_of_pos_left _ hp)
      omega
    rw [if_neg hx, takeF_be n _ y (by rw [h2]; exact h), h2]
/-- A record that may be, and its number. -/
structure Rc where
  life : Nat
  round : Nat
  tag : Nat
  seq : Nat
def Rc.may (r : Rc) : Prop := 1 ≤ r.life ∧ r.life ≤ 1073741824 ∧ r.round ≤ 1099511627775 ∧ r.tag ≤ 1048576 ∧ 1 ≤ r.seq ∧ r.seq ≤ 1099511627776
instance (r : Rc) : Decidable r.may := by unfold Rc.may; infer_instance
def encL (r : Rc) : List Nat := [101, 97, 114, 49] ++ (be 8 r.seq ++ (be 4 r.life ++ (be 5 r.round ++ (List.replicate 11 0 ++ ([101, 97, 114, 50] ++ (be 8 r.seq ++ (be 3 r.tag ++ List.replicate 17 0)))))))
theorem encL_len (r : Rc) : (encL r).length = 64 := by simp [encL, be_len]
theorem encL_lt (r : Rc) : ∀ c ∈ encL r, c < 256 := by
  intro c hc
  unfold encL at hc
  simp only [List.mem_append] at hc
  rcases hc with h | h | h | h | h | h | h | h | h
  · have h1 : ∀ c ∈ [101, 97, 114, 49], c < 256 := by decide
    exact h1 c h
  · exact be_lt _ _ c h
  · exact be_lt _ _ c h
  · exact be_lt _ _ c h
  · rw [(List.mem_replicate.1 h).2]; decide
  · have h1 : ∀ c ∈ [101, 97, 114, 50], c < 256 := by decide
    exact h1 c h
  · exact be_lt _ _ c h
  · exact be_lt _ _ c h
  · rw [(List.mem_replicate.1 h).2]; decide
/-- The record that the bytes would be of. -/
def rcOf (l : List Nat) : Rc := ⟨takeF 0 ((l.drop 12).take 4), takeF 0 ((l.drop 16).take 5), takeF 0 ((l.drop 44).take 3), takeF 0 ((l.drop 4).take 8)⟩
def decL (l : List Nat) : Option Rc := if (rcOf l).may ∧ encL (rcOf l) = l then some (rcOf l) else none
theorem take_be {n x : Nat} (h : x < 256 ^ n) (h2 : x ≤ 281474976710656) : takeF 0 (be n x) = x := by
  rw [takeF_be n 0 x (by rw [Nat.mod_eq_of_lt h]; omega), Nat.mod_eq_of_lt h]; omega
theorem drop_app {α : Type} {a b : List α} {n : Nat} (h : a.length = n) (k : Nat) : (a ++ b).drop (n + k) = b.drop k := by
  rw [List.drop_append, List.drop_of_length_le (by omega), List.nil_append, h]; congr 1; omega
theorem take_app {α : Type} {a b : List α} {n : Nat} (h : a.length = n) : (a ++ b).take n = a := by
  rw [← h]; exact List.take_left
theorem rcOf_enc {r : Rc} (h : r.may) : rcOf (encL r) = r := by
  obtain ⟨h1, h2, h3, h4, h5, h6⟩ := h
  obtain ⟨life, round, tag, seq⟩ := r
  simp only at h1 h2 h3 h4 h5 h6
  have e1 : (encL ⟨life, round, tag, seq⟩).drop 4 = be 8 seq ++ (be 4 life ++ (be 5 round ++ (List.replicate 11 0 ++ ([101, 97, 114, 50] ++ (be 8 seq ++ (be 3 tag ++ List.replicate 17 0)))))) := drop_app (n := 4) rfl 0
  have e2 : (encL ⟨life, round, tag, seq⟩).drop 12 = be 4 life ++ (be 5 round ++ (List.replicate 11 0 ++ ([101, 97, 114, 50] ++ (be 8 seq ++ (be 3 tag ++ List.replicate 17 0))))) := by
    rw [show (12 : Nat) = 4 + 8 from rfl, ← List.drop_drop, e1]; exact drop_app (n := 8) (be_len 8 _) 0
  have e3 : (encL ⟨life, round, tag, seq⟩).drop 16 = be 5 round ++ (List.replicate 11 0 ++ ([101, 97, 114, 50] ++ (be 8 seq ++ (be 3 tag ++ List.replicate 17 0)))) := by
    rw [show (16 : Nat) = 12 + 4 from rfl, ← List.drop_drop, e2]; exact drop_app (n := 4) (be_len 4 _) 0
  have e4 : (encL ⟨life, round, tag, seq⟩).drop 44 = be 3 tag ++ List.replicate 17 0 := by
    rw [show (44 : Nat) = 16 + 28 from rfl, ← List.drop_drop, e3, show (28 : Nat) = 5 + 23 from rfl, drop_app (n := 5) (be_len 5 _) 23, show (23 : Nat) = 11 + 12 from rfl, drop_app (n := 11) (by simp) 12, show (12 : Nat) = 4 + 8 from rfl, drop_app (n := 4) rfl 8]
    exact drop_app (n := 8) (be_len 8 _) 0
  unfold rcOf
  rw [e1, e2, e3, e4, take_app (be_len 8 _), take_app (be_len 4 _), take_app (be_len 5 _), take_app (be_len 3 _),
    take_be (n := 4) (by omega) (by omega), take_be (n := 5) (by omega) (by omega), take_be (n := 3) (by omega) (by omega), take_be (n := 8) (by omega) (by omega)]
theorem decL_enc {r : Rc} (h : r.may) : decL (encL r) = some r := by
  unfold decL
  rw [rcOf_enc h, if_pos ⟨h, rfl⟩]
theorem decL_some {l : List Nat} {r : Rc} (h : decL l = some r) : r.may ∧ l = encL r := by
  unfold decL at h
  split at h
  · rename_i hc
    cases h
    exact ⟨hc.1, hc.2.symm⟩
  · cases h
end Go.Proofs.YtppmiggkknhdkaaDoor
namespace Go.Proofs.YtppmiggkknhdkaaDoor
set_option linter.unusedVariables false

def slotB (bs : List Nat) (i : Nat) : List Nat := rowS bs (2 * i) ++ rowS bs (2 * i + 1)
def Rc.zero : Rc := ⟨0, 0, 0, 0⟩
def pick (b : Rc × Int) (i : Int) (o : Option Rc) : Rc × Int := match o with | some r => if b.1.seq < r.seq then (r, i) else b | none => b
def bestL (bs : List Nat) : Rc × Int := pick (pick (Rc.zero, -1) 0 (decL (slotB bs 0))) 1 (decL (slotB bs 1))
def mayR (a b c : Int) : Prop := 1 ≤ a ∧ a ≤ 1073741824 ∧ 0 ≤ b ∧ b ≤ 1099511627775 ∧ 0 ≤ c ∧ c ≤ 1048576
instance (a b c : Int) : Decidable (mayR a b c) := by unfold mayR; infer_instance
/-- Where a save goes. -/
def toL (bs : List Nat) : Nat := if (bestL bs).2 = 0 then 1 else 0
def nxL (bs : List Nat) (a b c : Int) : List Nat := encL ⟨a.toNat, b.toNat, c.toNat, (bestL bs).1.seq + 1⟩
def saveV (d : Dk) (a b c : Int) : Dk × Int :=
  if mayR a b c then
    if d.off then (d, 100)
    else if 1099511627776 ≤ (bestL d.bs).1.seq then (d, 120)
    else if (wrV d ((2 * toL d.bs : Nat) : Int) ((nxL d.bs a b c).take 32)).2 = 0 then wrV (wrV d ((2 * toL d.bs : Nat) : Int) ((nxL d.bs a b c).take 32)).1 ((2 * toL d.bs + 1 : Nat) : Int) ((nxL d.bs a b c).drop 32)
    else wrV d ((2 * toL d.bs : Nat) : Int) ((nxL d.bs a b c).take 32)
  else (d, 1)
/- The two halves of a slot's bytes. -/
def hA (r : Rc) : List Nat := (encL r).take 32
def hB (r : Rc) : List Nat := (encL r).drop 32
theorem hAB (r : Rc) : hA r ++ hB r = encL r := List.take_append_drop 32 _
theorem hA_len (r : Rc) : (hA r).length = 32 := by unfold hA; rw [List.length_take, encL_len]; rfl
theorem hB_len (r : Rc) : (hB r).length = 32 := by unfold hB; rw [List.length_drop, encL_len]
theorem hA_is (r : Rc) : hA r = [101, 97, 114, 49] ++ (be 8 r.seq ++ (be 4 r.life ++ (be 5 r.round ++ List.replicate 11 0))) := by
  have h : encL r = ([101, 97, 114, 49] ++ (be 8 r.seq ++ (be 4 r.life ++ (be 5 r.round ++ List.replicate 11 0)))) ++ ([101, 97, 114, 50] ++ (be 8 r.seq ++ (be 3 r.tag ++ List.replicate 17 0))) := by
    unfold encL; simp only [List.append_assoc]
  unfold hA
  rw [h, take_app (n := 32) (by simp [be_len])]
theorem hB_is (r : Rc) : hB r = [101, 97, 114, 50] ++ (be 8 r.seq ++ (be 3 r.tag ++ List.replicate 17 0)) := by
  have h : encL r = ([101, 97, 114, 49] ++ (be 8 r.seq ++ (be 4 r.life ++ (be 5 r.round ++ List.replicate 11 0)))) ++ ([101, 97, 114, 50] ++ (be 8 r.seq ++ (be 3 r.tag ++ List.replicate 17 0))) := by
    unfold encL; simp only [List.append_assoc]
  unfold hB
  rw [h]; exact drop_app (n := 32) (by simp [be_len]) 0
/-- Two halves of one number are a slot. -/
theorem halves_same {r s : Rc} (h : r.seq = s.seq) : hA r ++ hB s = encL ⟨r.life, r.round, s.tag, r.seq⟩ := by
  have e1 : hA r = hA ⟨r.life, r.round, s.tag, r.seq⟩ := by rw [hA_is, hA_is]
  have e2 : hB s = hB ⟨r.life, r.round, s.tag, r.seq⟩ := by rw [hB_is, hB_is, h]
  rw [← hAB, e1, e2]
theorem be_inj {n x y : Nat} (hx : x < 256 ^ n) (hy : y < 256 ^ n) (h2 : x ≤ 281474976710656) (h3 : y ≤ 281474976710656) (h : be n x = be n y) : x = y := by
  rw [← take_be hx h2, ← take_be hy h3, h]
theorem hA_inj {r s : Rc} (hr : r.may) (hs : s.may) (h : hA r = hA s) : r.life = s.life ∧ r.round = s.round ∧ r.seq = s.seq := by
  rw [hA_is, hA_is] at h
  obtain ⟨r1, r2, r3, r4, r5, r6⟩ := hr
  obtain ⟨s1, s2, s3, s4, s5, s6⟩ := hs
  have h1 := List.append_cancel_left h
  have e8 := (List.append_inj h1 (by rw [be_len, be_len]))
  have e4 := (List.append_inj e8.2 (by rw [be_len, be_len]))
  have e5 := (List.append_inj e4.2 (by rw [be_len, be_len]))
  exact ⟨be_inj (n := 4) (by omega) (by omega) (by omega) (by omega) e4.1, be_inj (n := 5) (by omega) (by omega) (by omega) (by omega) e5.1, be_inj (n := 8) (by omega) (by omega) (by omega) (by omega) e8.1⟩
theorem hB_inj {r s : Rc} (hr : r.may) (hs : s.may) (h : hB r = hB s) : r.tag = s.tag ∧ r.seq = s.seq := by
  rw [hB_is, hB_is] at h
  obtain ⟨r1, r2, r3, r4, r5, r6⟩ := hr
  obtain ⟨s1, s2, s3, s4, s5, s6⟩ := hs
  have h1 := List.append_cancel_left h
  have e8 := (List.append_inj h1 (by rw [be_len, be_len]))
  have e3 := (List.append_inj e8.2 (by rw [be_len, be_len]))
  exact ⟨be_inj (n := 3) (by omega) (by omega) (by omega) (by omega) e3.1, be_inj (n := 8) (by omega) (by omega) (by omega) (by omega) e8.1⟩
theorem halves_other {r s : Rc} (hr : r.may) (hs : s.may) (h : r.seq ≠ s.seq) : decL (hA r ++ hB s) = none := by
  cases hd : decL (hA r ++ hB s) with
  | none => rfl
  | some t =>
    obtain ⟨ht, he⟩ := decL_some hd
    rw [← hAB t] at he
    obtain ⟨e1, e2⟩ := List.append_inj he (by rw [hA_len, hA_len])
    exact absurd ((hA_inj hr ht e1).2.2.trans (hB_inj hs ht e2).2.symm) h
theorem blank_half (l : List Nat) (hl : l.length = 32) : decL (List.replicate 32 0 ++ l) = none := by
  cases hd : decL (List.replicate 32 0 ++ l) with
  | none => rfl
  | some t =>
    obtain ⟨ht, he⟩ := decL_some hd
    have := congrArg List.head? he
    simp [encL] at this
theorem half_blank (r : Rc) : decL (hA r ++ List.replicate 32 0) = none := by
  cases hd : decL (hA r ++ List.replicate 32 0) with
  | none => rfl
  | some t =>
    obtain ⟨ht, he⟩ := decL_some hd
    rw [← hAB t] at he
    obtain ⟨e1, e2⟩ := List.append_inj he (by rw [hA_len, hA_len])
    rw [hB_is] at e2
    have := congrArg List.head? e2
    simp at this
theorem decL_one {r : Rc} (h : r.may) : decL (hA r ++ hB r) = some r := by rw [hAB]; exact decL_enc h
/- What a write leaves of the rows. -/
theorem rowS_put {bs l : List Nat} {k s : Nat} (hb : bs.length = 256) (hk : k < 8) (hs : s < 8) (hl : l.length = 32) : rowS (putS bs k l) s = if s = k then l else rowS bs s := putS_row hb hk s hs hl
end Go.Proofs.YtppmiggkknhdkaaDoor
namespace Go.Proofs.YtppmiggkknhdkaaDoor
set_option linter.unusedVariables false
set_option linter.unusedSimpArgs false
open Go.RowKit

/-- A local array of numbers. -/
def laC (l : List Nat) : Array Value := (l.map fun x : Nat => Value.int .i64 (x : Int)).toArray
theorem laC_get {l : List Nat} {s v : Nat} (h : l[s]? = some v) : (laC l)[s]? = some (.int .i64 (v : Int)) := by
  unfold laC; rw [List.getElem?_toArray, List.getElem?_map, h]; rfl
theorem laC_set (l : List Nat) (s v : Nat) : (laC l).setIfInBounds s (.int .i64 (v : Int)) = laC (l.set s v) := by
  unfold laC; rw [List.setIfInBounds_toArray, List.map_set]
/-- A part of a row of bytes that the call owns. -/
theorem row_part {W : World} {B g n c o : Nat} {l m : List Nat} (h : W.ownsRow B 5 1 (.slice (some ⟨g, 0, none⟩) n c) n (bC l)) (hl : l.length = n) (hm : ∀ j x, m[j]? = some x → l[o + j]? = some x) :
    ∀ j x, m[j]? = some x → ∃ b, some (⟨g, o, none⟩ : Addr) = some b ∧ W.cell? (b.add j) = some (.int .u8 (x : Nat)) := by
  intro j x hx
  have h2 := hm j x hx
  have hj := (List.getElem?_eq_some_iff.1 h2).1
  refine ⟨_, rfl, ?_⟩
  rw [Addr.add_mid, h.cellAt _ (by omega)]
  unfold bC
  rw [List.getElem?_map, h2]; rfl
theorem rem_place (x : Int) : ∃ k : Nat, k < 8 ∧ ((Int.tmod x 8 = (k : Int)) ∨ (Int.tmod x 8 < 0 ∧ Int.tmod x 8 = (k : Int) - 8)) := by
  have h1 : Int.tmod x 8 < 8 := Int.tmod_lt_of_pos x (by decide)
  have h2 : -8 < Int.tmod x 8 := Int.lt_tmod_of_pos x (by decide)
  by_cases h : Int.tmod x 8 < 0
  · exact ⟨(Int.tmod x 8 + 8).toNat, by omega, .inr ⟨h, by omega⟩⟩
  · exact ⟨(Int.tmod x 8).toNat, by omega, .inl (by omega)⟩
end Go.Proofs.YtppmiggkknhdkaaDoor
namespace Go.Proofs.YtppmiggkknhdkaaDoor
set_option linter.unusedVariables false
open Go.RowKit

theorem DkAt.but {W W' : World} {b c : Nat} {d : Dk} (h : DkAt W b d) (hg : W.grownBy W' (some c)) (hne : b ≠ c) : DkAt W' b d := ⟨blk_grown hg h.1 (by simpa using hne), h.2⟩
theorem own_but {W W' : World} {B g n cp b : Nat} {e : TypeId} {xs : List Value} {sz : Nat} (h : W.ownsRow B e sz (.slice (some ⟨g, 0, none⟩) n cp) n xs) (hg : W.grownBy W' (some b)) (hne : g ≠ b) : W'.ownsRow B e sz (.slice (some ⟨g, 0, none⟩) n cp) n xs :=
  h.kept hg (.inr (by simp [Value.ownBlock]; omega))
theorem secL_len (v : Int) : (secL v).length = 32 := by unfold secL; simp
/-- Bytes that lie from a place on. -/
def CellsAt (W : World) (p : Addr) (l : List Nat) : Prop := ∀ j x, l[j]? = some x → ∃ b, some p = some b ∧ W.cell? (b.add j) = some (.int .u8 (x : Nat))
theorem CellsAt.below {W W' : World} {p : Addr} {l : List Nat} (h : CellsAt W p l) (hb : Below W.heap.size W W') : CellsAt W' p l := by
  intro j x hx
  obtain ⟨b, h1, h2⟩ := h j x hx
  exact ⟨b, h1, (hb.cell (cell_lt h2)).trans h2⟩
theorem CellsAt.but {W W' : World} {p : Addr} {l : List Nat} {b : Nat} (h : CellsAt W p l) (hg : W.grownBy W' (some b)) (hne : p.block ≠ b) : CellsAt W' p l := by
  intro j x hx
  obtain ⟨q, h1, h2⟩ := h j x hx
  cases h1
  refine ⟨_, rfl, ?_⟩
  obtain ⟨_, _, _, _, hgb⟩ := hg
  have hk := hgb (p.add j).block (cell_lt h2) (by rw [show (p.add j).block = p.block from by unfold Addr.add; split <;> rfl]; simpa using hne)
  unfold World.cell? at h2 ⊢
  rw [hk]; exact h2
theorem row_all {W : World} {B g n c : Nat} {l : List Nat} (h : W.ownsRow B 5 1 (.slice (some ⟨g, 0, none⟩) n c) n (bC l)) (hl : l.length = n) : CellsAt W ⟨g, 0, none⟩ l :=
  row_part (o := 0) h hl (fun j x hx => by rw [Nat.zero_add]; exact hx)
theorem row_cap {W : World} {B g n c : Nat} {e : TypeId} {sz : Nat} {xs : List Value} (h : W.ownsRow B e sz (.slice (some ⟨g, 0, none⟩) n c) n xs) : n ≤ c := by
  rcases h.2 with ⟨h', _⟩ | ⟨g', cap', cur, h', _, _, hnc, _⟩
  · simp at h'
  · injection h' with _ _ h'; omega
end Go.Proofs.YtppmiggkknhdkaaDoor
namespace Go.Proofs.YtppmiggkknhdkaaDoor
set_option linter.unusedVariables false
set_option linter.unusedSimpArgs false
open Go.RowKit

theorem bits_or_i64 (a b : Nat) (ha : a < 9223372036854775808) (hb : b < 9223372036854775808) : bits .or .i64 (a : Int) (b : Int) = ((a ||| b : Nat) : Int) := by
  have h3 : a ||| b < 2 ^ 63 := Nat.or_lt_two_pow (by omega) (by omega)
  have h1 : (BitVec.ofInt 64 (a : Int)).toNat = a := by rw [BitVec.ofInt_natCast, BitVec.toNat_ofNat]; exact Nat.mod_eq_of_lt (by omega)
  have h2 : (BitVec.ofInt 64 (b : Int)).toNat = b := by rw [BitVec.ofInt_natCast, BitVec.toNat_ofNat]; exact Nat.mod_eq_of_lt (by omega)
  show IntKind.i64.wrap ((BitVec.ofInt 64 (a : Int) ||| BitVec.ofInt 64 (b : Int)).toNat : Int) = _
  rw [BitVec.toNat_or, h1, h2, IntKind.wrap_i64]
  omega
theorem or_shift (x c : Nat) (hx : x < 281474976710656) (hc : c < 256) : bits .or .i64 ((x : Int) * 256) (c : Int) = ((x * 256 + c : Nat) : Int) := by
  have h := bits_or_i64 (x * 256) c (by omega) (by omega)
  rw [show ((x * 256 : Nat) : Int) = (x : Int) * 256 from by omega] at h
  rw [h, show x * 256 = 2 ^ 8 * x from by omega, ← Nat.two_pow_add_eq_or_of_lt (by omega)]
/-- A record as a value. -/
def recV (a b c : Int) : Value := .agg #[.int .i64 a, .int .i64 b, .int .i64 c]
def keptV (r : Rc) : Value := .agg #[.int .i64 (r.life : Int), .int .i64 (r.round : Int), .int .i64 (r.tag : Int), .int .i64 (r.seq : Int)]
set_option maxRecDepth 100000 in
theorem mayBe_any (a b c : Int) (w : World) : Calls Tryd.prog 65 #[recV a b c] w fun e w' => e = .returned (.bool (decide (mayR a b c))) ∧ Below w.heap.size w w' := by
  unfold recV
  have HB : Below w.heap.size w (w.alloc (.cells #[.int .i64 a, .int .i64 b, .int .i64 c] 48)) := (Below.refl _ w).alloc (Nat.le_refl _) _
  by_cases h1 : 1 ≤ a
  · by_cases h2 : a ≤ 1073741824
    · by_cases h3 : 0 ≤ b
      · by_cases h4 : b ≤ 1099511627775
        · by_cases h5 : 0 ≤ c
          · by_cases h6 : c ≤ 1048576
            · rw [decide_eq_true (show mayR a b c from ⟨h1, h2, h3, h4, h5, h6⟩)]
              go_enter Tryd.func65, Tryd.ntmps65
              go_wp2_with fail
              go_ret
              exact ⟨rfl, HB⟩
            · rw [decide_eq_false (show ¬ mayR a b c from fun h => h6 h.2.2.2.2.2)]
              go_enter Tryd.func65, Tryd.ntmps65
              go_wp2_with fail
              go_ret
              exact ⟨rfl, HB⟩
          · rw [decide_eq_false (show ¬ mayR a b c from fun h => h5 h.2.2.2.2.1)]
            go_enter Tryd.func65, Tryd.ntmps65
            go_wp2_with fail
            go_ret
            exact ⟨rfl, HB⟩
        · rw [decide_eq_false (show ¬ mayR a b c from fun h => h4 h.2.2.2.1)]
          go_enter Tryd.func65, Tryd.ntmps65
          go_wp2_with fail
          go_ret
          exact ⟨rfl, HB⟩
      · rw [decide_eq_false (show ¬ mayR a b c from fun h => h3 h.2.2.1)]
        go_enter Tryd.func65, Tryd.ntmps65
        go_wp2_with fail
        go_ret
        exact ⟨rfl, HB⟩
    · rw [decide_eq_false (show ¬ mayR a b c from fun h => h2 h.2.1)]
      go_enter Tryd.func65, Tryd.ntmps65
      go_wp2_with fail
      go_ret
      exact ⟨rfl, HB⟩
  · rw [decide_eq_false (show ¬ mayR a b c from fun h => h1 h.1)]
    go_enter Tryd.func65, Tryd.ntmps65
    go_wp2_with fail
    go_ret
    exact ⟨rfl, HB⟩
theorem isSeq_any (s : Int) (w : World) : Calls Tryd.prog 72 #[.int .i64 s] w fun e w' => e = .returned (.bool (decide (1 ≤ s ∧ s ≤ 1099511627776))) ∧ Below w.heap.size w w' := by
  by_cases h1 : 1 ≤ s
  · by_cases h2 : s ≤ 1099511627776
    · rw [decide_eq_true ⟨h1, h2⟩]
      go_enter Tryd.func72, Tryd.ntmps72
      go_wp2_with fail
      go_ret
      exact ⟨rfl, Below.refl _ _⟩
    · rw [decide_eq_false (fun h => h2 h.2)]
      go_enter Tryd.func72, Tryd.ntmps72
      go_wp2_with fail
      go_ret
      exact ⟨rfl, Below.refl _ _⟩
  · rw [decide_eq_false (fun h => h1 h.1)]
    go_enter Tryd.func72, Tryd.ntmps72
    go_wp2_with fail
    go_ret
    exact ⟨rfl, Below.refl _ _⟩
theorem takeF_drop {x k : Nat} {l : List Nat} {c : Nat} (hc : l[k]? = some c) : takeF x (l.drop k) = if 281474976710656 ≤ x then 72057594037927936 else takeF (x * 256 + c) (l.drop (k + 1)) := by
  obtain ⟨hk, hv⟩ := List.getElem?_eq_some_iff.1 hc
  rw [List.drop_eq_getElem_cons hk, hv]
  rfl
set_option maxRecDepth 100000 in
theorem take_any (p : Addr) (n cap : Nat) (l : List Nat) (w : World) (hl : l.length = n) (hn : n ≤ 1000000) (hlt : ∀ c ∈ l, c < 256) (hc : CellsAt w p l) :
    Calls Tryd.prog 71 #[.slice (some p) n cap] w fun e w' => e = .returned (.int .i64 (takeF 0 l : Nat)) ∧ Below w.heap.size w w' := by
  have HC := Lib.hid hc
  have HLT := Lib.hid hlt
  have HL := Lib.hid hl
  clear hc hlt hl
  go_enter Tryd.func71, Tryd.ntmps71
  go_wp2_with fail
  go_loopw [3, 8] (fun xv i wr => ∃ (k x : Nat), i = .int .i64 k ∧ k ≤ n ∧ xv = .int .i64 (x : Int) ∧ x < 72057594037927936 ∧ Hid (takeF 0 l = takeF x (l.drop k)) ∧ Below w.heap.size w wr) (fun _ i _ => n - (intOf i).toNat)
  case atStart => exact ⟨0, 0, rfl, by omega, rfl, by decide, rfl, Below.refl _ _⟩
  case round =>
    obtain ⟨k, x, rfl, hk, rfl, hx, heq, hb⟩ := hrel
    by_cases hlt : k < n
    · obtain ⟨c, hcx⟩ : ∃ c, l[k]? = some c := ⟨_, List.getElem?_eq_getElem (by rw [HL.out]; exact hlt)⟩
      obtain ⟨q, hq, hp⟩ := HC.out k c hcx
      cases hq
      have hp := (hb.cell (cell_lt hp)).trans hp
      have hc2 := HLT.out c (List.mem_of_getElem? hcx)
      have HT := Lib.hid (takeF_drop (x := x) hcx)
      have i1 : (k : Int) < (n : Int) := by omega
      have i2 : (0 : Int) ≤ (k : Int) := by omega
      have i3 : (k : Int).toNat = k := Int.toNat_natCast k
      clear hcx
      by_cases hx2 : x < 281474976710656
      · have j1 : ¬ (281474976710656 : Int) ≤ (x : Int) := by omega
        have hor := or_shift x c hx2 hc2
        have j2 : (x : Int) * 256 < 72057594037927936 := by omega
        go_wp2_with fail
        go_roundw
        case rel => exact ⟨k + 1, x * 256 + c, by go_num, by omega, by go_num, by omega, by show _ = _; rw [heq.out, HT.out, if_neg (by omega)], hb⟩
        case measure => simp [intOf]; omega
      · have j1 : (281474976710656 : Int) ≤ (x : Int) := by omega
        go_wp2_with fail
        go_ret
        refine ⟨?_, hb⟩
        rw [heq.out, HT.out, if_pos (by omega)]; rfl
    · obtain rfl : k = n := by omega
      have i1 : ¬ (k : Int) < (k : Int) := by omega
      go_wp2_with fail
      go_ret
      refine ⟨?_, hb⟩
      rw [heq.out, List.drop_of_length_le (by rw [HL.out]; exact Nat.le_refl _)]; rfl
end Go.Proofs.YtppmiggkknhdkaaDoor
