/- Lemmas of this chapter, laid one behind the other. -/
import Derived.Laws.RangeAny
import Derived.Lib.Strings
import Derived.Lib.Small
import Derived.Lib.RuneBytes
import Derived.WalkKit
import Derived.Lib.OthersKept
import Derived.Lib.Hide
import Derived.Deep.Draws
import Derived.Deep.QuietTactic
import Derived.BigQuiet
import Derived.Maps.AppendAt
import Derived.Lib.AppendStr
import Derived.Laws.IdiomStrings
import Derived.Laws.IdiomCopy
import Derived.Laws.Bits64b
import Derived.Test.YtbjlnlgknegbnaaGreatDoorChecked
import Derived.IntWalk
import Derived.StillTail
import Derived.StillTailTactics
import Derived.RangeFuncNested
import Derived.RangeFuncCalls
import Derived.OwnWalkIn
import Derived.StillTactics
import Derived.Test.YtbjlnlgknegbnaaGreatDoorRows
import Derived.OrdersHeld
import Derived.Deep.RegionHeld3
import Derived.Deep.DeepCutAuto
import Derived.Deep.MidRow
import Derived.Laws.Rows
import Derived.RangeFuncBound
import Derived.RangeFuncBox
import Derived.RangeFuncLeaves
import Derived.Shelf.Abstract
import Derived.Shelf.RegionOpen
import Derived.TacticsInMore
import Derived.LoopNIn
import Derived.LoopIn
import Derived.Below
import Derived.ChangeSame
import Derived.ProofKit
import Derived.OpenShut
import Derived.ShutString
import Derived.SizedLaws
import Derived.WideKeyArgs
import Derived.ChangeSlices
namespace Go.Proofs.YtbjlnlgknegbnaaGreatDoor

/-- The byte at a place as a number; 0 beyond the end. -/
def bt (s : ByteArray) (p : Nat) : Nat := (s.get! p).toNat

theorem bt_lt (s : ByteArray) (p : Nat) : bt s p < 256 := (s.get! p).toNat_lt

/-- P101 in numbers: the two, by the bytes. -/
def dec (s : ByteArray) (p : Nat) : Nat × Nat :=
  if bt s p < 0x80 then (bt s p, 1)
  else if 0xC2 ≤ bt s p ∧ bt s p ≤ 0xDF ∧ (p + 1 < s.size ∧ 0x80 ≤ bt s (p + 1) ∧ bt s (p + 1) ≤ 0xBF) then
    ((bt s p - 0xC0) * 64 + (bt s (p + 1) - 0x80), 2)
  else if 0xE0 ≤ bt s p ∧ bt s p ≤ 0xEF ∧ (p + 1 < s.size ∧ 0x80 ≤ bt s (p + 1) ∧ bt s (p + 1) ≤ 0xBF) ∧ (p + 2 < s.size ∧ 0x80 ≤ bt s (p + 2) ∧ bt s (p + 2) ≤ 0xBF) ∧
      0x800 ≤ (bt s p - 0xE0) * 4096 + (bt s (p + 1) - 0x80) * 64 + (bt s (p + 2) - 0x80) ∧
      ¬ (0xD800 ≤ (bt s p - 0xE0) * 4096 + (bt s (p + 1) - 0x80) * 64 + (bt s (p + 2) - 0x80) ∧ (bt s p - 0xE0) * 4096 + (bt s (p + 1) - 0x80) * 64 + (bt s (p + 2) - 0x80) ≤ 0xDFFF) then
    ((bt s p - 0xE0) * 4096 + (bt s (p + 1) - 0x80) * 64 + (bt s (p + 2) - 0x80), 3)
  else if 0xF0 ≤ bt s p ∧ bt s p ≤ 0xF4 ∧ (p + 1 < s.size ∧ 0x80 ≤ bt s (p + 1) ∧ bt s (p + 1) ≤ 0xBF) ∧ (p + 2 < s.size ∧ 0x80 ≤ bt s (p + 2) ∧ bt s (p + 2) ≤ 0xBF) ∧
      (p + 3 < s.size ∧ 0x80 ≤ bt s (p + 3) ∧ bt s (p + 3) ≤ 0xBF) ∧
      0x10000 ≤ (bt s p - 0xF0) * 262144 + (bt s (p + 1) - 0x80) * 4096 + (bt s (p + 2) - 0x80) * 64 + (bt s (p + 3) - 0x80) ∧
      (bt s p - 0xF0) * 262144 + (bt s (p + 1) - 0x80) * 4096 + (bt s (p + 2) - 0x80) * 64 + (bt s (p + 3) - 0x80) ≤ 0x10FFFF then
    ((bt s p - 0xF0) * 262144 + (bt s (p + 1) - 0x80) * 4096 + (bt s (p + 2) - 0x80) * 64 + (bt s (p + 3) - 0x80), 4)
  else (65533, 1)

theorem decode_dec (s : ByteArray) (p : Nat) : Utf8.decode s p = dec s p := by
  have h0 := bt_lt s p; have h1 := bt_lt s (p + 1); have h2 := bt_lt s (p + 2); have h3 := bt_lt s (p + 3)
  simp only [Utf8.decode, Utf8.valid, Utf8.runeError, show (s.get! (p + 0)).toNat = bt s p from rfl, show (s.get! (p + 1)).toNat = bt s (p + 1) from rfl,
    show (s.get! (p + 2)).toNat = bt s (p + 2) from rfl, show (s.get! (p + 3)).toNat = bt s (p + 3) from rfl, Bool.and_eq_true, Bool.or_eq_true, decide_eq_true_eq, beq_iff_eq, ge_iff_le]
  unfold dec
  generalize bt s p = a at *
  generalize bt s (p + 1) = b at *
  generalize bt s (p + 2) = c at *
  generalize bt s (p + 3) = d at *
  generalize s.size = n
  by_cases ha : a < 0x80
  · rw [if_pos ha, if_pos ha]
  · rw [if_neg ha, if_neg ha]
    by_cases h6 : a / 32 = 6
    · rw [if_neg (c := 0xE0 ≤ a ∧ _) (by omega), if_neg (c := 0xF0 ≤ a ∧ _) (by omega)]
      by_cases hb : p + 1 < n ∧ b / 64 = 2
      · rw [if_pos ⟨h6, hb⟩]
        by_cases hc : 128 ≤ a % 32 * 64 + b % 64
        · rw [if_pos hc, if_pos (by omega)]; rw [show a % 32 * 64 + b % 64 = (a - 0xC0) * 64 + (b - 0x80) from by omega]
        · rw [if_neg hc, if_neg (by omega)]
      · rw [if_neg (by omega), if_neg (by omega), if_neg (by omega), if_neg (by omega)]
    · rw [if_neg (by omega), if_neg (c := 0xC2 ≤ a ∧ _) (by omega)]
      by_cases h14 : a / 16 = 14
      · rw [if_neg (c := 0xF0 ≤ a ∧ _) (by omega)]
        by_cases hb : (p + 1 < n ∧ b / 64 = 2) ∧ (p + 2 < n ∧ c / 64 = 2)
        · rw [if_pos ⟨⟨h14, hb.1⟩, hb.2⟩]
          have e : a % 16 * 4096 + b % 64 * 64 + c % 64 = (a - 0xE0) * 4096 + (b - 0x80) * 64 + (c - 0x80) := by omega
          rw [e]
          obtain ⟨x, hx⟩ : ∃ x, (a - 0xE0) * 4096 + (b - 0x80) * 64 + (c - 0x80) = x := ⟨_, rfl⟩
          rw [hx]
          by_cases hc : 0x800 ≤ x ∧ ¬ (0xD800 ≤ x ∧ x ≤ 0xDFFF)
          · rw [if_pos (by omega), if_pos (by omega)]
          · rw [if_neg (by omega), if_neg (by omega)]
        · rw [if_neg (by omega), if_neg (by omega), if_neg (by omega)]
      · rw [if_neg (by omega), if_neg (c := 0xE0 ≤ a ∧ _) (by omega)]
        by_cases h30 : (a / 8 = 30 ∧ (p + 1 < n ∧ b / 64 = 2)) ∧ (p + 2 < n ∧ c / 64 = 2) ∧ (p + 3 < n ∧ d / 64 = 2)
        · rw [if_pos ⟨⟨h30.1, h30.2.1⟩, h30.2.2⟩]
          have e : a % 8 * 262144 + b % 64 * 4096 + c % 64 * 64 + d % 64 = (a - 0xF0) * 262144 + (b - 0x80) * 4096 + (c - 0x80) * 64 + (d - 0x80) := by omega
          rw [e]
          obtain ⟨x, hx⟩ : ∃ x, (a - 0xF0) * 262144 + (b - 0x80) * 4096 + (c - 0x80) * 64 + (d - 0x80) = x := ⟨_, rfl⟩
          rw [hx]
          by_cases hc : 0x10000 ≤ x ∧ x ≤ 0x10FFFF
          · rw [if_pos (by omega), if_pos (by omega)]
          · rw [if_neg (by omega), if_neg (by omega)]
        · rw [if_neg (by omega), if_neg (by omega)]

/-- The rune and the width at a place; is it a loose byte? -/
def rn (s : ByteArray) (p : Nat) : Nat := (dec s p).1
def wd (s : ByteArray) (p : Nat) : Nat := (dec s p).2
def lo (s : ByteArray) (p : Nat) : Bool := decide (dec s p = (65533, 1))

/-- What 'dec' may answer. -/
theorem dec_cases (s : ByteArray) (p : Nat) :
    (bt s p < 0x80 ∧ dec s p = (bt s p, 1))
    ∨ (dec s p = (65533, 1) ∧ 0x80 ≤ bt s p)
    ∨ (∃ r, dec s p = (r, 2) ∧ 0x80 ≤ r ∧ r ≤ 0x7FF ∧ p + 1 < s.size ∧ bt s p = 192 + r / 64 ∧ bt s (p + 1) = 128 + r % 64)
    ∨ (∃ r, dec s p = (r, 3) ∧ 0x800 ≤ r ∧ r ≤ 0xFFFF ∧ ¬ (0xD800 ≤ r ∧ r ≤ 0xDFFF) ∧ p + 2 < s.size ∧ bt s p = 224 + r / 4096 ∧ bt s (p + 1) = 128 + r / 64 % 64 ∧ bt s (p + 2) = 128 + r % 64)
    ∨ (∃ r, dec s p = (r, 4) ∧ 0x10000 ≤ r ∧ r ≤ 0x10FFFF ∧ p + 3 < s.size ∧ bt s p = 240 + r / 262144 ∧ bt s (p + 1) = 128 + r / 4096 % 64 ∧ bt s (p + 2) = 128 + r / 64 % 64 ∧ bt s (p + 3) = 128 + r % 64) := by
  unfold dec
  split
  · rename_i h; exact .inl ⟨h, rfl⟩
  · split
    · rename_i h0 h; exact .inr (.inr (.inl ⟨_, rfl, by omega, by omega, by omega, by omega, by omega⟩))
    · split
      · rename_i h0 h1 h; exact .inr (.inr (.inr (.inl ⟨_, rfl, by omega, by omega, by omega, by omega, by omega, by omega, by omega⟩)))
      · split
        · rename_i h0 h1 h2 h; exact .inr (.inr (.inr (.inr ⟨_, rfl, by omega, by omega, by omega, by omega, by omega, by omega, by omega⟩)))
        · rename_i h0 h1 h2 h3; exact .inr (.inl ⟨rfl, by omega⟩)

/-- The other way round: the bytes of a rune that may be are that rune. -/
theorem dec_one {s : ByteArray} {p : Nat} (h : bt s p < 0x80) : dec s p = (bt s p, 1) := by unfold dec; rw [if_pos h]
theorem dec_two {s : ByteArray} {p r : Nat} (h0 : 0x80 ≤ r) (h1 : r ≤ 0x7FF) (hp : p + 1 < s.size) (a : bt s p = 192 + r / 64) (b : bt s (p + 1) = 128 + r % 64) : dec s p = (r, 2) := by
  unfold dec; rw [if_neg (by omega), if_pos (by omega)]
  rw [show (bt s p - 0xC0) * 64 + (bt s (p + 1) - 0x80) = r from by omega]
theorem dec_three {s : ByteArray} {p r : Nat} (h0 : 0x800 ≤ r) (h1 : r ≤ 0xFFFF) (hv : ¬ (0xD800 ≤ r ∧ r ≤ 0xDFFF)) (hp : p + 2 < s.size) (a : bt s p = 224 + r / 4096) (b : bt s (p + 1) = 128 + r / 64 % 64) (c : bt s (p + 2) = 128 + r % 64) : dec s p = (r, 3) := by
  have e : (bt s p - 0xE0) * 4096 + (bt s (p + 1) - 0x80) * 64 + (bt s (p + 2) - 0x80) = r := by omega
  unfold dec; rw [if_neg (by omega), if_neg (by omega), e, if_pos (by omega)]
theorem dec_four {s : ByteArray} {p r : Nat} (h0 : 0x10000 ≤ r) (h1 : r ≤ 0x10FFFF) (hp : p + 3 < s.size) (a : bt s p = 240 + r / 262144) (b : bt s (p + 1) = 128 + r / 4096 % 64) (c : bt s (p + 2) = 128 + r / 64 % 64) (d : bt s (p + 3) = 128 + r % 64) : dec s p = (r, 4) := by
  have e : (bt s p - 0xF0) * 262144 + (bt s (p + 1) - 0x80) * 4096 + (bt s (p + 2) - 0x80) * 64 + (bt s (p + 3) - 0x80) = r := by omega
  unfold dec; rw [if_neg (by omega), if_neg (by omega), if_neg (by omega), e, if_pos (by omega)]

theorem wd_bd (s : ByteArray) (p : Nat) (h : p < s.size) : 1 ≤ wd s p ∧ wd s p ≤ 4 ∧ p + wd s p ≤ s.size := by
  unfold wd
  rcases dec_cases s p with ⟨_, e⟩ | ⟨e, _⟩ | ⟨r, e, _, _, hp, _⟩ | ⟨r, e, _, _, _, hp, _⟩ | ⟨r, e, _, _, hp, _⟩ <;> (rw [e]; simp only []; omega)

theorem rn_bd (s : ByteArray) (p : Nat) : rn s p ≤ 0x10FFFF ∧ ¬ (0xD800 ≤ rn s p ∧ rn s p ≤ 0xDFFF) := by
  unfold rn
  rcases dec_cases s p with ⟨_, e⟩ | ⟨e, _⟩ | ⟨r, e, _, _, hp, _⟩ | ⟨r, e, _, _, _, hp, _⟩ | ⟨r, e, _, _, hp, _⟩ <;> (rw [e]; simp only []; omega)

theorem lo_iff (s : ByteArray) (p : Nat) : lo s p = true ↔ rn s p = 65533 ∧ wd s p = 1 := by
  unfold lo rn wd; rw [decide_eq_true_eq, Prod.ext_iff]

/-- A character that is no loose byte has as many bytes as its rune takes. -/
theorem runeLen_wd (s : ByteArray) (p : Nat) (h : lo s p = false) : Lib.runeLen (rn s p : Int) = (wd s p : Int) := by
  unfold rn wd Lib.runeLen
  unfold lo at h
  rcases dec_cases s p with ⟨hb, e⟩ | ⟨e, _⟩ | ⟨r, e, h1, h2, hp, _⟩ | ⟨r, e, h1, h2, h3, hp, _⟩ | ⟨r, e, h1, h2, hp, _⟩
  all_goals rw [e] at h ⊢
  · simp only []; rw [if_neg (by omega), if_pos (by omega)]; rfl
  · simp at h
  · simp only []; rw [if_neg (by omega), if_neg (by omega), if_pos (by omega)]; rfl
  · simp only []; rw [if_neg (by omega), if_neg (by omega), if_neg (by omega), if_neg (by omega), if_pos (by omega)]; rfl
  · simp only []; rw [if_neg (by omega), if_neg (by omega), if_neg (by omega), if_neg (by omega), if_neg (by omega), if_pos (by omega)]; rfl

/-- The byte at a place, out of the list of bytes. -/
theorem bt_list (s : ByteArray) (p : Nat) (h : p < s.size) : s.data.toList[p]? = some (UInt8.ofNat (bt s p)) := by
  have h2 : p < s.data.size := h
  rw [Array.getElem?_toList, Array.getElem?_eq_getElem h2]
  have : bt s p = (s.data[p]'h2).toNat := by
    have := get_at s p h
    unfold bt
    show (s.get! (p + 0)).toNat = _
    rw [this]; rfl
  rw [this]; simp

theorem drop_bt (s : ByteArray) (p : Nat) (h : p < s.size) : s.data.toList.drop p = UInt8.ofNat (bt s p) :: s.data.toList.drop (p + 1) := by
  have h2 : p < s.data.toList.length := by simpa using h
  have := bt_list s p h
  rw [List.getElem?_eq_getElem h2] at this
  rw [List.drop_eq_getElem_cons h2]
  congr 1
  exact Option.some.inj this

theorem u8_eq {a b : Nat} (ha : a < 256) (hb : b < 256) : UInt8.ofNat a = UInt8.ofNat b ↔ a = b := by
  constructor
  · intro h
    have := congrArg UInt8.toNat h
    simpa [UInt8.toNat_ofNat, Nat.mod_eq_of_lt ha, Nat.mod_eq_of_lt hb] using this
  · rintro rfl; rfl

/-- A well-formed U+FFFD is told by its three bytes. -/
theorem prefix_fffd (s : ByteArray) (p : Nat) (h : p < s.size) (hr : rn s p = 65533) : Lib.hasPrefix (s.data.toList.drop p) [239, 191, 189] = !lo s p := by
  have b0 := bt_lt s p
  have b1 := bt_lt s (p + 1)
  have b2 := bt_lt s (p + 2)
  have three : ∀ (hp : p + 2 < s.size), Lib.hasPrefix (s.data.toList.drop p) [239, 191, 189] = decide (bt s p = 239 ∧ bt s (p + 1) = 191 ∧ bt s (p + 2) = 189) := by
    intro hp
    rw [drop_bt s p h, drop_bt s (p + 1) (by omega), drop_bt s (p + 1 + 1) (by omega)]
    unfold Lib.hasPrefix
    simp only [List.isPrefixOf, Bool.and_true]
    rw [Bool.eq_iff_iff]
    simp only [Bool.and_eq_true, beq_iff_eq, decide_eq_true_eq]
    rw [show (239 : UInt8) = UInt8.ofNat 239 from rfl, show (191 : UInt8) = UInt8.ofNat 191 from rfl, show (189 : UInt8) = UInt8.ofNat 189 from rfl,
      u8_eq (by omega) b0, u8_eq (by omega) b1, show p + 1 + 1 = p + 2 from rfl, u8_eq (by omega) b2]
    omega
  have short : ¬ p + 2 < s.size → Lib.hasPrefix (s.data.toList.drop p) [239, 191, 189] = false := by
    intro hp
    unfold Lib.hasPrefix
    cases hh : [239, 191, 189].isPrefixOf (s.data.toList.drop p) with
    | false => rfl
    | true =>
      have := (List.isPrefixOf_iff_prefix.1 hh).length_le
      rw [List.length_drop] at this
      have e : s.data.toList.length = s.size := by simp
      rw [e] at this
      simp only [List.length_cons, List.length_nil] at this
      omega
  unfold rn at hr
  unfold lo
  rcases dec_cases s p with ⟨hb, e⟩ | ⟨e, hb⟩ | ⟨r, e, h1, h2, hp, _⟩ | ⟨r, e, h1, h2, h3, hp, ha, hb, hc⟩ | ⟨r, e, h1, h2, hp, _⟩
  · rw [e] at hr; simp only [] at hr; omega
  · rw [e]; simp only [decide_true, Bool.not_true]
    by_cases hp : p + 2 < s.size
    · rw [three hp]
      simp only [decide_eq_false_iff_not]
      rintro ⟨ha, hb, hc⟩
      have := dec_three (s := s) (p := p) (r := 65533) (by omega) (by omega) (by omega) hp (by omega) (by omega) (by omega)
      rw [e] at this; simp at this
    · exact short hp
  · rw [e] at hr; simp only [] at hr; omega
  · rw [e] at hr ⊢; simp only [] at hr; subst hr
    rw [three hp]
    simp
    omega
  · rw [e] at hr; simp only [] at hr; omega

end Go.Proofs.YtbjlnlgknegbnaaGreatDoor
namespace Go.Proofs.YtbjlnlgknegbnaaGreatDoor
set_option linter.unusedVariables false
open Go.RowKit

theorem blk_new (w : World) (o : Obj) : (w.alloc o).heap[w.heap.size]? = some o := heap_alloc_new w o
theorem blk_old {w : World} {k : Nat} {x : Obj} (h : w.heap[k]? = some x) (o : Obj) : (w.alloc o).heap[k]? = some x :=
  (Below.heap_alloc w o k (Array.getElem?_eq_some_iff.1 h).1).trans h
theorem blk_lt {w : World} {k : Nat} {x : Obj} (h : w.heap[k]? = some x) : k < w.heap.size := (Array.getElem?_eq_some_iff.1 h).1
theorem blk_grown {w w1 : World} {row : Option Nat} (hg : w.grownBy w1 row) {k : Nat} {x : Obj} (h : w.heap[k]? = some x) (hne : some k ≠ row) : w1.heap[k]? = some x :=
  (hg.block k (blk_lt h) hne).trans h
theorem blk_below {B : Nat} {w w1 : World} (hb : Below B w w1) {k : Nat} {x : Obj} (h : w.heap[k]? = some x) (hk : k < B) : w1.heap[k]? = some x := (hb.block k hk).trans h
theorem blk_below' {w w1 : World} (hb : Below w.heap.size w w1) {k : Nat} {x : Obj} (h : w.heap[k]? = some x) : w1.heap[k]? = some x := blk_below hb h (blk_lt h)
theorem blk_set {w : World} {k : Nat} {x : Obj} (h : w.heap[k]? = some x) (p : Addr) (v : Value) (hne : k ≠ p.block) : (w.setCell p v).heap[k]? = some x :=
  (Below.heap_setCell w p v k hne).trans h
theorem blk_drewN {w : World} {k : Nat} {x : Obj} (h : w.heap[k]? = some x) (n : Nat) : (w.drewN n).heap[k]? = some x := h

theorem below_drewN {B : Nat} {a w : World} (h : Below B a w) (n : Nat) : Below B a (w.drewN n) := ⟨h.os, h.tape, h.output, h.size, h.block⟩
theorem below_iter {B : Nat} {a w : World} (h : Below B a w) (hB : B ≤ w.heap.size) (s : ByteArray) (p : Nat) : Below B a (w.iter s p) := h.alloc hB _
theorem below_then {w a b : World} (h : Below w.heap.size w a) (k : Below a.heap.size a b) : Below w.heap.size w b := h.trans (k.mono h.size)
theorem below_alloc_then {w a b : World} {o : Obj} (h : Below w.heap.size w a) (k : Below (a.alloc o).heap.size (a.alloc o) b) : Below w.heap.size w b := below_then (h.alloc h.size o) k
theorem iterPos_of {w : World} {k : Nat} {s : ByteArray} {p : Nat} (h : w.heap[k]? = some (.stringIter s p)) : w.iterPos k = p := by simp [World.iterPos, h]

/-- 'next' on a text's iterator that lies in whatever block: one round more. -/
theorem next_at (P : Program) {wr : World} {B : Nat} {s : ByteArray} {pos : Nat} (hit : wr.heap[B]? = some (.stringIter s pos)) (hp : pos < s.size) :
    ∃ W1, (∀ ty, (Instr.next (.pointer (some ⟨B, 0, none⟩)) true ty).run P wr = .ok (.tuple #[.bool true, .int .i64 pos, .int .i32 (rn s pos)]) W1) ∧
      W1.heap[B]? = some (.stringIter s (pos + wd s pos)) ∧ wr.grownBy W1 (some B) ∧ W1.heap.size = wr.heap.size := by
  refine ⟨wr.iterAt B s (pos + wd s pos), ?_, Lib.iterAt_heap wr B s pos _ hit, ?_, ?_⟩
  · intro ty
    have := Lib.run_next_any_at (P := P) wr B s pos ty hit hp
    rw [decode_dec] at this
    exact this
  · refine ⟨rfl, rfl, rfl, ?_, fun k _ hk => Lib.iterAt_other _ _ _ _ _ (fun e => hk (by rw [e]))⟩
    rw [Lib.iterAt_size]; exact Nat.le_refl _
  · exact Lib.iterAt_size _ _ _ _

theorem next_end (P : Program) {wr : World} {B : Nat} {s : ByteArray} {pos : Nat} (hit : wr.heap[B]? = some (.stringIter s pos)) (hp : ¬ pos < s.size) :
    ∀ ty, (Instr.next (.pointer (some ⟨B, 0, none⟩)) true ty).run P wr = .ok (.tuple #[.bool false]) wr := fun ty => Lib.run_next_end_at wr B s pos ty hit hp

/-- Blocks of a few cells, none of them frozen. -/
theorem one_cell {W : World} {b : Nat} {t : TypeId} {v0 : Value} (h : W.heap[b]? = some (.cells #[v0] t (0, 0))) : W.cell? ⟨b, 0, none⟩ = some v0 ∧ W.frozen? ⟨b, 0, none⟩ = false := by
  simp [World.cell?, World.frozen?, h]
theorem two_cells {W : World} {b : Nat} {t : TypeId} {v0 v1 : Value} (h : W.heap[b]? = some (.cells #[v0, v1] t (0, 0))) :
    W.cell? ⟨b, 0, none⟩ = some v0 ∧ W.cell? ⟨b, 1, none⟩ = some v1 ∧ W.frozen? ⟨b, 0, none⟩ = false ∧ W.frozen? ⟨b, 1, none⟩ = false := by
  simp [World.cell?, World.frozen?, h]
theorem four_cells {W : World} {b : Nat} {t : TypeId} {v0 v1 v2 v3 : Value} (h : W.heap[b]? = some (.cells #[v0, v1, v2, v3] t (0, 0))) :
    W.cell? ⟨b, 0, none⟩ = some v0 ∧ W.cell? ⟨b, 1, none⟩ = some v1 ∧ W.cell? ⟨b, 2, none⟩ = some v2 ∧ W.cell? ⟨b, 3, none⟩ = some v3 ∧
    W.frozen? ⟨b, 0, none⟩ = false ∧ W.frozen? ⟨b, 1, none⟩ = false ∧ W.frozen? ⟨b, 2, none⟩ = false ∧ W.frozen? ⟨b, 3, none⟩ = false := by
  simp [World.cell?, World.frozen?, h]

end Go.Proofs.YtbjlnlgknegbnaaGreatDoor
namespace Go.Proofs.YtbjlnlgknegbnaaGreatDoor
set_option linter.unusedVariables false
open Go.RowKit

/-- A block of cells that is known whole: its cells, what a store leaves of it. -/
theorem blk_cell {W : World} {b : Nat} {t : TypeId} {cs : Array Value} (h : W.heap[b]? = some (.cells cs t (0, 0))) (i : Nat) : W.cell? ⟨b, i, none⟩ = cs[i]? := by simp [World.cell?, h]
theorem blk_free {W : World} {b : Nat} {t : TypeId} {cs : Array Value} (h : W.heap[b]? = some (.cells cs t (0, 0))) (i : Nat) : W.frozen? ⟨b, i, none⟩ = false := by simp [World.frozen?, h]
theorem blk_store {W : World} {b : Nat} {t : TypeId} {cs : Array Value} (h : W.heap[b]? = some (.cells cs t (0, 0))) (i : Nat) (v : Value) : (W.setCell ⟨b, i, none⟩ v).heap[b]? = some (.cells (cs.setIfInBounds i v) t (0, 0)) := by
  simp [World.setCell, Array.getElem?_modify, h]
theorem row_blk {W : World} {b base size n : Nat} {e : TypeId} {v : Value} {xs : List Value} (h : W.ownsRow base e size v n xs) (hb : b < base) : some b ≠ v.ownBlock := by
  intro e1
  have := (h.lt b e1.symm).1
  omega
theorem ownsRow_base {w : World} {B B' : Nat} {e : TypeId} {size : Nat} {v : Value} {n : Nat} {xs : List Value} (h : w.ownsRow B e size v n xs) (hb : B' ≤ B) : w.ownsRow B' e size v n xs := by
  refine ⟨h.1, ?_⟩
  rcases h.2 with h2 | ⟨g, cap, cur, h2, h3, h4⟩
  · exact .inl h2
  · exact .inr ⟨g, cap, cur, h2, Nat.le_trans hb h3, h4⟩
theorem grownBy_set (W : World) (p : Addr) (v : Value) : W.grownBy (W.setCell p v) (some p.block) :=
  ⟨rfl, rfl, rfl, by simp, fun k _ hne => Below.heap_setCell W p v k (fun e => hne (by rw [e]))⟩
theorem ownsRow_set {w : World} {B : Nat} {e : TypeId} {size : Nat} {v : Value} {n : Nat} {xs : List Value} (h : w.ownsRow B e size v n xs) {p : Addr} (hp : p.block < B) (u : Value) : (w.setCell p u).ownsRow B e size v n xs :=
  h.kept (grownBy_set w p u) (.inr (row_blk h hp).symm)
theorem below_grown {B : Nat} {a w w1 : World} {row : Option Nat} (h : Below B a w) (hg : w.grownBy w1 row) (hB : B ≤ w.heap.size) (hr : ∀ j, row = some j → B ≤ j) : Below B a w1 := h.grown hg hB hr
theorem three_cells {W : World} {b : Nat} {t : TypeId} {v0 v1 v2 : Value} (h : W.heap[b]? = some (.cells #[v0, v1, v2] t (0, 0))) :
    W.cell? ⟨b, 0, none⟩ = some v0 ∧ W.cell? ⟨b, 1, none⟩ = some v1 ∧ W.cell? ⟨b, 2, none⟩ = some v2 ∧ W.frozen? ⟨b, 0, none⟩ = false ∧ W.frozen? ⟨b, 1, none⟩ = false ∧ W.frozen? ⟨b, 2, none⟩ = false := by
  simp [World.cell?, World.frozen?, h]

theorem cell_four_new (w : World) (a b c d : Value) (t : TypeId) : ∀ j u, [a, b, c, d][j]? = some u → (w.alloc (.cells #[a, b, c, d] t)).cell? ((⟨w.heap.size, 0, none⟩ : Addr).add j) = some u := by
  intro j u hj
  match j, hj with
  | 0, hj => simp at hj; subst hj; simp [Addr.add]
  | 1, hj => simp at hj; subst hj; simp [Addr.add]
  | 2, hj => simp at hj; subst hj; simp [Addr.add]
  | 3, hj => simp at hj; subst hj; simp [Addr.add]
  | j + 4, hj => simp at hj

theorem ownsRow_drewN {w : World} {base : Nat} {e : TypeId} {size : Nat} {v : Value} {n : Nat} {xs : List Value} (h : w.ownsRow base e size v n xs) (k : Nat) : (w.drewN k).ownsRow base e size v n xs := h

/-- The shape of a slice that owns a row. -/
theorem ownsRow_slice {w : World} {base : Nat} {e : TypeId} {size : Nat} {v : Value} {n : Nat} {xs : List Value} (h : w.ownsRow base e size v n xs) : ∃ a cap, v = .slice a n cap ∧ (n = 0 ∨ ∃ g, a = some ⟨g, 0, none⟩ ∧ base ≤ g ∧ g < w.heap.size) := by
  rcases h.2 with ⟨rfl, h0⟩ | ⟨g, cap, cur, rfl, hb, hg, _⟩
  · exact ⟨none, 0, by rw [h0], .inl h0⟩
  · exact ⟨_, cap, rfl, .inr ⟨g, rfl, hb, (Array.getElem?_eq_some_iff.1 hg).1⟩⟩

theorem ownsRow_pos {w : World} {base : Nat} {e : TypeId} {size : Nat} {v : Value} {n : Nat} {xs : List Value} (h : w.ownsRow base e size v n xs) (hn : 0 < n) : ∃ g cap, v = .slice (some ⟨g, 0, none⟩) n cap ∧ base ≤ g ∧ g < w.heap.size := by
  obtain ⟨a, cap, rfl, h0 | ⟨g, rfl, hb, hg⟩⟩ := ownsRow_slice h
  · omega
  · exact ⟨g, cap, rfl, hb, hg⟩

/-- What is owned stays owned behind a call that has turned nothing. -/
theorem ownsRow_below {w w1 : World} {base : Nat} {e : TypeId} {size : Nat} {v : Value} {n : Nat} {xs : List Value} (h : w.ownsRow base e size v n xs) (hb : Below w.heap.size w w1) : w1.ownsRow base e size v n xs := by
  refine h.kept (row := none) ⟨hb.os, hb.tape, hb.output, hb.size, fun k hk _ => hb.block k hk⟩ ?_
  cases hv : v.ownBlock with
  | none =>
    rcases h.2 with ⟨rfl, _⟩ | ⟨g, cap, cur, rfl, _⟩
    · exact .inl rfl
    · simp [Value.ownBlock] at hv
  | some g => exact .inr (by simp)

/-- What the law on append leaves, for a row of the call's own: below the base nothing has turned. -/
theorem below_append {B : Nat} {a w w1 : World} {e : TypeId} {size : Nat} {v : Value} {n : Nat} {xs : List Value} {o : Obj} (hb : Below B a w) (hB : B ≤ w.heap.size) (hown : w.ownsRow B e size v n xs) (hg : (w.alloc o).grownBy w1 v.ownBlock) : Below B a w1 :=
  (hb.alloc hB o).grown hg (by simp; omega) (fun j hj => by have := (hown.lt _ hj).1; omega)

theorem byteCells_get (l : List UInt8) (j : Nat) (hj : j < l.length) : (Lib.byteCells l)[j]? = some (.int .u8 (l[j].toNat : Int)) := by
  simp [Lib.byteCells, hj]
theorem byteCells_app (a b : List UInt8) : Lib.byteCells (a ++ b) = Lib.byteCells a ++ Lib.byteCells b := by simp [Lib.byteCells]
theorem strCells_bytes (s : ByteArray) : Lib.strCells s = Lib.byteCells s.data.toList := rfl

/-- 'string(b)' of a row of bytes that the call owns. -/
theorem own_string {P : Program} {w : World} {src dst e : TypeId} (hs : P.underlying src = some (.slice e)) (he : P.underlying e = some (.int .u8)) (hd : P.underlying dst = some .string)
    {base : Nat} {v : Value} {n : Nat} {l : List UInt8} (h : w.ownsRow base e 1 v n (Lib.byteCells l)) (hn : n = l.length) : (convert src dst v).run P w = .ok (.string ⟨l.toArray⟩) w := by
  subst hn
  rcases h.2 with ⟨rfl, h0⟩ | ⟨g, cap, cur, rfl, _⟩
  · have hl : l = [] := List.length_eq_zero_iff.1 h0
    subst hl
    rw [run_convert_bytes_string w src dst e none 0 0 hs he hd]
    rfl
  · refine run_convert_bytes_back w src dst e ⟨g, 0, none⟩ cap l hs he hd (fun j hj => ?_)
    have := h.cellAt j (by omega)
    rw [byteCells_get l j hj] at this
    rw [Addr.add_lit]; simpa using this

/-- The cells of a block that has just been laid. -/
theorem cells_new (w : World) (cs : List Value) (t : TypeId) : ∀ j u, cs[j]? = some u → (w.alloc (.cells cs.toArray t)).cell? ((⟨w.heap.size, 0, none⟩ : Addr).add j) = some u := by
  intro j u h
  rw [Addr.add_lit, Nat.zero_add, World.cell?_alloc_mark]
  simpa using h
theorem byteCells_one (l : List UInt8) : ∀ u ∈ Lib.byteCells l, u.oneCell' = true := by
  intro u hu
  simp only [Lib.byteCells, List.mem_map] at hu
  obtain ⟨b, _, rfl⟩ := hu
  rfl

theorem own_append_pos {w : World} {base : Nat} {e : TypeId} {v : Value} {n : Nat} {xs : List Value} (h : w.ownsRow base e 1 v n xs) (hn : 0 < n) : ∃ g cap, v = .slice (some ⟨g, 0, none⟩) n cap ∧ base ≤ g ∧ g < w.heap.size := ownsRow_pos h hn

end Go.Proofs.YtbjlnlgknegbnaaGreatDoor
namespace Go.Proofs.YtbjlnlgknegbnaaGreatDoor
set_option linter.unusedVariables false
set_option linter.unusedSimpArgs false
open Go.RowKit

/-- A notice as a value. -/
def nV (o t k : Int) : Value := .agg #[.int .i64 o, .int .i64 t, .int .i64 k]
/-- Is it one of n nodes? -/
def vN (n o t k : Int) : Bool := decide (1 ≤ n ∧ n ≤ 100 ∧ 0 ≤ o ∧ o < n ∧ 0 ≤ t ∧ t ≤ 1048576 ∧ (k = 1 ∨ k = 2))
/-- Its place in the order; -1: none. -/
def rkI (t k : Int) : Int := if 0 ≤ t ∧ t ≤ 1048576 ∧ (k = 1 ∨ k = 2) then 2 * t + k - 1 else -1
theorem rkI_lo (t k : Int) : -1 ≤ rkI t k ∧ rkI t k ≤ 2097153 := by unfold rkI; split <;> omega
def tgN (r : Nat) : Nat := r / 2
def kdN (r : Nat) : Nat := r % 2 + 1
theorem rkI_nat {r : Nat} (h : r ≤ 2097153) : rkI (tgN r : Nat) (kdN r : Nat) = (r : Int) := by
  unfold rkI tgN kdN; rw [if_pos ⟨by omega, by omega, by omega⟩]; omega
theorem tg_le {r : Nat} (h : r ≤ 2097153) : tgN r ≤ 1048576 := by unfold tgN; omega
theorem kd_le (r : Nat) : 1 ≤ kdN r ∧ kdN r ≤ 2 := by unfold kdN; omega
/-- A right notice is that of a node and a rank. -/
theorem vN_nat {n : Nat} {o t k : Int} (h : vN (n : Int) o t k = true) : ∃ i r : Nat, o = (i : Int) ∧ t = (tgN r : Int) ∧ k = (kdN r : Int) ∧ i < n ∧ r ≤ 2097153 ∧ n ≤ 100 := by
  have h := of_decide_eq_true h
  exact ⟨o.toNat, (2 * t + k - 1).toNat, by omega, by unfold tgN; omega, by unfold kdN; omega, by omega, by omega, by omega⟩
theorem vN_of {n i r : Nat} (hi : i < n) (hn : n ≤ 100) (hr : r ≤ 2097153) : vN (n : Int) (i : Int) (tgN r : Nat) (kdN r : Nat) = true := by
  unfold vN tgN kdN; exact decide_eq_true (by omega)

/-- The cells of a list, the nodes counted from i on. -/
def ntC : Nat → List Nat → List Value
  | _, [] => []
  | i, r :: R => .int .i64 (i : Int) :: .int .i64 (tgN r : Nat) :: .int .i64 (kdN r : Nat) :: ntC (i + 1) R
theorem ntC_len : ∀ (R : List Nat) (i : Nat), (ntC i R).length = R.length * 3
  | [], _ => rfl
  | r :: R, i => by simp only [ntC, List.length_cons, ntC_len R]; omega
theorem ntC_app : ∀ (R S : List Nat) (i : Nat), ntC i (R ++ S) = ntC i R ++ ntC (i + R.length) S
  | [], _, _ => by simp [ntC]
  | r :: R, S, i => by simp only [List.cons_append, ntC, ntC_app R S (i + 1), List.length_cons]; congr 5; omega
theorem ntC_get : ∀ (R : List Nat) (i k r : Nat), R[k]? = some r →
    (ntC i R)[k * 3]? = some (.int .i64 ((i + k : Nat) : Int)) ∧ (ntC i R)[k * 3 + 1]? = some (.int .i64 (tgN r : Nat)) ∧ (ntC i R)[k * 3 + 2]? = some (.int .i64 (kdN r : Nat))
  | [], _, _, _, h => by simp at h
  | q :: R, i, 0, r, h => by
    obtain rfl : q = r := by simpa using h
    exact ⟨rfl, rfl, rfl⟩
  | q :: R, i, k + 1, r, h => by
    obtain ⟨h1, h2, h3⟩ := ntC_get R (i + 1) k r (by simpa using h)
    have e : (k + 1) * 3 = k * 3 + 1 + 1 + 1 := by omega
    rw [e]
    exact ⟨by rw [show i + (k + 1) = i + 1 + k by omega]; exact h1, h2, h3⟩
theorem ntC_one : ∀ (R : List Nat) (i : Nat), ∀ u ∈ ntC i R, u.oneCell' = true
  | [], _ => by simp [ntC]
  | r :: R, i => by
    intro u hu
    simp only [ntC, List.mem_cons] at hu
    rcases hu with rfl | rfl | rfl | hu
    · rfl
    · rfl
    · rfl
    · exact ntC_one R (i + 1) u hu
theorem ntC_set : ∀ (R : List Nat) (i k q : Nat), k < R.length →
    (((ntC i R).set (k * 3) (.int .i64 ((i + k : Nat) : Int))).set (k * 3 + 1) (.int .i64 (tgN q : Nat))).set (k * 3 + 2) (.int .i64 (kdN q : Nat)) = ntC i (R.set k q)
  | [], _, _, _, h => by simp at h
  | r :: R, i, 0, q, _ => rfl
  | r :: R, i, k + 1, q, h => by
    have := ntC_set R (i + 1) k q (by simpa using h)
    have e : (k + 1) * 3 = k * 3 + 1 + 1 + 1 := by omega
    rw [e, show i + (k + 1) = i + 1 + k by omega]
    simp only [ntC, List.set_cons_succ] at this ⊢
    rw [← this]

/-- A list of notices of the nodes 0, 1 ..: the slice v over the block g. -/
def NL (W : World) (v : Value) (g : Nat) (R : List Nat) : Prop := ∃ cap sp, v = .slice (some ⟨g, 0, none⟩) R.length cap ∧ W.heap[g]? = some (.cells (ntC 0 R ++ sp).toArray 60 (0, 0))
theorem NL.below {W X : World} {v : Value} {g : Nat} {R : List Nat} (h : NL W v g R) (hb : Below W.heap.size W X) : NL X v g R := by
  obtain ⟨cap, sp, rfl, h1⟩ := h; exact ⟨cap, sp, rfl, blk_below' hb h1⟩
theorem NL.lt {W : World} {v : Value} {g : Nat} {R : List Nat} (h : NL W v g R) : g < W.heap.size := by
  obtain ⟨cap, sp, rfl, h1⟩ := h; exact (Array.getElem?_eq_some_iff.1 h1).1
theorem NL.cells {W : World} {v : Value} {g : Nat} {R : List Nat} (h : NL W v g R) {k r : Nat} (hr : R[k]? = some r) :
    (W.cell? ⟨g, k * 3, none⟩ = some (.int .i64 (k : Int)) ∧ W.cell? ⟨g, k * 3 + 1, none⟩ = some (.int .i64 (tgN r : Nat)) ∧ W.cell? ⟨g, k * 3 + 2, none⟩ = some (.int .i64 (kdN r : Nat))) ∧
    (W.frozen? ⟨g, k * 3, none⟩ = false ∧ W.frozen? ⟨g, k * 3 + 1, none⟩ = false ∧ W.frozen? ⟨g, k * 3 + 2, none⟩ = false) := by
  obtain ⟨cap, sp, rfl, h1⟩ := h
  have hk : k < R.length := (List.getElem?_eq_some_iff.1 hr).1
  obtain ⟨g0, g1, g2⟩ := ntC_get R 0 k r hr
  have hl := ntC_len R 0
  refine ⟨⟨?_, ?_, ?_⟩, blk_free h1 _, blk_free h1 _, blk_free h1 _⟩
  · rw [blk_cell h1, List.getElem?_toArray, List.getElem?_append_left (by omega), g0]; simp
  · rw [blk_cell h1, List.getElem?_toArray, List.getElem?_append_left (by omega), g1]
  · rw [blk_cell h1, List.getElem?_toArray, List.getElem?_append_left (by omega), g2]
/-- A notice is stored in its place. -/
theorem NL.set {W : World} {v : Value} {g : Nat} {R : List Nat} (h : NL W v g R) {k : Nat} (hk : k < R.length) (q : Nat) :
    NL (((W.setCell ⟨g, k * 3, none⟩ (.int .i64 (k : Int))).setCell ⟨g, k * 3 + 1, none⟩ (.int .i64 (tgN q : Nat))).setCell ⟨g, k * 3 + 2, none⟩ (.int .i64 (kdN q : Nat))) v g (R.set k q) := by
  obtain ⟨cap, sp, rfl, h1⟩ := h
  have hl := ntC_len R 0
  refine ⟨cap, sp, by rw [List.length_set], ?_⟩
  have h2 := blk_store (blk_store (blk_store h1 (k * 3) (.int .i64 (k : Int))) (k * 3 + 1) (.int .i64 (tgN q : Nat))) (k * 3 + 2) (.int .i64 (kdN q : Nat))
  rw [h2]
  congr 2
  simp only [List.setIfInBounds_toArray]
  rw [List.set_append_left _ _ (by omega), List.set_append_left _ _ (by simp only [List.length_set]; omega), List.set_append_left _ _ (by simp only [List.length_set]; omega)]
  congr 2
  have := ntC_set R 0 k q hk
  simpa using this
/-- A notice is stored behind the last one, where there is room. -/
theorem ntC_next (R : List Nat) (q : Nat) (a b c : Value) (sp : List Value) :
    ((((ntC 0 R ++ a :: b :: c :: sp).toArray.setIfInBounds (R.length * 3) (.int .i64 (R.length : Int))).setIfInBounds (R.length * 3 + 1) (.int .i64 (tgN q : Nat))).setIfInBounds (R.length * 3 + 2) (.int .i64 (kdN q : Nat))) = (ntC 0 (R ++ [q]) ++ sp).toArray := by
  have hl := ntC_len R 0
  simp only [List.setIfInBounds_toArray]
  rw [List.set_append_right _ _ (by omega), List.set_append_right _ _ (by omega), List.set_append_right _ _ (by omega), ntC_app, hl]
  simp [ntC]
/-- What a book is behind a notice: the greater rank. -/
def tkR (R : List Nat) (i r : Nat) : List Nat := if R.getD i 0 < r then R.set i r else R
theorem tkR_len (R : List Nat) (i r : Nat) : (tkR R i r).length = R.length := by unfold tkR; split <;> simp
theorem tkR_le {R : List Nat} (h : ∀ x ∈ R, x ≤ 2097153) {i r : Nat} (hr : r ≤ 2097153) : ∀ x ∈ tkR R i r, x ≤ 2097153 := by
  unfold tkR; split
  · intro x hx; rcases List.mem_or_eq_of_mem_set hx with h' | rfl
    · exact h x h'
    · exact hr
  · exact h
end Go.Proofs.YtbjlnlgknegbnaaGreatDoor
namespace Go.Proofs.YtbjlnlgknegbnaaGreatDoor
set_option linter.unusedVariables false
open Go.RowKit

theorem bits_and_u32 (a b : Nat) (ha : a < 4294967296) (hb : b < 4294967296) : bits .and .u32 (a : Int) (b : Int) = ((a &&& b : Nat) : Int) := by
  have hx : a &&& b < 2 ^ 32 := Nat.and_lt_two_pow _ (by omega)
  have h1 : (BitVec.ofInt 32 (a : Int)).toNat = a := by rw [BitVec.ofInt_natCast, BitVec.toNat_ofNat]; exact Nat.mod_eq_of_lt (by omega)
  have h2 : (BitVec.ofInt 32 (b : Int)).toNat = b := by rw [BitVec.ofInt_natCast, BitVec.toNat_ofNat]; exact Nat.mod_eq_of_lt (by omega)
  show IntKind.u32.wrap ((BitVec.ofInt 32 (a : Int) &&& BitVec.ofInt 32 (b : Int)).toNat : Int) = _
  rw [BitVec.toNat_and, h1, h2, IntKind.wrap_u32]
  omega
theorem bits_or_u32 (a b : Nat) (ha : a < 4294967296) (hb : b < 4294967296) : bits .or .u32 (a : Int) (b : Int) = ((a ||| b : Nat) : Int) := by
  have hx : a ||| b < 2 ^ 32 := Nat.or_lt_two_pow (by omega) (by omega)
  have h1 : (BitVec.ofInt 32 (a : Int)).toNat = a := by rw [BitVec.ofInt_natCast, BitVec.toNat_ofNat]; exact Nat.mod_eq_of_lt (by omega)
  have h2 : (BitVec.ofInt 32 (b : Int)).toNat = b := by rw [BitVec.ofInt_natCast, BitVec.toNat_ofNat]; exact Nat.mod_eq_of_lt (by omega)
  show IntKind.u32.wrap ((BitVec.ofInt 32 (a : Int) ||| BitVec.ofInt 32 (b : Int)).toNat : Int) = _
  rw [BitVec.toNat_or, h1, h2, IntKind.wrap_u32]
  omega

/-- The word j of a set. -/
def sw (x j : Nat) : Nat := x >>> (32 * j) % 2 ^ 32
theorem sw_lt (x j : Nat) : sw x j < 4294967296 := Nat.mod_lt _ (by decide)
theorem sw_bit (x j i : Nat) : (sw x j).testBit i = (decide (i < 32) && x.testBit (32 * j + i)) := by
  unfold sw; rw [Nat.testBit_mod_two_pow, Nat.testBit_shiftRight]
theorem sw_and (x y j : Nat) : sw (x &&& y) j = sw x j &&& sw y j := by
  apply Nat.eq_of_testBit_eq
  intro i
  rw [Nat.testBit_and, sw_bit, sw_bit, sw_bit, Nat.testBit_and]
  cases decide (i < 32) <;> simp
/-- Is the id in the set? -/
theorem sw_has (x i : Nat) : sw x (i / 32) >>> (i % 32) % 2 = (x.testBit i).toNat := by
  have h := sw_bit x (i / 32) (i % 32)
  rw [show decide (i % 32 < 32) = true from by simp; omega, Bool.true_and, show 32 * (i / 32) + i % 32 = i from by omega] at h
  rw [← h, Nat.testBit_eq_decide_div_mod_eq, Nat.shiftRight_eq_div_pow]
  rcases Nat.mod_two_eq_zero_or_one (sw x (i / 32) / 2 ^ (i % 32)) with e | e <;> rw [e] <;> rfl
theorem sw_with (x i j : Nat) : sw (x ||| 2 ^ i) j = if j = i / 32 then sw x j ||| 2 ^ (i % 32) else sw x j := by
  apply Nat.eq_of_testBit_eq
  intro k
  by_cases hj : j = i / 32
  · rw [if_pos hj, Nat.testBit_or, sw_bit, sw_bit, Nat.testBit_or, Nat.testBit_two_pow, Nat.testBit_two_pow]
    by_cases hk : k < 32
    · have : (i = 32 * j + k) = (i % 32 = k) := by rw [eq_iff_iff]; omega
      simp [hk, this]
    · have : ¬ i % 32 = k := by omega
      simp [hk, this]
  · rw [if_neg hj, sw_bit, sw_bit, Nat.testBit_or, Nat.testBit_two_pow]
    by_cases hk : k < 32
    · have : ¬ i = 32 * j + k := by omega
      simp [hk, this]
    · simp [hk]
theorem sw_mask (n j : Nat) : sw (2 ^ n - 1) j = 2 ^ (min (n - 32 * j) 32) - 1 := by
  apply Nat.eq_of_testBit_eq
  intro k
  rw [sw_bit, Nat.testBit_two_pow_sub_one, Nat.testBit_two_pow_sub_one]
  by_cases hk : k < 32
  · have : (32 * j + k < n) = (k < min (n - 32 * j) 32) := by rw [eq_iff_iff]; omega
    simp only [hk, decide_true, Bool.true_and, this]
  · have : ¬ k < min (n - 32 * j) 32 := by omega
    simp [hk, this]
theorem set_ext {x y : Nat} (hx : x < 2 ^ 128) (hy : y < 2 ^ 128) (h : ∀ j, j < 4 → sw x j = sw y j) : x = y := by
  apply Nat.eq_of_testBit_eq
  intro k
  by_cases hk : k < 128
  · have h2 := congrArg (fun n => n.testBit (k % 32)) (h (k / 32) (by omega))
    simp only [sw_bit] at h2
    rw [show decide (k % 32 < 32) = true from by simp; omega, show 32 * (k / 32) + k % 32 = k from by omega] at h2
    simpa using h2
  · rw [Nat.testBit_lt_two_pow (Nat.lt_of_lt_of_le hx (Nat.pow_le_pow_right (by decide) (by omega))), Nat.testBit_lt_two_pow (Nat.lt_of_lt_of_le hy (Nat.pow_le_pow_right (by decide) (by omega)))]
/-- Any four words are a set's. -/
def setOf4 (a b c d : Nat) : Nat := a + 2 ^ 32 * b + 2 ^ 64 * c + 2 ^ 96 * d
theorem setOf4_lt {a b c d : Nat} (ha : a < 2 ^ 32) (hb : b < 2 ^ 32) (hc : c < 2 ^ 32) (hd : d < 2 ^ 32) : setOf4 a b c d < 2 ^ 128 := by unfold setOf4; omega
theorem setOf4_sw {a b c d : Nat} (ha : a < 2 ^ 32) (hb : b < 2 ^ 32) (hc : c < 2 ^ 32) (hd : d < 2 ^ 32) :
    sw (setOf4 a b c d) 0 = a ∧ sw (setOf4 a b c d) 1 = b ∧ sw (setOf4 a b c d) 2 = c ∧ sw (setOf4 a b c d) 3 = d := by
  unfold sw setOf4
  simp only [Nat.shiftRight_eq_div_pow, Nat.mul_zero, Nat.pow_zero, Nat.div_one, Nat.mul_one, show (32 * 2 : Nat) = 64 from rfl, show (32 * 3 : Nat) = 96 from rfl]
  omega

def setC (x : Nat) : Array Value := #[.int .u32 (sw x 0 : Nat), .int .u32 (sw x 1 : Nat), .int .u32 (sw x 2 : Nat), .int .u32 (sw x 3 : Nat)]
def setV (x : Nat) : Value := .agg (setC x)
theorem setC_get (x j : Nat) (hj : j < 4) : (setC x)[j]? = some (.int .u32 (sw x j : Nat)) := by
  match j, hj with
  | 0, _ => rfl
  | 1, _ => rfl
  | 2, _ => rfl
  | 3, _ => rfl
theorem clean_mod (x : Nat) : x &&& (2 ^ 100 - 1) = x % 2 ^ 100 := Nat.and_two_pow_sub_one_eq_mod x 100
end Go.Proofs.YtbjlnlgknegbnaaGreatDoor
namespace Go.Proofs.YtbjlnlgknegbnaaGreatDoor
set_option linter.unusedVariables false
open Go.RowKit

theorem ret_b {a b : Bool} (h : a = b) : Ending.returned (.bool a) = .returned (.bool b) := by rw [h]
theorem isId_yes (i : Int) (h0 : 0 ≤ i) (h1 : i < 100) (w : World) :
    Calls Tryz.prog 57 #[.int .i64 i] w fun e w' => e = .returned (.bool true) ∧ w = w' := by
  go_enter Tryz.func57, Tryz.ntmps57
  go_wp2
  go_ret
  exact ⟨rfl, rfl⟩
theorem isId_no (i : Int) (h : ¬ (0 ≤ i ∧ i < 100)) (w : World) :
    Calls Tryz.prog 57 #[.int .i64 i] w fun e w' => e = .returned (.bool false) ∧ w = w' := by
  by_cases h0 : 0 ≤ i
  · have h1 : 100 ≤ i := by omega
    have h2 : decide (i < 100) = false := by simp; omega
    clear h
    go_enter Tryz.func57, Tryz.ntmps57
    go_wp2
    go_ret
    exact ⟨rfl, rfl⟩
  · have h1 : i < 0 := by omega
    clear h h0
    go_enter Tryz.func57, Tryz.ntmps57
    go_wp2
    go_ret
    exact ⟨rfl, rfl⟩

theorem has_word (x k : Nat) : (bits .and .u32 ((sw x (k / 32) : Nat) / 2 ^ (k % 32) : Int) 1 == (1 : Int)) = x.testBit (k : Int).toNat := by
  have h1 : ((sw x (k / 32) : Nat) / 2 ^ (k % 32) : Int) = ((sw x (k / 32) / 2 ^ (k % 32) : Nat) : Int) := by push_cast; rfl
  have h2 := sw_has x k
  rw [Nat.shiftRight_eq_div_pow] at h2
  have h3 : sw x (k / 32) / 2 ^ (k % 32) < 4294967296 := Nat.lt_of_le_of_lt (Nat.div_le_self _ _) (sw_lt _ _)
  rw [h1, show (1 : Int) = ((1 : Nat) : Int) from rfl, bits_and_u32 _ _ h3 (by decide), show (sw x (k / 32) / 2 ^ (k % 32)) &&& 1 = (sw x (k / 32) / 2 ^ (k % 32)) % 2 from Nat.and_one_is_mod _, h2]
  rw [Int.toNat_natCast]; cases x.testBit k <;> rfl
def hasB (x : Nat) (i : Int) : Bool := decide (0 ≤ i ∧ i < 100) && x.testBit i.toNat
end Go.Proofs.YtbjlnlgknegbnaaGreatDoor
namespace Go.Proofs.YtbjlnlgknegbnaaGreatDoor
open Go.RowKit
set_option linter.unusedVariables false

def noDefer (o : Oper) : Bool := match o.op with | .defer _ => false | _ => true
theorem noDefer_spec {o : Oper} (h : noDefer o = true) : ∀ c, o.op ≠ .defer c := by
  intro c hc; simp [noDefer, hc] at h

section
variable {P : Program} {l0 m : Nat}

theorem rows_in {row : String} {args : Array Value} {w : World} {R : Value → World → Prop} (h : Rows P row args w R) : RowsIn (Fence.wide.inRound l0) m P row args w R :=
  fun c cs _ => let ⟨v, w', r, s⟩ := h c cs; ⟨v, w', r, by rw [fenced_inRound]; exact stepsIn_wide.2 s⟩

theorem upon_in {o : Oper} {a : Act} {next : Act → World → Prop} {Q : Exit → Act → World → Prop} {r : Result Next} (h : o.upon P a next Q r) : o.uponIn (Fence.wide.inRound l0) m P a next Q r := by
  cases r with
  | ok n w =>
    cases n with
    | value v => exact h
    | skip => exact h
    | defer d => exact h
    | enter f args => exact ⟨fun hd => by simp [Fence.wide] at hd, CallsIn.inRound l0 (callsIn_wide.2 h)⟩
    | row row args => exact ⟨fun hd => by simp [Fence.wide] at hd, rows_in h⟩
    | _ => exact h.elim
  | halt x w =>
    cases x <;> first | exact h | exact h.elim

theorem wp_in {o : Oper} (hn : noDefer o = true) {a : Act} {w : World} {next : Act → World → Prop} {Q : Exit → Act → World → Prop} (h : o.wp P a w next Q) : o.wpIn (Fence.wide.inRound l0) m P a w next Q := by
  refine ⟨fun _ _ => trivial, ?_⟩
  rw [Oper.semAt_plain _ _ _ (noDefer_spec hn)]
  exact upon_in h

theorem wpAny_in {md : Region.Mode} {ops : Array Oper} {Q : Exit → Act → World → Prop} (hn : ∀ (i : Nat) (o : Oper), ops[i]? = some o → noDefer o = true) (hQ : ¬ LetsOut Q) :
    ∀ (fuel : Nat) (listed : Array Bool) (a : Act) (w : World), wpAny P md ops Q fuel listed a w → wpAnyIn (Fence.wide.inRound l0) m P md ops Q fuel listed a w := by
  intro fuel
  induction fuel with
  | zero => exact fun _ _ _ h => h
  | succ fuel ih =>
    intro listed a w h
    refine ⟨h.1, fun i hi => ?_⟩
    have h2 := h.2 i hi
    unfold wpOp at h2
    unfold wpOpIn
    cases ho : ops[i]? with
    | none => simp only [ho] at h2 ⊢; exact ih _ _ _ h2
    | some o =>
      simp only [ho] at h2 ⊢
      by_cases hw : Region.wanted o (yielded ops a.tmps) = true
      · rw [if_pos hw] at h2 ⊢
        rcases h2 with h2 | ⟨_, h2⟩
        · exact wp_in (hn i o ho) (Oper.wp_mono (fun a w hh => ih _ _ _ hh) h2)
        · exact absurd h2 hQ
      · rw [if_neg hw] at h2 ⊢
        exact ⟨fun _ _ => trivial, ih _ _ _ h2⟩

theorem wpIn_region_still_tail {id : Nat} {Q : Exit → Act → World → Prop} {a : Act} {w : World} {l : List Oper} (n : Nat) (hm : P.follows .mixedOrders = true) (hB : Region.lexTailB .any l.toArray n = true) (hnd : l.all noDefer = true) (hQ : ¬ LetsOut Q)
    (h : wpStill P l.toArray { w with drawn := w.drawn + 1 } (fun a' => wpList P l.toArray Q (l.drop n) a' { w with drawn := w.drawn + 1 }) (l.take n) a) : (Code.region id l.toArray true).wpIn (Fence.wide.inRound l0) m P Q a w := by
  simp only [Region.lexTailB, Bool.and_eq_true, decide_eq_true_eq] at hB
  obtain ⟨⟨⟨⟨hsel, hn⟩, hs⟩, hc⟩, hlex⟩ := hB
  have hn' : n < l.length := by simpa using hn
  have htl : (l.take n).length = n := by simp; omega
  have hdl : (l.drop n).length = l.toArray.size - n := by simp
  have inv0 : HeadInv .any l.toArray n (Array.replicate l.toArray.size false) :=
    ⟨by simp, fun j oj _ hl => (by rw [getD_replicate_false] at hl; cases hl), fun t _ ht => getD_in (by simpa using ht) (getD_replicate_false _ _)⟩
  have H := wpAnyL_lex (md := .any) (g := l.toArray.size - n) hsel hs hc hn (l.take n) 0 _ a (fun j hj => by
    have hj' : j < n := by rw [htl] at hj; exact hj
    simp [hj']) (by simpa using htl) inv0 (by rw [htl]; exact hlex) h
  refine wpIn_region_any hm ?_
  have := wpAny_of_head (Q' := Q) (g := l.toArray.size - n) (fun listed a' hL => by
    have := wpAny_of_seq (md := .any) (Q' := Q) (l.drop n) n listed a' { w with drawn := w.drawn + 1 } (fun j => by simp [List.getElem?_drop]) (by rw [hdl]; exact hL.1) hL.2
    rwa [hdl] at this) _ _ _ H
  rw [htl, show n + (l.toArray.size - n) = l.toArray.size by omega] at this
  refine wpAny_in (fun i o ho => ?_) hQ _ _ _ _ this
  rw [List.all_eq_true] at hnd
  exact hnd o (by rw [List.getElem?_toArray] at ho; exact List.mem_of_getElem? ho)
end

end Go.Proofs.YtbjlnlgknegbnaaGreatDoor
namespace Go.Proofs.YtbjlnlgknegbnaaGreatDoor
open Go.RowKit
set_option linter.unusedVariables false

section
variable {P : Program} {ops : Array Oper} {Q : Exit → Act → World → Prop} {md : Region.Mode} {S : World → Prop} {L : Nat → Bool}

/-- Whatever order is picked: S is shown anew behind each operation that is not late. -/
def wpAnyE (P : Program) (md : Region.Mode) (ops : Array Oper) (Q : Exit → Act → World → Prop) (S : World → Prop) (L : Nat → Bool) : Nat → Array Bool → Act → World → Prop
  | 0, listed, a, w => Region.ready md ops listed = [] ∧ Q .normal a w
  | fuel + 1, listed, a, w =>
    (Region.ready md ops listed = [] → Q .normal a w) ∧
    ∀ i ∈ Region.ready md ops listed, wpOp P ops Q i (fun a' w' => (L i = false → S w') ∧ wpAnyE P md ops Q S L fuel (listed.setIfInBounds i true) a' w') a w

theorem wpAny_of_early : ∀ (fuel : Nat) (listed : Array Bool) (a : Act) (w : World), wpAnyE P md ops Q S L fuel listed a w → wpAny P md ops Q fuel listed a w
  | 0, _, _, _, h => h
  | fuel + 1, _, _, _, h => ⟨h.1, fun i hi => wpOp_mono (fun a' w' h' => wpAny_of_early fuel _ a' w' h'.2) (h.2 i hi)⟩

/-- The operations that wait for i, directly or through others. -/
def waits (md : Region.Mode) (ops : Array Oper) (i : Nat) : List Nat :=
  (List.range ops.size).foldl (fun t j => match ops[j]? with
    | some o => if o.after.any (fun e => Region.binds md e && (e.on == i || t.contains e.on)) then j :: t else t
    | none => t) []

def earlyB (md : Region.Mode) (ops : Array Oper) (L : Nat → Bool) (listed : Array Bool) (i : Nat) : Bool :=
  (List.range ops.size).all fun j =>
    (!L j || (waits md ops i).contains j) &&
    (!(waits md ops i).contains j || (!listed.getD j true && match ops[j]? with
      | some o => o.after.any (fun e => Region.binds md e && (e.on == i || (waits md ops i).contains e.on))
      | none => false))

theorem earlyB_spec {listed : Array Bool} {i : Nat} (h : earlyB md ops L listed i = true) : ∀ j oj, ops[j]? = some oj →
    (L j = true → (waits md ops i).contains j = true) ∧ ((waits md ops i).contains j = true → listed.getD j true = false ∧ ∃ e ∈ oj.after, Region.binds md e = true ∧ (e.on = i ∨ (waits md ops i).contains e.on = true)) := by
  intro j oj hj
  unfold earlyB at h
  rw [List.all_eq_true] at h
  have h1 := h j (List.mem_range.2 (Array.getElem?_eq_some_iff.1 hj).1)
  simp only [hj, Bool.and_eq_true, Bool.or_eq_true, Bool.not_eq_true'] at h1
  refine ⟨fun hL => ?_, fun hw => ?_⟩
  · rcases h1.1 with h | h
    · rw [hL] at h; cases h
    · exact h
  · rcases h1.2 with h | h
    · rw [hw] at h; cases h
    · obtain ⟨h2, h3⟩ := h
      obtain ⟨e, he, hb⟩ := Array.any_eq_true'.1 h3
      simp only [Bool.and_eq_true, Bool.or_eq_true, beq_iff_eq] at hb
      exact ⟨h2, e, he, hb.1, hb.2⟩

theorem wpAnyE_first {i : Nat} {oi : Oper} {v : Value} (hi : ops[i]? = some oi) (hsel : ∀ (j : Nat) (o : Oper) cs b, ops[j]? = some o → o.op ≠ .select cs b)
    (hQ : ∀ c a w, Q (.panic c) (a.put oi.dst v) w → Q (.panic c) a w) (T : Nat → Bool) (hLT : ∀ j oj, ops[j]? = some oj → L j = true → T j = true)
    (hcl : ∀ j oj, ops[j]? = some oj → T j = true → ∃ e ∈ oj.after, Region.binds md e = true ∧ (e.on = i ∨ T e.on = true)) (hTs : ∀ j, T j = true → j < ops.size) :
    ∀ (fuel : Nat) (listed : Array Bool) (a : Act) (w : World), (∀ j, T j = true → listed.getD j true = false) →
      (∀ j oj, ops[j]? = some oj → j ≠ i → listed.getD j true = false → (∀ e ∈ oj.after, Region.binds md e = true → e.on ≠ i) → oi.apart ops oj = true) →
      i ∈ Region.ready md ops listed → YieldsIf P ops S oi v a → S w →
      wpAnyE P md ops Q S L fuel (listed.setIfInBounds i true) (a.put oi.dst v) w → wpAnyE P md ops Q S L (fuel + 1) listed a w := by
  have flip : ∀ (listed : Array Bool) k, listed.getD k true = false → listed.getD k false = true → False := by
    intro listed k h0 h1
    rcases Nat.lt_or_ge k listed.size with h' | h'
    · simp [h'] at h0 h1; rw [h0] at h1; cases h1
    · simp [Array.getElem?_eq_none h'] at h1
  intro fuel
  induction fuel with
  | zero =>
    intro listed a w _ _ hr hy hS H
    refine ⟨fun h => (by rw [h] at hr; cases hr), fun j hj => ?_⟩
    by_cases hji : j = i
    · subst hji; exact hy.wpOp hi hS ⟨fun _ => hS, H⟩
    · have := ready_mono hj hji
      rw [H.1] at this
      cases this
  | succ fuel ih =>
    intro listed a w hT hfree hr hy hS H
    refine ⟨fun h => (by rw [h] at hr; cases hr), fun j hj => ?_⟩
    by_cases hji : j = i
    · subst hji; exact hy.wpOp hi hS ⟨fun _ => hS, H⟩
    · have h1 := H.2 j (ready_mono hj hji)
      obtain ⟨hjun, oj, hoj, hall⟩ := mem_ready.1 hj
      have hiun := (mem_ready.1 hr).1
      have hnot : ∀ e ∈ oj.after, Region.binds md e = true → e.on ≠ i := fun e he hb heq => flip _ _ hiun (heq ▸ hall e he hb)
      have hTj : T j = false := by
        cases hTj : T j with
        | false => rfl
        | true =>
          obtain ⟨e, he, hb, h⟩ := hcl j oj hoj hTj
          rcases h with h | h
          · exact absurd h (hnot e he hb)
          · exact (flip _ _ (hT _ h) (hall e he hb)).elim
      have hLj : L j = false := by
        cases hLj : L j with
        | false => rfl
        | true => rw [hLT j oj hoj hLj] at hTj; cases hTj
      have h2 := wpOp_putIf hoj (hfree j oj hoj hji hjun hnot) (fun cs b => hsel i oi cs b hi) (fun cs b => hsel j oj cs b hoj) hQ hy h1
      have hfree' : ∀ k ok, ops[k]? = some ok → k ≠ i → (listed.setIfInBounds j true).getD k true = false →
          (∀ e ∈ ok.after, Region.binds md e = true → e.on ≠ i) → oi.apart ops ok = true := fun k ok hk hki hun hno => by
        refine hfree k ok hk hki ?_ hno
        by_cases hjk : j = k
        · subst hjk; exact hjun
        · rw [getD_set_ne true hjk] at hun; exact hun
      have hT' : ∀ k, T k = true → (listed.setIfInBounds j true).getD k true = false := fun k hk => by
        have hjk : j ≠ k := fun h => by subst h; rw [hTj] at hk; cases hk
        rw [getD_set_ne true hjk]; exact hT k hk
      refine wpOp_mono (fun a' w' h3 => ⟨h3.2.1, ih (listed.setIfInBounds j true) a' w' hT' hfree' (ready_mono hr (Ne.symm hji)) h3.1 (h3.2.1 hLj) ?_⟩) h2
      rw [Array.setIfInBounds_comm _ _ hji]
      exact h3.2.2

theorem mem_waits {i j : Nat} (h : (waits md ops i).contains j = true) : j < ops.size := by
  have key : ∀ (l : List Nat) (t : List Nat), (∀ k ∈ t, k < ops.size) → ∀ k ∈ l.foldl (fun t j => match ops[j]? with
    | some o => if o.after.any (fun e => Region.binds md e && (e.on == i || t.contains e.on)) then j :: t else t
    | none => t) t, k < ops.size := by
    intro l
    induction l with
    | nil => intro t ht k hk; exact ht k hk
    | cons x l ih =>
      intro t ht k hk
      refine ih _ ?_ k hk
      intro k' hk'
      dsimp only at hk'
      cases ho : ops[x]? with
      | none => rw [ho] at hk'; exact ht k' hk'
      | some o =>
        rw [ho] at hk'
        simp only at hk'
        split at hk'
        · rcases List.mem_cons.1 hk' with rfl | h
          · exact (Array.getElem?_eq_some_iff.1 ho).1
          · exact ht k' h
        · exact ht k' hk'
  exact key _ [] (by simp) j (by simpa [waits] using h)

/-- Take number i first. -/
theorem wpAnyE_take {i : Nat} {oi : Oper} {v : Value} {fuel : Nat} {listed : Array Bool} {a : Act} {w : World} (hi : ops[i]? = some oi)
    (hs : Region.noSelect ops = true) (hf : Region.free md ops listed i = true) (hr : (Region.ready md ops listed).contains i = true) (he : earlyB md ops L listed i = true)
    (hQ : ∀ c a w, Q (.panic c) (a.put oi.dst v) w → Q (.panic c) a w) (hy : YieldsIf P ops S oi v a) (hS : S w)
    (h : wpAnyE P md ops Q S L fuel (listed.setIfInBounds i true) (a.put oi.dst v) w) : wpAnyE P md ops Q S L (fuel + 1) listed a w :=
  wpAnyE_first hi (Region.noSelect_spec hs) hQ (fun j => (waits md ops i).contains j) (fun j oj hj => (earlyB_spec he j oj hj).1)
    (fun j oj hj hw => ((earlyB_spec he j oj hj).2 hw).2) (fun j hj => mem_waits hj) fuel listed a w
    (fun j hj => ((earlyB_spec he j (ops[j]'(mem_waits hj)) (by simp [mem_waits hj])).2 hj).1) (Region.free_spec hi hf) (by simpa using hr) hy hS h

/-- The operations one behind the other, each alone. -/
def wpListE (P : Program) (ops : Array Oper) (Q : Exit → Act → World → Prop) (S : World → Prop) (L : Nat → Bool) : Nat → List Oper → Act → World → Prop
  | _, [], a, w => Q .normal a w
  | k, o :: l, a, w => wpList P ops (Exit.then (fun a' w' => (L k = false → S w') ∧ wpListE P ops Q S L (k + 1) l a' w') Q) [o] a w

theorem upon_then {o : Oper} {a : Act} {K : Act → World → Prop} {r : Result Next} (h : o.upon P a K (Exit.then K Q) r) : o.upon P a K Q r := by
  have hl : LetsOut (Exit.then K Q) → LetsOut Q := fun ⟨a, w, h⟩ => ⟨a, w, h⟩
  cases r with
  | ok n w' =>
    cases n <;> simp only [Oper.upon] at h ⊢ <;>
      first
        | exact h
        | exact Calls.mono h (fun e w'' he => by cases e <;> first | exact he | exact hl he)
  | halt x w' => cases x <;> simp only [Oper.upon] at h ⊢ <;> exact h

theorem wpOp_of_single {i : Nat} {o : Oper} {K : Act → World → Prop} {a : Act} {w : World} (hi : ops[i]? = some o) (h : wpList P ops (Exit.then K Q) [o] a w) : wpOp P ops Q i K a w := by
  unfold wpOp
  simp only [hi]
  unfold wpList at h
  split
  · rename_i hw
    rw [if_pos hw] at h
    rcases h with h | ⟨hasks, hlets⟩
    · exact .inl (upon_then h)
    · exact .inr ⟨hasks, let ⟨a, w, h⟩ := hlets; ⟨a, w, h⟩⟩
  · rename_i hw
    rw [if_neg hw] at h
    exact h

theorem wpAnyE_seq : ∀ (l : List Oper) (k : Nat) (listed : Array Bool) (a : Act) (w : World), (∀ j, l[j]? = ops[k + j]?) →
    Region.seqB md ops l.length k listed = true → wpListE P ops Q S L k l a w → wpAnyE P md ops Q S L l.length listed a w
  | [], _, _, _, _, _, hB, h => ⟨by simpa [Region.seqB] using hB, h⟩
  | o :: l, k, listed, a, w, hl, hB, h => by
    have h0 : ops[k]? = some o := by simpa using (hl 0).symm
    simp only [List.length_cons, Region.seqB, Bool.and_eq_true, decide_eq_true_eq] at hB
    refine ⟨fun h1 => (by rw [hB.1] at h1; cases h1), fun i hi => ?_⟩
    rw [hB.1] at hi
    have hik : i = k := by simpa using hi
    subst hik
    exact wpOp_mono (fun a' w' h' => ⟨h'.1, wpAnyE_seq l (i + 1) _ a' w' (fun j => by have := hl (j + 1); simpa [Nat.add_assoc, Nat.add_comm 1 j] using this) hB.2 h'.2⟩) (wpOp_of_single h0 h)

/-- The tail from operation k on, one operation at a time. -/
theorem wpAnyE_tail {l : List Oper} (k : Nat) {fuel : Nat} {listed : Array Bool} {a : Act} {w : World} (hf : (l.drop k).length = fuel)
    (hB : Region.seqB md l.toArray (l.drop k).length k listed = true) (h : wpListE P l.toArray Q S L k (l.drop k) a w) : wpAnyE P md l.toArray Q S L fuel listed a w :=
  hf ▸ wpAnyE_seq (l.drop k) k listed a w (fun j => by simp [List.getElem?_drop]) hB h

/-- From here on S is not asked: every operation left is late. -/
theorem wpListE_late : ∀ (l : List Oper) (k : Nat) (a : Act) (w : World), (∀ j, j < l.length → L (k + j) = true) → wpList P ops Q l a w → wpListE P ops Q S L k l a w
  | [], _, _, _, _, h => h
  | o :: l, k, a, w, hL, h => by
    have ih := fun a' w' => wpListE_late l (k + 1) a' w' (fun j hj => by have := hL (j + 1) (by simp; omega); rwa [Nat.add_assoc, Nat.add_comm 1 j])
    have h0 : L k = true := hL 0 (by simp)
    unfold wpListE
    unfold wpList at h ⊢
    have hK : ∀ a' w', wpList P ops Q l a' w' → wpList P ops (Exit.then (fun a' w' => (L k = false → S w') ∧ wpListE P ops Q S L (k + 1) l a' w') Q) [] a' w' :=
      fun a' w' h => ⟨fun hf => (by rw [h0] at hf; cases hf), ih a' w' h⟩
    split
    · rename_i hw
      rw [if_pos hw] at h
      rcases h with h | ⟨hasks, hlets⟩
      · refine .inl ?_
        unfold Oper.wp at h ⊢
        generalize (execOp a.eval o).run P w = r at *
        cases r with
        | ok n w' =>
          cases n <;> simp only [Oper.upon] at h ⊢ <;>
            first
              | exact hK _ _ h
              | exact Calls.mono h (fun e w'' he => by cases e <;> first | exact hK _ _ he | exact he | exact (let ⟨a, w, h⟩ := he; ⟨a, w, h⟩))
              | exact Rows.mono h (fun _ _ he => hK _ _ he)
        | halt x w' => cases x <;> simp only [Oper.upon] at h ⊢ <;> exact h
      · exact .inr ⟨hasks, let ⟨a, w, h⟩ := hlets; ⟨a, w, h⟩⟩
    · rename_i hw
      rw [if_neg hw] at h
      exact hK _ _ h

theorem wp_region_early {id : Nat} {a : Act} {w : World} (S : World → Prop) (L : Nat → Bool) (hm : P.follows .mixedOrders = true)
    (h : wpAnyE P .any ops Q S L ops.size (Array.replicate ops.size false) a w.drew) : (Code.region id ops true).wp P Q a w :=
  wp_region_any hm (wpAny_of_early _ _ _ _ h)

theorem wpIn_region_early {id l0 m : Nat} {a : Act} {w : World} (S : World → Prop) (L : Nat → Bool) (hm : P.follows .mixedOrders = true) (hnd : ops.all noDefer = true) (hQ : ¬ LetsOut Q)
    (h : wpAnyE P .any ops Q S L ops.size (Array.replicate ops.size false) a w.drew) : (Code.region id ops true).wpIn (Fence.wide.inRound l0) m P Q a w := by
  refine wpIn_region_any hm (wpAny_in (fun i o ho => ?_) hQ _ _ _ _ (wpAny_of_early _ _ _ _ h))
  exact Array.all_eq_true_iff_forall_mem.1 hnd o (Array.mem_of_getElem? ho)
end

end Go.Proofs.YtbjlnlgknegbnaaGreatDoor
namespace Go.Proofs.YtbjlnlgknegbnaaGreatDoor
open Go.RowKit
set_option linter.unusedVariables false
section
variable {P : Program} {ops : Array Oper} {Q : Exit → Act → World → Prop} {md : Region.Mode} {S : World → Prop} {L : Nat → Bool}
theorem wpAnyE_one {i : Nat} {oi : Oper} {fuel : Nat} {listed : Array Bool} {a : Act} {w : World} (hr : Region.ready md ops listed = [i]) (hi : ops[i]? = some oi)
    (h : wpList P ops (Exit.then (fun a' w' => (L i = false → S w') ∧ wpAnyE P md ops Q S L fuel (listed.setIfInBounds i true) a' w') Q) [oi] a w) : wpAnyE P md ops Q S L (fuel + 1) listed a w := by
  refine ⟨fun h' => (by rw [hr] at h'; cases h'), fun k hk => ?_⟩
  rw [hr] at hk
  obtain rfl : k = i := by simpa using hk
  exact wpOp_of_single hi h
theorem wpAnyE_two {i j : Nat} {oi oj : Oper} {fuel : Nat} {listed : Array Bool} {a : Act} {w : World} (hr : Region.ready md ops listed = [i, j]) (hi : ops[i]? = some oi) (hj : ops[j]? = some oj)
    (h1 : wpList P ops (Exit.then (fun a' w' => (L i = false → S w') ∧ wpAnyE P md ops Q S L fuel (listed.setIfInBounds i true) a' w') Q) [oi] a w)
    (h2 : wpList P ops (Exit.then (fun a' w' => (L j = false → S w') ∧ wpAnyE P md ops Q S L fuel (listed.setIfInBounds j true) a' w') Q) [oj] a w) : wpAnyE P md ops Q S L (fuel + 1) listed a w := by
  refine ⟨fun h' => (by rw [hr] at h'; cases h'), fun k hk => ?_⟩
  rw [hr] at hk
  rcases List.mem_cons.1 hk with rfl | hk
  · exact wpOp_of_single hi h1
  · obtain rfl : k = j := by simpa using hk
    exact wpOp_of_single hj h2
theorem wpAnyE_end {listed : Array Bool} {a : Act} {w : World} (hr : Region.ready md ops listed = []) (h : Q .normal a w) : wpAnyE P md ops Q S L 0 listed a w := ⟨hr, h⟩
end
end Go.Proofs.YtbjlnlgknegbnaaGreatDoor
namespace Go.Proofs.YtbjlnlgknegbnaaGreatDoor
set_option linter.unusedVariables false
set_option linter.unusedSimpArgs false
open Go.RowKit

theorem isTag_yes (t : Int) (h0 : 0 ≤ t) (h1 : t ≤ 1048576) (w : World) :
    Calls Tryz.prog 55 #[.int .i64 t] w fun e w' => e = .returned (.bool true) ∧ w' = w := by
  go_enter Tryz.func55, Tryz.ntmps55
  go_wp2
  go_ret
  exact ⟨rfl, rfl⟩
theorem isTag_no (t : Int) (h : ¬ (0 ≤ t ∧ t ≤ 1048576)) (w : World) :
    Calls Tryz.prog 55 #[.int .i64 t] w fun e w' => e = .returned (.bool false) ∧ w' = w := by
  by_cases h0 : 0 ≤ t
  · have h1 : 1048576 < t := by omega
    have h2 : decide (t ≤ 1048576) = false := by simp; omega
    clear h
    go_enter Tryz.func55, Tryz.ntmps55
    go_wp2
    go_ret
    exact ⟨rfl, rfl⟩
  · have h1 : t < 0 := by omega
    clear h h0
    go_enter Tryz.func55, Tryz.ntmps55
    go_wp2
    go_ret
    exact ⟨rfl, rfl⟩
theorem isKind_any (k : Int) (w : World) :
    Calls Tryz.prog 56 #[.int .i64 k] w fun e w' => e = .returned (.bool (decide (k = 1 ∨ k = 2))) ∧ w' = w := by
  by_cases h1 : k = 1
  · subst h1
    go_enter Tryz.func56, Tryz.ntmps56
    go_wp2
    go_ret
    exact ⟨rfl, rfl⟩
  · by_cases h2 : k = 2
    · subst h2
      go_enter Tryz.func56, Tryz.ntmps56
      go_wp2
      go_ret
      exact ⟨rfl, rfl⟩
    · have e1 : (k == 1) = false := by simp [h1]
      have e2 : (k == 2) = false := by simp [h2]
      have e3 : decide (k = 1 ∨ k = 2) = false := decide_eq_false (by omega)
      rw [e3]
      clear e3
      go_enter Tryz.func56, Tryz.ntmps56
      go_wp2
      go_ret
      exact ⟨rfl, rfl⟩
theorem rank_any (o t k : Int) (w : World) :
    Calls Tryz.prog 66 #[nV o t k] w fun e w' => e = .returned (.int .i64 (rkI t k)) ∧ Below w.heap.size w w' := by
  unfold nV
  by_cases ht : 0 ≤ t ∧ t ≤ 1048576
  · have HT := Lib.hid (fun w => isTag_yes t ht.1 ht.2 w)
    obtain ⟨t0, t1⟩ := ht
    by_cases h1 : k = 1
    · subst h1
      have hr : rkI t 1 = 2 * t := by unfold rkI; rw [if_pos ⟨t0, t1, Or.inl rfl⟩]; omega
      rw [hr]
      clear hr
      go_enter Tryz.func66, Tryz.ntmps66
      go_wp2_with (go_at_call 55; refine (HT.out _).mono ?_; rintro e w1 ⟨rfl, rfl⟩)
      go_ret
      exact ⟨rfl, (Below.refl _ _).alloc (Nat.le_refl _) _⟩
    · by_cases h2 : k = 2
      · subst h2
        have hr : rkI t 2 = 2 * t + 1 := by unfold rkI; rw [if_pos ⟨t0, t1, Or.inr rfl⟩]; omega
        rw [hr]
        clear hr
        go_enter Tryz.func66, Tryz.ntmps66
        go_wp2_with (go_at_call 55; refine (HT.out _).mono ?_; rintro e w1 ⟨rfl, rfl⟩)
        go_ret
        exact ⟨rfl, (Below.refl _ _).alloc (Nat.le_refl _) _⟩
      · have e1 : (k == 1) = false := by simp [h1]
        have e2 : (k == 2) = false := by simp [h2]
        have hr : rkI t k = -1 := by unfold rkI; rw [if_neg (by omega)]
        rw [hr]
        clear hr
        go_enter Tryz.func66, Tryz.ntmps66
        go_wp2_with (go_at_call 55; refine (HT.out _).mono ?_; rintro e w1 ⟨rfl, rfl⟩)
        go_ret
        exact ⟨rfl, (Below.refl _ _).alloc (Nat.le_refl _) _⟩
  · have HT := Lib.hid (fun w => isTag_no t ht w)
    have hr : rkI t k = -1 := by unfold rkI; rw [if_neg (by omega)]
    rw [hr]
    clear hr ht
    go_enter Tryz.func66, Tryz.ntmps66
    go_wp2_with (go_at_call 55; refine (HT.out _).mono ?_; rintro e w1 ⟨rfl, rfl⟩)
    go_ret
    exact ⟨rfl, (Below.refl _ _).alloc (Nat.le_refl _) _⟩
theorem valid_any (n o t k : Int) (w : World) :
    Calls Tryz.prog 31 #[.int .i64 n, nV o t k] w fun e w' => e = .returned (.bool (vN n o t k)) ∧ Below w.heap.size w w' := by
  unfold nV
  have HK := Lib.hid (fun w => isKind_any k w)
  by_cases h1 : 1 ≤ n
  · by_cases h2 : n ≤ 100
    · by_cases h3 : 0 ≤ o
      · by_cases h4 : o < n
        · by_cases ht : 0 ≤ t ∧ t ≤ 1048576
          · have HT := Lib.hid (fun w => isTag_yes t ht.1 ht.2 w)
            have hv : vN n o t k = decide (k = 1 ∨ k = 2) := by unfold vN; congr 1; simp only [h1, h2, h3, h4, ht.1, ht.2, true_and]
            rw [hv]
            clear hv
            obtain ⟨t0, t1⟩ := ht
            go_enter Tryz.func31, Tryz.ntmps31
            go_wp2_with (first
              | (go_at_call 55; refine (HT.out _).mono ?_; rintro e w1 ⟨rfl, rfl⟩)
              | (go_at_call 56; refine (HK.out _).mono ?_; rintro e w1 ⟨rfl, rfl⟩))
            go_ret
            exact ⟨ret_b (by simp), (Below.refl _ _).alloc (Nat.le_refl _) _⟩
          · have HT := Lib.hid (fun w => isTag_no t ht w)
            have hv : vN n o t k = false := decide_eq_false (by omega)
            rw [hv]
            clear hv ht
            go_enter Tryz.func31, Tryz.ntmps31
            go_wp2_with (first
              | (go_at_call 55; refine (HT.out _).mono ?_; rintro e w1 ⟨rfl, rfl⟩)
              | (go_at_call 56; refine (HK.out _).mono ?_; rintro e w1 ⟨rfl, rfl⟩))
            go_ret
            exact ⟨rfl, (Below.refl _ _).alloc (Nat.le_refl _) _⟩
        · have hv : vN n o t k = false := decide_eq_false (by omega)
          have HT := Lib.hid hv
          rw [hv]
          clear hv
          have e4 : n ≤ o := by omega
          have e5 : decide (o < n) = false := by simp; omega
          clear h4
          go_enter Tryz.func31, Tryz.ntmps31
          go_wp2_with (first
            | (go_at_call 55; refine (HT.out _).mono ?_; rintro e w1 ⟨rfl, rfl⟩)
            | (go_at_call 56; refine (HK.out _).mono ?_; rintro e w1 ⟨rfl, rfl⟩))
          go_ret
          exact ⟨rfl, (Below.refl _ _).alloc (Nat.le_refl _) _⟩
      · have hv : vN n o t k = false := decide_eq_false (by omega)
        have HT := Lib.hid hv
        rw [hv]
        clear hv
        have e4 : o < 0 := by omega
        clear h3
        go_enter Tryz.func31, Tryz.ntmps31
        go_wp2_with (first
          | (go_at_call 55; refine (HT.out _).mono ?_; rintro e w1 ⟨rfl, rfl⟩)
          | (go_at_call 56; refine (HK.out _).mono ?_; rintro e w1 ⟨rfl, rfl⟩))
        go_ret
        exact ⟨rfl, (Below.refl _ _).alloc (Nat.le_refl _) _⟩
    · have hv : vN n o t k = false := decide_eq_false (by omega)
      have HT := Lib.hid hv
      rw [hv]
      clear hv
      have e4 : 100 < n := by omega
      have e5 : decide (n ≤ 100) = false := by simp; omega
      clear h2
      go_enter Tryz.func31, Tryz.ntmps31
      go_wp2_with (first
        | (go_at_call 55; refine (HT.out _).mono ?_; rintro e w1 ⟨rfl, rfl⟩)
        | (go_at_call 56; refine (HK.out _).mono ?_; rintro e w1 ⟨rfl, rfl⟩))
      go_ret
      exact ⟨rfl, (Below.refl _ _).alloc (Nat.le_refl _) _⟩
  · have hv : vN n o t k = false := decide_eq_false (by omega)
    have HT := Lib.hid hv
    rw [hv]
    clear hv
    have e4 : n < 1 := by omega
    clear h1
    go_enter Tryz.func31, Tryz.ntmps31
    go_wp2_with (first
      | (go_at_call 55; refine (HT.out _).mono ?_; rintro e w1 ⟨rfl, rfl⟩)
      | (go_at_call 56; refine (HK.out _).mono ?_; rintro e w1 ⟨rfl, rfl⟩))
    go_ret
    exact ⟨rfl, (Below.refl _ _).alloc (Nat.le_refl _) _⟩
/-- Two boxes. -/
def Bx2 (w : World) (x y : Obj) (W : World) : Prop := W.heap[w.heap.size]? = some x ∧ W.heap[w.heap.size + 1]? = some y ∧ Below w.heap.size w W
theorem Bx2.below {w : World} {x y : Obj} {W X : World} (h : Bx2 w x y W) (hb : Below W.heap.size W X) : Bx2 w x y X := ⟨blk_below' hb h.1, blk_below' hb h.2.1, below_then h.2.2 hb⟩
theorem Bx2.drew {w : World} {x y : Obj} {W : World} (h : Bx2 w x y W) : Bx2 w x y W.drew := ⟨h.1, h.2.1, below_drewN h.2.2 1⟩
theorem Bx2.new (w : World) (x y : Obj) : Bx2 w x y ((w.alloc x).alloc y) :=
  ⟨blk_old (blk_new w x) y, by have := blk_new (w.alloc x) y; rwa [World.size_alloc] at this, ((Below.refl _ _).alloc (Nat.le_refl _) x).alloc (by simp) y⟩
theorem Bx2.cells {w W : World} {a0 a1 a2 b0 b1 b2 : Value} {t s : TypeId} (h : Bx2 w (.cells #[a0, a1, a2] t) (.cells #[b0, b1, b2] s) W) :
    (W.cell? ⟨w.heap.size, 0, none⟩ = some a0 ∧ W.cell? ⟨w.heap.size, 1, none⟩ = some a1 ∧ W.cell? ⟨w.heap.size, 2, none⟩ = some a2) ∧
    (W.cell? ⟨w.heap.size + 1, 0, none⟩ = some b0 ∧ W.cell? ⟨w.heap.size + 1, 1, none⟩ = some b1 ∧ W.cell? ⟨w.heap.size + 1, 2, none⟩ = some b2) ∧ Bx2 w (.cells #[a0, a1, a2] t) (.cells #[b0, b1, b2] s) W :=
  ⟨⟨blk_cell h.1 0, blk_cell h.1 1, blk_cell h.1 2⟩, ⟨blk_cell h.2.1 0, blk_cell h.2.1 1, blk_cell h.2.1 2⟩, h⟩
theorem rank_nat (o : Int) (r : Nat) (w : World) (hr : r ≤ 2097153) :
    Calls Tryz.prog 66 #[nV o (tgN r : Nat) (kdN r : Nat)] w fun e w' => e = .returned (.int .i64 (r : Int)) ∧ Below w.heap.size w w' := by
  have := rank_any o (tgN r : Nat) (kdN r : Nat) w
  rwa [rkI_nat hr] at this

def Six (w : World) (i : Nat) (r q : Nat) (w' : World) : Prop := (w'.cell? ⟨w.heap.size, 0, none⟩ = some (.int .i64 (i : Int)) ∧ w'.cell? ⟨w.heap.size, 1, none⟩ = some (.int .i64 (tgN r : Nat)) ∧ w'.cell? ⟨w.heap.size, 2, none⟩ = some (.int .i64 (kdN r : Nat))) ∧ (w'.cell? ⟨w.heap.size + 1, 0, none⟩ = some (.int .i64 (i : Int)) ∧ w'.cell? ⟨w.heap.size + 1, 1, none⟩ = some (.int .i64 (tgN q : Nat)) ∧ w'.cell? ⟨w.heap.size + 1, 2, none⟩ = some (.int .i64 (kdN q : Nat))) ∧ Below w.heap.size w w'
theorem Bx2.six {w W : World} {i r q : Nat} {t s : TypeId} (h : (W.cell? ⟨w.heap.size, 0, none⟩ = some (.int .i64 (i : Int)) ∧ W.cell? ⟨w.heap.size, 1, none⟩ = some (.int .i64 (tgN r : Nat)) ∧ W.cell? ⟨w.heap.size, 2, none⟩ = some (.int .i64 (kdN r : Nat))) ∧ (W.cell? ⟨w.heap.size + 1, 0, none⟩ = some (.int .i64 (i : Int)) ∧ W.cell? ⟨w.heap.size + 1, 1, none⟩ = some (.int .i64 (tgN q : Nat)) ∧ W.cell? ⟨w.heap.size + 1, 2, none⟩ = some (.int .i64 (kdN q : Nat))) ∧ Bx2 w (.cells #[.int .i64 (i : Int), .int .i64 (tgN r : Nat), .int .i64 (kdN r : Nat)] t) (.cells #[.int .i64 (i : Int), .int .i64 (tgN q : Nat), .int .i64 (kdN q : Nat)] s) W) : Six w i r q W := ⟨h.1, h.2.1, h.2.2.2.2⟩
set_option maxRecDepth 100000 in
theorem beats_nat (i r q : Nat) (hr : r ≤ 2097153) (hq : q ≤ 2097153) (w : World) :
    Calls Tryz.prog 48 #[nV (i : Int) (tgN r : Nat) (kdN r : Nat), nV (i : Int) (tgN q : Nat) (kdN q : Nat)] w fun e w' => e = .returned (.bool (decide (q < r))) ∧ Below w.heap.size w w' := by
  have HR : Hid (∀ (o : Int) (r : Nat) (w : World), r ≤ 2097153 → Calls Tryz.prog 66 #[.agg #[.int .i64 o, .int .i64 (tgN r : Nat), .int .i64 (kdN r : Nat)]] w fun e w' => e = .returned (.int .i64 (r : Int)) ∧ Below w.heap.size w w') := Lib.hid rank_nat
  unfold nV
  go_enter Tryz.func48, Tryz.ntmps48
  go_upto_region 1 with fail
  have hk := (Bx2.new w (.cells #[.int .i64 (i : Int), .int .i64 (tgN r : Nat), .int .i64 (kdN r : Nat)] 60) (.cells #[.int .i64 (i : Int), .int .i64 (tgN q : Nat), .int .i64 (kdN q : Nat)] 60)).drew
  refine wp_region_early (Six w i r q) (fun _ => false) (by kernel_rfl) ?_
  simp only [List.size_toArray, List.length_cons, List.length_nil, Nat.reduceAdd, Array.replicate_succ, Array.replicate_zero, List.push_toArray, List.nil_append, List.cons_append]
  generalize World.drew _ = W at *
  have hSS := (Bx2.six hk.cells)
  refine wpAnyE_take (i := 0) (v := ?_) rfl (by kernel_rfl) (by kernel_rfl) (by kernel_rfl) (by kernel_rfl) (fun _ _ _ h => h) (Or.inl ⟨by rfl, ?_⟩) hSS ?_
  rotate_left
  · intro w hSw
    obtain ⟨⟨j0, j1, j2⟩, ⟨j3, j4, j5⟩, _⟩ := hSw
    go_simp
    all_goals with_reducible rfl
  simp only [Act.put, List.setIfInBounds_toArray, List.set_cons_zero, List.set_cons_succ, List.getElem_toArray, List.getElem_cons_zero, List.getElem_cons_succ]
  refine wpAnyE_take (i := 1) (v := ?_) rfl (by kernel_rfl) (by kernel_rfl) (by kernel_rfl) (by kernel_rfl) (fun _ _ _ h => h) (Or.inl ⟨by rfl, ?_⟩) hSS ?_
  rotate_left
  · intro w hSw
    obtain ⟨⟨j0, j1, j2⟩, ⟨j3, j4, j5⟩, _⟩ := hSw
    go_simp
    all_goals with_reducible rfl
  simp only [Act.put, List.setIfInBounds_toArray, List.set_cons_zero, List.set_cons_succ, List.getElem_toArray, List.getElem_cons_zero, List.getElem_cons_succ]
  refine wpAnyE_take (i := 2) (v := ?_) rfl (by kernel_rfl) (by kernel_rfl) (by kernel_rfl) (by kernel_rfl) (fun _ _ _ h => h) (Or.inl ⟨by rfl, ?_⟩) hSS ?_
  rotate_left
  · intro w hSw
    obtain ⟨⟨j0, j1, j2⟩, ⟨j3, j4, j5⟩, _⟩ := hSw
    go_simp
    all_goals with_reducible rfl
  simp only [Act.put, List.setIfInBounds_toArray, List.set_cons_zero, List.set_cons_succ, List.getElem_toArray, List.getElem_cons_zero, List.getElem_cons_succ]
  refine wpAnyE_take (i := 3) (v := ?_) rfl (by kernel_rfl) (by kernel_rfl) (by kernel_rfl) (by kernel_rfl) (fun _ _ _ h => h) (Or.inl ⟨by rfl, ?_⟩) hSS ?_
  rotate_left
  · intro w hSw
    obtain ⟨⟨j0, j1, j2⟩, ⟨j3, j4, j5⟩, _⟩ := hSw
    go_simp
    all_goals with_reducible rfl
  simp only [Act.put, List.setIfInBounds_toArray, List.set_cons_zero, List.set_cons_succ, List.getElem_toArray, List.getElem_cons_zero, List.getElem_cons_succ]
  refine wpAnyE_take (i := 4) (v := ?_) rfl (by kernel_rfl) (by kernel_rfl) (by kernel_rfl) (by kernel_rfl) (fun _ _ _ h => h) (Or.inl ⟨by rfl, ?_⟩) hSS ?_
  rotate_left
  · intro w hSw
    obtain ⟨⟨j0, j1, j2⟩, ⟨j3, j4, j5⟩, _⟩ := hSw
    go_simp
    all_goals with_reducible rfl
  simp only [Act.put, List.setIfInBounds_toArray, List.set_cons_zero, List.set_cons_succ, List.getElem_toArray, List.getElem_cons_zero, List.getElem_cons_succ]
  refine wpAnyE_take (i := 5) (v := ?_) rfl (by kernel_rfl) (by kernel_rfl) (by kernel_rfl) (by kernel_rfl) (fun _ _ _ h => h) (Or.inl ⟨by rfl, ?_⟩) hSS ?_
  rotate_left
  · intro w hSw
    obtain ⟨⟨j0, j1, j2⟩, ⟨j3, j4, j5⟩, _⟩ := hSw
    go_simp
    all_goals with_reducible rfl
  simp only [Act.put, List.setIfInBounds_toArray, List.set_cons_zero, List.set_cons_succ, List.getElem_toArray, List.getElem_cons_zero, List.getElem_cons_succ]
  refine wpAnyE_take (i := 6) (v := ?_) rfl (by kernel_rfl) (by kernel_rfl) (by kernel_rfl) (by kernel_rfl) (fun _ _ _ h => h) (Or.inl ⟨by rfl, ?_⟩) hSS ?_
  rotate_left
  · intro w hSw
    obtain ⟨⟨j0, j1, j2⟩, ⟨j3, j4, j5⟩, _⟩ := hSw
    go_simp
    all_goals with_reducible rfl
  simp only [Act.put, List.setIfInBounds_toArray, List.set_cons_zero, List.set_cons_succ, List.getElem_toArray, List.getElem_cons_zero, List.getElem_cons_succ]
  refine wpAnyE_one (i := 7) (by kernel_rfl) rfl ?_
  change wpList _ _ (Exit.then _ _) [_] _ _
  try simp only [List.setIfInBounds_toArray, List.set_cons_zero, List.set_cons_succ, List.getElem_toArray, List.getElem_cons_zero, List.getElem_cons_succ]
  go_wp2_with (go_at_call 66; refine (HR.out _ q _ hq).mono ?_; rintro e w1 ⟨rfl, hB⟩; have hk := hk.below hB; clear hB; have hSS := (Bx2.six hk.cells))
  refine ⟨fun _ => hSS, ?_⟩
  try simp only [List.setIfInBounds_toArray, List.set_cons_zero, List.set_cons_succ, List.getElem_toArray, List.getElem_cons_zero, List.getElem_cons_succ]
  refine wpAnyE_take (i := 8) (v := ?_) rfl (by kernel_rfl) (by kernel_rfl) (by kernel_rfl) (by kernel_rfl) (fun _ _ _ h => h) (Or.inl ⟨by rfl, ?_⟩) hSS ?_
  rotate_left
  · intro w hSw
    obtain ⟨⟨j0, j1, j2⟩, ⟨j3, j4, j5⟩, _⟩ := hSw
    go_simp
    all_goals with_reducible rfl
  simp only [Act.put, List.setIfInBounds_toArray, List.set_cons_zero, List.set_cons_succ, List.getElem_toArray, List.getElem_cons_zero, List.getElem_cons_succ]
  refine wpAnyE_take (i := 9) (v := ?_) rfl (by kernel_rfl) (by kernel_rfl) (by kernel_rfl) (by kernel_rfl) (fun _ _ _ h => h) (Or.inl ⟨by rfl, ?_⟩) hSS ?_
  rotate_left
  · intro w hSw
    obtain ⟨⟨j0, j1, j2⟩, ⟨j3, j4, j5⟩, _⟩ := hSw
    go_simp
    all_goals with_reducible rfl
  simp only [Act.put, List.setIfInBounds_toArray, List.set_cons_zero, List.set_cons_succ, List.getElem_toArray, List.getElem_cons_zero, List.getElem_cons_succ]
  refine wpAnyE_take (i := 10) (v := ?_) rfl (by kernel_rfl) (by kernel_rfl) (by kernel_rfl) (by kernel_rfl) (fun _ _ _ h => h) (Or.inl ⟨by rfl, ?_⟩) hSS ?_
  rotate_left
  · intro w hSw
    obtain ⟨⟨j0, j1, j2⟩, ⟨j3, j4, j5⟩, _⟩ := hSw
    go_simp
    all_goals with_reducible rfl
  simp only [Act.put, List.setIfInBounds_toArray, List.set_cons_zero, List.set_cons_succ, List.getElem_toArray, List.getElem_cons_zero, List.getElem_cons_succ]
  refine wpAnyE_take (i := 11) (v := ?_) rfl (by kernel_rfl) (by kernel_rfl) (by kernel_rfl) (by kernel_rfl) (fun _ _ _ h => h) (Or.inl ⟨by rfl, ?_⟩) hSS ?_
  rotate_left
  · intro w hSw
    obtain ⟨⟨j0, j1, j2⟩, ⟨j3, j4, j5⟩, _⟩ := hSw
    go_simp
    all_goals with_reducible rfl
  simp only [Act.put, List.setIfInBounds_toArray, List.set_cons_zero, List.set_cons_succ, List.getElem_toArray, List.getElem_cons_zero, List.getElem_cons_succ]
  refine wpAnyE_take (i := 13) (v := ?_) rfl (by kernel_rfl) (by kernel_rfl) (by kernel_rfl) (by kernel_rfl) (fun _ _ _ h => h) (Or.inl ⟨by rfl, ?_⟩) hSS ?_
  rotate_left
  · intro w hSw
    obtain ⟨⟨j0, j1, j2⟩, ⟨j3, j4, j5⟩, _⟩ := hSw
    go_simp
    all_goals with_reducible rfl
  simp only [Act.put, List.setIfInBounds_toArray, List.set_cons_zero, List.set_cons_succ, List.getElem_toArray, List.getElem_cons_zero, List.getElem_cons_succ]
  refine wpAnyE_one (i := 12) (by kernel_rfl) rfl ?_
  change wpList _ _ (Exit.then _ _) [_] _ _
  try simp only [List.setIfInBounds_toArray, List.set_cons_zero, List.set_cons_succ, List.getElem_toArray, List.getElem_cons_zero, List.getElem_cons_succ]
  go_wp2_with (go_at_call 66; refine (HR.out _ r _ hr).mono ?_; rintro e w1 ⟨rfl, hB⟩; have hk := hk.below hB; clear hB; have hSS := (Bx2.six hk.cells))
  refine ⟨fun _ => hSS, ?_⟩
  try simp only [List.setIfInBounds_toArray, List.set_cons_zero, List.set_cons_succ, List.getElem_toArray, List.getElem_cons_zero, List.getElem_cons_succ]
  refine wpAnyE_one (i := 14) (by kernel_rfl) rfl ?_
  change wpList _ _ (Exit.then _ _) [_] _ _
  try simp only [List.setIfInBounds_toArray, List.set_cons_zero, List.set_cons_succ, List.getElem_toArray, List.getElem_cons_zero, List.getElem_cons_succ]
  go_wp2_with (go_at_call 66; refine (HR.out _ q _ hq).mono ?_; rintro e w1 ⟨rfl, hB⟩; have hk := hk.below hB; clear hB; have hSS := (Bx2.six hk.cells))
  refine ⟨fun _ => hSS, ?_⟩
  try simp only [List.setIfInBounds_toArray, List.set_cons_zero, List.set_cons_succ, List.getElem_toArray, List.getElem_cons_zero, List.getElem_cons_succ]
  refine wpAnyE_take (i := 15) (v := ?_) rfl (by kernel_rfl) (by kernel_rfl) (by kernel_rfl) (by kernel_rfl) (fun _ _ _ h => h) (Or.inl ⟨by rfl, ?_⟩) hSS ?_
  rotate_left
  · intro w hSw
    obtain ⟨⟨j0, j1, j2⟩, ⟨j3, j4, j5⟩, _⟩ := hSw
    go_simp
    all_goals with_reducible rfl
  simp only [Act.put, List.setIfInBounds_toArray, List.set_cons_zero, List.set_cons_succ, List.getElem_toArray, List.getElem_cons_zero, List.getElem_cons_succ]
  refine wpAnyE_take (i := 16) (v := ?_) rfl (by kernel_rfl) (by kernel_rfl) (by kernel_rfl) (by kernel_rfl) (fun _ _ _ h => h) (Or.inl ⟨by rfl, ?_⟩) hSS ?_
  rotate_left
  · intro w hSw
    obtain ⟨⟨j0, j1, j2⟩, ⟨j3, j4, j5⟩, _⟩ := hSw
    go_simp
    all_goals with_reducible rfl
  simp only [Act.put, List.setIfInBounds_toArray, List.set_cons_zero, List.set_cons_succ, List.getElem_toArray, List.getElem_cons_zero, List.getElem_cons_succ]
  refine wpAnyE_one (i := 17) (by kernel_rfl) rfl ?_
  change wpList _ _ (Exit.then _ _) [_] _ _
  try simp only [List.setIfInBounds_toArray, List.set_cons_zero, List.set_cons_succ, List.getElem_toArray, List.getElem_cons_zero, List.getElem_cons_succ]
  go_wp2_with fail
  refine ⟨fun _ => hSS, ?_⟩
  try simp only [List.setIfInBounds_toArray, List.set_cons_zero, List.set_cons_succ, List.getElem_toArray, List.getElem_cons_zero, List.getElem_cons_succ]
  refine wpAnyE_end (by kernel_rfl) ?_
  go_wp2_with fail
  go_ret
  exact ⟨ret_b (by simp), hk.2.2⟩
theorem fresh_any (o : Int) (w : World) :
    Calls Tryz.prog 32 #[.int .i64 o] w fun e w' => e = .returned (nV o 0 1) ∧ Below w.heap.size w w' := by
  unfold nV
  go_enter Tryz.func32, Tryz.ntmps32
  go_wp2_with fail
  have h0 := blk_new w (.cells #[.int .i64 o, .int .i64 0, .int .i64 1] 60)
  exact bodyPost_ret (v := .agg #[.int .i64 o, .int .i64 0, .int .i64 1]) (results_cell_row rfl _ _ w.heap.size _ _ _ _ rfl h0 Tryz.underlying60 rfl (by kernel_rfl)) rfl ⟨rfl, (Below.refl _ _).alloc (Nat.le_refl _) _⟩
/-- Reply at a right notice. -/
def rpV (i r : Nat) : Value := if kdN r = 2 then if tgN r = 1048576 then .tuple #[nV 0 0 0, .int .i64 120] else .tuple #[nV (i : Int) (((tgN r : Nat) : Int) + 1) 1, .int .i64 0] else .tuple #[nV 0 0 0, .int .i64 50]
set_option maxRecDepth 100000 in
theorem reply_nat (i r : Nat) (hr : r ≤ 2097153) (w : World) :
    Calls Tryz.prog 81 #[nV (i : Int) (tgN r : Nat) (kdN r : Nat)] w fun e w' => e = .returned (rpV i r) ∧ Below w.heap.size w w' := by
  have ht := tg_le hr
  obtain ⟨hk1, hk2⟩ := kd_le r
  have h0 : ¬ (r : Int) < 0 := by omega
  by_cases h2 : kdN r = 2
  · by_cases h3 : tgN r = 1048576
    · have hv : rpV i r = .tuple #[nV 0 0 0, .int .i64 120] := by unfold rpV; rw [if_pos h2, if_pos h3]
      rw [hv]
      clear hv
      have e2 : (((kdN r : Nat) : Int) != 2) = false := by simp; omega
      have e3 : (((tgN r : Nat) : Int) == 1048576) = true := by simp; omega
      clear h2 h3
      have HR : Hid (∀ w : World, Calls Tryz.prog 66 #[.agg #[.int .i64 (i : Int), .int .i64 (tgN r : Nat), .int .i64 (kdN r : Nat)]] w fun e w' => e = .returned (.int .i64 (r : Int)) ∧ Below w.heap.size w w') := Lib.hid (fun w => rank_nat (i : Int) r w hr)
      unfold nV
      generalize ((tgN r : Nat) : Int) = T at *
      generalize ((kdN r : Nat) : Int) = K at *
      clear hr ht hk1 hk2
      go_enter Tryz.func81, Tryz.ntmps81
      go_wp2_with (go_at_call 66; refine (HR.out _).mono ?_; rintro e w1 ⟨rfl, hB⟩; have hk := (Bx2.new w (.cells #[.int .i64 (i : Int), .int .i64 T, .int .i64 K] 60) (.cells #[.int .i64 0, .int .i64 0, .int .i64 0] 60)).below hB; obtain ⟨⟨k0, k1, k2⟩, ⟨m0, m1, m2⟩, _⟩ := hk.cells; have f0 := blk_free hk.2.1 0; have f1 := blk_free hk.2.1 1; have f2 := blk_free hk.2.1 2)
      all_goals
        first
        | contradiction
        | (refine bodyPost_ret (v := .tuple #[.agg #[.int .i64 0, .int .i64 0, .int .i64 0], .int .i64 120]) ?_ rfl ⟨rfl, ((hk.2.2.setCell (by simp) _).setCell (by simp) _).setCell (by simp) _⟩
           simp [results, Tryz.results81, go_sem, k0, k1, k2, m0, m1, m2])
    · have hv : rpV i r = .tuple #[nV (i : Int) (((tgN r : Nat) : Int) + 1) 1, .int .i64 0] := by unfold rpV; rw [if_pos h2, if_neg h3]
      rw [hv]
      clear hv
      have e2 : (((kdN r : Nat) : Int) != 2) = false := by simp; omega
      have e3 : (((tgN r : Nat) : Int) == 1048576) = false := by simp; omega
      have e4 : IntKind.i64.wrap (((tgN r : Nat) : Int) + 1) = ((tgN r : Nat) : Int) + 1 := IntWalk.i64_in _ (by omega)
      clear h2 h3
      have HR : Hid (∀ w : World, Calls Tryz.prog 66 #[.agg #[.int .i64 (i : Int), .int .i64 (tgN r : Nat), .int .i64 (kdN r : Nat)]] w fun e w' => e = .returned (.int .i64 (r : Int)) ∧ Below w.heap.size w w') := Lib.hid (fun w => rank_nat (i : Int) r w hr)
      unfold nV
      generalize ((tgN r : Nat) : Int) = T at *
      generalize ((kdN r : Nat) : Int) = K at *
      clear hr ht hk1 hk2
      go_enter Tryz.func81, Tryz.ntmps81
      go_wp2_with (go_at_call 66; refine (HR.out _).mono ?_; rintro e w1 ⟨rfl, hB⟩; have hk := (Bx2.new w (.cells #[.int .i64 (i : Int), .int .i64 T, .int .i64 K] 60) (.cells #[.int .i64 0, .int .i64 0, .int .i64 0] 60)).below hB; obtain ⟨⟨k0, k1, k2⟩, ⟨m0, m1, m2⟩, _⟩ := hk.cells; have f0 := blk_free hk.2.1 0; have f1 := blk_free hk.2.1 1; have f2 := blk_free hk.2.1 2)
      all_goals
        first
        | contradiction
        | (refine bodyPost_ret (v := .tuple #[.agg #[.int .i64 (i : Int), .int .i64 (T + 1), .int .i64 1], .int .i64 0]) ?_ rfl ⟨rfl, ((hk.2.2.setCell (by simp) _).setCell (by simp) _).setCell (by simp) _⟩
           simp [results, Tryz.results81, go_sem, k0, k1, k2, m0, m1, m2])
  · have hv : rpV i r = .tuple #[nV 0 0 0, .int .i64 50] := by unfold rpV; rw [if_neg h2]
    rw [hv]
    clear hv
    have e2 : (((kdN r : Nat) : Int) != 2) = true := by simp; omega
    clear h2
    have HR : Hid (∀ w : World, Calls Tryz.prog 66 #[.agg #[.int .i64 (i : Int), .int .i64 (tgN r : Nat), .int .i64 (kdN r : Nat)]] w fun e w' => e = .returned (.int .i64 (r : Int)) ∧ Below w.heap.size w w') := Lib.hid (fun w => rank_nat (i : Int) r w hr)
    unfold nV
    generalize ((tgN r : Nat) : Int) = T at *
    generalize ((kdN r : Nat) : Int) = K at *
    clear hr ht hk1 hk2
    go_enter Tryz.func81, Tryz.ntmps81
    go_wp2_with (go_at_call 66; refine (HR.out _).mono ?_; rintro e w1 ⟨rfl, hB⟩; have hk := (Bx2.new w (.cells #[.int .i64 (i : Int), .int .i64 T, .int .i64 K] 60) (.cells #[.int .i64 0, .int .i64 0, .int .i64 0] 60)).below hB; obtain ⟨⟨k0, k1, k2⟩, ⟨m0, m1, m2⟩, _⟩ := hk.cells; have f0 := blk_free hk.2.1 0; have f1 := blk_free hk.2.1 1; have f2 := blk_free hk.2.1 2)
    all_goals
      first
      | contradiction
      | (refine bodyPost_ret (v := .tuple #[.agg #[.int .i64 0, .int .i64 0, .int .i64 0], .int .i64 50]) ?_ rfl ⟨rfl, ((hk.2.2.setCell (by simp) _).setCell (by simp) _).setCell (by simp) _⟩
         simp [results, Tryz.results81, go_sem, k0, k1, k2, m0, m1, m2])
end Go.Proofs.YtbjlnlgknegbnaaGreatDoor
namespace Go.Proofs.YtbjlnlgknegbnaaGreatDoor
set_option linter.unusedVariables false
open Go.RowKit

def setAll (cs : Array Value) : Nat → List Value → Array Value
  | _, [] => cs
  | o, v :: vs => setAll (cs.setIfInBounds o v) (o + 1) vs
theorem setAll_size (vs : List Value) : ∀ (o : Nat) (cs : Array Value), (setAll cs o vs).size = cs.size := by
  induction vs with
  | nil => intro o cs; rfl
  | cons v vs ih => intro o cs; rw [setAll, ih, Array.size_setIfInBounds]
theorem setAll_get (vs : List Value) : ∀ (o : Nat) (cs : Array Value) (j : Nat), (setAll cs o vs)[j]? = if o ≤ j ∧ j < o + vs.length ∧ j < cs.size then vs[j - o]? else cs[j]? := by
  induction vs with
  | nil => intro o cs j; simp [setAll]; intro h1 h2; omega
  | cons v vs ih =>
    intro o cs j
    rw [setAll, ih, Array.size_setIfInBounds, List.length_cons]
    by_cases h1 : o + 1 ≤ j ∧ j < o + 1 + vs.length ∧ j < cs.size
    · rw [if_pos h1, if_pos (by omega), show j - o = (j - (o + 1)) + 1 from by omega, List.getElem?_cons_succ]
    · rw [if_neg h1, Array.getElem?_setIfInBounds]
      by_cases h2 : o = j
      · subst h2
        by_cases h3 : o < cs.size
        · rw [if_pos rfl, if_pos h3, if_pos (by omega)]; simp
        · rw [if_pos rfl, if_neg h3, if_neg (by omega)]; rw [Array.getElem?_eq_none (by omega)]
      · rw [if_neg h2, if_neg (by omega)]
theorem setAll_whole (vs : List Value) (cs : Array Value) (h : vs.length = cs.size) : setAll cs 0 vs = vs.toArray := by
  apply Array.ext_getElem?
  intro j
  rw [setAll_get]
  by_cases hj : j < vs.length
  · rw [if_pos (by omega)]; simp
  · rw [if_neg (by omega), Array.getElem?_eq_none (by omega), List.getElem?_toArray, List.getElem?_eq_none (by omega)]

theorem setCells_blk {b : Nat} {t : TypeId} (vs : List Value) : ∀ (o : Nat) (W : World) (cs : Array Value), W.heap[b]? = some (.cells cs t (0, 0)) → (W.setCells b o vs).heap[b]? = some (.cells (setAll cs o vs) t (0, 0)) := by
  induction vs with
  | nil => intro o W cs h; exact h
  | cons v vs ih => intro o W cs h; exact ih (o + 1) _ _ (blk_store h o v)
theorem setCells_other {b k : Nat} (vs : List Value) : ∀ (o : Nat) (W : World) {x : Obj}, W.heap[k]? = some x → k ≠ b → (W.setCells b o vs).heap[k]? = some x := by
  induction vs with
  | nil => intro o W x h _; exact h
  | cons v vs ih => intro o W x h hne; exact ih (o + 1) _ (blk_set h _ _ hne) hne
theorem setCells_below {b B : Nat} {w0 : World} (vs : List Value) : ∀ (o : Nat) (W : World), Below B w0 W → B ≤ b → Below B w0 (W.setCells b o vs) := by
  induction vs with
  | nil => intro o W h _; exact h
  | cons v vs ih => intro o W h hb; exact ih (o + 1) _ (h.setCell (p := ⟨b, o, none⟩) (by simpa using hb) v) hb
theorem setCells_size {b : Nat} (vs : List Value) : ∀ (o : Nat) (W : World), (W.setCells b o vs).heap.size = W.heap.size := by
  induction vs with
  | nil => intro o W; rfl
  | cons v vs ih => intro o W; exact (ih (o + 1) _).trans (by simp)
theorem there_blk {W : World} {b : Nat} {t : TypeId} {cs : Array Value} (h : W.heap[b]? = some (.cells cs t (0, 0))) (o n : Nat) (hn : o + n ≤ cs.size) : W.there b o n := by
  intro j hj
  rw [blk_cell h, blk_free h]
  exact ⟨by rw [Array.getElem?_eq_getElem (by omega)]; rfl, rfl⟩
/-- A whole block is written anew. -/
theorem setCells_whole {W : World} {b : Nat} {t : TypeId} {cs : Array Value} (h : W.heap[b]? = some (.cells cs t (0, 0))) (vs : Array Value) (hs : vs.size = cs.size) : (W.setCells b 0 vs.toList).heap[b]? = some (.cells vs t (0, 0)) := by
  rw [setCells_blk _ 0 W cs h, setAll_whole _ _ (by simpa using hs)]
end Go.Proofs.YtbjlnlgknegbnaaGreatDoor
namespace Go.Proofs.YtbjlnlgknegbnaaGreatDoor
set_option linter.unusedVariables false
open Go.RowKit

structure Dk where
  bs : List Nat
  off : Bool
  fused : Bool
  fuse : Nat
  writes : Nat
def bC (l : List Nat) : List Value := l.map fun x : Nat => .int .u8 (x : Int)
theorem bC_len (l : List Nat) : (bC l).length = l.length := by simp [bC]
def dkT (d : Dk) : List Value := [.bool d.off, .bool d.fused, .int .i64 d.fuse, .int .i64 d.writes]
def dkC (d : Dk) : Array Value := (bC d.bs ++ dkT d).toArray
def DkAt (W : World) (b : Nat) (d : Dk) : Prop := W.heap[b]? = some (.cells (dkC d) 78 (0, 0)) ∧ d.bs.length = 256
def Dk.new : Dk := ⟨List.replicate 256 0, false, false, 0, 0⟩
theorem dkC_size {d : Dk} (h : d.bs.length = 256) : (dkC d).size = 260 := by simp [dkC, dkT, bC_len, h]
theorem dkC_at {d : Dk} (h : d.bs.length = 256) (j : Nat) : (dkC d)[256 + j]? = (dkT d)[j]? := by
  unfold dkC
  rw [List.getElem?_toArray, List.getElem?_append_right (by rw [bC_len]; omega), bC_len, h, Nat.add_sub_cancel_left]
theorem DkAt.cells {W : World} {b : Nat} {d : Dk} (h : DkAt W b d) :
    W.cell? ⟨b, 256, none⟩ = some (.bool d.off) ∧ W.cell? ⟨b, 257, none⟩ = some (.bool d.fused) ∧ W.cell? ⟨b, 258, none⟩ = some (.int .i64 d.fuse) ∧ W.cell? ⟨b, 259, none⟩ = some (.int .i64 d.writes) :=
  ⟨by rw [blk_cell h.1]; exact dkC_at h.2 0, by rw [blk_cell h.1]; exact dkC_at h.2 1, by rw [blk_cell h.1]; exact dkC_at h.2 2, by rw [blk_cell h.1]; exact dkC_at h.2 3⟩
theorem DkAt.free {W : World} {b : Nat} {d : Dk} (h : DkAt W b d) :
    W.frozen? ⟨b, 256, none⟩ = false ∧ W.frozen? ⟨b, 257, none⟩ = false ∧ W.frozen? ⟨b, 258, none⟩ = false ∧ W.frozen? ⟨b, 259, none⟩ = false :=
  ⟨blk_free h.1 _, blk_free h.1 _, blk_free h.1 _, blk_free h.1 _⟩
theorem dkC_set {d : Dk} (h : d.bs.length = 256) (j : Nat) (v : Value) : (dkC d).setIfInBounds (256 + j) v = (bC d.bs ++ (dkT d).set j v).toArray := by
  unfold dkC
  rw [List.setIfInBounds_toArray, List.set_append_right _ _ (by rw [bC_len]; omega), bC_len, h, Nat.add_sub_cancel_left]
theorem DkAt.off {W : World} {b : Nat} {d : Dk} (h : DkAt W b d) (v : Bool) : DkAt (W.setCell ⟨b, 256, none⟩ (.bool v)) b { d with off := v } :=
  ⟨(blk_store h.1 _ _).trans (by rw [dkC_set h.2 0]; rfl), h.2⟩
theorem DkAt.fused {W : World} {b : Nat} {d : Dk} (h : DkAt W b d) (v : Bool) : DkAt (W.setCell ⟨b, 257, none⟩ (.bool v)) b { d with fused := v } :=
  ⟨(blk_store h.1 _ _).trans (by rw [dkC_set h.2 1]; rfl), h.2⟩
theorem DkAt.fuse {W : World} {b : Nat} {d : Dk} (h : DkAt W b d) (v : Nat) : DkAt (W.setCell ⟨b, 258, none⟩ (.int .i64 (v : Nat))) b { d with fuse := v } :=
  ⟨(blk_store h.1 _ _).trans (by rw [dkC_set h.2 2]; rfl), h.2⟩
theorem DkAt.writes {W : World} {b : Nat} {d : Dk} (h : DkAt W b d) (v : Nat) : DkAt (W.setCell ⟨b, 259, none⟩ (.int .i64 (v : Nat))) b { d with writes := v } :=
  ⟨(blk_store h.1 _ _).trans (by rw [dkC_set h.2 3]; rfl), h.2⟩
theorem DkAt.below {W W' : World} {b : Nat} {d : Dk} (h : DkAt W b d) (hb : Below W.heap.size W W') : DkAt W' b d := ⟨blk_below' hb h.1, h.2⟩
theorem DkAt.drew {W : World} {b : Nat} {d : Dk} (h : DkAt W b d) : DkAt W.drew b d := h
theorem DkAt.lt {W : World} {b : Nat} {d : Dk} (h : DkAt W b d) : b < W.heap.size := (Array.getElem?_eq_some_iff.1 h.1).1

/-- All but one block is as it was. -/
theorem but_refl (W : World) (r : Option Nat) : W.grownBy W r := ⟨rfl, rfl, rfl, Nat.le_refl _, fun _ _ _ => rfl⟩
theorem but_set {W X : World} {b : Nat} (h : W.grownBy X (some b)) (hb : b < W.heap.size) (i : Nat) (v : Value) : W.grownBy (X.setCell ⟨b, i, none⟩ v) (some b) := by
  obtain ⟨h1, h2, h3, h4, h5⟩ := h
  refine ⟨h1, h2, h3, by simpa using h4, fun k hk hne => ?_⟩
  rw [Below.heap_setCell X ⟨b, i, none⟩ v k (fun e => hne (by rw [e]))]
  exact h5 k hk hne
theorem but_drew {W X : World} {r : Option Nat} (h : W.grownBy X r) : W.grownBy X.drew r := ⟨h.1, h.2, h.3, h.4, h.5⟩
theorem but_then {W X Y : World} {r : Option Nat} (h : W.grownBy X r) (k : X.grownBy Y r) : W.grownBy Y r := by
  obtain ⟨h1, h2, h3, h4, h5⟩ := h
  obtain ⟨k1, k2, k3, k4, k5⟩ := k
  exact ⟨k1.trans h1, k2.trans h2, k3.trans h3, Nat.le_trans h4 k4, fun j hj hne => (k5 j (by omega) hne).trans (h5 j hj hne)⟩
theorem but_below {W X : World} (h : Below W.heap.size W X) (r : Option Nat) : W.grownBy X r := ⟨h.os, h.tape, h.output, h.size, fun k hk _ => h.block k hk⟩
theorem but_alloc {W X : World} {r : Option Nat} (h : W.grownBy X r) (o : Obj) : W.grownBy (X.alloc o) r := but_then h (but_below ((Below.refl _ _).alloc (Nat.le_refl _) o) r)
end Go.Proofs.YtbjlnlgknegbnaaGreatDoor
namespace Go.Proofs.YtbjlnlgknegbnaaGreatDoor
set_option linter.unusedVariables false
set_option linter.unusedSimpArgs false
open Go.RowKit

/-- A book in memory: its block B, its list of ranks R in the block g. -/
structure Tb (W : World) (B g cp : Nat) (R : List Nat) : Prop where
  cell : W.heap[B]? = some (.cells #[.slice (some ⟨g, 0, none⟩) R.length cp] 93 (0, 0))
  list : NL W (.slice (some ⟨g, 0, none⟩) R.length cp) g R
  ne : B ≠ g
  le : ∀ x ∈ R, x ≤ 2097153
  n : 1 ≤ R.length ∧ R.length ≤ 100
theorem Tb.below {W X : World} {B g cp : Nat} {R : List Nat} (h : Tb W B g cp R) (hb : Below W.heap.size W X) : Tb X B g cp R := ⟨blk_below' hb h.cell, h.list.below hb, h.ne, h.le, h.n⟩
theorem Tb.lt {W : World} {B g cp : Nat} {R : List Nat} (h : Tb W B g cp R) : B < W.heap.size ∧ g < W.heap.size := ⟨blk_lt h.cell, h.list.lt⟩
theorem Tb.get {W : World} {B g cp : Nat} {R : List Nat} (h : Tb W B g cp R) {i : Nat} (hi : i < R.length) : ∃ q, R[i]? = some q ∧ R.getD i 0 = q ∧ q ≤ 2097153 :=
  ⟨R[i], List.getElem?_eq_getElem hi, by simp [List.getD, List.getElem?_eq_getElem hi], h.le _ (List.getElem_mem hi)⟩
/-- A book's list turns, all else stays. -/
theorem NL.other {W X : World} {v : Value} {g k : Nat} {R : List Nat} (h : NL W v g R) (hg : W.grownBy X (some k)) (hk : g ≠ k) : NL X v g R := by
  obtain ⟨cap, sp, rfl, h1⟩ := h
  exact ⟨cap, sp, rfl, blk_grown hg h1 (by simpa using hk)⟩
theorem Tb.other {W X : World} {B g cp k : Nat} {R : List Nat} (h : Tb W B g cp R) (hg : W.grownBy X (some k)) (h1 : B ≠ k) (h2 : g ≠ k) : Tb X B g cp R :=
  ⟨blk_grown hg h.cell (by simpa using h1), h.list.other hg h2, h.ne, h.le, h.n⟩
theorem Tb.set {W : World} {B g cp : Nat} {R : List Nat} (h : Tb W B g cp R) {i r : Nat} (hi : i < R.length) (hr : r ≤ 2097153) :
    Tb (((W.setCell ⟨g, i * 3, none⟩ (.int .i64 (i : Int))).setCell ⟨g, i * 3 + 1, none⟩ (.int .i64 (tgN r : Nat))).setCell ⟨g, i * 3 + 2, none⟩ (.int .i64 (kdN r : Nat))) B g cp (R.set i r) ∧
    W.grownBy (((W.setCell ⟨g, i * 3, none⟩ (.int .i64 (i : Int))).setCell ⟨g, i * 3 + 1, none⟩ (.int .i64 (tgN r : Nat))).setCell ⟨g, i * 3 + 2, none⟩ (.int .i64 (kdN r : Nat))) (some g) := by
  refine ⟨⟨?_, ?_, h.ne, fun x hx => ?_, by rw [List.length_set]; exact h.n⟩, ?_⟩
  · rw [List.length_set]
    exact blk_set (blk_set (blk_set h.cell _ _ h.ne) _ _ h.ne) _ _ h.ne
  · rw [List.length_set]
    exact h.list.set hi r
  · rcases List.mem_or_eq_of_mem_set hx with h' | rfl
    · exact h.le x h'
    · exact hr
  · have hl := h.lt.2
    exact but_set (but_set (but_set (but_refl W _) hl _ _) hl _ _) hl _ _
/-- A notice in a box beside the book. -/
structure TkS (w : World) (B g cp : Nat) (R : List Nat) (o t k : Int) (W : World) : Prop where
  box : W.heap[w.heap.size]? = some (.cells #[.int .i64 o, .int .i64 t, .int .i64 k] 60 (0, 0))
  book : Tb W B g cp R
  low : Below w.heap.size w W
  lt : B < w.heap.size ∧ g < w.heap.size
theorem TkS.below {w W X : World} {B g cp : Nat} {R : List Nat} {o t k : Int} (h : TkS w B g cp R o t k W) (hb : Below W.heap.size W X) : TkS w B g cp R o t k X :=
  ⟨blk_below' hb h.box, h.book.below hb, below_then h.low hb, h.lt⟩
theorem TkS.drew {w W : World} {B g cp : Nat} {R : List Nat} {o t k : Int} (h : TkS w B g cp R o t k W) : TkS w B g cp R o t k W.drew := h.below ((Below.refl _ W).drew)
theorem Tb.box {w : World} {B g cp : Nat} {R : List Nat} (h : Tb w B g cp R) (o t k : Int) : TkS w B g cp R o t k (w.alloc (.cells #[.int .i64 o, .int .i64 t, .int .i64 k] 60)) :=
  ⟨blk_new w _, h.below ((Below.refl _ _).alloc (Nat.le_refl _) _), (Below.refl _ _).alloc (Nat.le_refl _) _, h.lt⟩
/-- The cells of a box with a notice. -/
def Bx3 (p : Nat) (o t k : Int) (W : World) : Prop := W.cell? ⟨p, 0, none⟩ = some (.int .i64 o) ∧ W.cell? ⟨p, 1, none⟩ = some (.int .i64 t) ∧ W.cell? ⟨p, 2, none⟩ = some (.int .i64 k)
theorem TkS.b3 {w W : World} {B g cp : Nat} {R : List Nat} {o t k : Int} (h : TkS w B g cp R o t k W) : Bx3 w.heap.size o t k W := ⟨blk_cell h.box 0, blk_cell h.box 1, blk_cell h.box 2⟩
/-- The box, the book's cell, the cells of a place of its list. -/
def Bx7 (p : Nat) (o t k : Int) (B g cp n i q : Nat) (W : World) : Prop := Bx3 p o t k W ∧ W.cell? ⟨B, 0, none⟩ = some (.slice (some ⟨g, 0, none⟩) n cp) ∧ (W.cell? ⟨g, i * 3, none⟩ = some (.int .i64 (i : Int)) ∧ W.cell? ⟨g, i * 3 + 1, none⟩ = some (.int .i64 (tgN q : Nat)) ∧ W.cell? ⟨g, i * 3 + 2, none⟩ = some (.int .i64 (kdN q : Nat)))
theorem TkS.b7 {w W : World} {B g cp : Nat} {R : List Nat} {o t k : Int} (h : TkS w B g cp R o t k W) {i q : Nat} (hq : R[i]? = some q) : Bx7 w.heap.size o t k B g cp R.length i q W :=
  ⟨h.b3, blk_cell h.book.cell 0, (h.book.list.cells hq).1⟩
theorem list_any {w : World} {B g cp : Nat} {R : List Nat} (h : Tb w B g cp R) :
    Calls Tryz.prog 47 #[.pointer (some ⟨B, 0, none⟩)] w fun e w' => e = .returned (.slice (some ⟨g, 0, none⟩) R.length cp) ∧ w' = w := by
  have b0 := blk_cell h.cell 0
  clear h
  go_enter Tryz.func47, Tryz.ntmps47
  go_wp2
  go_ret
  exact ⟨rfl, rfl⟩
theorem list_nil (w : World) : Calls Tryz.prog 47 #[.pointer none] w fun e w' => e = .returned (.slice none 0 0) ∧ w' = w := by
  go_enter Tryz.func47, Tryz.ntmps47
  go_wp2
  go_ret
  exact ⟨rfl, rfl⟩
theorem size_any {w : World} {B g cp : Nat} {R : List Nat} (h : Tb w B g cp R) :
    Calls Tryz.prog 34 #[.pointer (some ⟨B, 0, none⟩)] w fun e w' => e = .returned (.int .i64 (R.length : Int)) ∧ w' = w := by
  have HL := Lib.hid (list_any h)
  clear h
  go_enter Tryz.func34, Tryz.ntmps34
  go_wp2_with (go_at_call 47; refine HL.out.mono ?_; rintro e w1 ⟨rfl, rfl⟩)
  go_ret
  exact ⟨rfl, rfl⟩
theorem size_nil (w : World) : Calls Tryz.prog 34 #[.pointer none] w fun e w' => e = .returned (.int .i64 0) ∧ w' = w := by
  have HL := Lib.hid (list_nil w)
  go_enter Tryz.func34, Tryz.ntmps34
  go_wp2_with (go_at_call 47; refine HL.out.mono ?_; rintro e w1 ⟨rfl, rfl⟩)
  go_ret
  exact ⟨rfl, rfl⟩
set_option maxRecDepth 100000 in
theorem take_no {w : World} {B g cp : Nat} {R : List Nat} (h : Tb w B g cp R) (o t k : Int) (hv : vN (R.length : Int) o t k = false) :
    Calls Tryz.prog 24 #[.pointer (some ⟨B, 0, none⟩), nV o t k] w fun e w' => e = .returned (.tuple #[.bool false, .int .i64 50]) ∧ Below w.heap.size w w' := by
  have HS := Lib.hid (h.box o t k)
  have HV := Lib.hid (fun w => valid_any (R.length : Int) o t k w)
  rw [hv] at HV
  have HZ : Hid (∀ W, Tb W B g cp R → Calls Tryz.prog 34 #[.pointer (some ⟨B, 0, none⟩)] W fun e w' => e = .returned (.int .i64 (R.length : Int)) ∧ w' = W) := Lib.hid fun W hW => size_any hW
  unfold nV at HV ⊢
  go_enter Tryz.func24, Tryz.ntmps24
  go_upto_region 1 with fail
  refine wp_region_early (Bx3 w.heap.size o t k) (fun _ => false) (by kernel_rfl) ?_
  simp only [List.size_toArray, List.length_cons, List.length_nil, Nat.reduceAdd, Array.replicate_succ, Array.replicate_zero, List.push_toArray, List.nil_append, List.cons_append]
  have HS := Lib.hid HS.out.drew
  generalize World.drew _ = W at *
  have hSS := HS.out.b3
  refine wpAnyE_take (i := 0) (v := ?_) rfl (by kernel_rfl) (by kernel_rfl) (by kernel_rfl) (by kernel_rfl) (fun _ _ _ h => h) (Or.inl ⟨by rfl, ?_⟩) hSS ?_
  rotate_left
  · intro w hSw
    obtain ⟨j0, j1, j2⟩ := hSw
    go_simp
    all_goals with_reducible rfl
  simp only [Act.put, List.setIfInBounds_toArray, List.set_cons_zero, List.set_cons_succ, List.getElem_toArray, List.getElem_cons_zero, List.getElem_cons_succ]
  refine wpAnyE_take (i := 2) (v := ?_) rfl (by kernel_rfl) (by kernel_rfl) (by kernel_rfl) (by kernel_rfl) (fun _ _ _ h => h) (Or.inl ⟨by rfl, ?_⟩) hSS ?_
  rotate_left
  · intro w hSw
    obtain ⟨j0, j1, j2⟩ := hSw
    go_simp
    all_goals with_reducible rfl
  simp only [Act.put, List.setIfInBounds_toArray, List.set_cons_zero, List.set_cons_succ, List.getElem_toArray, List.getElem_cons_zero, List.getElem_cons_succ]
  refine wpAnyE_one (i := 1) (by kernel_rfl) rfl ?_
  change wpList _ _ (Exit.then _ _) [_] _ _
  try simp only [List.setIfInBounds_toArray, List.set_cons_zero, List.set_cons_succ, List.getElem_toArray, List.getElem_cons_zero, List.getElem_cons_succ]
  go_wp2_with (go_at_call 34; refine (HZ.out _ HS.out.book).mono ?_; rintro e w1 ⟨rfl, rfl⟩)
  refine ⟨fun _ => hSS, ?_⟩
  try simp only [List.setIfInBounds_toArray, List.set_cons_zero, List.set_cons_succ, List.getElem_toArray, List.getElem_cons_zero, List.getElem_cons_succ]
  refine wpAnyE_one (i := 3) (by kernel_rfl) rfl ?_
  change wpList _ _ (Exit.then _ _) [_] _ _
  try simp only [List.setIfInBounds_toArray, List.set_cons_zero, List.set_cons_succ, List.getElem_toArray, List.getElem_cons_zero, List.getElem_cons_succ]
  go_wp2_with (go_at_call 31; refine (HV.out _).mono ?_; rintro e w2 ⟨rfl, hB⟩)
  have HS := Lib.hid (HS.out.below hB)
  clear hB hSS
  have hSS := HS.out.b3
  refine ⟨fun _ => hSS, ?_⟩
  try simp only [List.setIfInBounds_toArray, List.set_cons_zero, List.set_cons_succ, List.getElem_toArray, List.getElem_cons_zero, List.getElem_cons_succ]
  refine wpAnyE_take (i := 4) (v := ?_) rfl (by kernel_rfl) (by kernel_rfl) (by kernel_rfl) (by kernel_rfl) (fun _ _ _ h => h) (Or.inl ⟨by rfl, ?_⟩) hSS ?_
  rotate_left
  · intro w hSw
    obtain ⟨j0, j1, j2⟩ := hSw
    go_simp
    all_goals with_reducible rfl
  simp only [Act.put, List.setIfInBounds_toArray, List.set_cons_zero, List.set_cons_succ, List.getElem_toArray, List.getElem_cons_zero, List.getElem_cons_succ]
  refine wpAnyE_end (by kernel_rfl) ?_
  go_wp2_with fail
  go_ret2
  exact ⟨rfl, HS.out.low⟩
set_option maxRecDepth 100000 in
set_option maxHeartbeats 1000000 in
theorem take_yes {w : World} {B g cp : Nat} {R : List Nat} (h : Tb w B g cp R) (i r : Nat) (hi : i < R.length) (hr : r ≤ 2097153) :
    Calls Tryz.prog 24 #[.pointer (some ⟨B, 0, none⟩), nV (i : Int) (tgN r : Nat) (kdN r : Nat)] w fun e w' => e = .returned (.tuple #[.bool (decide (R.getD i 0 < r)), .int .i64 0]) ∧ Tb w' B g cp (tkR R i r) ∧ w.grownBy w' (some g) := by
  have hv := vN_of (n := R.length) hi h.n.2 hr
  obtain ⟨q, hq, hqd, hql⟩ := h.get hi
  have HB := Lib.hid (fun w => beats_nat i r q hr hql w)
  have HQ := Lib.hid hq
  have HLE := Lib.hid h.le
  rw [hqd]
  have i1 : (i : Int) < (R.length : Int) := by omega
  have i2 : (0 : Int) ≤ (i : Int) := by omega
  have i3 : (i : Int).toNat = i := Int.toNat_natCast i
  have HHI := Lib.hid hi
  have HHR := Lib.hid hr
  have hT : tkR R i r = if q < r then R.set i r else R := by unfold tkR; rw [hqd]
  have HT := Lib.hid hT
  unfold nV at HB
  by_cases hlt : q < r
  · rw [decide_eq_true hlt] at HB ⊢
    have HX := Lib.hid (HT.out.trans (if_pos hlt))
    clear hT HT hlt hq hqd hql hi hr
    have HS := Lib.hid (h.box (i : Int) (tgN r : Nat) (kdN r : Nat))
    have HV := Lib.hid (fun w => valid_any (R.length : Int) (i : Int) (tgN r : Nat) (kdN r : Nat) w)
    rw [hv] at HV
    have HZ : Hid (∀ W, Tb W B g cp R → Calls Tryz.prog 34 #[.pointer (some ⟨B, 0, none⟩)] W fun e w' => e = .returned (.int .i64 (R.length : Int)) ∧ w' = W) := Lib.hid fun W hW => size_any hW
    unfold nV at HV ⊢
    go_enter Tryz.func24, Tryz.ntmps24
    go_upto_region 1 with fail
    refine wp_region_early (Bx3 w.heap.size (i : Int) (tgN r : Nat) (kdN r : Nat)) (fun _ => false) (by kernel_rfl) ?_
    simp only [List.size_toArray, List.length_cons, List.length_nil, Nat.reduceAdd, Array.replicate_succ, Array.replicate_zero, List.push_toArray, List.nil_append, List.cons_append]
    have HS := Lib.hid HS.out.drew
    generalize World.drew _ = W at *
    have hSS := HS.out.b3
    refine wpAnyE_take (i := 0) (v := ?_) rfl (by kernel_rfl) (by kernel_rfl) (by kernel_rfl) (by kernel_rfl) (fun _ _ _ h => h) (Or.inl ⟨by rfl, ?_⟩) hSS ?_
    rotate_left
    · intro w hSw
      obtain ⟨j0, j1, j2⟩ := hSw
      go_simp
      all_goals with_reducible rfl
    simp only [Act.put, List.setIfInBounds_toArray, List.set_cons_zero, List.set_cons_succ, List.getElem_toArray, List.getElem_cons_zero, List.getElem_cons_succ]
    refine wpAnyE_take (i := 2) (v := ?_) rfl (by kernel_rfl) (by kernel_rfl) (by kernel_rfl) (by kernel_rfl) (fun _ _ _ h => h) (Or.inl ⟨by rfl, ?_⟩) hSS ?_
    rotate_left
    · intro w hSw
      obtain ⟨j0, j1, j2⟩ := hSw
      go_simp
      all_goals with_reducible rfl
    simp only [Act.put, List.setIfInBounds_toArray, List.set_cons_zero, List.set_cons_succ, List.getElem_toArray, List.getElem_cons_zero, List.getElem_cons_succ]
    refine wpAnyE_one (i := 1) (by kernel_rfl) rfl ?_
    change wpList _ _ (Exit.then _ _) [_] _ _
    try simp only [List.setIfInBounds_toArray, List.set_cons_zero, List.set_cons_succ, List.getElem_toArray, List.getElem_cons_zero, List.getElem_cons_succ]
    go_wp2_with (go_at_call 34; refine (HZ.out _ HS.out.book).mono ?_; rintro e w1 ⟨rfl, rfl⟩)
    refine ⟨fun _ => hSS, ?_⟩
    try simp only [List.setIfInBounds_toArray, List.set_cons_zero, List.set_cons_succ, List.getElem_toArray, List.getElem_cons_zero, List.getElem_cons_succ]
    refine wpAnyE_one (i := 3) (by kernel_rfl) rfl ?_
    change wpList _ _ (Exit.then _ _) [_] _ _
    try simp only [List.setIfInBounds_toArray, List.set_cons_zero, List.set_cons_succ, List.getElem_toArray, List.getElem_cons_zero, List.getElem_cons_succ]
    go_wp2_with (go_at_call 31; refine (HV.out _).mono ?_; rintro e w2 ⟨rfl, hB⟩)
    have HS := Lib.hid (HS.out.below hB)
    clear hB hSS
    have hSS := HS.out.b3
    refine ⟨fun _ => hSS, ?_⟩
    try simp only [List.setIfInBounds_toArray, List.set_cons_zero, List.set_cons_succ, List.getElem_toArray, List.getElem_cons_zero, List.getElem_cons_succ]
    refine wpAnyE_take (i := 4) (v := ?_) rfl (by kernel_rfl) (by kernel_rfl) (by kernel_rfl) (by kernel_rfl) (fun _ _ _ h => h) (Or.inl ⟨by rfl, ?_⟩) hSS ?_
    rotate_left
    · intro w hSw
      obtain ⟨j0, j1, j2⟩ := hSw
      go_simp
      all_goals with_reducible rfl
    simp only [Act.put, List.setIfInBounds_toArray, List.set_cons_zero, List.set_cons_succ, List.getElem_toArray, List.getElem_cons_zero, List.getElem_cons_succ]
    refine wpAnyE_end (by kernel_rfl) ?_
    go_upto_region 3 with fail
    refine wp_region_early (Bx7 w.heap.size (i : Int) (tgN r : Nat) (kdN r : Nat) B g cp R.length i q) (fun _ => false) (by kernel_rfl) ?_
    simp only [List.size_toArray, List.length_cons, List.length_nil, Nat.reduceAdd, Array.replicate_succ, Array.replicate_zero, List.push_toArray, List.nil_append, List.cons_append]
    have HS := Lib.hid HS.out.drew
    generalize World.drew _ = W3 at *
    have hSS := HS.out.b7 HQ.out
    refine wpAnyE_take (i := 0) (v := ?_) rfl (by kernel_rfl) (by kernel_rfl) (by kernel_rfl) (by kernel_rfl) (fun _ _ _ h => h) (Or.inl ⟨by rfl, ?_⟩) hSS ?_
    rotate_left
    · intro w hSw
      obtain ⟨⟨j0, j1, j2⟩, j3, j4, j5, j6⟩ := hSw
      go_simp
      all_goals with_reducible rfl
    simp only [Act.put, List.setIfInBounds_toArray, List.set_cons_zero, List.set_cons_succ, List.getElem_toArray, List.getElem_cons_zero, List.getElem_cons_succ]
    refine wpAnyE_take (i := 1) (v := ?_) rfl (by kernel_rfl) (by kernel_rfl) (by kernel_rfl) (by kernel_rfl) (fun _ _ _ h => h) (Or.inl ⟨by rfl, ?_⟩) hSS ?_
    rotate_left
    · intro w hSw
      obtain ⟨⟨j0, j1, j2⟩, j3, j4, j5, j6⟩ := hSw
      go_simp
      all_goals with_reducible rfl
    simp only [Act.put, List.setIfInBounds_toArray, List.set_cons_zero, List.set_cons_succ, List.getElem_toArray, List.getElem_cons_zero, List.getElem_cons_succ]
    refine wpAnyE_take (i := 2) (v := ?_) rfl (by kernel_rfl) (by kernel_rfl) (by kernel_rfl) (by kernel_rfl) (fun _ _ _ h => h) (Or.inl ⟨by rfl, ?_⟩) hSS ?_
    rotate_left
    · intro w hSw
      obtain ⟨⟨j0, j1, j2⟩, j3, j4, j5, j6⟩ := hSw
      go_simp
      all_goals with_reducible rfl
    simp only [Act.put, List.setIfInBounds_toArray, List.set_cons_zero, List.set_cons_succ, List.getElem_toArray, List.getElem_cons_zero, List.getElem_cons_succ]
    refine wpAnyE_take (i := 3) (v := ?_) rfl (by kernel_rfl) (by kernel_rfl) (by kernel_rfl) (by kernel_rfl) (fun _ _ _ h => h) (Or.inl ⟨by rfl, ?_⟩) hSS ?_
    rotate_left
    · intro w hSw
      obtain ⟨⟨j0, j1, j2⟩, j3, j4, j5, j6⟩ := hSw
      go_simp
      all_goals with_reducible rfl
    simp only [Act.put, List.setIfInBounds_toArray, List.set_cons_zero, List.set_cons_succ, List.getElem_toArray, List.getElem_cons_zero, List.getElem_cons_succ]
    refine wpAnyE_take (i := 4) (v := ?_) rfl (by kernel_rfl) (by kernel_rfl) (by kernel_rfl) (by kernel_rfl) (fun _ _ _ h => h) (Or.inl ⟨by rfl, ?_⟩) hSS ?_
    rotate_left
    · intro w hSw
      obtain ⟨⟨j0, j1, j2⟩, j3, j4, j5, j6⟩ := hSw
      go_simp
      all_goals with_reducible rfl
    simp only [Act.put, List.setIfInBounds_toArray, List.set_cons_zero, List.set_cons_succ, List.getElem_toArray, List.getElem_cons_zero, List.getElem_cons_succ]
    refine wpAnyE_take (i := 5) (v := ?_) rfl (by kernel_rfl) (by kernel_rfl) (by kernel_rfl) (by kernel_rfl) (fun _ _ _ h => h) (Or.inl ⟨by rfl, ?_⟩) hSS ?_
    rotate_left
    · intro w hSw
      obtain ⟨⟨j0, j1, j2⟩, j3, j4, j5, j6⟩ := hSw
      go_simp
      all_goals with_reducible rfl
    simp only [Act.put, List.setIfInBounds_toArray, List.set_cons_zero, List.set_cons_succ, List.getElem_toArray, List.getElem_cons_zero, List.getElem_cons_succ]
    refine wpAnyE_take (i := 6) (v := ?_) rfl (by kernel_rfl) (by kernel_rfl) (by kernel_rfl) (by kernel_rfl) (fun _ _ _ h => h) (Or.inl ⟨by rfl, ?_⟩) hSS ?_
    rotate_left
    · intro w hSw
      obtain ⟨⟨j0, j1, j2⟩, j3, j4, j5, j6⟩ := hSw
      go_simp
      all_goals with_reducible rfl
    simp only [Act.put, List.setIfInBounds_toArray, List.set_cons_zero, List.set_cons_succ, List.getElem_toArray, List.getElem_cons_zero, List.getElem_cons_succ]
    refine wpAnyE_take (i := 7) (v := ?_) rfl (by kernel_rfl) (by kernel_rfl) (by kernel_rfl) (by kernel_rfl) (fun _ _ _ h => h) (Or.inl ⟨by rfl, ?_⟩) hSS ?_
    rotate_left
    · intro w hSw
      obtain ⟨⟨j0, j1, j2⟩, j3, j4, j5, j6⟩ := hSw
      go_simp
      all_goals with_reducible rfl
    simp only [Act.put, List.setIfInBounds_toArray, List.set_cons_zero, List.set_cons_succ, List.getElem_toArray, List.getElem_cons_zero, List.getElem_cons_succ]
    refine wpAnyE_take (i := 8) (v := ?_) rfl (by kernel_rfl) (by kernel_rfl) (by kernel_rfl) (by kernel_rfl) (fun _ _ _ h => h) (Or.inl ⟨by rfl, ?_⟩) hSS ?_
    rotate_left
    · intro w hSw
      obtain ⟨⟨j0, j1, j2⟩, j3, j4, j5, j6⟩ := hSw
      go_simp
      all_goals with_reducible rfl
    simp only [Act.put, List.setIfInBounds_toArray, List.set_cons_zero, List.set_cons_succ, List.getElem_toArray, List.getElem_cons_zero, List.getElem_cons_succ]
    refine wpAnyE_one (i := 9) (by kernel_rfl) rfl ?_
    change wpList _ _ (Exit.then _ _) [_] _ _
    try simp only [List.setIfInBounds_toArray, List.set_cons_zero, List.set_cons_succ, List.getElem_toArray, List.getElem_cons_zero, List.getElem_cons_succ]
    go_wp2_with (go_at_call 48; refine (HB.out _).mono ?_; rintro e w3 ⟨rfl, hB⟩)
    have HS := Lib.hid (HS.out.below hB)
    clear hB hSS
    have hSS := HS.out.b7 HQ.out
    refine ⟨fun _ => hSS, ?_⟩
    try simp only [List.setIfInBounds_toArray, List.set_cons_zero, List.set_cons_succ, List.getElem_toArray, List.getElem_cons_zero, List.getElem_cons_succ]
    refine wpAnyE_take (i := 10) (v := ?_) rfl (by kernel_rfl) (by kernel_rfl) (by kernel_rfl) (by kernel_rfl) (fun _ _ _ h => h) (Or.inl ⟨by rfl, ?_⟩) hSS ?_
    rotate_left
    · intro w hSw
      obtain ⟨⟨j0, j1, j2⟩, j3, j4, j5, j6⟩ := hSw
      go_simp
      all_goals with_reducible rfl
    simp only [Act.put, List.setIfInBounds_toArray, List.set_cons_zero, List.set_cons_succ, List.getElem_toArray, List.getElem_cons_zero, List.getElem_cons_succ]
    refine wpAnyE_end (by kernel_rfl) ?_
    go_upto_region 5 with fail
    refine wp_region_early (Bx7 w.heap.size (i : Int) (tgN r : Nat) (kdN r : Nat) B g cp R.length i q) (fun j => j == 8) (by kernel_rfl) ?_
    simp only [List.size_toArray, List.length_cons, List.length_nil, Nat.reduceAdd, Array.replicate_succ, Array.replicate_zero, List.push_toArray, List.nil_append, List.cons_append]
    have HS := Lib.hid HS.out.drew
    clear hSS
    generalize World.drew _ = W5 at *
    have hSS := HS.out.b7 HQ.out
    refine wpAnyE_take (i := 0) (v := ?_) rfl (by kernel_rfl) (by kernel_rfl) (by kernel_rfl) (by kernel_rfl) (fun _ _ _ h => h) (Or.inl ⟨by rfl, ?_⟩) hSS ?_
    rotate_left
    · intro w hSw
      obtain ⟨⟨j0, j1, j2⟩, j3, j4, j5, j6⟩ := hSw
      go_simp
      all_goals with_reducible rfl
    simp only [Act.put, List.setIfInBounds_toArray, List.set_cons_zero, List.set_cons_succ, List.getElem_toArray, List.getElem_cons_zero, List.getElem_cons_succ]
    refine wpAnyE_take (i := 1) (v := ?_) rfl (by kernel_rfl) (by kernel_rfl) (by kernel_rfl) (by kernel_rfl) (fun _ _ _ h => h) (Or.inl ⟨by rfl, ?_⟩) hSS ?_
    rotate_left
    · intro w hSw
      obtain ⟨⟨j0, j1, j2⟩, j3, j4, j5, j6⟩ := hSw
      go_simp
      all_goals with_reducible rfl
    simp only [Act.put, List.setIfInBounds_toArray, List.set_cons_zero, List.set_cons_succ, List.getElem_toArray, List.getElem_cons_zero, List.getElem_cons_succ]
    refine wpAnyE_take (i := 2) (v := ?_) rfl (by kernel_rfl) (by kernel_rfl) (by kernel_rfl) (by kernel_rfl) (fun _ _ _ h => h) (Or.inl ⟨by rfl, ?_⟩) hSS ?_
    rotate_left
    · intro w hSw
      obtain ⟨⟨j0, j1, j2⟩, j3, j4, j5, j6⟩ := hSw
      go_simp
      all_goals with_reducible rfl
    simp only [Act.put, List.setIfInBounds_toArray, List.set_cons_zero, List.set_cons_succ, List.getElem_toArray, List.getElem_cons_zero, List.getElem_cons_succ]
    refine wpAnyE_take (i := 3) (v := ?_) rfl (by kernel_rfl) (by kernel_rfl) (by kernel_rfl) (by kernel_rfl) (fun _ _ _ h => h) (Or.inl ⟨by rfl, ?_⟩) hSS ?_
    rotate_left
    · intro w hSw
      obtain ⟨⟨j0, j1, j2⟩, j3, j4, j5, j6⟩ := hSw
      go_simp
      all_goals with_reducible rfl
    simp only [Act.put, List.setIfInBounds_toArray, List.set_cons_zero, List.set_cons_succ, List.getElem_toArray, List.getElem_cons_zero, List.getElem_cons_succ]
    refine wpAnyE_take (i := 4) (v := ?_) rfl (by kernel_rfl) (by kernel_rfl) (by kernel_rfl) (by kernel_rfl) (fun _ _ _ h => h) (Or.inl ⟨by rfl, ?_⟩) hSS ?_
    rotate_left
    · intro w hSw
      obtain ⟨⟨j0, j1, j2⟩, j3, j4, j5, j6⟩ := hSw
      go_simp
      all_goals with_reducible rfl
    simp only [Act.put, List.setIfInBounds_toArray, List.set_cons_zero, List.set_cons_succ, List.getElem_toArray, List.getElem_cons_zero, List.getElem_cons_succ]
    refine wpAnyE_take (i := 5) (v := ?_) rfl (by kernel_rfl) (by kernel_rfl) (by kernel_rfl) (by kernel_rfl) (fun _ _ _ h => h) (Or.inl ⟨by rfl, ?_⟩) hSS ?_
    rotate_left
    · intro w hSw
      obtain ⟨⟨j0, j1, j2⟩, j3, j4, j5, j6⟩ := hSw
      go_simp
      all_goals with_reducible rfl
    simp only [Act.put, List.setIfInBounds_toArray, List.set_cons_zero, List.set_cons_succ, List.getElem_toArray, List.getElem_cons_zero, List.getElem_cons_succ]
    refine wpAnyE_take (i := 6) (v := ?_) rfl (by kernel_rfl) (by kernel_rfl) (by kernel_rfl) (by kernel_rfl) (fun _ _ _ h => h) (Or.inl ⟨by rfl, ?_⟩) hSS ?_
    rotate_left
    · intro w hSw
      obtain ⟨⟨j0, j1, j2⟩, j3, j4, j5, j6⟩ := hSw
      go_simp
      all_goals with_reducible rfl
    simp only [Act.put, List.setIfInBounds_toArray, List.set_cons_zero, List.set_cons_succ, List.getElem_toArray, List.getElem_cons_zero, List.getElem_cons_succ]
    refine wpAnyE_take (i := 7) (v := ?_) rfl (by kernel_rfl) (by kernel_rfl) (by kernel_rfl) (by kernel_rfl) (fun _ _ _ h => h) (Or.inl ⟨by rfl, ?_⟩) hSS ?_
    rotate_left
    · intro w hSw
      obtain ⟨⟨j0, j1, j2⟩, j3, j4, j5, j6⟩ := hSw
      go_simp
      all_goals with_reducible rfl
    simp only [Act.put, List.setIfInBounds_toArray, List.set_cons_zero, List.set_cons_succ, List.getElem_toArray, List.getElem_cons_zero, List.getElem_cons_succ]
    refine wpAnyE_one (i := 8) (by kernel_rfl) rfl ?_
    change wpList _ _ (Exit.then _ _) [_] _ _
    try simp only [List.setIfInBounds_toArray, List.set_cons_zero, List.set_cons_succ, List.getElem_toArray, List.getElem_cons_zero, List.getElem_cons_succ]
    obtain ⟨⟨_, _, _⟩, _, c0, c1, c2⟩ := hSS
    obtain ⟨f0, f1, f2⟩ := (HS.out.book.list.cells HQ.out).2
    go_wp2_with fail
    refine ⟨(fun h => by cases h), ?_⟩
    try simp only [List.setIfInBounds_toArray, List.set_cons_zero, List.set_cons_succ, List.getElem_toArray, List.getElem_cons_zero, List.getElem_cons_succ]
    refine wpAnyE_end (by kernel_rfl) ?_
    go_wp2_with fail
    go_ret2
    obtain ⟨hs1, hs2⟩ := HS.out.book.set HHI.out HHR.out
    exact ⟨rfl, by rw [HX.out]; exact hs1, but_then (but_below HS.out.low _) hs2⟩
  · rw [decide_eq_false hlt] at HB ⊢
    have HX := Lib.hid (HT.out.trans (if_neg hlt))
    clear hT HT hlt hq hqd hql hi hr
    have HS := Lib.hid (h.box (i : Int) (tgN r : Nat) (kdN r : Nat))
    have HV := Lib.hid (fun w => valid_any (R.length : Int) (i : Int) (tgN r : Nat) (kdN r : Nat) w)
    rw [hv] at HV
    have HZ : Hid (∀ W, Tb W B g cp R → Calls Tryz.prog 34 #[.pointer (some ⟨B, 0, none⟩)] W fun e w' => e = .returned (.int .i64 (R.length : Int)) ∧ w' = W) := Lib.hid fun W hW => size_any hW
    unfold nV at HV ⊢
    go_enter Tryz.func24, Tryz.ntmps24
    go_upto_region 1 with fail
    refine wp_region_early (Bx3 w.heap.size (i : Int) (tgN r : Nat) (kdN r : Nat)) (fun _ => false) (by kernel_rfl) ?_
    simp only [List.size_toArray, List.length_cons, List.length_nil, Nat.reduceAdd, Array.replicate_succ, Array.replicate_zero, List.push_toArray, List.nil_append, List.cons_append]
    have HS := Lib.hid HS.out.drew
    generalize World.drew _ = W at *
    have hSS := HS.out.b3
    refine wpAnyE_take (i := 0) (v := ?_) rfl (by kernel_rfl) (by kernel_rfl) (by kernel_rfl) (by kernel_rfl) (fun _ _ _ h => h) (Or.inl ⟨by rfl, ?_⟩) hSS ?_
    rotate_left
    · intro w hSw
      obtain ⟨j0, j1, j2⟩ := hSw
      go_simp
      all_goals with_reducible rfl
    simp only [Act.put, List.setIfInBounds_toArray, List.set_cons_zero, List.set_cons_succ, List.getElem_toArray, List.getElem_cons_zero, List.getElem_cons_succ]
    refine wpAnyE_take (i := 2) (v := ?_) rfl (by kernel_rfl) (by kernel_rfl) (by kernel_rfl) (by kernel_rfl) (fun _ _ _ h => h) (Or.inl ⟨by rfl, ?_⟩) hSS ?_
    rotate_left
    · intro w hSw
      obtain ⟨j0, j1, j2⟩ := hSw
      go_simp
      all_goals with_reducible rfl
    simp only [Act.put, List.setIfInBounds_toArray, List.set_cons_zero, List.set_cons_succ, List.getElem_toArray, List.getElem_cons_zero, List.getElem_cons_succ]
    refine wpAnyE_one (i := 1) (by kernel_rfl) rfl ?_
    change wpList _ _ (Exit.then _ _) [_] _ _
    try simp only [List.setIfInBounds_toArray, List.set_cons_zero, List.set_cons_succ, List.getElem_toArray, List.getElem_cons_zero, List.getElem_cons_succ]
    go_wp2_with (go_at_call 34; refine (HZ.out _ HS.out.book).mono ?_; rintro e w1 ⟨rfl, rfl⟩)
    refine ⟨fun _ => hSS, ?_⟩
    try simp only [List.setIfInBounds_toArray, List.set_cons_zero, List.set_cons_succ, List.getElem_toArray, List.getElem_cons_zero, List.getElem_cons_succ]
    refine wpAnyE_one (i := 3) (by kernel_rfl) rfl ?_
    change wpList _ _ (Exit.then _ _) [_] _ _
    try simp only [List.setIfInBounds_toArray, List.set_cons_zero, List.set_cons_succ, List.getElem_toArray, List.getElem_cons_zero, List.getElem_cons_succ]
    go_wp2_with (go_at_call 31; refine (HV.out _).mono ?_; rintro e w2 ⟨rfl, hB⟩)
    have HS := Lib.hid (HS.out.below hB)
    clear hB hSS
    have hSS := HS.out.b3
    refine ⟨fun _ => hSS, ?_⟩
    try simp only [List.setIfInBounds_toArray, List.set_cons_zero, List.set_cons_succ, List.getElem_toArray, List.getElem_cons_zero, List.getElem_cons_succ]
    refine wpAnyE_take (i := 4) (v := ?_) rfl (by kernel_rfl) (by kernel_rfl) (by kernel_rfl) (by kernel_rfl) (fun _ _ _ h => h) (Or.inl ⟨by rfl, ?_⟩) hSS ?_
    rotate_left
    · intro w hSw
      obtain ⟨j0, j1, j2⟩ := hSw
      go_simp
      all_goals with_reducible rfl
    simp only [Act.put, List.setIfInBounds_toArray, List.set_cons_zero, List.set_cons_succ, List.getElem_toArray, List.getElem_cons_zero, List.getElem_cons_succ]
    refine wpAnyE_end (by kernel_rfl) ?_
    go_upto_region 3 with fail
    refine wp_region_early (Bx7 w.heap.size (i : Int) (tgN r : Nat) (kdN r : Nat) B g cp R.length i q) (fun _ => false) (by kernel_rfl) ?_
    simp only [List.size_toArray, List.length_cons, List.length_nil, Nat.reduceAdd, Array.replicate_succ, Array.replicate_zero, List.push_toArray, List.nil_append, List.cons_append]
    have HS := Lib.hid HS.out.drew
    generalize World.drew _ = W3 at *
    have hSS := HS.out.b7 HQ.out
    refine wpAnyE_take (i := 0) (v := ?_) rfl (by kernel_rfl) (by kernel_rfl) (by kernel_rfl) (by kernel_rfl) (fun _ _ _ h => h) (Or.inl ⟨by rfl, ?_⟩) hSS ?_
    rotate_left
    · intro w hSw
      obtain ⟨⟨j0, j1, j2⟩, j3, j4, j5, j6⟩ := hSw
      go_simp
      all_goals with_reducible rfl
    simp only [Act.put, List.setIfInBounds_toArray, List.set_cons_zero, List.set_cons_succ, List.getElem_toArray, List.getElem_cons_zero, List.getElem_cons_succ]
    refine wpAnyE_take (i := 1) (v := ?_) rfl (by kernel_rfl) (by kernel_rfl) (by kernel_rfl) (by kernel_rfl) (fun _ _ _ h => h) (Or.inl ⟨by rfl, ?_⟩) hSS ?_
    rotate_left
    · intro w hSw
      obtain ⟨⟨j0, j1, j2⟩, j3, j4, j5, j6⟩ := hSw
      go_simp
      all_goals with_reducible rfl
    simp only [Act.put, List.setIfInBounds_toArray, List.set_cons_zero, List.set_cons_succ, List.getElem_toArray, List.getElem_cons_zero, List.getElem_cons_succ]
    refine wpAnyE_take (i := 2) (v := ?_) rfl (by kernel_rfl) (by kernel_rfl) (by kernel_rfl) (by kernel_rfl) (fun _ _ _ h => h) (Or.inl ⟨by rfl, ?_⟩) hSS ?_
    rotate_left
    · intro w hSw
      obtain ⟨⟨j0, j1, j2⟩, j3, j4, j5, j6⟩ := hSw
      go_simp
      all_goals with_reducible rfl
    simp only [Act.put, List.setIfInBounds_toArray, List.set_cons_zero, List.set_cons_succ, List.getElem_toArray, List.getElem_cons_zero, List.getElem_cons_succ]
    refine wpAnyE_take (i := 3) (v := ?_) rfl (by kernel_rfl) (by kernel_rfl) (by kernel_rfl) (by kernel_rfl) (fun _ _ _ h => h) (Or.inl ⟨by rfl, ?_⟩) hSS ?_
    rotate_left
    · intro w hSw
      obtain ⟨⟨j0, j1, j2⟩, j3, j4, j5, j6⟩ := hSw
      go_simp
      all_goals with_reducible rfl
    simp only [Act.put, List.setIfInBounds_toArray, List.set_cons_zero, List.set_cons_succ, List.getElem_toArray, List.getElem_cons_zero, List.getElem_cons_succ]
    refine wpAnyE_take (i := 4) (v := ?_) rfl (by kernel_rfl) (by kernel_rfl) (by kernel_rfl) (by kernel_rfl) (fun _ _ _ h => h) (Or.inl ⟨by rfl, ?_⟩) hSS ?_
    rotate_left
    · intro w hSw
      obtain ⟨⟨j0, j1, j2⟩, j3, j4, j5, j6⟩ := hSw
      go_simp
      all_goals with_reducible rfl
    simp only [Act.put, List.setIfInBounds_toArray, List.set_cons_zero, List.set_cons_succ, List.getElem_toArray, List.getElem_cons_zero, List.getElem_cons_succ]
    refine wpAnyE_take (i := 5) (v := ?_) rfl (by kernel_rfl) (by kernel_rfl) (by kernel_rfl) (by kernel_rfl) (fun _ _ _ h => h) (Or.inl ⟨by rfl, ?_⟩) hSS ?_
    rotate_left
    · intro w hSw
      obtain ⟨⟨j0, j1, j2⟩, j3, j4, j5, j6⟩ := hSw
      go_simp
      all_goals with_reducible rfl
    simp only [Act.put, List.setIfInBounds_toArray, List.set_cons_zero, List.set_cons_succ, List.getElem_toArray, List.getElem_cons_zero, List.getElem_cons_succ]
    refine wpAnyE_take (i := 6) (v := ?_) rfl (by kernel_rfl) (by kernel_rfl) (by kernel_rfl) (by kernel_rfl) (fun _ _ _ h => h) (Or.inl ⟨by rfl, ?_⟩) hSS ?_
    rotate_left
    · intro w hSw
      obtain ⟨⟨j0, j1, j2⟩, j3, j4, j5, j6⟩ := hSw
      go_simp
      all_goals with_reducible rfl
    simp only [Act.put, List.setIfInBounds_toArray, List.set_cons_zero, List.set_cons_succ, List.getElem_toArray, List.getElem_cons_zero, List.getElem_cons_succ]
    refine wpAnyE_take (i := 7) (v := ?_) rfl (by kernel_rfl) (by kernel_rfl) (by kernel_rfl) (by kernel_rfl) (fun _ _ _ h => h) (Or.inl ⟨by rfl, ?_⟩) hSS ?_
    rotate_left
    · intro w hSw
      obtain ⟨⟨j0, j1, j2⟩, j3, j4, j5, j6⟩ := hSw
      go_simp
      all_goals with_reducible rfl
    simp only [Act.put, List.setIfInBounds_toArray, List.set_cons_zero, List.set_cons_succ, List.getElem_toArray, List.getElem_cons_zero, List.getElem_cons_succ]
    refine wpAnyE_take (i := 8) (v := ?_) rfl (by kernel_rfl) (by kernel_rfl) (by kernel_rfl) (by kernel_rfl) (fun _ _ _ h => h) (Or.inl ⟨by rfl, ?_⟩) hSS ?_
    rotate_left
    · intro w hSw
      obtain ⟨⟨j0, j1, j2⟩, j3, j4, j5, j6⟩ := hSw
      go_simp
      all_goals with_reducible rfl
    simp only [Act.put, List.setIfInBounds_toArray, List.set_cons_zero, List.set_cons_succ, List.getElem_toArray, List.getElem_cons_zero, List.getElem_cons_succ]
    refine wpAnyE_one (i := 9) (by kernel_rfl) rfl ?_
    change wpList _ _ (Exit.then _ _) [_] _ _
    try simp only [List.setIfInBounds_toArray, List.set_cons_zero, List.set_cons_succ, List.getElem_toArray, List.getElem_cons_zero, List.getElem_cons_succ]
    go_wp2_with (go_at_call 48; refine (HB.out _).mono ?_; rintro e w3 ⟨rfl, hB⟩)
    have HS := Lib.hid (HS.out.below hB)
    clear hB hSS
    have hSS := HS.out.b7 HQ.out
    refine ⟨fun _ => hSS, ?_⟩
    try simp only [List.setIfInBounds_toArray, List.set_cons_zero, List.set_cons_succ, List.getElem_toArray, List.getElem_cons_zero, List.getElem_cons_succ]
    refine wpAnyE_take (i := 10) (v := ?_) rfl (by kernel_rfl) (by kernel_rfl) (by kernel_rfl) (by kernel_rfl) (fun _ _ _ h => h) (Or.inl ⟨by rfl, ?_⟩) hSS ?_
    rotate_left
    · intro w hSw
      obtain ⟨⟨j0, j1, j2⟩, j3, j4, j5, j6⟩ := hSw
      go_simp
      all_goals with_reducible rfl
    simp only [Act.put, List.setIfInBounds_toArray, List.set_cons_zero, List.set_cons_succ, List.getElem_toArray, List.getElem_cons_zero, List.getElem_cons_succ]
    refine wpAnyE_end (by kernel_rfl) ?_
    go_wp2_with fail
    go_ret2
    exact ⟨rfl, by rw [HX.out]; exact HS.out.book, but_below HS.out.low _⟩
end Go.Proofs.YtbjlnlgknegbnaaGreatDoor
namespace Go.Proofs.YtbjlnlgknegbnaaGreatDoor
set_option linter.unusedVariables false
set_option linter.unusedSimpArgs false
open Go.RowKit

theorem refFresh_any (o : Int) (w : World) :
    Calls Tryz.prog 33 #[.int .i64 o] w fun e w' => e = .returned (nV o 0 1) ∧ Below w.heap.size w w' := by
  unfold nV
  go_enter Tryz.func33, Tryz.ntmps33
  go_wp2_with fail
  have h0 := blk_new w (.cells #[.int .i64 o, .int .i64 0, .int .i64 1] 60)
  exact bodyPost_ret (v := .agg #[.int .i64 o, .int .i64 0, .int .i64 1]) (results_cell_row rfl _ _ w.heap.size _ _ _ _ rfl h0 Tryz.underlying60 rfl (by kernel_rfl)) rfl ⟨rfl, (Below.refl _ _).alloc (Nat.le_refl _) _⟩
theorem refValid_any (n o t k : Int) (w : World) :
    Calls Tryz.prog 37 #[.int .i64 n, nV o t k] w fun e w' => e = .returned (.bool (vN n o t k)) ∧ Below w.heap.size w w' := by
  unfold nV
  by_cases h1 : n < 1
  · skip
    have hv : vN n o t k = false := decide_eq_false (by omega)
    rw [hv]
    clear hv
    go_enter Tryz.func37, Tryz.ntmps37
    go_wp2_with fail
    go_ret
    exact ⟨rfl, (Below.refl _ _).alloc (Nat.le_refl _) _⟩
  by_cases h2 : 100 < n
  · skip
    have hv : vN n o t k = false := decide_eq_false (by omega)
    rw [hv]
    clear hv
    have d1 : 1 ≤ n := by omega
    clear h1
    go_enter Tryz.func37, Tryz.ntmps37
    go_wp2_with fail
    go_ret
    exact ⟨rfl, (Below.refl _ _).alloc (Nat.le_refl _) _⟩
  by_cases h3 : o < 0
  · skip
    have hv : vN n o t k = false := decide_eq_false (by omega)
    rw [hv]
    clear hv
    have d1 : 1 ≤ n := by omega
    have d2 : n ≤ 100 := by omega
    clear h1 h2
    go_enter Tryz.func37, Tryz.ntmps37
    go_wp2_with fail
    go_ret
    exact ⟨rfl, (Below.refl _ _).alloc (Nat.le_refl _) _⟩
  by_cases h4 : n ≤ o
  · skip
    have hv : vN n o t k = false := decide_eq_false (by omega)
    rw [hv]
    clear hv
    have d1 : 1 ≤ n := by omega
    have d2 : n ≤ 100 := by omega
    have d3 : 0 ≤ o := by omega
    clear h1 h2 h3
    go_enter Tryz.func37, Tryz.ntmps37
    go_wp2_with fail
    go_ret
    exact ⟨rfl, (Below.refl _ _).alloc (Nat.le_refl _) _⟩
  by_cases h5 : t < 0
  · skip
    have hv : vN n o t k = false := decide_eq_false (by omega)
    rw [hv]
    clear hv
    have d1 : 1 ≤ n := by omega
    have d2 : n ≤ 100 := by omega
    have d3 : 0 ≤ o := by omega
    have d4 : o < n := by omega
    clear h1 h2 h3 h4
    go_enter Tryz.func37, Tryz.ntmps37
    go_wp2_with fail
    go_ret
    exact ⟨rfl, (Below.refl _ _).alloc (Nat.le_refl _) _⟩
  by_cases h6 : 1048576 < t
  · skip
    have hv : vN n o t k = false := decide_eq_false (by omega)
    rw [hv]
    clear hv
    have d1 : 1 ≤ n := by omega
    have d2 : n ≤ 100 := by omega
    have d3 : 0 ≤ o := by omega
    have d4 : o < n := by omega
    have d5 : 0 ≤ t := by omega
    clear h1 h2 h3 h4 h5
    go_enter Tryz.func37, Tryz.ntmps37
    go_wp2_with fail
    go_ret
    exact ⟨rfl, (Below.refl _ _).alloc (Nat.le_refl _) _⟩
  have d1 : 1 ≤ n := by omega
  have d2 : n ≤ 100 := by omega
  have d3 : 0 ≤ o := by omega
  have d4 : o < n := by omega
  have d5 : 0 ≤ t := by omega
  have d6 : t ≤ 1048576 := by omega
  clear h1 h2 h3 h4 h5 h6
  by_cases h7 : k = 1
  · have hv : vN n o t k = true := decide_eq_true (by omega)
    rw [hv]
    have e1 : (k == 1) = true := by simp [h7]
    clear hv h7
    go_enter Tryz.func37, Tryz.ntmps37
    go_wp2_with fail
    go_ret
    exact ⟨rfl, (Below.refl _ _).alloc (Nat.le_refl _) _⟩
  by_cases h8 : k = 2
  · have hv : vN n o t k = true := decide_eq_true (by omega)
    rw [hv]
    have e1 : (k == 1) = false := by simp [h7]
    have e2 : (k == 2) = true := by simp [h8]
    clear hv h7 h8
    go_enter Tryz.func37, Tryz.ntmps37
    go_wp2_with fail
    go_ret
    exact ⟨rfl, (Below.refl _ _).alloc (Nat.le_refl _) _⟩
  · have hv : vN n o t k = false := decide_eq_false (by omega)
    rw [hv]
    have e1 : (k == 1) = false := by simp [h7]
    have e2 : (k == 2) = false := by simp [h8]
    clear hv h7 h8
    go_enter Tryz.func37, Tryz.ntmps37
    go_wp2_with fail
    go_ret
    exact ⟨rfl, (Below.refl _ _).alloc (Nat.le_refl _) _⟩
set_option maxRecDepth 100000 in
theorem refRank_nat (o : Int) (r : Nat) (w : World) (hr : r ≤ 2097153) :
    Calls Tryz.prog 59 #[nV o (tgN r : Nat) (kdN r : Nat)] w fun e w' => e = .returned (.int .i64 (r : Int)) ∧ Below w.heap.size w w' := by
  have ht := tg_le hr
  obtain ⟨hk1, hk2⟩ := kd_le r
  have hrt : 2 * ((tgN r : Nat) : Int) + ((kdN r : Nat) : Int) - 1 = (r : Int) := by unfold tgN kdN; omega
  have d1 : ¬ ((tgN r : Nat) : Int) < 0 := by omega
  have d2 : ¬ (1048576 : Int) < ((tgN r : Nat) : Int) := by omega
  have d3 : IntKind.i64.wrap (2 * ((tgN r : Nat) : Int)) = 2 * ((tgN r : Nat) : Int) := IntWalk.i64_in _ (by omega)
  have d4 : IntKind.i64.wrap (2 * ((tgN r : Nat) : Int) + ((kdN r : Nat) : Int)) = 2 * ((tgN r : Nat) : Int) + ((kdN r : Nat) : Int) := IntWalk.i64_in _ (by omega)
  have d5 : IntKind.i64.wrap (2 * ((tgN r : Nat) : Int) + ((kdN r : Nat) : Int) - 1) = 2 * ((tgN r : Nat) : Int) + ((kdN r : Nat) : Int) - 1 := IntWalk.i64_in _ (by omega)
  have d6 : ((((kdN r : Nat) : Int) != 1) = true ∧ (((kdN r : Nat) : Int) != 2) = false) ∨ (((kdN r : Nat) : Int) != 1) = false := by
    by_cases h : kdN r = 1
    · exact .inr (by simp; omega)
    · exact .inl ⟨by simp; omega, by simp; omega⟩
  unfold nV
  rw [← hrt]
  generalize ((tgN r : Nat) : Int) = T at *
  generalize ((kdN r : Nat) : Int) = K at *
  clear hr ht hk1 hk2 hrt
  rcases d6 with ⟨e1, e2⟩ | e1
  · go_enter Tryz.func59, Tryz.ntmps59
    go_wp2_with fail
    go_ret
    exact ⟨rfl, (Below.refl _ _).alloc (Nat.le_refl _) _⟩
  · go_enter Tryz.func59, Tryz.ntmps59
    go_wp2_with fail
    go_ret
    exact ⟨rfl, (Below.refl _ _).alloc (Nat.le_refl _) _⟩
set_option maxRecDepth 100000 in
theorem refBeats_nat (i r q : Nat) (hr : r ≤ 2097153) (hq : q ≤ 2097153) (w : World) :
    Calls Tryz.prog 39 #[nV (i : Int) (tgN r : Nat) (kdN r : Nat), nV (i : Int) (tgN q : Nat) (kdN q : Nat)] w fun e w' => e = .returned (.bool (decide (q < r))) ∧ Below w.heap.size w w' := by
  have HR : Hid (∀ (o : Int) (r : Nat) (w : World), r ≤ 2097153 → Calls Tryz.prog 59 #[.agg #[.int .i64 o, .int .i64 (tgN r : Nat), .int .i64 (kdN r : Nat)]] w fun e w' => e = .returned (.int .i64 (r : Int)) ∧ Below w.heap.size w w') := Lib.hid refRank_nat
  unfold nV
  go_enter Tryz.func39, Tryz.ntmps39
  go_upto_region 1 with fail
  have hk := (Bx2.new w (.cells #[.int .i64 (i : Int), .int .i64 (tgN r : Nat), .int .i64 (kdN r : Nat)] 60) (.cells #[.int .i64 (i : Int), .int .i64 (tgN q : Nat), .int .i64 (kdN q : Nat)] 60)).drew
  refine wp_region_early (Six w i r q) (fun _ => false) (by kernel_rfl) ?_
  simp only [List.size_toArray, List.length_cons, List.length_nil, Nat.reduceAdd, Array.replicate_succ, Array.replicate_zero, List.push_toArray, List.nil_append, List.cons_append]
  generalize World.drew _ = W at *
  have hSS := Bx2.six hk.cells
  refine wpAnyE_take (i := 0) (v := ?_) rfl (by kernel_rfl) (by kernel_rfl) (by kernel_rfl) (by kernel_rfl) (fun _ _ _ h => h) (Or.inl ⟨by rfl, ?_⟩) hSS ?_
  rotate_left
  · intro w hSw
    obtain ⟨⟨j0, j1, j2⟩, ⟨j3, j4, j5⟩, _⟩ := hSw
    go_simp
    all_goals with_reducible rfl
  simp only [Act.put, List.setIfInBounds_toArray, List.set_cons_zero, List.set_cons_succ, List.getElem_toArray, List.getElem_cons_zero, List.getElem_cons_succ]
  refine wpAnyE_take (i := 1) (v := ?_) rfl (by kernel_rfl) (by kernel_rfl) (by kernel_rfl) (by kernel_rfl) (fun _ _ _ h => h) (Or.inl ⟨by rfl, ?_⟩) hSS ?_
  rotate_left
  · intro w hSw
    obtain ⟨⟨j0, j1, j2⟩, ⟨j3, j4, j5⟩, _⟩ := hSw
    go_simp
    all_goals with_reducible rfl
  simp only [Act.put, List.setIfInBounds_toArray, List.set_cons_zero, List.set_cons_succ, List.getElem_toArray, List.getElem_cons_zero, List.getElem_cons_succ]
  refine wpAnyE_take (i := 2) (v := ?_) rfl (by kernel_rfl) (by kernel_rfl) (by kernel_rfl) (by kernel_rfl) (fun _ _ _ h => h) (Or.inl ⟨by rfl, ?_⟩) hSS ?_
  rotate_left
  · intro w hSw
    obtain ⟨⟨j0, j1, j2⟩, ⟨j3, j4, j5⟩, _⟩ := hSw
    go_simp
    all_goals with_reducible rfl
  simp only [Act.put, List.setIfInBounds_toArray, List.set_cons_zero, List.set_cons_succ, List.getElem_toArray, List.getElem_cons_zero, List.getElem_cons_succ]
  refine wpAnyE_take (i := 3) (v := ?_) rfl (by kernel_rfl) (by kernel_rfl) (by kernel_rfl) (by kernel_rfl) (fun _ _ _ h => h) (Or.inl ⟨by rfl, ?_⟩) hSS ?_
  rotate_left
  · intro w hSw
    obtain ⟨⟨j0, j1, j2⟩, ⟨j3, j4, j5⟩, _⟩ := hSw
    go_simp
    all_goals with_reducible rfl
  simp only [Act.put, List.setIfInBounds_toArray, List.set_cons_zero, List.set_cons_succ, List.getElem_toArray, List.getElem_cons_zero, List.getElem_cons_succ]
  refine wpAnyE_take (i := 4) (v := ?_) rfl (by kernel_rfl) (by kernel_rfl) (by kernel_rfl) (by kernel_rfl) (fun _ _ _ h => h) (Or.inl ⟨by rfl, ?_⟩) hSS ?_
  rotate_left
  · intro w hSw
    obtain ⟨⟨j0, j1, j2⟩, ⟨j3, j4, j5⟩, _⟩ := hSw
    go_simp
    all_goals with_reducible rfl
  simp only [Act.put, List.setIfInBounds_toArray, List.set_cons_zero, List.set_cons_succ, List.getElem_toArray, List.getElem_cons_zero, List.getElem_cons_succ]
  refine wpAnyE_take (i := 5) (v := ?_) rfl (by kernel_rfl) (by kernel_rfl) (by kernel_rfl) (by kernel_rfl) (fun _ _ _ h => h) (Or.inl ⟨by rfl, ?_⟩) hSS ?_
  rotate_left
  · intro w hSw
    obtain ⟨⟨j0, j1, j2⟩, ⟨j3, j4, j5⟩, _⟩ := hSw
    go_simp
    all_goals with_reducible rfl
  simp only [Act.put, List.setIfInBounds_toArray, List.set_cons_zero, List.set_cons_succ, List.getElem_toArray, List.getElem_cons_zero, List.getElem_cons_succ]
  refine wpAnyE_take (i := 6) (v := ?_) rfl (by kernel_rfl) (by kernel_rfl) (by kernel_rfl) (by kernel_rfl) (fun _ _ _ h => h) (Or.inl ⟨by rfl, ?_⟩) hSS ?_
  rotate_left
  · intro w hSw
    obtain ⟨⟨j0, j1, j2⟩, ⟨j3, j4, j5⟩, _⟩ := hSw
    go_simp
    all_goals with_reducible rfl
  simp only [Act.put, List.setIfInBounds_toArray, List.set_cons_zero, List.set_cons_succ, List.getElem_toArray, List.getElem_cons_zero, List.getElem_cons_succ]
  refine wpAnyE_one (i := 7) (by kernel_rfl) rfl ?_
  change wpList _ _ (Exit.then _ _) [_] _ _
  try simp only [List.setIfInBounds_toArray, List.set_cons_zero, List.set_cons_succ, List.getElem_toArray, List.getElem_cons_zero, List.getElem_cons_succ]
  go_wp2_with (go_at_call 59; refine (HR.out _ r _ hr).mono ?_; rintro e w1 ⟨rfl, hB⟩; have hk := hk.below hB; clear hB; have hSS := Bx2.six hk.cells)
  refine ⟨fun _ => hSS, ?_⟩
  try simp only [List.setIfInBounds_toArray, List.set_cons_zero, List.set_cons_succ, List.getElem_toArray, List.getElem_cons_zero, List.getElem_cons_succ]
  refine wpAnyE_take (i := 8) (v := ?_) rfl (by kernel_rfl) (by kernel_rfl) (by kernel_rfl) (by kernel_rfl) (fun _ _ _ h => h) (Or.inl ⟨by rfl, ?_⟩) hSS ?_
  rotate_left
  · intro w hSw
    obtain ⟨⟨j0, j1, j2⟩, ⟨j3, j4, j5⟩, _⟩ := hSw
    go_simp
    all_goals with_reducible rfl
  simp only [Act.put, List.setIfInBounds_toArray, List.set_cons_zero, List.set_cons_succ, List.getElem_toArray, List.getElem_cons_zero, List.getElem_cons_succ]
  refine wpAnyE_take (i := 9) (v := ?_) rfl (by kernel_rfl) (by kernel_rfl) (by kernel_rfl) (by kernel_rfl) (fun _ _ _ h => h) (Or.inl ⟨by rfl, ?_⟩) hSS ?_
  rotate_left
  · intro w hSw
    obtain ⟨⟨j0, j1, j2⟩, ⟨j3, j4, j5⟩, _⟩ := hSw
    go_simp
    all_goals with_reducible rfl
  simp only [Act.put, List.setIfInBounds_toArray, List.set_cons_zero, List.set_cons_succ, List.getElem_toArray, List.getElem_cons_zero, List.getElem_cons_succ]
  refine wpAnyE_take (i := 10) (v := ?_) rfl (by kernel_rfl) (by kernel_rfl) (by kernel_rfl) (by kernel_rfl) (fun _ _ _ h => h) (Or.inl ⟨by rfl, ?_⟩) hSS ?_
  rotate_left
  · intro w hSw
    obtain ⟨⟨j0, j1, j2⟩, ⟨j3, j4, j5⟩, _⟩ := hSw
    go_simp
    all_goals with_reducible rfl
  simp only [Act.put, List.setIfInBounds_toArray, List.set_cons_zero, List.set_cons_succ, List.getElem_toArray, List.getElem_cons_zero, List.getElem_cons_succ]
  refine wpAnyE_take (i := 11) (v := ?_) rfl (by kernel_rfl) (by kernel_rfl) (by kernel_rfl) (by kernel_rfl) (fun _ _ _ h => h) (Or.inl ⟨by rfl, ?_⟩) hSS ?_
  rotate_left
  · intro w hSw
    obtain ⟨⟨j0, j1, j2⟩, ⟨j3, j4, j5⟩, _⟩ := hSw
    go_simp
    all_goals with_reducible rfl
  simp only [Act.put, List.setIfInBounds_toArray, List.set_cons_zero, List.set_cons_succ, List.getElem_toArray, List.getElem_cons_zero, List.getElem_cons_succ]
  refine wpAnyE_one (i := 12) (by kernel_rfl) rfl ?_
  change wpList _ _ (Exit.then _ _) [_] _ _
  try simp only [List.setIfInBounds_toArray, List.set_cons_zero, List.set_cons_succ, List.getElem_toArray, List.getElem_cons_zero, List.getElem_cons_succ]
  go_wp2_with (go_at_call 59; refine (HR.out _ q _ hq).mono ?_; rintro e w1 ⟨rfl, hB⟩; have hk := hk.below hB; clear hB; have hSS := Bx2.six hk.cells)
  refine ⟨fun _ => hSS, ?_⟩
  try simp only [List.setIfInBounds_toArray, List.set_cons_zero, List.set_cons_succ, List.getElem_toArray, List.getElem_cons_zero, List.getElem_cons_succ]
  refine wpAnyE_take (i := 13) (v := ?_) rfl (by kernel_rfl) (by kernel_rfl) (by kernel_rfl) (by kernel_rfl) (fun _ _ _ h => h) (Or.inl ⟨by rfl, ?_⟩) hSS ?_
  rotate_left
  · intro w hSw
    obtain ⟨⟨j0, j1, j2⟩, ⟨j3, j4, j5⟩, _⟩ := hSw
    go_simp
    all_goals with_reducible rfl
  simp only [Act.put, List.setIfInBounds_toArray, List.set_cons_zero, List.set_cons_succ, List.getElem_toArray, List.getElem_cons_zero, List.getElem_cons_succ]
  refine wpAnyE_take (i := 14) (v := ?_) rfl (by kernel_rfl) (by kernel_rfl) (by kernel_rfl) (by kernel_rfl) (fun _ _ _ h => h) (Or.inl ⟨by rfl, ?_⟩) hSS ?_
  rotate_left
  · intro w hSw
    obtain ⟨⟨j0, j1, j2⟩, ⟨j3, j4, j5⟩, _⟩ := hSw
    go_simp
    all_goals with_reducible rfl
  simp only [Act.put, List.setIfInBounds_toArray, List.set_cons_zero, List.set_cons_succ, List.getElem_toArray, List.getElem_cons_zero, List.getElem_cons_succ]
  refine wpAnyE_take (i := 15) (v := ?_) rfl (by kernel_rfl) (by kernel_rfl) (by kernel_rfl) (by kernel_rfl) (fun _ _ _ h => h) (Or.inl ⟨by rfl, ?_⟩) hSS ?_
  rotate_left
  · intro w hSw
    obtain ⟨⟨j0, j1, j2⟩, ⟨j3, j4, j5⟩, _⟩ := hSw
    go_simp
    all_goals with_reducible rfl
  simp only [Act.put, List.setIfInBounds_toArray, List.set_cons_zero, List.set_cons_succ, List.getElem_toArray, List.getElem_cons_zero, List.getElem_cons_succ]
  refine wpAnyE_take (i := 16) (v := ?_) rfl (by kernel_rfl) (by kernel_rfl) (by kernel_rfl) (by kernel_rfl) (fun _ _ _ h => h) (Or.inl ⟨by rfl, ?_⟩) hSS ?_
  rotate_left
  · intro w hSw
    obtain ⟨⟨j0, j1, j2⟩, ⟨j3, j4, j5⟩, _⟩ := hSw
    go_simp
    all_goals with_reducible rfl
  simp only [Act.put, List.setIfInBounds_toArray, List.set_cons_zero, List.set_cons_succ, List.getElem_toArray, List.getElem_cons_zero, List.getElem_cons_succ]
  refine wpAnyE_take (i := 18) (v := ?_) rfl (by kernel_rfl) (by kernel_rfl) (by kernel_rfl) (by kernel_rfl) (fun _ _ _ h => h) (Or.inl ⟨by rfl, ?_⟩) hSS ?_
  rotate_left
  · intro w hSw
    obtain ⟨⟨j0, j1, j2⟩, ⟨j3, j4, j5⟩, _⟩ := hSw
    go_simp
    all_goals with_reducible rfl
  simp only [Act.put, List.setIfInBounds_toArray, List.set_cons_zero, List.set_cons_succ, List.getElem_toArray, List.getElem_cons_zero, List.getElem_cons_succ]
  refine wpAnyE_one (i := 17) (by kernel_rfl) rfl ?_
  change wpList _ _ (Exit.then _ _) [_] _ _
  try simp only [List.setIfInBounds_toArray, List.set_cons_zero, List.set_cons_succ, List.getElem_toArray, List.getElem_cons_zero, List.getElem_cons_succ]
  go_wp2_with (go_at_call 59; refine (HR.out _ r _ hr).mono ?_; rintro e w1 ⟨rfl, hB⟩; have hk := hk.below hB; clear hB; have hSS := Bx2.six hk.cells)
  refine ⟨fun _ => hSS, ?_⟩
  try simp only [List.setIfInBounds_toArray, List.set_cons_zero, List.set_cons_succ, List.getElem_toArray, List.getElem_cons_zero, List.getElem_cons_succ]
  refine wpAnyE_one (i := 19) (by kernel_rfl) rfl ?_
  change wpList _ _ (Exit.then _ _) [_] _ _
  try simp only [List.setIfInBounds_toArray, List.set_cons_zero, List.set_cons_succ, List.getElem_toArray, List.getElem_cons_zero, List.getElem_cons_succ]
  go_wp2_with (go_at_call 59; refine (HR.out _ q _ hq).mono ?_; rintro e w1 ⟨rfl, hB⟩; have hk := hk.below hB; clear hB; have hSS := Bx2.six hk.cells)
  refine ⟨fun _ => hSS, ?_⟩
  try simp only [List.setIfInBounds_toArray, List.set_cons_zero, List.set_cons_succ, List.getElem_toArray, List.getElem_cons_zero, List.getElem_cons_succ]
  refine wpAnyE_take (i := 20) (v := ?_) rfl (by kernel_rfl) (by kernel_rfl) (by kernel_rfl) (by kernel_rfl) (fun _ _ _ h => h) (Or.inl ⟨by rfl, ?_⟩) hSS ?_
  rotate_left
  · intro w hSw
    obtain ⟨⟨j0, j1, j2⟩, ⟨j3, j4, j5⟩, _⟩ := hSw
    go_simp
    all_goals with_reducible rfl
  simp only [Act.put, List.setIfInBounds_toArray, List.set_cons_zero, List.set_cons_succ, List.getElem_toArray, List.getElem_cons_zero, List.getElem_cons_succ]
  refine wpAnyE_take (i := 21) (v := ?_) rfl (by kernel_rfl) (by kernel_rfl) (by kernel_rfl) (by kernel_rfl) (fun _ _ _ h => h) (Or.inl ⟨by rfl, ?_⟩) hSS ?_
  rotate_left
  · intro w hSw
    obtain ⟨⟨j0, j1, j2⟩, ⟨j3, j4, j5⟩, _⟩ := hSw
    go_simp
    all_goals with_reducible rfl
  simp only [Act.put, List.setIfInBounds_toArray, List.set_cons_zero, List.set_cons_succ, List.getElem_toArray, List.getElem_cons_zero, List.getElem_cons_succ]
  refine wpAnyE_one (i := 22) (by kernel_rfl) rfl ?_
  change wpList _ _ (Exit.then _ _) [_] _ _
  try simp only [List.setIfInBounds_toArray, List.set_cons_zero, List.set_cons_succ, List.getElem_toArray, List.getElem_cons_zero, List.getElem_cons_succ]
  go_wp2_with fail
  refine ⟨fun _ => hSS, ?_⟩
  try simp only [List.setIfInBounds_toArray, List.set_cons_zero, List.set_cons_succ, List.getElem_toArray, List.getElem_cons_zero, List.getElem_cons_succ]
  refine wpAnyE_end (by kernel_rfl) ?_
  go_wp2_with fail
  go_ret
  exact ⟨ret_b (by simp), hk.2.2⟩
end Go.Proofs.YtbjlnlgknegbnaaGreatDoor
namespace Go.Proofs.YtbjlnlgknegbnaaGreatDoor
set_option linter.unusedVariables false
set_option linter.unusedSimpArgs false
open Go.RowKit

theorem b1 (w : World) (a b : Obj) : ((w.alloc a).alloc b).heap[w.heap.size + 1]? = some b := by have := blk_new (w.alloc a) b; rwa [World.size_alloc] at this
theorem b2 (w : World) (a b c : Obj) : (((w.alloc a).alloc b).alloc c).heap[w.heap.size + 1 + 1]? = some c := by have := blk_new ((w.alloc a).alloc b) c; rwa [World.size_alloc, World.size_alloc] at this

/-- The words, the first k of them met with the mask's. -/
def mixC (x y k : Nat) : Array Value := #[.int .u32 (sw (if 0 < k then x &&& y else x) 0 : Nat), .int .u32 (sw (if 1 < k then x &&& y else x) 1 : Nat), .int .u32 (sw (if 2 < k then x &&& y else x) 2 : Nat), .int .u32 (sw (if 3 < k then x &&& y else x) 3 : Nat)]
theorem mixC_get (x y k : Nat) (hk : k < 4) : (mixC x y k)[k]? = some (.int .u32 (sw x k : Nat)) := by
  match k, hk with
  | 0, _ => rfl
  | 1, _ => rfl
  | 2, _ => rfl
  | 3, _ => rfl
theorem mixC_set (x y k : Nat) (hk : k < 4) : (mixC x y k).setIfInBounds k (.int .u32 (sw x k &&& sw y k : Nat)) = mixC x y (k + 1) := by
  rw [← sw_and]
  match k, hk with
  | 0, _ => rfl
  | 1, _ => rfl
  | 2, _ => rfl
  | 3, _ => rfl

theorem and1_any (a b : Nat) (ha : a < 4294967296) (hb : b < 4294967296) (w : World) :
    Calls Tryz.prog 76 #[.int .u32 a, .int .u32 b] w fun e w' => e = .returned (.int .u32 (a &&& b : Nat)) ∧ w' = w := by
  have h := bits_and_u32 a b ha hb
  go_enter Tryz.func76, Tryz.ntmps76
  go_wp2
  go_ret
  exact ⟨rfl, rfl⟩
set_option maxRecDepth 100000 in
set_option maxHeartbeats 1000000 in
theorem each1_any (x y : Nat) (w : World) :
    Calls Tryz.prog 74 #[setV x, setV y, .func (.func 76) #[] #[]] w fun e w' => e = .returned (setV (x &&& y)) ∧ Below w.heap.size w w' := by
  unfold setV setC
  go_enter Tryz.func74, Tryz.ntmps74
  go_wp2_with fail
  go_loopw [8] (fun i wr => ∃ k : Nat, i = .int .i64 k ∧ k ≤ 4 ∧ wr.heap[w.heap.size]? = some (.cells (mixC x y k) 54 (0, 0)) ∧ wr.heap[w.heap.size + 1]? = some (.cells (setC y) 54 (0, 0)) ∧
      wr.heap[w.heap.size + 1 + 1]? = some (.cells #[.int .u32 0, .int .u32 0, .int .u32 0, .int .u32 0] 54 (0, 0)) ∧ Below w.heap.size w wr) (fun i _ => 4 - (intOf i).toNat)
  case atStart =>
    refine ⟨0, rfl, by omega, blk_old (blk_old (blk_new w _) _) _, blk_old (b1 w _ _) _, b2 w _ _ _, (((Below.refl _ w).alloc (Nat.le_refl _) _).alloc (by simp) _).alloc (by simp; omega) _⟩
  case round =>
    obtain ⟨k, rfl, hk, b0, b1, b2, hb⟩ := hrel
    by_cases hlt : k < 4
    · have c0 : wr.cell? ⟨w.heap.size, k, none⟩ = some (.int .u32 (sw x k : Nat)) := (blk_cell b0 k).trans (mixC_get x y k hlt)
      have c1 : wr.cell? ⟨w.heap.size + 1, k, none⟩ = some (.int .u32 (sw y k : Nat)) := (blk_cell b1 k).trans (setC_get y k hlt)
      have f0 := blk_free b0 k
      have hk4 : (k : Int) < 4 := by omega
      go_wp2_with fail
      refine wp_region_still_tail 10 (by kernel_rfl) (by kernel_rfl) ?_
      simp only [List.take_succ_cons, List.take_zero, List.drop_succ_cons, List.drop_zero]
      repeat (first | still_call (and1_any _ _ (sw_lt x k) (sw_lt y k) _) | still_step)
      try refine wpStill_nil ?_
      change wpList _ _ _ _ _ wr.drew
      go_wp2
      go_roundw
      case rel =>
        refine ⟨k + 1, by go_num, by omega, ?_, blk_set (blk_drewN b1 1) _ _ (by simp <;> omega), blk_set (blk_drewN b2 1) _ _ (by simp <;> omega), (below_drewN hb 1).setCell (by simp) _⟩
        have := blk_store (blk_drewN b0 1) k (.int .u32 (sw x k &&& sw y k : Nat))
        rwa [mixC_set x y k hlt] at this
      case measure => simp [intOf]; omega
    · obtain rfl : k = 4 := by omega
      have c0 := fun i => blk_cell b0 i
      simp only [mixC] at c0
      have q0 := c0 0
      have q1 := c0 1
      have q2 := c0 2
      have q3 := c0 3
      have d0 := blk_cell b2 0
      have d1 := blk_cell b2 1
      have d2 := blk_cell b2 2
      have d3 := blk_cell b2 3
      have f0 := blk_free b2 0
      have f1 := blk_free b2 1
      have f2 := blk_free b2 2
      have f3 := blk_free b2 3
      simp at q0 q1 q2 q3 d0 d1 d2 d3
      clear c0
      go_wp2
      refine bodyPost_ret (v := setV (x &&& y)) ?_ rfl ⟨rfl, ?_⟩
      · unfold setV setC
        simp [results, Tryz.results74, go_sem, d0, d1, d2, d3]
      · exact (((hb.setCell (by simp; omega) _).setCell (by simp; omega) _).setCell (by simp; omega) _).setCell (by simp; omega) _

/-- The mask's words, the first k of them laid. -/
def upC (n k : Nat) : Array Value := #[.int .u32 (if 0 < k then sw (2 ^ n - 1) 0 else 0 : Nat), .int .u32 (if 1 < k then sw (2 ^ n - 1) 1 else 0 : Nat), .int .u32 (if 2 < k then sw (2 ^ n - 1) 2 else 0 : Nat), .int .u32 (if 3 < k then sw (2 ^ n - 1) 3 else 0 : Nat)]
theorem upC_set (n k : Nat) (hk : k < 4) : (upC n k).setIfInBounds k (.int .u32 (sw (2 ^ n - 1) k : Nat)) = upC n (k + 1) := by
  match k, hk with
  | 0, _ => rfl
  | 1, _ => rfl
  | 2, _ => rfl
  | 3, _ => rfl
theorem up_word (n k : Nat) : ((2 ^ (if (32 : Int) < if (n : Int) - (k : Int) * 32 < 0 then 0 else (n : Int) - (k : Int) * 32 then 32 else if (n : Int) - (k : Int) * 32 < 0 then 0 else (n : Int) - (k : Int) * 32).toNat - 1) % 4294967296 : Int) = ((sw (2 ^ n - 1) k : Nat) : Int) := by
  have h : (if (32 : Int) < if (n : Int) - (k : Int) * 32 < 0 then 0 else (n : Int) - (k : Int) * 32 then 32 else if (n : Int) - (k : Int) * 32 < 0 then 0 else (n : Int) - (k : Int) * 32).toNat = min (n - 32 * k) 32 := by
    split <;> split at * <;> omega
  rw [h, sw_mask]
  have h1 : 2 ^ (min (n - 32 * k) 32) ≤ 2 ^ 32 := Nat.pow_le_pow_right (by decide) (by omega)
  have h2 : 0 < 2 ^ (min (n - 32 * k) 32) := Nat.pow_pos (by decide)
  generalize min (n - 32 * k) 32 = m at *
  have h3 : (2 : Int) ^ m = ((2 ^ m : Nat) : Int) := by push_cast; rfl
  rw [h3]
  generalize 2 ^ m = q at *
  omega
theorem upC_get (n k : Nat) (hk : k < 4) : ∃ v : Nat, (upC n k)[k]? = some (.int .u32 v) := by
  match k, hk with
  | 0, _ => exact ⟨_, rfl⟩
  | 1, _ => exact ⟨_, rfl⟩
  | 2, _ => exact ⟨_, rfl⟩
  | 3, _ => exact ⟨_, rfl⟩

set_option maxRecDepth 100000 in
set_option maxHeartbeats 1000000 in
theorem upTo_any (n : Nat) (hn : n ≤ 100) (w : World) :
    Calls Tryz.prog 75 #[.int .i64 n] w fun e w' => e = .returned (setV (2 ^ n - 1)) ∧ Below w.heap.size w w' := by
  go_enter Tryz.func75, Tryz.ntmps75
  go_wp2_with fail
  go_loopw [6] (fun i wr => ∃ k : Nat, i = .int .i64 k ∧ k ≤ 4 ∧ wr.heap[w.heap.size + 1]? = some (.cells (upC n k) 54 (0, 0)) ∧
      wr.heap[w.heap.size]? = some (.cells #[.int .u32 0, .int .u32 0, .int .u32 0, .int .u32 0] 54 (0, 0)) ∧ Below w.heap.size w wr) (fun i _ => 4 - (intOf i).toNat)
  case atStart =>
    refine ⟨0, rfl, by omega, b1 w _ _, blk_old (blk_new w _) _, ((Below.refl _ w).alloc (Nat.le_refl _) _).alloc (by simp) _⟩
  case round =>
    obtain ⟨k, rfl, hk, b0, b2, hb⟩ := hrel
    by_cases hlt : k < 4
    · obtain ⟨v0, hv0⟩ := upC_get n k hlt
      have c0 : wr.cell? ⟨w.heap.size + 1, k, none⟩ = some (.int .u32 v0) := (blk_cell b0 k).trans hv0
      have f0 := blk_free b0 k
      have hk4 : (k : Int) < 4 := by omega
      have HV := Lib.hid hv0
      clear hv0
      go_wp2_with fail
      rw [up_word]
      refine ⟨⟨k + 1, by go_num, by omega, ?_, blk_set b2 _ _ (by simp), hb.setCell (by simp) _⟩, by simp [intOf]; omega⟩
      have := blk_store b0 k (.int .u32 (sw (2 ^ n - 1) k : Nat))
      rwa [upC_set n k hlt] at this
    · obtain rfl : k = 4 := by omega
      have c0 := fun i => blk_cell b0 i
      simp only [upC] at c0
      have q0 := c0 0
      have q1 := c0 1
      have q2 := c0 2
      have q3 := c0 3
      have d0 := blk_cell b2 0
      have d1 := blk_cell b2 1
      have d2 := blk_cell b2 2
      have d3 := blk_cell b2 3
      have f0 := blk_free b2 0
      have f1 := blk_free b2 1
      have f2 := blk_free b2 2
      have f3 := blk_free b2 3
      simp only [List.getElem?_toArray, List.getElem?_cons_zero, List.getElem?_cons_succ, show (0 : Nat) < 4 from by decide, show (1 : Nat) < 4 from by decide, show (2 : Nat) < 4 from by decide, show (3 : Nat) < 4 from by decide, if_true] at q0 q1 q2 q3 d0 d1 d2 d3
      clear c0
      go_wp2
      refine bodyPost_ret (v := setV (2 ^ n - 1)) ?_ rfl ⟨rfl, ?_⟩
      · unfold setV setC
        simp [results, Tryz.results75, go_sem, d0, d1, d2, d3]
      · exact (((hb.setCell (by simp) _).setCell (by simp) _).setCell (by simp) _).setCell (by simp) _

theorem set_cells {W : World} {b x : Nat} {T : TypeId} (h : W.heap[b]? = some (.cells (setC x) T (0, 0))) :
    W.cell? ⟨b, 0, none⟩ = some (.int .u32 (sw x 0 : Nat)) ∧ W.cell? ⟨b, 1, none⟩ = some (.int .u32 (sw x 1 : Nat)) ∧ W.cell? ⟨b, 2, none⟩ = some (.int .u32 (sw x 2 : Nat)) ∧ W.cell? ⟨b, 3, none⟩ = some (.int .u32 (sw x 3 : Nat)) ∧
    W.frozen? ⟨b, 0, none⟩ = false ∧ W.frozen? ⟨b, 1, none⟩ = false ∧ W.frozen? ⟨b, 2, none⟩ = false ∧ W.frozen? ⟨b, 3, none⟩ = false :=
  ⟨(blk_cell h 0).trans (setC_get x 0 (by decide)), (blk_cell h 1).trans (setC_get x 1 (by decide)), (blk_cell h 2).trans (setC_get x 2 (by decide)), (blk_cell h 3).trans (setC_get x 3 (by decide)), blk_free h 0, blk_free h 1, blk_free h 2, blk_free h 3⟩
theorem setC_zero : (#[.int .u32 0, .int .u32 0, .int .u32 0, .int .u32 0] : Array Value) = setC 0 := by kernel_rfl

set_option maxRecDepth 100000 in
set_option maxHeartbeats 1000000 in
theorem clean_any (x : Nat) (w : World) :
    Calls Tryz.prog 58 #[setV x] w fun e w' => e = .returned (setV (x % 2 ^ 100)) ∧ Below w.heap.size w w' := by
  have HU := Lib.hid (fun w => upTo_any 100 (by decide) w)
  have HE := Lib.hid (fun w => each1_any x (2 ^ 100 - 1) w)
  rw [clean_mod] at HE
  generalize x % 2 ^ 100 = y at *
  generalize (2 ^ 100 - 1 : Nat) = M at *
  unfold setV
  unfold setV at HU HE
  have b0 : ((w.alloc (.cells (setC x) 54)).alloc (.cells (setC 0) 54)).heap[w.heap.size]? = some (.cells (setC x) 54 (0, 0)) := blk_old (blk_new w _) _
  have z0 : ((w.alloc (.cells (setC x) 54)).alloc (.cells (setC 0) 54)).heap[w.heap.size + 1]? = some (.cells (setC 0) 54 (0, 0)) := b1 w _ _
  have hB : Below w.heap.size w ((w.alloc (.cells (setC x) 54)).alloc (.cells (setC 0) 54)) := ((Below.refl _ w).alloc (Nat.le_refl _) _).alloc (by simp) _
  go_enter Tryz.func58, Tryz.ntmps58
  go_wp2_with fail
  rw [setC_zero]
  obtain ⟨W, hW⟩ : ∃ W, ((w.alloc (.cells (setC x) 54)).alloc (.cells (setC 0) 54)) = W := ⟨_, rfl⟩
  rw [hW] at b0 z0 hB ⊢
  clear hW
  refine wp_region_early (fun W' => W'.heap[w.heap.size]? = some (.cells (setC x) 54 (0, 0))) (fun j => j == 2 || j == 3) (by kernel_rfl) ?_
  have d0 : W.drew.heap[w.heap.size]? = some (.cells (setC x) 54 (0, 0)) := b0
  have dz : W.drew.heap[w.heap.size + 1]? = some (.cells (setC 0) 54 (0, 0)) := z0
  have dB : Below w.heap.size w W.drew := hB.drew
  clear b0 z0 hB
  generalize W.drew = W2 at *
  simp only [List.size_toArray, List.length_cons, List.length_nil, Nat.reduceAdd, Array.replicate_succ, Array.replicate_zero, List.push_toArray, List.nil_append, List.cons_append]
  refine wpAnyE_take (i := 0) (v := ?_) rfl (by kernel_rfl) (by kernel_rfl) (by kernel_rfl) (by kernel_rfl) (fun _ _ _ h => h) (Or.inl ⟨by rfl, ?_⟩) d0 ?_
  rotate_left
  · intro w hSw
    obtain ⟨q0, q1, q2, q3, _⟩ := set_cells hSw
    go_simp
    all_goals with_reducible rfl
  simp only [Act.put, List.setIfInBounds_toArray, List.set_cons_zero, List.set_cons_succ, List.getElem_toArray, List.getElem_cons_zero, List.getElem_cons_succ]
  refine wpAnyE_tail 1 rfl (by kernel_rfl) ?_
  simp only [List.drop_succ_cons, List.drop_zero]
  change wpList _ _ (Exit.then _ _) [_] _ _
  go_wp2_with (go_at_call 75; refine (HU.out _).mono ?_; rintro e w3 ⟨rfl, hB3⟩)
  refine ⟨fun _ => blk_below' hB3 d0, wpListE_late _ _ _ _ (fun j hj => by rcases j with _ | _ | j <;> first | rfl | exact absurd hj (by simp only [List.length_cons, List.length_nil]; omega)) ?_⟩
  go_wp2_with (go_at_call 74; refine (HE.out _).mono ?_; rintro e w4 ⟨rfl, hB4⟩; obtain ⟨e0, e1, e2, e3, g0, g1, g2, g3⟩ := set_cells (blk_below' hB4 (blk_below' hB3 dz)))
  have hb := (below_then (below_then dB hB3) hB4)
  unfold setC
  go_wp2
  refine bodyPost_ret (v := .agg (setC y)) ?_ rfl ⟨rfl, (((hb.setCell (by simp) _).setCell (by simp) _).setCell (by simp) _).setCell (by simp) _⟩
  unfold setC
  simp [results, Tryz.results58, go_sem, e0, e1, e2, e3]

theorem or_word (a m : Nat) (x : Nat) : bits .or .u32 ((sw a x : Nat) : Int) (IntKind.u32.wrap (2 ^ (m % 32))) = ((sw a x ||| 2 ^ (m % 32) : Nat) : Int) := by
  have h1 : 2 ^ (m % 32) < 2 ^ 32 := Nat.pow_lt_pow_right (by decide) (by omega)
  have h2 : IntKind.u32.wrap (2 ^ (m % 32)) = ((2 ^ (m % 32) : Nat) : Int) := by
    rw [show (2 : Int) ^ (m % 32) = ((2 ^ (m % 32) : Nat) : Int) from by push_cast; rfl, IntKind.wrap_u32]
    generalize 2 ^ (m % 32) = q at *
    omega
  rw [h2, bits_or_u32 _ _ (sw_lt a x) (by omega)]
theorem withC_set (y i : Nat) (hi : i < 128) : (setC y).setIfInBounds (i / 32) (.int .u32 (sw y (i / 32) ||| 2 ^ (i % 32) : Nat)) = setC (y ||| 2 ^ i) := by
  unfold setC
  rw [sw_with, sw_with, sw_with, sw_with]
  have h : i / 32 = 0 ∨ i / 32 = 1 ∨ i / 32 = 2 ∨ i / 32 = 3 := by omega
  rcases h with h | h | h | h <;> rw [h] <;> rfl

set_option maxRecDepth 100000 in
set_option maxHeartbeats 1000000 in
theorem with_no (x : Nat) (i : Int) (h : ¬ (0 ≤ i ∧ i < 100)) (w : World) :
    Calls Tryz.prog 36 #[setV x, .int .i64 i] w fun e w' => e = .returned (.tuple #[setV 0, .int .i64 30]) ∧ Below w.heap.size w w' := by
  have H := Lib.hid (fun w => isId_no i h w)
  clear h
  unfold setV setC
  go_enter Tryz.func36, Tryz.ntmps36
  go_wp2_with (go_at_call 57; refine (H.out _).mono ?_; rintro e w1 ⟨rfl, rfl⟩)
  exact bodyPost_ret (v := .tuple #[.agg (setC 0), .int .i64 30]) (by rw [← setC_zero]; simp [results, Tryz.results36, go_sem]) rfl ⟨rfl, ((Below.refl _ w).alloc (Nat.le_refl _) _).alloc (by simp) _⟩
set_option maxRecDepth 100000 in
set_option maxHeartbeats 1000000 in
theorem with_yes (x i : Nat) (h : i < 100) (w : World) :
    Calls Tryz.prog 36 #[setV x, .int .i64 i] w fun e w' => e = .returned (.tuple #[setV (x % 2 ^ 100 ||| 2 ^ i), .int .i64 0]) ∧ Below w.heap.size w w' := by
  have H := Lib.hid (fun w => isId_yes i (by omega) (by omega) w)
  have HC := Lib.hid (fun w => clean_any x w)
  generalize x % 2 ^ 100 = y at *
  generalize hy2 : y ||| 2 ^ i = y2
  have HY2 := Lib.hid hy2
  clear hy2
  unfold setV at HC ⊢
  have b0 : ((w.alloc (.cells (setC x) 54)).alloc (.cells (setC 0) 54)).heap[w.heap.size]? = some (.cells (setC x) 54 (0, 0)) := blk_old (blk_new w _) _
  have z0 : ((w.alloc (.cells (setC x) 54)).alloc (.cells (setC 0) 54)).heap[w.heap.size + 1]? = some (.cells (setC 0) 54 (0, 0)) := b1 w _ _
  have hB : Below w.heap.size w ((w.alloc (.cells (setC x) 54)).alloc (.cells (setC 0) 54)) := ((Below.refl _ w).alloc (Nat.le_refl _) _).alloc (by simp) _
  go_enter Tryz.func36, Tryz.ntmps36
  go_wp2_with fail
  refine (H.out _).mono ?_
  rintro e w1 ⟨rfl, rfl⟩
  rw [setC_zero]
  obtain ⟨W, hW⟩ : ∃ W, ((w.alloc (.cells (setC x) 54)).alloc (.cells (setC 0) 54)) = W := ⟨_, rfl⟩
  rw [hW] at b0 z0 hB ⊢
  clear hW
  obtain ⟨q0, q1, q2, q3, _⟩ := set_cells b0
  go_wp2_with fail
  refine (HC.out _).mono ?_
  rintro e w3 ⟨rfl, hB3⟩
  have b3 := blk_below' hB3 b0
  have z3 := blk_below' hB3 z0
  have hb3 := below_then hB hB3
  clear b0 z0 hB hB3 q0 q1 q2 q3
  obtain ⟨q0, q1, q2, q3, f0, f1, f2, f3⟩ := set_cells b3
  have b4 := blk_store (blk_store (blk_store (blk_store b3 0 (.int .u32 (sw y 0 : Nat))) 1 (.int .u32 (sw y 1 : Nat))) 2 (.int .u32 (sw y 2 : Nat))) 3 (.int .u32 (sw y 3 : Nat))
  have z4 := blk_set (blk_set (blk_set (blk_set z3 ⟨w.heap.size, 0, none⟩ (.int .u32 (sw y 0 : Nat)) (by simp)) ⟨w.heap.size, 1, none⟩ (.int .u32 (sw y 1 : Nat)) (by simp)) ⟨w.heap.size, 2, none⟩ (.int .u32 (sw y 2 : Nat)) (by simp)) ⟨w.heap.size, 3, none⟩ (.int .u32 (sw y 3 : Nat)) (by simp)
  have hb4 := (((hb3.setCell (p := ⟨w.heap.size, 0, none⟩) (by simp) (.int .u32 (sw y 0 : Nat))).setCell (p := ⟨w.heap.size, 1, none⟩) (by simp) (.int .u32 (sw y 1 : Nat))).setCell (p := ⟨w.heap.size, 2, none⟩) (by simp) (.int .u32 (sw y 2 : Nat))).setCell (p := ⟨w.heap.size, 3, none⟩) (by simp) (.int .u32 (sw y 3 : Nat))
  unfold setC
  go_wp2_with fail
  generalize (((w3.setCell _ _).setCell _ _).setCell _ _).setCell _ _ = W5 at b4 z4 hb4 ⊢
  have b5 : W5.heap[w.heap.size]? = some (.cells (setC y) 54 (0, 0)) := by simpa [setC] using b4
  clear b4 b3 z3 hb3 q0 q1 q2 q3 f0 f1 f2 f3
  have c0 : W5.cell? ⟨w.heap.size, i / 32, none⟩ = some (.int .u32 (sw y (i / 32) : Nat)) := (blk_cell b5 (i / 32)).trans (setC_get y _ (by omega))
  have f0 := blk_free b5 (i / 32)
  have i1 : (i : Int) < 100 := by omega
  have i2 : IntKind.i64.wrap ((i : Int) / 32) = (i : Int) / 32 := IntWalk.i64_in _ (by omega)
  have i3 : (i : Int) / 32 < 4 := by omega
  have i4 : (0 : Int) ≤ (i : Int) / 32 := by omega
  have i8 : ((i : Int) / 32).toNat = i / 32 := by omega
  have i5 : (i : Int).tmod 32 = (i : Int) % 32 := Int.tmod_eq_emod_of_nonneg (by omega)
  have i6 : IntKind.i64.wrap ((i : Int) % 32) = (i : Int) % 32 := IntWalk.i64_in _ (by omega)
  have i7 : (0 : Int) ≤ (i : Int) % 32 := by omega
  have i9 : ((i : Int) % 32).toNat = i % 32 := by omega
  refine wp_region_still_tail 9 (by kernel_rfl) (by kernel_rfl) ?_
  simp only [List.take_succ_cons, List.take_zero, List.drop_succ_cons, List.drop_zero]
  repeat still_step
  try refine wpStill_nil ?_
  change wpList _ _ _ _ _ W5.drew
  rw [or_word]
  have b6 : W5.drew.heap[w.heap.size]? = some (.cells (setC y) 54 (0, 0)) := b5
  have z6 : W5.drew.heap[w.heap.size + 1]? = some (.cells (setC 0) 54 (0, 0)) := z4
  have hb6 : Below w.heap.size w W5.drew := hb4.drew
  generalize W5.drew = W6 at b6 z6 hb6 ⊢
  have c6 : W6.cell? ⟨w.heap.size, i / 32, none⟩ = some (.int .u32 (sw y (i / 32) : Nat)) := (blk_cell b6 (i / 32)).trans (setC_get y _ (by omega))
  have f6 := blk_free b6 (i / 32)
  clear b5 z4 hb4 c0 f0 i1 i2 i3 i4 i5 i6 i7 i8 i9
  have b7 := blk_store b6 (i / 32) (.int .u32 (sw y (i / 32) ||| 2 ^ (i % 32) : Nat))
  rw [withC_set y i (by omega), HY2.out] at b7
  have z7 := blk_set z6 ⟨w.heap.size, i / 32, none⟩ (.int .u32 (sw y (i / 32) ||| 2 ^ (i % 32) : Nat)) (by simp)
  have hb7 := hb6.setCell (p := ⟨w.heap.size, i / 32, none⟩) (by simp) (.int .u32 (sw y (i / 32) ||| 2 ^ (i % 32) : Nat))
  obtain ⟨r0, r1, r2, r3, _⟩ := set_cells b7
  obtain ⟨s0, s1, s2, s3, g0, g1, g2, g3⟩ := set_cells z7
  go_wp2
  refine bodyPost_ret (v := .tuple #[.agg (setC y2), .int .i64 0]) ?_ rfl ⟨rfl, (((hb7.setCell (by simp) _).setCell (by simp) _).setCell (by simp) _).setCell (by simp) _⟩
  unfold setC
  simp [results, Tryz.results36, go_sem, s0, s1, s2, s3]
end Go.Proofs.YtbjlnlgknegbnaaGreatDoor
namespace Go.Proofs.YtbjlnlgknegbnaaGreatDoor
set_option linter.unusedVariables false
set_option linter.unusedSimpArgs false
open Go.RowKit

theorem eq_words (a b c d a' b' c' d' : Int) (w : World) : (Op.equalIn 10000 54 (.agg #[.int .u32 a, .int .u32 b, .int .u32 c, .int .u32 d]) (.agg #[.int .u32 a', .int .u32 b', .int .u32 c', .int .u32 d'])).run Tryz.prog w = .ok (a == a' && b == b' && c == c' && d == d') w := by
  have u3 := Tryz.underlying52
  have a3 := Tryz.isAgg52
  have z3 := Tryz.sizeOf52
  rw [show (10000 : Nat) = 9999 + 1 from rfl, Op.equalIn]
  simp only [Sem.run_bind, run_underlying Tryz.underlying54, Result.andThen_ok]
  simp only [Std.Legacy.Range.forIn_eq_forIn_range', Std.Legacy.Range.size, Nat.sub_zero, Nat.add_sub_cancel, Nat.div_one, List.range'_succ, List.range'_zero, List.forIn_cons, List.forIn_nil]
  go_simp
  by_cases h1 : a = a' <;> by_cases h2 : b = b' <;> by_cases h3 : c = c' <;> by_cases h4 : d = d' <;> simp [h1, h2, h3, h4]

/-- Sets are alike just if the numbers are. -/
theorem eq_sets {x y : Nat} (hx : x < 2 ^ 128) (hy : y < 2 ^ 128) (w : World) : (Op.equalIn 10000 54 (.agg (setC x)) (.agg (setC y))).run Tryz.prog w = .ok (decide (x = y)) w := by
  unfold setC
  rw [eq_words]
  congr 1
  rw [Bool.eq_iff_iff, decide_eq_true_iff]
  simp only [Bool.and_eq_true, beq_iff_eq]
  constructor
  · rintro ⟨⟨⟨h0, h1⟩, h2⟩, h3⟩
    refine set_ext hx hy fun j hj => ?_
    match j, hj with
    | 0, _ => omega
    | 1, _ => omega
    | 2, _ => omega
    | 3, _ => omega
  · rintro rfl; exact ⟨⟨⟨rfl, rfl⟩, rfl⟩, rfl⟩
end Go.Proofs.YtbjlnlgknegbnaaGreatDoor
namespace Go.Proofs.YtbjlnlgknegbnaaGreatDoor
set_option linter.unusedVariables false
set_option linter.unusedSimpArgs false
open Go.RowKit

/-- A row of bools. -/
def rowC (f : Nat → Bool) : Array Value := (Array.range 100).map fun i => .bool (f i)
theorem rowC_size (f : Nat → Bool) : (rowC f).size = 100 := by simp [rowC]
theorem rowC_get (f : Nat → Bool) (i : Nat) (h : i < 100) : (rowC f)[i]? = some (.bool (f i)) := by simp [rowC, Array.getElem?_map, Array.getElem?_range, h]
theorem rowC_set (f : Nat → Bool) (k : Nat) (b : Bool) : (rowC f).setIfInBounds k (.bool b) = rowC (fun i => if i = k then b else f i) := by
  apply Array.ext_getElem?
  intro j
  rw [Array.getElem?_setIfInBounds]
  by_cases hj : j < 100
  · rw [rowC_get _ _ hj, rowC_get _ _ hj, rowC_size]
    by_cases h : k = j
    · subst h; simp [hj]
    · rw [if_neg h, if_neg (fun e => h e.symm)]
  · rw [Array.getElem?_eq_none (xs := rowC f) (by rw [rowC_size]; omega), Array.getElem?_eq_none (xs := rowC _) (by rw [rowC_size]; omega), rowC_size]
    by_cases h : k = j
    · rw [if_pos h, if_neg (by omega)]
    · rw [if_neg h]
theorem rowC_congr {f g : Nat → Bool} (h : ∀ i, i < 100 → f i = g i) : rowC f = rowC g := by
  apply Array.ext_getElem?
  intro j
  by_cases hj : j < 100
  · rw [rowC_get _ _ hj, rowC_get _ _ hj, h j hj]
  · rw [Array.getElem?_eq_none (by rw [rowC_size]; omega), Array.getElem?_eq_none (by rw [rowC_size]; omega)]
theorem rowC_one (f : Nat → Bool) : (rowC f).all (·.oneCell') = true := by
  rw [Array.all_eq_true]
  intro i hi
  simp [rowC]
  rfl

theorem zero_row (w : World) : (zeroValue 133).run Tryz.prog w = .ok (.agg (rowC fun _ => false)) w := by kernel_rfl
theorem row_info : (Tryz.prog.info? 133).map (·.size) = some 100 := by kernel_rfl
theorem b3 (w : World) (a b c : Obj) : (((w.alloc a).alloc b).alloc c).heap[w.heap.size + 1]? = some b := blk_old (b1 w a b) _

set_option maxRecDepth 100000 in
set_option maxHeartbeats 1000000 in
theorem row_any (x : Nat) (w : World) :
    Calls Tryz.prog 77 #[setV x] w fun e w' => e = .returned (.agg (rowC x.testBit)) ∧ Below w.heap.size w w' := by
  unfold setV
  have hz := zero_row
  go_enter Tryz.func77, Tryz.ntmps77
  go_wp2_with fail
  clear hz
  go_loopw [4] (fun i wr => ∃ k : Nat, i = .int .i64 k ∧ k ≤ 100 ∧ wr.heap[w.heap.size]? = some (.cells (setC x) 54 (0, 0)) ∧ wr.heap[w.heap.size + 1]? = some (.cells (rowC fun _ => false) 133 (0, 0)) ∧
      wr.heap[w.heap.size + 1 + 1]? = some (.cells (rowC fun i => decide (i < k) && x.testBit i) 133 (0, 0)) ∧ Below w.heap.size w wr) (fun i _ => 100 - (intOf i).toNat)
  case atStart =>
    refine ⟨0, rfl, by omega, blk_old (blk_old (blk_new w _) _) _, b3 w _ _ _, ?_, (((Below.refl _ w).alloc (Nat.le_refl _) _).alloc (by simp) _).alloc (by simp; omega) _⟩
    have := b2 w (.cells (setC x) 54) (.cells (rowC fun _ => false) 133) (.cells (rowC fun _ => false) 133)
    simpa using this
  case round =>
    obtain ⟨k, rfl, hk, h0, h1, h2, hb⟩ := hrel
    by_cases hlt : k < 100
    · have c0 : wr.cell? ⟨w.heap.size, k / 32, none⟩ = some (.int .u32 (sw x (k / 32) : Nat)) := (blk_cell h0 (k / 32)).trans (setC_get x _ (by omega))
      have c2 : wr.cell? ⟨w.heap.size + 1 + 1, k, none⟩ = some (.bool false) := (blk_cell h2 k).trans ((rowC_get _ k hlt).trans (by simp))
      have f2 := blk_free h2 k
      have i1 : (k : Int) < 100 := by omega
      have hw := sw_lt x (k / 32)
      have h3 := blk_store h2 k (.bool (x.testBit k))
      rw [rowC_set] at h3
      have h3 : (wr.setCell ⟨w.heap.size + 1 + 1, k, none⟩ (.bool (x.testBit k))).heap[w.heap.size + 1 + 1]? = some (.cells (rowC fun i => decide (i < k + 1) && x.testBit i) 133 (0, 0)) := by
        rw [h3, rowC_congr]
        intro i _
        by_cases hi : i = k
        · subst hi; simp
        · have : (i < k + 1) = (i < k) := by rw [eq_iff_iff]; omega
          simp [hi, this]
      have hwd := has_word x k
      rw [Int.toNat_natCast] at hwd
      have H3 := Lib.hid h3
      clear h3
      go_wp2
      exact ⟨⟨k + 1, by go_num, by omega, blk_set h0 _ _ (by simp; omega), blk_set h1 _ _ (by simp), H3.out, hb.setCell (by simp; omega) _⟩, by simp [intOf]; omega⟩
    · obtain rfl : k = 100 := by omega
      rw [rowC_congr (g := x.testBit) (fun i hi => by simp [hi])] at h2
      go_wp2_with (first
        | (refine wpList_load_row rfl _ _ rfl (w.heap.size + 1 + 1) rfl _ (rowC x.testBit) _ _ h2 Tryz.underlying133 rfl (row_info.trans (by rw [rowC_size])) ?_)
        | (refine wpList_store_mid rfl _ _ _ rfl (w.heap.size + 1) 0 (rowC x.testBit) rfl rfl (there_blk h1 0 _ (by rw [rowC_size, rowC_size]; omega)) (row_info.trans (by rw [rowC_size])) (rowC_one _) ?_))
      have h3 := setCells_whole h1 (rowC x.testBit) (by rw [rowC_size, rowC_size])
      exact bodyPost_ret (v := .agg (rowC x.testBit)) (results_cell_row rfl _ _ (w.heap.size + 1) _ _ _ _ rfl h3 Tryz.underlying133 rfl (row_info.trans (by rw [rowC_size]))) rfl ⟨rfl, setCells_below _ _ _ hb (by omega)⟩

/-- The set of a row. -/
def mkN (f : Nat → Bool) : Nat → Nat
  | 0 => 0
  | k + 1 => if f k then mkN f k ||| 2 ^ k else mkN f k
theorem mkN_bit (f : Nat → Bool) (i : Nat) : ∀ k, (mkN f k).testBit i = (decide (i < k) && f i)
  | 0 => by simp [mkN]
  | k + 1 => by
    unfold mkN
    have ih := mkN_bit f i k
    by_cases hf : f k = true
    · rw [if_pos hf, Nat.testBit_or, ih, Nat.testBit_two_pow]
      by_cases hi : k = i
      · subst hi; simp [hf]
      · have : (i < k + 1) = (i < k) := by rw [eq_iff_iff]; omega
        simp [hi, this]
    · rw [if_neg hf, ih]
      by_cases hi : i = k
      · subst hi; simp [hf]
      · have : (i < k + 1) = (i < k) := by rw [eq_iff_iff]; omega
        simp [this]
def with1 (x i : Nat) : Nat → Bool := fun j => if j = i then true else x.testBit j
theorem with1_set (x i : Nat) : (rowC x.testBit).setIfInBounds i (.bool true) = rowC (with1 x i) := rowC_set _ _ _
theorem mkN_with (x i : Nat) (hi : i < 100) : mkN (with1 x i) 100 = x % 2 ^ 100 ||| 2 ^ i := by
  unfold with1
  apply Nat.eq_of_testBit_eq
  intro k
  rw [mkN_bit, Nat.testBit_or, Nat.testBit_mod_two_pow, Nat.testBit_two_pow]
  by_cases hk : k = i
  · subst hk; simp [hi]
  · have : ¬ i = k := fun e => hk e.symm
    simp [hk, this]
theorem mkN_mod (x : Nat) : mkN x.testBit 100 = x % 2 ^ 100 := by
  apply Nat.eq_of_testBit_eq
  intro i
  rw [mkN_bit, Nat.testBit_mod_two_pow]

set_option maxRecDepth 100000 in
set_option maxHeartbeats 1000000 in
theorem make_any (f : Nat → Bool) (w : World) :
    Calls Tryz.prog 78 #[.agg (rowC f)] w fun e w' => e = .returned (setV (mkN f 100)) ∧ Below w.heap.size w w' := by
  unfold setV
  go_enter Tryz.func78, Tryz.ntmps78
  go_wp2_with fail
  rw [setC_zero]
  go_loopw [4] (fun i wr => ∃ k : Nat, i = .int .i64 k ∧ k ≤ 100 ∧ wr.heap[w.heap.size]? = some (.cells (rowC f) 133 (0, 0)) ∧ wr.heap[w.heap.size + 1]? = some (.cells (setC 0) 54 (0, 0)) ∧
      wr.heap[w.heap.size + 1 + 1]? = some (.cells (setC (mkN f k)) 54 (0, 0)) ∧ Below w.heap.size w wr) (fun i _ => 100 - (intOf i).toNat)
  case atStart =>
    exact ⟨0, rfl, by omega, blk_old (blk_old (blk_new w _) _) _, b3 w _ _ _, b2 w _ _ _, (((Below.refl _ w).alloc (Nat.le_refl _) _).alloc (by simp) _).alloc (by simp; omega) _⟩
  case round =>
    obtain ⟨k, rfl, hk, h0, h1, h2, hb⟩ := hrel
    by_cases hlt : k < 100
    · have c0 : wr.cell? ⟨w.heap.size, k, none⟩ = some (.bool (f k)) := (blk_cell h0 k).trans (rowC_get f k hlt)
      have i1 : (k : Int) < 100 := by omega
      cases hf : f k with
      | false =>
        rw [hf] at c0
        have HF := Lib.hid hf
        clear hf
        go_wp2
        go_roundw
        case rel => exact ⟨k + 1, by go_num, by omega, h0, h1, by unfold mkN; rw [HF.out]; exact h2, hb⟩
        case measure => simp [intOf]; omega
      | true =>
        rw [hf] at c0
        have hm : mkN f (k + 1) = mkN f k ||| 2 ^ k := by show (if f k then _ else _) = _; rw [hf]; rfl
        have HM := Lib.hid hm
        clear hf hm
        generalize mkN f k = y at *
        have i2 : IntKind.i64.wrap ((k : Int) / 32) = (k : Int) / 32 := IntWalk.i64_in _ (by omega)
        have i3 : (k : Int) / 32 < 4 := by omega
        have i4 : (0 : Int) ≤ (k : Int) / 32 := by omega
        have i8 : ((k : Int) / 32).toNat = k / 32 := by omega
        have i5 : (k : Int).tmod 32 = (k : Int) % 32 := Int.tmod_eq_emod_of_nonneg (by omega)
        have i6 : IntKind.i64.wrap ((k : Int) % 32) = (k : Int) % 32 := IntWalk.i64_in _ (by omega)
        have i7 : (0 : Int) ≤ (k : Int) % 32 := by omega
        have i9 : ((k : Int) % 32).toNat = k % 32 := by omega
        have c2 : wr.cell? ⟨w.heap.size + 1 + 1, k / 32, none⟩ = some (.int .u32 (sw y (k / 32) : Nat)) := (blk_cell h2 (k / 32)).trans (setC_get y _ (by omega))
        have f2 := blk_free h2 (k / 32)
        go_wp2_with fail
        refine wp_region_still_tail 11 (by kernel_rfl) (by kernel_rfl) ?_
        simp only [List.take_succ_cons, List.take_zero, List.drop_succ_cons, List.drop_zero]
        repeat still_step
        try refine wpStill_nil ?_
        change wpList _ _ _ _ _ wr.drew
        rw [or_word]
        clear i2 i3 i4 i5 i6 i7 i8 i9
        go_wp2
        go_roundw
        case rel =>
          refine ⟨k + 1, by go_num, by omega, blk_set (blk_drewN h0 1) _ _ (by simp; omega), blk_set (blk_drewN h1 1) _ _ (by simp), ?_, (below_drewN hb 1).setCell (by simp; omega) _⟩
          have := blk_store (blk_drewN h2 1) (k / 32) (.int .u32 (sw y (k / 32) ||| 2 ^ (k % 32) : Nat))
          rw [withC_set y k (by omega)] at this
          rw [HM.out]
          exact this
        case measure => simp [intOf]; omega
    · obtain rfl : k = 100 := by omega
      obtain ⟨q0, q1, q2, q3, _⟩ := set_cells h2
      obtain ⟨s0, s1, s2, s3, g0, g1, g2, g3⟩ := set_cells h1
      go_wp2
      refine bodyPost_ret (v := .agg (setC (mkN f 100))) ?_ rfl ⟨rfl, (((hb.setCell (by simp) _).setCell (by simp) _).setCell (by simp) _).setCell (by simp) _⟩
      unfold setC
      simp [results, Tryz.results78, go_sem, s0, s1, s2, s3]

theorem row_index (g : Nat → Bool) (i : Nat) (hi : i < 100) (w : World) : (Instr.index 133 (.agg (rowC g)) (.int .i64 i)).run Tryz.prog w = .ok (.bool (g i)) w := by
  have h0 : (0 : Int) ≤ (i : Int) := by omega
  have h1 : (i : Int) < 100 := by omega
  have h := rowC_get g i hi
  simp [Instr.index, run_underlying Tryz.underlying133, go_sem, h]
  intro hh; omega
set_option maxRecDepth 100000 in
set_option maxHeartbeats 1000000 in
theorem refWith_any (x : Nat) (i : Nat) (hi : i < 100) (w : World) :
    Calls Tryz.prog 60 #[setV x, .int .i64 i] w fun e w' => e = .returned (.tuple #[setV (x % 2 ^ 100 ||| 2 ^ i), .int .i64 0]) ∧ Below w.heap.size w w' := by
  have HR := Lib.hid (fun w => row_any x w)
  have HM := Lib.hid (fun w => make_any (with1 x i) w)
  rw [mkN_with x i hi] at HM
  generalize x % 2 ^ 100 ||| 2 ^ i = y at *
  unfold setV
  unfold setV at HR HM
  have i0 : ¬ (i : Int) < 0 := by omega
  have i1 : ¬ (100 : Int) ≤ (i : Int) := by omega
  have hz := zero_row
  obtain ⟨q0, q1, q2, q3, _⟩ := set_cells (blk_old (blk_new w (.cells (setC x) 54)) (.cells #[.int .u32 0, .int .u32 0, .int .u32 0, .int .u32 0] 54))
  go_enter Tryz.func60, Tryz.ntmps60
  have B0 : Below w.heap.size w ((w.alloc (.cells (setC x) 54)).alloc (.cells #[.int .u32 0, .int .u32 0, .int .u32 0, .int .u32 0] 54)) := ((Below.refl _ w).alloc (Nat.le_refl _) _).alloc (by simp) _
  have Z0 : _ = some (Obj.cells (setC 0) 54 (0, 0)) := b1 w (.cells (setC x) 54) (.cells #[.int .u32 0, .int .u32 0, .int .u32 0, .int .u32 0] 54)
  go_wp2_with (first
    | (go_at_call 77; refine (HR.out _).mono ?_; rintro e w1 ⟨rfl, hB⟩)
    | (refine wpList_store_mid rfl _ _ _ rfl w1.heap.size 0 (rowC x.testBit) rfl rfl (there_blk (blk_new w1 (.cells (rowC fun _ => false) 133)) 0 _ (by rw [rowC_size, rowC_size]; omega)) (row_info.trans (by rw [rowC_size])) (rowC_one _) ?_; have hz3 : w.heap.size + 2 ≤ w1.heap.size := (by have := hB.size; simpa using this); have h3 := setCells_whole (blk_new w1 (.cells (rowC fun _ => false) 133)) (rowC x.testBit) (by rw [rowC_size, rowC_size]); have z3 := setCells_other (b := w1.heap.size) (rowC x.testBit).toList 0 _ (blk_old (blk_below' hB Z0) (.cells (rowC fun _ => false) 133)) (by omega); have hb3 := setCells_below (b := w1.heap.size) (rowC x.testBit).toList 0 _ ((below_then B0 hB).alloc (by omega) (.cells (rowC fun _ => false) 133)) (by omega); generalize (w1.alloc (.cells (rowC fun _ => false) 133)).setCells w1.heap.size 0 (rowC x.testBit).toList = W3 at h3 z3 hb3 ⊢; have c3 := (blk_cell h3 i).trans (rowC_get _ i hi); have f3 := blk_free h3 i; have i2 : (i : Int) < 100 := (by omega); have h4 := blk_store h3 i (.bool true); rw [with1_set] at h4; have z4 := blk_set z3 ⟨w1.heap.size, i, none⟩ (.bool true) (by simp; omega); have hb4 := hb3.setCell (p := ⟨w1.heap.size, i, none⟩) (by simp; omega) (.bool true); obtain ⟨p0, p1, p2, p3, g0, g1, g2, g3⟩ := set_cells z4)
    | (refine wpList_load_row rfl _ _ rfl w1.heap.size rfl _ (rowC (with1 x i)) _ _ h4 Tryz.underlying133 rfl (row_info.trans (by rw [rowC_size])) ?_)
    | (go_at_call 78; refine (HM.out _).mono ?_; rintro e w5 ⟨rfl, hB5⟩; have z5 := blk_below' hB5 z4; have hb5 := below_then hb4 hB5; obtain ⟨s0, s1, s2, s3, t0, t1, t2, t3⟩ := set_cells z5; unfold setC))
  refine bodyPost_ret (v := .tuple #[.agg (setC y), .int .i64 0]) ?_ rfl ⟨rfl, (((hb5.setCell (by simp) _).setCell (by simp) _).setCell (by simp) _).setCell (by simp) _⟩
  unfold setC
  simp [results, Tryz.results60, go_sem, s0, s1, s2, s3]

set_option maxRecDepth 100000 in
set_option maxHeartbeats 1000000 in
theorem refPut_any (x : Nat) (i : Nat) (hi : i < 100) (w : World) :
    Calls Tryz.prog 40 #[setV x, .int .i64 i] w fun e w' => e = .returned (setV (x % 2 ^ 100 ||| 2 ^ i)) ∧ Below w.heap.size w w' := by
  have HW := Lib.hid (fun w => refWith_any x i hi w)
  generalize x % 2 ^ 100 ||| 2 ^ i = y at *
  unfold setV
  unfold setV at HW
  obtain ⟨q0, q1, q2, q3, _⟩ := set_cells (blk_old (blk_new w (.cells (setC x) 54)) (.cells #[.int .u32 0, .int .u32 0, .int .u32 0, .int .u32 0] 54))
  have B0 : Below w.heap.size w ((w.alloc (.cells (setC x) 54)).alloc (.cells #[.int .u32 0, .int .u32 0, .int .u32 0, .int .u32 0] 54)) := ((Below.refl _ w).alloc (Nat.le_refl _) _).alloc (by simp) _
  have Z0 : _ = some (Obj.cells (setC 0) 54 (0, 0)) := b1 w (.cells (setC x) 54) (.cells #[.int .u32 0, .int .u32 0, .int .u32 0, .int .u32 0] 54)
  go_enter Tryz.func40, Tryz.ntmps40
  go_wp2_with (first
    | (go_at_call 60; refine (HW.out _).mono ?_; rintro e w5 ⟨rfl, hB5⟩; have hz := hB5.size; have z5 := blk_old (blk_below' hB5 Z0) (.cells (setC y) 54); have hb5 := (below_then B0 hB5).alloc (by simp at hz; omega) (.cells (setC y) 54); obtain ⟨s0, s1, s2, s3, t0, t1, t2, t3⟩ := set_cells z5; obtain ⟨p0, p1, p2, p3, _⟩ := set_cells (blk_new w5 (.cells (setC y) 54)); unfold setC; unfold setC at p0 p1 p2 p3 s0 s1 s2 s3 t0 t1 t2 t3 hb5))
  refine bodyPost_ret (v := .agg (setC y)) ?_ rfl ⟨rfl, (((hb5.setCell (by simp) _).setCell (by simp) _).setCell (by simp) _).setCell (by simp) _⟩
  unfold setC
  simp [results, Tryz.results40, go_sem, s0, s1, s2, s3]
end Go.Proofs.YtbjlnlgknegbnaaGreatDoor
namespace Go.Proofs.YtbjlnlgknegbnaaGreatDoor
set_option linter.unusedVariables false
set_option linter.unusedSimpArgs false
open Go.RowKit

theorem lt_of_bits {x n : Nat} (hx : x < 2 ^ 128) (h : ∀ j, j < 128 → x.testBit j = true → j < n) : x < 2 ^ n := by
  apply Nat.lt_pow_two_of_testBit
  intro i hi
  by_cases h1 : i < 128
  · cases ht : x.testBit i with
    | false => rfl
    | true => have := h i h1 ht; omega
  · exact Nat.testBit_lt_two_pow (Nat.lt_of_lt_of_le hx (Nat.pow_le_pow_right (by decide) (by omega)))
theorem not_lt_of_bit {x n j : Nat} (h : x.testBit j = true) (hj : n ≤ j) : ¬ x < 2 ^ n := by
  intro hx
  have := Nat.testBit_lt_two_pow (Nat.lt_of_lt_of_le hx (Nat.pow_le_pow_right (by decide) hj))
  rw [this] at h; cases h

/-- The ids of a set, below some. -/
def idsL (x k : Nat) : List Nat := (List.range k).filter x.testBit
theorem idsL_succ (x k : Nat) : idsL x (k + 1) = if x.testBit k then idsL x k ++ [k] else idsL x k := by
  unfold idsL
  rw [List.range_succ, List.filter_append]
  cases h : x.testBit k <;> simp [h]
theorem idsL_len (x k : Nat) : (idsL x k).length ≤ k := by
  have := List.length_filter_le x.testBit (List.range k)
  rw [List.length_range] at this
  exact this
theorem idsL_mem {x k i : Nat} (h : i ∈ idsL x k) : i < k ∧ x.testBit i = true := by
  unfold idsL at h
  rw [List.mem_filter, List.mem_range] at h
  exact h
def natC (l : List Nat) : List Value := l.map fun r : Nat => .int .i64 (r : Int)
theorem Tryz.infoInt3 : (Tryz.prog.info? 3).map (fun i => (i.zero, i.size, i.bytes)) = some (some (.int .i64 0), 1, 8) := by kernel_rfl

end Go.Proofs.YtbjlnlgknegbnaaGreatDoor
namespace Go.Proofs.YtbjlnlgknegbnaaGreatDoor
set_option linter.unusedVariables false
set_option linter.unusedSimpArgs false
open Go.RowKit Go.Shelf

theorem within_iff {x n : Nat} : (x &&& (2 ^ n - 1) = x) = (x < 2 ^ n) := by
  rw [Nat.and_two_pow_sub_one_eq_mod, eq_iff_iff]
  constructor
  · intro h; rw [← h]; exact Nat.mod_lt _ (Nat.pow_pos (by decide))
  · exact Nat.mod_eq_of_lt

/-- A set in a variable. -/
def SetIn (w0 : World) (b x : Nat) (W : World) : Prop := W.heap[b]? = some (.cells (setC x) 54 (0, 0)) ∧ Below w0.heap.size w0 W
theorem SetIn.below {w0 : World} {b x : Nat} {W W' : World} (h : SetIn w0 b x W) (hb : Below W.heap.size W W') : SetIn w0 b x W' := ⟨blk_below' hb h.1, below_then h.2 hb⟩
theorem SetIn.drew {w0 : World} {b x : Nat} {W : World} (h : SetIn w0 b x W) : SetIn w0 b x W.drew := ⟨h.1, below_drewN h.2 1⟩
theorem SetIn.all {w0 : World} {b x : Nat} {W : World} (h : SetIn w0 b x W) : (W.cell? ⟨b, 0, none⟩ = some (.int .u32 (sw x 0 : Nat)) ∧ W.cell? ⟨b, 1, none⟩ = some (.int .u32 (sw x 1 : Nat)) ∧ W.cell? ⟨b, 2, none⟩ = some (.int .u32 (sw x 2 : Nat)) ∧ W.cell? ⟨b, 3, none⟩ = some (.int .u32 (sw x 3 : Nat))) ∧ SetIn w0 b x W := by
  obtain ⟨c0, c1, c2, c3, _⟩ := set_cells h.1
  exact ⟨⟨c0, c1, c2, c3⟩, h⟩

abbrev idEnc (x : Nat) (i : { i : Nat // i ∈ idsL x 100 }) : Array Value := #[.int .i64 i.1]
/-- A round keeps the variable with the set. -/
def KeepsAt (b : Nat) (A B : World) : Prop := ∀ o, A.heap[b]? = some o → B.heap[b]? = some o
theorem KeepsAt.trans {b : Nat} {A B C : World} (h : KeepsAt b A B) (k : KeepsAt b B C) : KeepsAt b A C := fun o ho => k o (h o ho)
theorem KeepsAt.refl (b : Nat) (A : World) : KeepsAt b A A := fun _ h => h
theorem KeepsAt.of_below {b : Nat} {A B : World} (h : Below A.heap.size A B) : KeepsAt b A B := fun _ ho => blk_below' h ho
theorem KeepsAt.put {b : Nat} {w : World} (hb : b < w.heap.size) (W : World) (l : Nat) (o o' : Obj) (hl : w.heap.size ≤ l) (h : W.heap[l]? = some o) (_ : o.isCells = false) (_ : o.isWalk = false) : KeepsAt b W (W.putObj l o') := fun q hq => by
  have hne : l ≠ b := by omega
  simp only [World.putObj]
  rw [Array.getElem?_setIfInBounds_ne hne]
  exact hq

theorem idsL_pre {x j k : Nat} (h : j ≤ k) : idsL x j <+: idsL x k := by
  induction k with
  | zero => obtain rfl : j = 0 := by omega
            exact List.prefix_refl _
  | succ k ih =>
    by_cases e : j = k + 1
    · subst e; exact List.prefix_refl _
    · rw [idsL_succ]
      split
      · exact (ih (by omega)).trans (List.prefix_append _ _)
      · exact ih (by omega)
theorem idsL_step {x k : Nat} (hk : k < 100) (h : x.testBit k = true) : idsL x k ++ [k] <+: idsL x 100 := by
  have h1 := idsL_succ x k
  rw [h, if_pos rfl] at h1
  rw [← h1]
  exact idsL_pre (by omega)

end Go.Proofs.YtbjlnlgknegbnaaGreatDoor
namespace Go.Proofs.YtbjlnlgknegbnaaGreatDoor
set_option linter.unusedVariables false
open Go.RowKit Go.WideShapes Go.ChangeShapes
section
variable {H : Type} {enc : TypeId × Value → H} {P : Program}
theorem post_of_below {f : Func} {s : ChangeSpec} {apart fresh handsOn again : Bool} {W W' : World} {args : Array Value} {v : Value} {ds gs : List (DataW H)} {before pa pv : List MemPlace}
    (hW : DataW.Whole enc P f.params.toList s.vars apart W args.toList ds gs before)
    (hres : ∀ (b : Nat) (sp : Nat → Bool) (hd : Bool), DataW.TrodAll enc P W' b sp hd f.resultTypes.toList (v.resultList f.resultTypes.size) (s.fn H (ds ++ gs)).results [])
    (hargs : ∀ sp : Nat → Bool, (∀ p ∈ before, sp p.block = true) → DataW.TrodAll enc P W' 0 sp true f.params.toList args.toList (s.fn H (ds ++ gs)).args pa)
    (hvars : ∀ sp : Nat → Bool, (∀ p ∈ before, sp p.block = true) → DataW.TrodVars enc P W' sp s.vars (s.fn H (ds ++ gs)).vars pv)
    (hps : before = pa ++ pv) (hb : Below W.heap.size W W')
    (hok : ∀ (j : Nat) (t : TypeId) (r : Value), f.resultTypes[j]? = some t → (v.resultList f.resultTypes.size)[j]? = some r → Value.okWide P W' .any 0 t r) :
    s.post enc P f apart fresh handsOn again W args v W' := by
  have hlt : ∀ p ∈ before, p.block < W.heap.size := fun p hp => hW.lt p hp
  have hold : ∀ p ∈ before, (fun b => decide (b < W.heap.size)) p.block = true := fun p hp => by simpa using hlt p hp
  refine ⟨ds, gs, before, [], pa, pv, hW, hres _ _ _, hargs _ hold, hvars _ hold, World.keptBut_mono (fun p hp => ⟨hp, ?_⟩) (hb.frame (· ∈ before)), fun _ => ?_⟩
  · rw [hps, List.mem_append] at hp
    exact Or.inr hp
  · obtain ⟨_, _, _, _, _, hz, hn⟩ := hW
    refine ⟨hok, _, _, ([] ++ pa) ++ pv, ⟨[] ++ pa, pv, trodAll_append (hargs _ (fun _ _ => rfl)) (hres _ _ _), hvars _ (fun _ _ => rfl), rfl, ?_, ?_⟩, ?_⟩
    · intro b off hp
      have hin : MemPlace.cell b off ∈ before := by rw [hps]; simpa using hp
      rw [hb.frozen (hlt _ hin)]
      exact hz b off hin
    · intro ha
      have := hn ha
      rw [hps] at this
      simpa using this
    · intro p hp _
      rw [hps]
      simpa using hp
end
end Go.Proofs.YtbjlnlgknegbnaaGreatDoor
namespace Go.Proofs.YtbjlnlgknegbnaaGreatDoor
set_option linter.unusedVariables false
open Go.RowKit Go.WideShapes Go.ChangeShapes Go.WideElems

section
variable {H : Type} {enc : TypeId × Value → H} {P : Program}
theorem trodAll_stays (hl : laidOutB P = true) {W W' : World} {sp : Nat → Bool} : ∀ (ts : List TypeId) (vs : List Value) (ds : List (DataW H)) (p : List MemPlace), (∀ t ∈ ts, P.readableRec t = true ∧ t < P.types.size) →
    DataW.TrodAll enc P W 0 (fun _ => true) true ts vs ds p → (∀ q ∈ p, W.sameAt W' q) → (∀ q ∈ p, sp q.block = true) → DataW.TrodAll enc P W' 0 sp true ts vs ds p
  | [], _, _, _, _, h, _, _ => by
    obtain ⟨rfl, rfl, rfl⟩ := trodAll_nil h
    exact h
  | t :: ts, _, _, _, hr, h, hs, hp => by
    obtain ⟨v, vs1, d, ds1, a, b, rfl, rfl, rfl, h1, h2⟩ := trodAll_cons h
    exact ⟨a, b, Trod_stays hl (hr t (by simp)).1 (hr t (by simp)).2 h1 (fun q hq => hs q (by simp [hq])) (fun q hq => hp q (by simp [hq])),
      trodAll_stays hl ts vs1 ds1 b (fun u hu => hr u (by simp [hu])) h2 (fun q hq => hs q (by simp [hq])) (fun q hq => hp q (by simp [hq])), rfl⟩
end

def readAll (P : Program) (ts : List TypeId) : Bool := ts.all fun t => P.readableRec t && decide (t < P.types.size)
theorem readAll_spec {P : Program} {ts : List TypeId} (h : readAll P ts = true) : ∀ t ∈ ts, P.readableRec t = true ∧ t < P.types.size := by
  intro t ht
  have := List.all_eq_true.1 h t ht
  simpa using this

/-- A row of integers that came in. -/
def RowOf (W : World) (k : IntKind) (v : Value) (xs : List Int) : Prop :=
  (v = .slice none 0 0 ∧ xs = []) ∨ ∃ a cap, v = .slice (some a) xs.length cap ∧ xs.length ≤ cap ∧ cap ≤ maxLen ∧ ∀ i x, xs[i]? = some x → W.cell? (a.add i) = some (.int k x) ∧ (a.add i).block < W.heap.size

theorem RowOf.slice {W : World} {k : IntKind} {v : Value} {xs : List Int} (h : RowOf W k v xs) : ∃ a cap, v = .slice a xs.length cap ∧ xs.length ≤ cap ∧ cap ≤ maxLen ∧ ∀ i x, xs[i]? = some x → ∃ b, a = some b ∧ W.cell? (b.add i) = some (.int k x) := by
  rcases h with ⟨rfl, rfl⟩ | ⟨a, cap, rfl, h1, h2, h3⟩
  · exact ⟨none, 0, rfl, Nat.le_refl _, by unfold maxLen; omega, fun i x h => by simp at h⟩
  · exact ⟨some a, cap, rfl, h1, h2, fun i x h => ⟨a, rfl, (h3 i x h).1⟩⟩

theorem RowOf.below {W W' : World} {k : IntKind} {v : Value} {xs : List Int} (h : RowOf W k v xs) (hb : Below W.heap.size W W') : RowOf W' k v xs := by
  rcases h with h | ⟨a, cap, rfl, h1, h2, h3⟩
  · exact .inl h
  · exact .inr ⟨a, cap, rfl, h1, h2, fun i x hx => ⟨(hb.cell (h3 i x hx).2).trans (h3 i x hx).1, Nat.lt_of_lt_of_le (h3 i x hx).2 hb.size⟩⟩

theorem cell_lt {W : World} {p : Addr} {v : Value} (h : W.cell? p = some v) : p.block < W.heap.size := by
  rcases Nat.lt_or_ge p.block W.heap.size with hlt | hge
  · exact hlt
  · exfalso
    unfold World.cell? at h
    rw [Array.getElem?_eq_none hge] at h
    simp at h

theorem open_rowOf {H : Type} {enc : TypeId × Value → H} {P : Program} {W : World} {spare : Nat → Bool} {held : Bool} {r : Reach} {b0 : Nat} {t e : TypeId} {k : IntKind} {v : Value} {d : DataW H} {p : List MemPlace} (ht : P.underlying t = some (.slice e)) (he : P.underlying e = some (.int k)) (hc : P.cellsOf e = 1)
    (hval : Value.okWide P W r b0 t v) (h : DataW.Trod enc P W 0 spare held t v d p) :
    ∃ xs, RowOf W k v xs ∧ (∀ x ∈ xs, (Lit.int k x).wf = true) ∧ (d = .nil ∨ ∃ el sp, d = .slice el sp ∧ el.length = xs.length) := by
  obtain ⟨n, hn⟩ := h
  have hv : v.cells.toList = [v] := by
    cases v <;> first | rfl | (simp [Value.okWide, Cell.okWide, Cell.ok, ht] at hval)
  rw [hv] at hn
  rcases open_ints ht he hc hn with ⟨h1, h2⟩ | ⟨a, len, cap, zs, h1, hb, hl, hm, hz, h2, h3, h4⟩
  · obtain rfl : v = .slice none 0 0 := by simpa using h1
    exact ⟨[], .inl ⟨rfl, rfl⟩, by simp, .inl (by simpa using congrArg Prod.fst h2)⟩
  · obtain rfl : v = .slice (some a) len cap := by simpa using h1
    have hzl : len ≤ zs.length := by rw [hz]; split <;> omega
    have hlen : (zs.take len).length = len := by rw [List.length_take]; omega
    refine ⟨zs.take len, .inr ⟨a, cap, by rw [hlen], by omega, hm, fun i x hx => ?_⟩, fun x hx => h4 x (List.mem_of_mem_take hx), .inr ⟨lits k (zs.take len), lits k (zs.drop len), by simpa using congrArg Prod.fst h2, by simp [lits]⟩⟩
    have hi : i < len := by have := (List.getElem?_eq_some_iff.1 hx).1; omega
    have hx2 : zs[i]? = some x := by rw [List.getElem?_take_of_lt hi] at hx; exact hx
    have hc1 := h3 i (by omega)
    rw [List.getD_eq_getElem?_getD, hx2] at hc1
    exact ⟨hc1, cell_lt hc1⟩
end Go.Proofs.YtbjlnlgknegbnaaGreatDoor
