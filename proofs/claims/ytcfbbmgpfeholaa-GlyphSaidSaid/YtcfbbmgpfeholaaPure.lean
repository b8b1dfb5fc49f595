/- Plain facts about the characters of a text, over the model's own decoding of UTF-8. -/
import Derived.Laws.RangeAny
import Derived.Lib.Strings
import Derived.Lib.Small
import Derived.Lib.RuneBytes
namespace Go.Proofs.Ytcfbbmgpfeholaa

/-- The byte at a place as a number; 0 beyond the end. -/
def bt (s : ByteArray) (p : Nat) : Nat := (s.get! p).toNat

theorem bt_lt (s : ByteArray) (p : Nat) : bt s p < 256 := (s.get! p).toNat_lt

/-- P101 in numbers: the two, by the bytes. -/
def dec (s : ByteArray) (p : Nat) : Nat × Nat :=
  if bt s p < 0x80 then (bt s p, 1)
  else if 0xC2 ≤ bt s p ∧ bt s p ≤ 0xDF ∧ (p + 1 < s.size ∧ 0x80 ≤ bt s (p + 1) ∧ bt s (p + 1) ≤ 0xBF) then
    ((bt s p - 0xC0) * 64 + (bt s (p + 1) - 0x80), 2)
  else if 0xE0 ≤ bt s p ∧ bt s p ≤ 0xEF ∧ (p + 1 < s.size ∧ 0x80 ≤ bt s (p + 1) ∧ bt s (p + 1) ≤ 0xBF) ∧ (p + 2 < s.size ∧ 0x80 ≤ bt s (p + 2) ∧ bt s (p + 2) ≤ 0xBF) ∧
      0x800 ≤ (bt s p - 0xE0) * 4096 + (bt s (p + 1) - 0x80) * 64 + (bt s (p + 2) - 0x80) ∧
      ¬ (0xD800 ≤ (bt s p - 0xE0) * 4096 + (bt s (p + 1) - 0x80) * 64 + (bt s (p + 2) - 0x80) ∧ (bt s p - 0xE0) * 4096 + (bt s (p + 1) - 0x80) * 64 + (bt s (p + 2) - 0x80) ≤ 0xDFFF) then
    ((bt s p - 0xE0) * 4096 + (bt s (p + 1) - 0x80) * 64 + (bt s (p + 2) - 0x80), 3)
  else if 0xF0 ≤ bt s p ∧ bt s p ≤ 0xF4 ∧ (p + 1 < s.size ∧ 0x80 ≤ bt s (p + 1) ∧ bt s (p + 1) ≤ 0xBF) ∧ (p + 2 < s.size ∧ 0x80 ≤ bt s (p + 2) ∧ bt s (p + 2) ≤ 0xBF) ∧
      (p + 3 < s.size ∧ 0x80 ≤ bt s (p + 3) ∧ bt s (p + 3) ≤ 0xBF) ∧
      0x10000 ≤ (bt s p - 0xF0) * 262144 + (bt s (p + 1) - 0x80) * 4096 + (bt s (p + 2) - 0x80) * 64 + (bt s (p + 3) - 0x80) ∧
      (bt s p - 0xF0) * 262144 + (bt s (p + 1) - 0x80) * 4096 + (bt s (p + 2) - 0x80) * 64 + (bt s (p + 3) - 0x80) ≤ 0x10FFFF then
    ((bt s p - 0xF0) * 262144 + (bt s (p + 1) - 0x80) * 4096 + (bt s (p + 2) - 0x80) * 64 + (bt s (p + 3) - 0x80), 4)
  else (65533, 1)

theorem decode_dec (s : ByteArray) (p : Nat) : Utf8.decode s p = dec s p := by
  have h0 := bt_lt s p; have h1 := bt_lt s (p + 1); have h2 := bt_lt s (p + 2); have h3 := bt_lt s (p + 3)
  simp only [Utf8.decode, Utf8.valid, Utf8.runeError, show (s.get! (p + 0)).toNat = bt s p from rfl, show (s.get! (p + 1)).toNat = bt s (p + 1) from rfl,
    show (s.get! (p + 2)).toNat = bt s (p + 2) from rfl, show (s.get! (p + 3)).toNat = bt s (p + 3) from rfl, Bool.and_eq_true, Bool.or_eq_true, decide_eq_true_eq, beq_iff_eq, ge_iff_le]
  unfold dec
  generalize bt s p = a at *
  generalize bt s (p + 1) = b at *
  generalize bt s (p + 2) = c at *
  generalize bt s (p + 3) = d at *
  generalize s.size = n
  by_cases ha : a < 0x80
  · rw [if_pos ha, if_pos ha]
  · rw [if_neg ha, if_neg ha]
    by_cases h6 : a / 32 = 6
    · rw [if_neg (c := 0xE0 ≤ a ∧ _) (by omega), if_neg (c := 0xF0 ≤ a ∧ _) (by omega)]
      by_cases hb : p + 1 < n ∧ b / 64 = 2
      · rw [if_pos ⟨h6, hb⟩]
        by_cases hc : 128 ≤ a % 32 * 64 + b % 64
        · rw [if_pos hc, if_pos (by omega)]; rw [show a % 32 * 64 + b % 64 = (a - 0xC0) * 64 + (b - 0x80) from by omega]
        · rw [if_neg hc, if_neg (by omega)]
      · rw [if_neg (by omega), if_neg (by omega), if_neg (by omega), if_neg (by omega)]
    · rw [if_neg (by omega), if_neg (c := 0xC2 ≤ a ∧ _) (by omega)]
      by_cases h14 : a / 16 = 14
      · rw [if_neg (c := 0xF0 ≤ a ∧ _) (by omega)]
        by_cases hb : (p + 1 < n ∧ b / 64 = 2) ∧ (p + 2 < n ∧ c / 64 = 2)
        · rw [if_pos ⟨⟨h14, hb.1⟩, hb.2⟩]
          have e : a % 16 * 4096 + b % 64 * 64 + c % 64 = (a - 0xE0) * 4096 + (b - 0x80) * 64 + (c - 0x80) := by omega
          rw [e]
          obtain ⟨x, hx⟩ : ∃ x, (a - 0xE0) * 4096 + (b - 0x80) * 64 + (c - 0x80) = x := ⟨_, rfl⟩
          rw [hx]
          by_cases hc : 0x800 ≤ x ∧ ¬ (0xD800 ≤ x ∧ x ≤ 0xDFFF)
          · rw [if_pos (by omega), if_pos (by omega)]
          · rw [if_neg (by omega), if_neg (by omega)]
        · rw [if_neg (by omega), if_neg (by omega), if_neg (by omega)]
      · rw [if_neg (by omega), if_neg (c := 0xE0 ≤ a ∧ _) (by omega)]
        by_cases h30 : (a / 8 = 30 ∧ (p + 1 < n ∧ b / 64 = 2)) ∧ (p + 2 < n ∧ c / 64 = 2) ∧ (p + 3 < n ∧ d / 64 = 2)
        · rw [if_pos ⟨⟨h30.1, h30.2.1⟩, h30.2.2⟩]
          have e : a % 8 * 262144 + b % 64 * 4096 + c % 64 * 64 + d % 64 = (a - 0xF0) * 262144 + (b - 0x80) * 4096 + (c - 0x80) * 64 + (d - 0x80) := by omega
          rw [e]
          obtain ⟨x, hx⟩ : ∃ x, (a - 0xF0) * 262144 + (b - 0x80) * 4096 + (c - 0x80) * 64 + (d - 0x80) = x := ⟨_, rfl⟩
          rw [hx]
          by_cases hc : 0x10000 ≤ x ∧ x ≤ 0x10FFFF
          · rw [if_pos (by omega), if_pos (by omega)]
          · rw [if_neg (by omega), if_neg (by omega)]
        · rw [if_neg (by omega), if_neg (by omega)]

/-- The rune and the width at a place; is it a loose byte? -/
def rn (s : ByteArray) (p : Nat) : Nat := (dec s p).1
def wd (s : ByteArray) (p : Nat) : Nat := (dec s p).2
def lo (s : ByteArray) (p : Nat) : Bool := decide (dec s p = (65533, 1))

/-- What 'dec' may answer. -/
theorem dec_cases (s : ByteArray) (p : Nat) :
    (bt s p < 0x80 ∧ dec s p = (bt s p, 1))
    ∨ (dec s p = (65533, 1) ∧ 0x80 ≤ bt s p)
    ∨ (∃ r, dec s p = (r, 2) ∧ 0x80 ≤ r ∧ r ≤ 0x7FF ∧ p + 1 < s.size ∧ bt s p = 192 + r / 64 ∧ bt s (p + 1) = 128 + r % 64)
    ∨ (∃ r, dec s p = (r, 3) ∧ 0x800 ≤ r ∧ r ≤ 0xFFFF ∧ ¬ (0xD800 ≤ r ∧ r ≤ 0xDFFF) ∧ p + 2 < s.size ∧ bt s p = 224 + r / 4096 ∧ bt s (p + 1) = 128 + r / 64 % 64 ∧ bt s (p + 2) = 128 + r % 64)
    ∨ (∃ r, dec s p = (r, 4) ∧ 0x10000 ≤ r ∧ r ≤ 0x10FFFF ∧ p + 3 < s.size ∧ bt s p = 240 + r / 262144 ∧ bt s (p + 1) = 128 + r / 4096 % 64 ∧ bt s (p + 2) = 128 + r / 64 % 64 ∧ bt s (p + 3) = 128 + r % 64) := by
  unfold dec
  split
  · rename_i h; exact .inl ⟨h, rfl⟩
  · split
    · rename_i h0 h; exact .inr (.inr (.inl ⟨_, rfl, by omega, by omega, by omega, by omega, by omega⟩))
    · split
      · rename_i h0 h1 h; exact .inr (.inr (.inr (.inl ⟨_, rfl, by omega, by omega, by omega, by omega, by omega, by omega, by omega⟩)))
      · split
        · rename_i h0 h1 h2 h; exact .inr (.inr (.inr (.inr ⟨_, rfl, by omega, by omega, by omega, by omega, by omega, by omega, by omega⟩)))
        · rename_i h0 h1 h2 h3; exact .inr (.inl ⟨rfl, by omega⟩)

/-- The other way round: the bytes of a rune that may be are that rune. -/
theorem dec_one {s : ByteArray} {p : Nat} (h : bt s p < 0x80) : dec s p = (bt s p, 1) := by unfold dec; rw [if_pos h]
theorem dec_two {s : ByteArray} {p r : Nat} (h0 : 0x80 ≤ r) (h1 : r ≤ 0x7FF) (hp : p + 1 < s.size) (a : bt s p = 192 + r / 64) (b : bt s (p + 1) = 128 + r % 64) : dec s p = (r, 2) := by
  unfold dec; rw [if_neg (by omega), if_pos (by omega)]
  rw [show (bt s p - 0xC0) * 64 + (bt s (p + 1) - 0x80) = r from by omega]
theorem dec_three {s : ByteArray} {p r : Nat} (h0 : 0x800 ≤ r) (h1 : r ≤ 0xFFFF) (hv : ¬ (0xD800 ≤ r ∧ r ≤ 0xDFFF)) (hp : p + 2 < s.size) (a : bt s p = 224 + r / 4096) (b : bt s (p + 1) = 128 + r / 64 % 64) (c : bt s (p + 2) = 128 + r % 64) : dec s p = (r, 3) := by
  have e : (bt s p - 0xE0) * 4096 + (bt s (p + 1) - 0x80) * 64 + (bt s (p + 2) - 0x80) = r := by omega
  unfold dec; rw [if_neg (by omega), if_neg (by omega), e, if_pos (by omega)]
theorem dec_four {s : ByteArray} {p r : Nat} (h0 : 0x10000 ≤ r) (h1 : r ≤ 0x10FFFF) (hp : p + 3 < s.size) (a : bt s p = 240 + r / 262144) (b : bt s (p + 1) = 128 + r / 4096 % 64) (c : bt s (p + 2) = 128 + r / 64 % 64) (d : bt s (p + 3) = 128 + r % 64) : dec s p = (r, 4) := by
  have e : (bt s p - 0xF0) * 262144 + (bt s (p + 1) - 0x80) * 4096 + (bt s (p + 2) - 0x80) * 64 + (bt s (p + 3) - 0x80) = r := by omega
  unfold dec; rw [if_neg (by omega), if_neg (by omega), if_neg (by omega), e, if_pos (by omega)]

theorem wd_bd (s : ByteArray) (p : Nat) (h : p < s.size) : 1 ≤ wd s p ∧ wd s p ≤ 4 ∧ p + wd s p ≤ s.size := by
  unfold wd
  rcases dec_cases s p with ⟨_, e⟩ | ⟨e, _⟩ | ⟨r, e, _, _, hp, _⟩ | ⟨r, e, _, _, _, hp, _⟩ | ⟨r, e, _, _, hp, _⟩ <;> (rw [e]; simp only []; omega)

theorem rn_bd (s : ByteArray) (p : Nat) : rn s p ≤ 0x10FFFF ∧ ¬ (0xD800 ≤ rn s p ∧ rn s p ≤ 0xDFFF) := by
  unfold rn
  rcases dec_cases s p with ⟨_, e⟩ | ⟨e, _⟩ | ⟨r, e, _, _, hp, _⟩ | ⟨r, e, _, _, _, hp, _⟩ | ⟨r, e, _, _, hp, _⟩ <;> (rw [e]; simp only []; omega)

theorem lo_iff (s : ByteArray) (p : Nat) : lo s p = true ↔ rn s p = 65533 ∧ wd s p = 1 := by
  unfold lo rn wd; rw [decide_eq_true_eq, Prod.ext_iff]

/-- A character that is no loose byte has as many bytes as its rune takes. -/
theorem runeLen_wd (s : ByteArray) (p : Nat) (h : lo s p = false) : Lib.runeLen (rn s p : Int) = (wd s p : Int) := by
  unfold rn wd Lib.runeLen
  unfold lo at h
  rcases dec_cases s p with ⟨hb, e⟩ | ⟨e, _⟩ | ⟨r, e, h1, h2, hp, _⟩ | ⟨r, e, h1, h2, h3, hp, _⟩ | ⟨r, e, h1, h2, hp, _⟩
  all_goals rw [e] at h ⊢
  · simp only []; rw [if_neg (by omega), if_pos (by omega)]; rfl
  · simp at h
  · simp only []; rw [if_neg (by omega), if_neg (by omega), if_pos (by omega)]; rfl
  · simp only []; rw [if_neg (by omega), if_neg (by omega), if_neg (by omega), if_neg (by omega), if_pos (by omega)]; rfl
  · simp only []; rw [if_neg (by omega), if_neg (by omega), if_neg (by omega), if_neg (by omega), if_neg (by omega), if_pos (by omega)]; rfl

/-- The byte at a place, out of the list of bytes. -/
theorem bt_list (s : ByteArray) (p : Nat) (h : p < s.size) : s.data.toList[p]? = some (UInt8.ofNat (bt s p)) := by
  have h2 : p < s.data.size := h
  rw [Array.getElem?_toList, Array.getElem?_eq_getElem h2]
  have : bt s p = (s.data[p]'h2).toNat := by
    have := get_at s p h
    unfold bt
    show (s.get! (p + 0)).toNat = _
    rw [this]; rfl
  rw [this]; simp

theorem drop_bt (s : ByteArray) (p : Nat) (h : p < s.size) : s.data.toList.drop p = UInt8.ofNat (bt s p) :: s.data.toList.drop (p + 1) := by
  have h2 : p < s.data.toList.length := by simpa using h
  have := bt_list s p h
  rw [List.getElem?_eq_getElem h2] at this
  rw [List.drop_eq_getElem_cons h2]
  congr 1
  exact Option.some.inj this

theorem u8_eq {a b : Nat} (ha : a < 256) (hb : b < 256) : UInt8.ofNat a = UInt8.ofNat b ↔ a = b := by
  constructor
  · intro h
    have := congrArg UInt8.toNat h
    simpa [UInt8.toNat_ofNat, Nat.mod_eq_of_lt ha, Nat.mod_eq_of_lt hb] using this
  · rintro rfl; rfl

/-- A well-formed U+FFFD is told by its three bytes. -/
theorem prefix_fffd (s : ByteArray) (p : Nat) (h : p < s.size) (hr : rn s p = 65533) : Lib.hasPrefix (s.data.toList.drop p) [239, 191, 189] = !lo s p := by
  have b0 := bt_lt s p
  have b1 := bt_lt s (p + 1)
  have b2 := bt_lt s (p + 2)
  have three : ∀ (hp : p + 2 < s.size), Lib.hasPrefix (s.data.toList.drop p) [239, 191, 189] = decide (bt s p = 239 ∧ bt s (p + 1) = 191 ∧ bt s (p + 2) = 189) := by
    intro hp
    rw [drop_bt s p h, drop_bt s (p + 1) (by omega), drop_bt s (p + 1 + 1) (by omega)]
    unfold Lib.hasPrefix
    simp only [List.isPrefixOf, Bool.and_true]
    rw [Bool.eq_iff_iff]
    simp only [Bool.and_eq_true, beq_iff_eq, decide_eq_true_eq]
    rw [show (239 : UInt8) = UInt8.ofNat 239 from rfl, show (191 : UInt8) = UInt8.ofNat 191 from rfl, show (189 : UInt8) = UInt8.ofNat 189 from rfl,
      u8_eq (by omega) b0, u8_eq (by omega) b1, show p + 1 + 1 = p + 2 from rfl, u8_eq (by omega) b2]
    omega
  have short : ¬ p + 2 < s.size → Lib.hasPrefix (s.data.toList.drop p) [239, 191, 189] = false := by
    intro hp
    unfold Lib.hasPrefix
    cases hh : [239, 191, 189].isPrefixOf (s.data.toList.drop p) with
    | false => rfl
    | true =>
      have := (List.isPrefixOf_iff_prefix.1 hh).length_le
      rw [List.length_drop] at this
      have e : s.data.toList.length = s.size := by simp
      rw [e] at this
      simp only [List.length_cons, List.length_nil] at this
      omega
  unfold rn at hr
  unfold lo
  rcases dec_cases s p with ⟨hb, e⟩ | ⟨e, hb⟩ | ⟨r, e, h1, h2, hp, _⟩ | ⟨r, e, h1, h2, h3, hp, ha, hb, hc⟩ | ⟨r, e, h1, h2, hp, _⟩
  · rw [e] at hr; simp only [] at hr; omega
  · rw [e]; simp only [decide_true, Bool.not_true]
    by_cases hp : p + 2 < s.size
    · rw [three hp]
      simp only [decide_eq_false_iff_not]
      rintro ⟨ha, hb, hc⟩
      have := dec_three (s := s) (p := p) (r := 65533) (by omega) (by omega) (by omega) hp (by omega) (by omega) (by omega)
      rw [e] at this; simp at this
    · exact short hp
  · rw [e] at hr; simp only [] at hr; omega
  · rw [e] at hr ⊢; simp only [] at hr; subst hr
    rw [three hp]
    simp
    omega
  · rw [e] at hr; simp only [] at hr; omega

end Go.Proofs.Ytcfbbmgpfeholaa
