/- Plain facts: texts that are spelt out of runes. -/
import Derived.Test.YtcfbbmgpfeholaaChars
namespace Go.Proofs.Ytcfbbmgpfeholaa
set_option linter.unusedVariables false

def okR (r : Nat) : Prop := r ≤ 0x10FFFF ∧ ¬ (0xD800 ≤ r ∧ r ≤ 0xDFFF)
/-- A rune's bytes, as numbers. -/
def encN (r : Nat) : List Nat :=
  if r ≤ 127 then [r] else if r ≤ 2047 then [192 + r / 64, 128 + r % 64]
  else if r ≤ 65535 then [224 + r / 4096, 128 + r / 64 % 64, 128 + r % 64]
  else [240 + r / 262144, 128 + r / 4096 % 64, 128 + r / 64 % 64, 128 + r % 64]
def enc (r : Nat) : List UInt8 := (encN r).map UInt8.ofNat
theorem encN_len (r : Nat) : 1 ≤ (encN r).length ∧ (encN r).length ≤ 4 := by
  unfold encN; split
  · simp
  · split
    · simp
    · split <;> simp
theorem enc_len (r : Nat) : 1 ≤ (enc r).length ∧ (enc r).length ≤ 4 := by unfold enc; rw [List.length_map]; exact encN_len r

theorem enc_encodeRune {r : Nat} (h : okR r) : Lib.encodeRune (r : Int) = enc r := by
  obtain ⟨h1, h2⟩ := h
  unfold Lib.encodeRune enc encN
  by_cases a : r ≤ 127
  · rw [if_pos a, Lib.encodeRuneZ_one (by omega) (by omega)]; simp
  · rw [if_neg a]
    by_cases b : r ≤ 2047
    · rw [if_pos b, Lib.encodeRuneZ_two (by omega) (by omega)]
      simp only [List.map_cons, List.map_nil]
      rw [show (192 + (r : Int) / 64).toNat = 192 + r / 64 from by omega, show (128 + (r : Int) % 64).toNat = 128 + r % 64 from by omega]
    · rw [if_neg b]
      by_cases c : r ≤ 65535
      · rw [if_pos c, Lib.encodeRuneZ_three (by omega)]
        simp only [List.map_cons, List.map_nil]
        rw [show (224 + (r : Int) / 4096).toNat = 224 + r / 4096 from by omega, show (128 + (r : Int) / 64 % 64).toNat = 128 + r / 64 % 64 from by omega, show (128 + (r : Int) % 64).toNat = 128 + r % 64 from by omega]
      · rw [if_neg c, Lib.encodeRuneZ_four (by omega) (by omega)]
        simp only [List.map_cons, List.map_nil]
        rw [show (240 + (r : Int) / 262144).toNat = 240 + r / 262144 from by omega, show (128 + (r : Int) / 4096 % 64).toNat = 128 + r / 4096 % 64 from by omega, show (128 + (r : Int) / 64 % 64).toNat = 128 + r / 64 % 64 from by omega, show (128 + (r : Int) % 64).toNat = 128 + r % 64 from by omega]

/-- The bytes of the character at a place. -/
def bl (s : ByteArray) (p : Nat) : List UInt8 := (s.data.toList.drop p).take (wd s p)
theorem bl_extract (s : ByteArray) (p : Nat) : (s.extract p (p + wd s p)).data.toList = bl s p := by
  unfold bl; simp [ByteArray.data_extract, List.extract]
theorem bl_len (s : ByteArray) (p : Nat) (h : p < s.size) : (bl s p).length = wd s p := by
  have := wd_bd s p h
  have e : s.data.toList.length = s.size := by simp
  unfold bl; rw [List.length_take, List.length_drop, e]; omega

theorem bl_enc (s : ByteArray) (p : Nat) (h : p < s.size) (hl : lo s p = false) : bl s p = enc (rn s p) := by
  unfold bl wd rn enc encN
  unfold lo at hl
  rcases dec_cases s p with ⟨hb, e⟩ | ⟨e, _⟩ | ⟨r, e, h1, h2, hp, ha, hb⟩ | ⟨r, e, h1, h2, h3, hp, ha, hb, hc⟩ | ⟨r, e, h1, h2, hp, ha, hb, hc, hd⟩
  · rw [e]; simp only []; rw [if_pos (by omega), drop_bt s p h]; simp
  · rw [e] at hl; simp at hl
  · rw [e]; simp only []; rw [if_neg (by omega), if_pos (by omega), drop_bt s p h, drop_bt s (p + 1) (by omega), ha, hb]; simp
  · rw [e]; simp only []; rw [if_neg (by omega), if_neg (by omega), if_pos (by omega), drop_bt s p h, drop_bt s (p + 1) (by omega), drop_bt s (p + 1 + 1) (by omega), ha, hb, show p + 1 + 1 = p + 2 from rfl, hc]; simp
  · rw [e]; simp only []; rw [if_neg (by omega), if_neg (by omega), if_neg (by omega), drop_bt s p h, drop_bt s (p + 1) (by omega), drop_bt s (p + 1 + 1) (by omega), drop_bt s (p + 1 + 1 + 1) (by omega), ha, hb, show p + 1 + 1 = p + 2 from rfl, show p + 2 + 1 = p + 3 from rfl, hc, hd]; simp

/-- The bytes of the whole are those of the characters. -/
theorem bl_all (s : ByteArray) : ∀ d p, s.size - p ≤ d → s.data.toList.drop p = (st s p).flatMap (bl s) := by
  intro d
  induction d with
  | zero => intro p h; rw [st_nil (by omega), List.drop_eq_nil_of_le (by simp; omega)]; rfl
  | succ d ih =>
    intro p h
    by_cases hp : p < s.size
    · have hw := wd_bd s p hp
      rw [st_cons hp, List.flatMap_cons, ← ih _ (by omega)]
      unfold bl
      rw [← List.drop_drop, List.take_append_drop]
    · rw [st_nil hp, List.drop_eq_nil_of_le (by simp; omega)]; rfl

/-- A rune's bytes at a place are read as that rune. -/
theorem bt_at {s : ByteArray} {p : Nat} {l : List UInt8} {b : UInt8} (h : s.data.toList.drop p = b :: l) : p < s.size ∧ bt s p = b.toNat ∧ s.data.toList.drop (p + 1) = l := by
  have hlt : p < s.size := by
    by_cases hlt : p < s.size
    · exact hlt
    · rw [List.drop_eq_nil_of_le (by simp; omega)] at h; cases h
  have e := drop_bt s p hlt
  rw [h] at e
  injection e with e1 e2
  refine ⟨hlt, ?_, e2.symm⟩
  rw [e1, UInt8.toNat_ofNat', Nat.mod_eq_of_lt (bt_lt s p)]

theorem dec_enc {s : ByteArray} {p r : Nat} {l : List UInt8} (hr : okR r) (h : s.data.toList.drop p = enc r ++ l) : p < s.size ∧ dec s p = (r, (enc r).length) ∧ s.data.toList.drop (p + (enc r).length) = l := by
  obtain ⟨h1, h2⟩ := hr
  have hd : s.data.toList.drop (p + (enc r).length) = l := by
    rw [← List.drop_drop, h, List.drop_left]
  unfold enc encN at h hd ⊢
  by_cases a : r ≤ 127
  · rw [if_pos a] at h hd ⊢
    simp only [List.map_cons, List.map_nil, List.cons_append, List.nil_append] at h
    obtain ⟨b0, b1, _⟩ := bt_at h
    rw [UInt8.toNat_ofNat', Nat.mod_eq_of_lt (by omega)] at b1
    refine ⟨b0, ?_, hd⟩
    rw [dec_one (by omega), b1]; rfl
  · rw [if_neg a] at h hd ⊢
    by_cases b : r ≤ 2047
    · rw [if_pos b] at h hd ⊢
      simp only [List.map_cons, List.map_nil, List.cons_append, List.nil_append] at h
      obtain ⟨b0, b1, h⟩ := bt_at h
      obtain ⟨c0, c1, h⟩ := bt_at h
      rw [UInt8.toNat_ofNat', Nat.mod_eq_of_lt (by omega)] at b1 c1
      exact ⟨b0, dec_two (by omega) (by omega) c0 b1 c1, hd⟩
    · rw [if_neg b] at h hd ⊢
      by_cases c : r ≤ 65535
      · rw [if_pos c] at h hd ⊢
        simp only [List.map_cons, List.map_nil, List.cons_append, List.nil_append] at h
        obtain ⟨b0, b1, h⟩ := bt_at h
        obtain ⟨c0, c1, h⟩ := bt_at h
        obtain ⟨d0, d1, h⟩ := bt_at h
        rw [UInt8.toNat_ofNat', Nat.mod_eq_of_lt (by omega)] at b1 c1 d1
        exact ⟨b0, dec_three (by omega) (by omega) h2 d0 b1 c1 d1, hd⟩
      · rw [if_neg c] at h hd ⊢
        simp only [List.map_cons, List.map_nil, List.cons_append, List.nil_append] at h
        obtain ⟨b0, b1, h⟩ := bt_at h
        obtain ⟨c0, c1, h⟩ := bt_at h
        obtain ⟨d0, d1, h⟩ := bt_at h
        obtain ⟨e0, e1, h⟩ := bt_at h
        rw [UInt8.toNat_ofNat', Nat.mod_eq_of_lt (by omega)] at b1 c1 d1 e1
        exact ⟨b0, dec_four (by omega) (by omega) e0 b1 c1 d1 e1, hd⟩

theorem lo_enc {s : ByteArray} {p r : Nat} (h : dec s p = (r, (enc r).length)) : lo s p = false := by
  unfold lo
  rw [h, decide_eq_false_iff_not]
  intro e
  injection e with e1 e2
  subst e1
  revert e2
  decide

/-- The runes of a text; the text of some runes. -/
def rs (s : ByteArray) : List Nat := (st s 0).map (rn s)
def txt (l : List Nat) : ByteArray := ⟨(l.flatMap enc).toArray⟩

theorem spelt {s : ByteArray} : ∀ (l : List Nat) (p : Nat), (∀ r ∈ l, okR r) → s.data.toList.drop p = l.flatMap enc → p ≤ s.size →
    (st s p).map (rn s) = l ∧ ∀ q ∈ st s p, lo s q = false := by
  intro l
  induction l with
  | nil =>
    intro p _ h hp
    have : ¬ p < s.size := fun hlt => by rw [drop_bt s p hlt] at h; cases h
    rw [st_nil this]; simp
  | cons r l ih =>
    intro p hok h hp
    rw [List.flatMap_cons] at h
    obtain ⟨h0, h1, h2⟩ := dec_enc (hok r (by simp)) h
    have hw : wd s p = (enc r).length := by unfold wd; rw [h1]
    have hb := wd_bd s p h0
    obtain ⟨i1, i2⟩ := ih (p + (enc r).length) (fun x hx => hok x (by simp [hx])) h2 (by omega)
    rw [st_cons h0, hw]
    refine ⟨?_, ?_⟩
    · rw [List.map_cons, i1]; unfold rn; rw [h1]
    · intro q hq
      rcases List.mem_cons.1 hq with rfl | hq
      · exact lo_enc h1
      · exact i2 q hq

theorem txt_list (l : List Nat) : (txt l).data.toList = l.flatMap enc := by simp [txt]
theorem txt_size (l : List Nat) : (txt l).size = (l.flatMap enc).length := by
  rw [← txt_list]; simp
theorem rs_txt {l : List Nat} (h : ∀ r ∈ l, okR r) : rs (txt l) = l := (spelt l 0 h (by rw [List.drop_zero, txt_list]) (by omega)).1
theorem plain_txt {l : List Nat} (h : ∀ r ∈ l, okR r) : ∀ q ∈ st (txt l) 0, lo (txt l) q = false := (spelt l 0 h (by rw [List.drop_zero, txt_list]) (by omega)).2
theorem rs_ok (s : ByteArray) : ∀ r ∈ rs s, okR r := by
  intro r hr
  obtain ⟨q, _, rfl⟩ := List.mem_map.1 hr
  exact rn_bd s q
theorem ba_ext {a b : ByteArray} (h : a.data.toList = b.data.toList) : a = b := by
  cases a; cases b; congr 1; exact Array.toList_inj.1 h
theorem txt_rs {s : ByteArray} (h : ∀ q ∈ st s 0, lo s q = false) : txt (rs s) = s := by
  refine ba_ext ?_
  rw [txt_list, rs, List.flatMap_map]
  have := bl_all s _ 0 (Nat.le_refl _)
  rw [List.drop_zero] at this
  rw [this, List.flatMap_def, List.flatMap_def]
  congr 1
  refine List.map_congr_left fun q hq => ?_
  rw [bl_enc s q (st_mem _ _ (Nat.le_refl _) q hq).2 (h q hq)]
theorem flat_len (l : List Nat) : l.length ≤ (l.flatMap enc).length ∧ (l.flatMap enc).length ≤ 4 * l.length := by
  induction l with
  | nil => simp
  | cons r l ih => have := enc_len r; rw [List.flatMap_cons, List.length_append, List.length_cons]; omega
/-- What is plain, as one test. -/
def plainB (s : ByteArray) : Bool := (st s 0).all fun p => !lo s p
theorem plainB_iff (s : ByteArray) : plainB s = true ↔ ∀ q ∈ st s 0, lo s q = false := by unfold plainB; simp
theorem plain_back {s : ByteArray} (h : txt (rs s) = s) : plainB s = true := by
  rw [plainB_iff]
  have := plain_txt (rs_ok s)
  rwa [h] at this

end Go.Proofs.Ytcfbbmgpfeholaa
