/- Plain facts: escapes: what a text says that begins with a backslash. -/
import Derived.Test.YtcfbbmgpfeholaaGlyphQuote
namespace Go.Proofs.Ytcfbbmgpfeholaa
set_option linter.unusedVariables false
set_option linter.unusedSimpArgs false

/-- The byte at a place; nought behind the end. -/
def ab (t : ByteArray) (i : Nat) : Nat := if i < t.size then bt t i else 0
theorem ab_lt (t : ByteArray) (i : Nat) : ab t i < 256 := by
  unfold ab
  split
  · exact bt_lt t i
  · decide
/-- A hexadecimal digit's value. -/
def dg (b : Nat) : Option Nat := if 48 ≤ b ∧ b ≤ 57 then some (b - 48) else if 97 ≤ b ∧ b ≤ 102 then some (b - 87) else if 65 ≤ b ∧ b ≤ 70 then some (b - 55) else none
theorem dg_lt {b d : Nat} (h : dg b = some d) : d < 16 := by
  unfold dg at h
  split at h
  · injection h with h; omega
  · split at h
    · injection h with h; omega
    · split at h
      · injection h with h; omega
      · cases h
/-- The value of the first k digits of a number in braces. -/
def hv (t : ByteArray) : Nat → Nat
  | 0 => 0
  | k + 1 => 16 * hv t k + (dg (ab t (3 + k))).getD 0
def hnF (t : ByteArray) : Nat → Nat → Nat
  | 0, k => k
  | f + 1, k => if (dg (ab t (3 + k))).isSome = true then hnF t f (k + 1) else k
/-- How many digits it has (six at most). -/
def hn (t : ByteArray) : Nat := hnF t 6 0
def okB (r : Nat) : Bool := decide (r ≤ 0x10FFFF) && !(decide (0xD800 ≤ r) && decide (r ≤ 0xDFFF))
theorem okB_iff (r : Nat) : okB r = true ↔ okR r := by
  unfold okB okR
  simp only [Bool.and_eq_true, decide_eq_true_eq, Bool.not_eq_true', Bool.and_eq_false_iff, decide_eq_false_iff_not]
  omega
/-- What an escape says, and how many bytes it has. -/
def escV (t : ByteArray) : Option (List UInt8 × Nat) :=
  if ab t 1 = 34 ∨ ab t 1 = 92 then some ([UInt8.ofNat (ab t 1)], 2)
  else if ab t 1 = 110 then some ([10], 2)
  else if ab t 1 = 116 then some ([9], 2)
  else if ab t 1 = 114 then some ([13], 2)
  else if ab t 1 = 120 then (match dg (ab t 2), dg (ab t 3) with | some a, some b => some ([UInt8.ofNat (16 * a + b)], 4) | _, _ => none)
  else if ab t 1 = 117 then (if ab t 2 = 123 ∧ hn t ≠ 0 ∧ ab t (3 + hn t) = 125 ∧ okB (hv t (hn t)) = true then some (enc (hv t (hn t)), 4 + hn t) else none)
  else none
def escA (t : ByteArray) : Value := match escV t with
  | some (l, n) => .tuple #[.string ⟨l.toArray⟩, .int .i64 (n : Nat), .bool true]
  | none => .tuple #[.string ⟨#[]⟩, .int .i64 0, .bool false]

theorem ab_list {t : ByteArray} {l : List UInt8} (h : t.data.toList = l) {i : Nat} {b : UInt8} (hb : l[i]? = some b) : ab t i = b.toNat := by
  have hi := (List.getElem?_eq_some_iff.1 hb).1
  have hd : t.data.toList.drop i = b :: t.data.toList.drop (i + 1) := by
    have h2 : i < t.data.toList.length := by rw [h]; exact hi
    rw [List.drop_eq_getElem_cons h2]
    congr 1
    have : t.data.toList[i]? = some b := by rw [h]; exact hb
    rw [List.getElem?_eq_getElem h2] at this
    exact Option.some.inj this
  obtain ⟨h1, h2, _⟩ := bt_at hd
  unfold ab
  rw [if_pos h1, h2]

/-- The digits of a number, as numbers. -/
def digF : Nat → Nat → List Nat
  | 0, _ => []
  | f + 1, r => if r = 0 then [] else digF f (r / 16) ++ [r % 16]
theorem digF_hex (f r : Nat) : hexF f r = (digF f r).map hexd := by
  induction f generalizing r with
  | zero => rfl
  | succ f ih =>
    unfold hexF digF
    split
    · rfl
    · rw [ih, List.map_append]; rfl
theorem digF_lt (f r : Nat) : ∀ d ∈ digF f r, d < 16 := by
  induction f generalizing r with
  | zero => intro d hd; cases hd
  | succ f ih =>
    intro d hd
    unfold digF at hd
    split at hd
    · cases hd
    · rcases List.mem_append.1 hd with hd | hd
      · exact ih _ d hd
      · obtain rfl := List.mem_singleton.1 hd
        exact Nat.mod_lt _ (by decide)
theorem digF_val (f r : Nat) (h : r < 16 ^ f) : (digF f r).foldl (fun a d => 16 * a + d) 0 = r := by
  induction f generalizing r with
  | zero => simp at h; subst h; rfl
  | succ f ih =>
    unfold digF
    split
    · simp_all
    · rw [List.foldl_append, ih (r / 16) (by rw [Nat.pow_succ] at h; omega)]
      simp only [List.foldl_cons, List.foldl_nil]
      omega
theorem digF_len (f r n : Nat) (h : r < 16 ^ n) : (digF f r).length ≤ n := by
  induction n generalizing f r with
  | zero =>
    have : r = 0 := by simp at h; exact h
    subst this
    cases f <;> simp [digF]
  | succ n ih =>
    cases f with
    | zero => simp [digF]
    | succ f =>
      unfold digF
      split
      · simp
      · rw [List.length_append]
        have := ih f (r / 16) (by rw [Nat.pow_succ] at h; omega)
        simp; omega
theorem dg_hexd {d : Nat} (h : d < 16) : dg (hexd d).toNat = some d := by
  have : ∀ d : Fin 16, dg (hexd d.val).toNat = some d.val := by decide
  exact this ⟨d, h⟩
theorem digF_pos (f : Nat) {r : Nat} (h : 0 < r) : 1 ≤ (digF (f + 1) r).length := by
  unfold digF
  rw [if_neg (by omega), List.length_append]
  simp
section
variable {t : ByteArray} {ds : List Nat} {rest : List UInt8}
theorem brace_at (h : t.data.toList = 92 :: 117 :: 123 :: (ds.map hexd ++ 125 :: rest)) {k d : Nat} (hk : ds[k]? = some d) : ab t (3 + k) = (hexd d).toNat := by
  refine ab_list h ?_
  rw [Nat.add_comm 3 k]
  show (ds.map hexd ++ 125 :: rest)[k]? = _
  rw [List.getElem?_append_left (by rw [List.length_map]; exact (List.getElem?_eq_some_iff.1 hk).1), List.getElem?_map, hk]
  rfl
theorem brace_end (h : t.data.toList = 92 :: 117 :: 123 :: (ds.map hexd ++ 125 :: rest)) : ab t (3 + ds.length) = 125 := by
  refine (ab_list h (b := 125) ?_).trans rfl
  rw [Nat.add_comm 3]
  show (ds.map hexd ++ 125 :: rest)[ds.length]? = _
  rw [List.getElem?_append_right (by rw [List.length_map]; exact Nat.le_refl _), List.length_map, Nat.sub_self]
  rfl
theorem hnF_is (h : t.data.toList = 92 :: 117 :: 123 :: (ds.map hexd ++ 125 :: rest)) (hd : ∀ d ∈ ds, d < 16) (f : Nat) : ∀ k, k ≤ ds.length → ds.length ≤ k + f → hnF t f k = ds.length := by
  induction f with
  | zero => intro k h1 h2; show k = _; omega
  | succ f ih =>
    intro k h1 h2
    unfold hnF
    rcases Nat.lt_or_ge k ds.length with hlt | hge
    · have hk := List.getElem?_eq_getElem hlt
      rw [brace_at h hk, dg_hexd (hd _ (List.getElem_mem hlt))]
      rw [if_pos (by rfl)]
      exact ih (k + 1) (by omega) (by omega)
    · obtain rfl : k = ds.length := by omega
      rw [brace_end h]
      rfl
theorem hv_is (h : t.data.toList = 92 :: 117 :: 123 :: (ds.map hexd ++ 125 :: rest)) (hd : ∀ d ∈ ds, d < 16) : ∀ k, k ≤ ds.length → hv t k = (ds.take k).foldl (fun a d => 16 * a + d) 0 := by
  intro k
  induction k with
  | zero => intro _; rfl
  | succ k ih =>
    intro hk
    have hlt : k < ds.length := by omega
    have hg := List.getElem?_eq_getElem hlt
    unfold hv
    rw [ih (by omega), brace_at h hg, dg_hexd (hd _ (List.getElem_mem hlt)), List.take_add_one, hg, List.foldl_append]
    rfl
end
/-- A rune told by its number. -/
theorem esc_brace {t : ByteArray} {r : Nat} {rest : List UInt8} (h : t.data.toList = 92 :: 117 :: 123 :: (hexL r ++ 125 :: rest)) (h0 : 0 < r) (hr : r < 65536) (hok : okR r) : escV t = some (enc r, 4 + (hexL r).length) := by
  unfold hexL at h ⊢
  rw [digF_hex] at h ⊢
  have hd := digF_lt 8 r
  have hlen := digF_len 8 r 4 (by omega)
  have hpos := digF_pos 7 h0
  have hval := digF_val 8 r (by omega)
  generalize digF 8 r = ds at *
  have hn' : hn t = ds.length := hnF_is h hd 6 0 (Nat.zero_le _) (by omega)
  have hv' : hv t ds.length = r := by rw [hv_is h hd _ (Nat.le_refl _), List.take_length, hval]
  have e1 : ab t 1 = 117 := (ab_list h (b := 117) rfl).trans rfl
  have e2 : ab t 2 = 123 := (ab_list h (b := 123) rfl).trans rfl
  unfold escV
  rw [e1, e2, hn', hv', brace_end h]
  rw [if_neg (by decide), if_neg (by decide), if_neg (by decide), if_neg (by decide), if_neg (by decide), if_pos rfl, if_pos ⟨rfl, by omega, rfl, (okB_iff r).2 hok⟩, List.length_map]
theorem esc_two {t : ByteArray} {b : Nat} {rest : List UInt8} (hb : b < 256) (h : t.data.toList = 92 :: 120 :: hexd (b / 16) :: hexd (b % 16) :: rest) : escV t = some ([UInt8.ofNat b], 4) := by
  have e1 : ab t 1 = 120 := (ab_list h (b := 120) rfl).trans rfl
  have e2 := ab_list h (i := 2) rfl
  have e3 := ab_list h (i := 3) rfl
  unfold escV
  rw [e1, e2, e3, dg_hexd (by omega), dg_hexd (by omega)]
  rw [if_neg (by decide), if_neg (by decide), if_neg (by decide), if_neg (by decide), if_pos rfl]
  simp only
  rw [show 16 * (b / 16) + b % 16 = b by omega]
theorem esc_one {t : ByteArray} {b c : UInt8} {rest : List UInt8} (h : t.data.toList = 92 :: b :: rest) (hc : (b = 34 ∧ c = 34) ∨ (b = 92 ∧ c = 92) ∨ (b = 110 ∧ c = 10) ∨ (b = 116 ∧ c = 9) ∨ (b = 114 ∧ c = 13)) : escV t = some ([c], 2) := by
  have e1 := ab_list h (i := 1) rfl
  unfold escV
  rw [e1]
  rcases hc with ⟨rfl, rfl⟩ | ⟨rfl, rfl⟩ | ⟨rfl, rfl⟩ | ⟨rfl, rfl⟩ | ⟨rfl, rfl⟩ <;> rfl
end Go.Proofs.Ytcfbbmgpfeholaa
