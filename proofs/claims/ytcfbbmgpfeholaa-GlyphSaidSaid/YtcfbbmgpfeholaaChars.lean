/- Plain facts: the places at which the characters of a text begin. -/
import Derived.Test.YtcfbbmgpfeholaaPure
namespace Go.Proofs.Ytcfbbmgpfeholaa

def sts (s : ByteArray) : Nat → Nat → List Nat
  | 0, _ => []
  | f + 1, p => if p < s.size then p :: sts s f (p + wd s p) else []
/-- The places from p on. -/
def st (s : ByteArray) (p : Nat) : List Nat := sts s (s.size - p) p

theorem sts_stable (s : ByteArray) (f : Nat) : ∀ (g p : Nat), s.size ≤ p + f → s.size ≤ p + g → sts s f p = sts s g p := by
  induction f with
  | zero =>
    intro g p hf _
    cases g with
    | zero => rfl
    | succ g => simp only [sts]; rw [if_neg (by omega)]
  | succ f ih =>
    intro g p hf hg
    cases g with
    | zero => simp only [sts]; rw [if_neg (by omega)]
    | succ g =>
      simp only [sts]
      by_cases h : p < s.size
      · have := wd_bd s p h
        rw [if_pos h, if_pos h, ih g _ (by omega) (by omega)]
      · rw [if_neg h, if_neg h]

theorem st_cons {s : ByteArray} {p : Nat} (h : p < s.size) : st s p = p :: st s (p + wd s p) := by
  unfold st
  have := wd_bd s p h
  rw [sts_stable s (s.size - p) ((s.size - p - 1) + 1) p (by omega) (by omega)]
  simp only [sts]
  rw [if_pos h, sts_stable s _ (s.size - (p + wd s p)) _ (by omega) (by omega)]

theorem st_nil {s : ByteArray} {p : Nat} (h : ¬ p < s.size) : st s p = [] := by
  unfold st; rw [show s.size - p = 0 from by omega]; rfl

theorem st_len (s : ByteArray) (p : Nat) : (st s p).length ≤ s.size - p := by
  have : ∀ d p, s.size - p ≤ d → (st s p).length ≤ s.size - p := by
    intro d
    induction d with
    | zero => intro p h; rw [st_nil (by omega)]; simp
    | succ d ih =>
      intro p h
      by_cases hp : p < s.size
      · have := wd_bd s p hp
        have := ih (p + wd s p) (by omega)
        rw [st_cons hp, List.length_cons]; omega
      · rw [st_nil hp]; simp
  exact this _ p (Nat.le_refl _)

theorem st_mem {s : ByteArray} (d : Nat) : ∀ p, s.size - p ≤ d → ∀ q ∈ st s p, p ≤ q ∧ q < s.size := by
  induction d with
  | zero => intro p h q hq; rw [st_nil (by omega)] at hq; simp at hq
  | succ d ih =>
    intro p h q hq
    by_cases hp : p < s.size
    · have hw := wd_bd s p hp
      rw [st_cons hp] at hq
      rcases List.mem_cons.1 hq with rfl | hq
      · omega
      · have := ih (p + wd s p) (by omega) q hq; omega
    · rw [st_nil hp] at hq; simp at hq

/-- The place at which the character k begins; the text's end where there is none. -/
def posOf (s : ByteArray) (k : Nat) : Nat := (st s 0).getD k s.size

theorem st_sorted (s : ByteArray) : ∀ d p, s.size - p ≤ d → (st s p).Pairwise (· < ·) := by
  intro d
  induction d with
  | zero => intro p h; rw [st_nil (by omega)]; exact List.Pairwise.nil
  | succ d ih =>
    intro p h
    by_cases hp : p < s.size
    · have hw := wd_bd s p hp
      rw [st_cons hp]
      refine List.Pairwise.cons ?_ (ih _ (by omega))
      intro q hq
      have := st_mem _ _ (Nat.le_refl _) q hq
      omega
    · rw [st_nil hp]; exact List.Pairwise.nil

theorem posOf_le (s : ByteArray) (k : Nat) : posOf s k ≤ s.size := by
  unfold posOf
  rw [List.getD_eq_getElem?_getD]
  cases h : (st s 0)[k]? with
  | none => simp
  | some q => have := st_mem _ _ (Nat.le_refl _) q (List.mem_of_getElem? h); simp; omega

theorem posOf_mono (s : ByteArray) {j k : Nat} (h : j ≤ k) : posOf s j ≤ posOf s k := by
  by_cases hk : k < (st s 0).length
  · unfold posOf
    rw [List.getD_eq_getElem?_getD, List.getD_eq_getElem?_getD, List.getElem?_eq_getElem hk, List.getElem?_eq_getElem (by omega : j < (st s 0).length)]
    simp only [Option.getD_some]
    by_cases e : j = k
    · subst e; exact Nat.le_refl _
    · exact Nat.le_of_lt (List.pairwise_iff_getElem.1 (st_sorted s _ 0 (Nat.le_refl _)) j k (by omega) hk (by omega))
  · have : posOf s k = s.size := by
      unfold posOf
      rw [List.getD_eq_getElem?_getD, List.getElem?_eq_none (by omega)]; rfl
    rw [this]; exact posOf_le s j

theorem posOf_zero (s : ByteArray) : posOf s 0 = 0 := by
  unfold posOf
  by_cases h : 0 < s.size
  · rw [st_cons h]; rfl
  · rw [st_nil h]; show s.size = 0; omega

theorem posOf_end (s : ByteArray) {k : Nat} (h : (st s 0).length ≤ k) : posOf s k = s.size := by
  unfold posOf
  rw [List.getD_eq_getElem?_getD, List.getElem?_eq_none h]; rfl

theorem posOf_at {s : ByteArray} {pre : List Nat} {pos : Nat} (h : st s 0 = pre ++ st s pos) (hp : pos ≤ s.size) : posOf s pre.length = pos := by
  unfold posOf
  rw [h]
  by_cases hlt : pos < s.size
  · rw [st_cons hlt, List.getD_eq_getElem?_getD, List.getElem?_append_right (Nat.le_refl _)]; simp
  · rw [st_nil hlt, List.getD_eq_getElem?_getD, List.getElem?_append_right (Nat.le_refl _)]; simp; omega

theorem st_split {s : ByteArray} : ∀ d p, s.size - p ≤ d → ∀ {k q : Nat}, (st s p)[k]? = some q → st s p = (st s p).take k ++ st s q := by
  intro d
  induction d with
  | zero => intro p h k q hq; rw [st_nil (by omega)] at hq; simp at hq
  | succ d ih =>
    intro p h k q hq
    by_cases hp : p < s.size
    · have hw := wd_bd s p hp
      cases k with
      | zero => rw [st_cons hp] at hq; simp at hq; subst hq; simp
      | succ k =>
        rw [st_cons hp] at hq ⊢
        simp only [List.getElem?_cons_succ] at hq
        have := ih _ (by omega) hq
        rw [List.take_succ_cons, List.cons_append, ← this]
    · rw [st_nil hp] at hq; simp at hq

/-- The next character begins where this one ends. -/
theorem posOf_next {s : ByteArray} {k q : Nat} (h : (st s 0)[k]? = some q) : q + wd s q = posOf s (k + 1) := by
  have hq := st_mem _ _ (Nat.le_refl _) q (List.mem_of_getElem? h)
  have hk := (List.getElem?_eq_some_iff.1 h).1
  have hw := wd_bd s q hq.2
  have e := st_split _ 0 (Nat.le_refl _) h
  rw [st_cons hq.2] at e
  have e2 : st s 0 = ((st s 0).take k ++ [q]) ++ st s (q + wd s q) := by rw [List.append_assoc]; exact e
  have := posOf_at e2 (by omega)
  rw [← this]
  congr 1
  simp; omega

end Go.Proofs.Ytcfbbmgpfeholaa
