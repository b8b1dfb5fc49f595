/- Plain: what reading the signs of nodes comes to. -/
import Derived.Test.YthbejpgeohhppaaClass
import Derived.Test.YthbejpgeohhppaaRunes
namespace Go.Proofs.Ythbejpgeohhppaa
set_option linter.unusedVariables false

/-- The characters that are left, behind some signs: the signs (none: an error), the place, the error. -/
def rdGo (s : ByteArray) : List Nat → List Nat → Option (List Nat) × Nat × Int
  | [], acc => (some acc, 0, 0)
  | p :: ps, acc =>
    if classN (rn s p) ≠ 4 then (none, acc.length, 41) else if rn s p ∈ acc then (none, acc.length, 42) else if acc.length = 100 then (none, acc.length, 2) else rdGo s ps (acc ++ [rn s p])
def readV (s : ByteArray) : Option (List Nat) × Nat × Int :=
  if 65536 < s.size then (none, 0, 2) else if s.size = 0 then (none, 0, 40) else rdGo s (st s 0) []

theorem rdGo_some {s : ByteArray} {l : List Nat} {a : Nat} {e : Int} : ∀ (ps acc : List Nat), rdGo s ps acc = (some l, a, e) →
    a = 0 ∧ e = 0 ∧ l = acc ++ ps.map (rn s) ∧ (acc.Nodup → l.Nodup) ∧ (acc.length ≤ 100 → l.length ≤ 100) ∧ ∀ p ∈ ps, classN (rn s p) = 4
  | [], acc, h => by
    simp only [rdGo, Prod.mk.injEq, Option.some.injEq] at h
    obtain ⟨rfl, rfl, rfl⟩ := h
    exact ⟨rfl, rfl, by simp, id, id, by simp⟩
  | p :: ps, acc, h => by
    unfold rdGo at h
    by_cases h1 : classN (rn s p) = 4
    · by_cases h2 : rn s p ∈ acc
      · simp [h1, h2] at h
      · by_cases h3 : acc.length = 100
        · simp [h1, h2, h3] at h
        · simp only [h1, ne_eq, not_true, if_false, h2, h3] at h
          obtain ⟨k1, k2, k3, k4, k5, k6⟩ := rdGo_some ps _ h
          refine ⟨k1, k2, by rw [k3]; simp, fun hn => k4 ?_, fun hl => k5 (by simp; omega), ?_⟩
          · rw [List.nodup_append]
            exact ⟨hn, by simp, fun x hx y hy => by simp at hy; subst hy; exact fun e => h2 (e ▸ hx)⟩
          · intro q hq
            rcases List.mem_cons.1 hq with rfl | hq
            · exact h1
            · exact k6 q hq
    · simp [h1] at h

theorem rdGo_none {s : ByteArray} {a : Nat} {e : Int} : ∀ (ps acc : List Nat), acc.length ≤ 100 → rdGo s ps acc = (none, a, e) → a ≤ 100 ∧ (e = 41 ∨ e = 42 ∨ e = 2)
  | [], acc, _, h => by simp [rdGo] at h
  | p :: ps, acc, hl, h => by
    unfold rdGo at h
    by_cases h1 : classN (rn s p) = 4
    · by_cases h2 : rn s p ∈ acc
      · simp [h1, h2] at h; omega
      · by_cases h3 : acc.length = 100
        · simp [h1, h2, h3] at h; omega
        · simp only [h1, ne_eq, not_true, if_false, h2, h3] at h
          exact rdGo_none ps _ (by simp; omega) h
    · simp [h1] at h; omega

theorem class_fffd : classN 65533 ≠ 4 := by decide +kernel
theorem plain_of_class {s : ByteArray} (h : ∀ p ∈ st s 0, classN (rn s p) = 4) : ∀ p ∈ st s 0, lo s p = false := by
  intro p hp
  cases hl : lo s p with
  | false => rfl
  | true =>
    have := h p hp
    rw [((lo_iff s p).1 hl).1] at this
    exact absurd this class_fffd

theorem readV_some {s : ByteArray} {l : List Nat} {a : Nat} {e : Int} (h : readV s = (some l, a, e)) :
    a = 0 ∧ e = 0 ∧ l = rs s ∧ l.Nodup ∧ 1 ≤ l.length ∧ l.length ≤ 100 ∧ (∀ r ∈ l, classN r = 4 ∧ okR r) ∧ txt l = s ∧ 1 ≤ s.size ∧ s.size ≤ 65536 ∧ ∀ p ∈ st s 0, lo s p = false := by
  unfold readV at h
  by_cases h1 : 65536 < s.size
  · simp [h1] at h
  by_cases h2 : s.size = 0
  · simp [h2] at h
  simp only [h1, h2, if_false] at h
  obtain ⟨k1, k2, k3, k4, k5, k6⟩ := rdGo_some _ _ h
  rw [List.nil_append] at k3
  have hp := plain_of_class k6
  refine ⟨k1, k2, k3, k4 (by simp), ?_, k5 (by simp), ?_, by rw [k3]; exact txt_rs hp, by omega, by omega, hp⟩
  · rw [k3, List.length_map, st_cons (by omega)]
    simp
  · intro r hr
    rw [k3] at hr
    have hok := rs_ok s r hr
    obtain ⟨p, hp, rfl⟩ := List.mem_map.1 hr
    exact ⟨k6 p hp, hok⟩

theorem readV_none {s : ByteArray} {a : Nat} {e : Int} (h : readV s = (none, a, e)) : a ≤ 100 ∧ (e = 41 ∨ e = 42 ∨ e = 2 ∨ e = 40) := by
  unfold readV at h
  by_cases h1 : 65536 < s.size
  · simp [h1] at h; omega
  by_cases h2 : s.size = 0
  · simp [h2] at h; omega
  simp only [h1, h2, if_false] at h
  have := rdGo_none _ _ (by simp) h
  omega
end Go.Proofs.Ythbejpgeohhppaa
