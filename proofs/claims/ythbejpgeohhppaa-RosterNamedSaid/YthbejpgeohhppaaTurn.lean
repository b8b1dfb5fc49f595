/- Plain: signs in any order are the same set. -/
import Derived.Test.YthbejpgeohhppaaPa
import Derived.Laws.Cover4
import Derived.Laws.IdiomStrings
namespace Go.Proofs.Ythbejpgeohhppaa
set_option linter.unusedVariables false
open Go.RowKit

/-- The same, of runes alone. -/
def paR (l : List Nat) : List Nat → Nat → Option Nat
  | [], x => some x
  | r :: rs, x =>
    match fnd l r with
    | none => none
    | some k => if x.testBit k then none else paR l rs (x ||| 2 ^ k)
theorem paGo_paR (l : List Nat) (s : ByteArray) : ∀ (ps : List Nat) (x a : Nat), ((paGo l s ps x a).2.2 = 0 → paR l (ps.map (rn s)) x = some (paGo l s ps x a).1) ∧ ∀ y, paR l (ps.map (rn s)) x = some y → paGo l s ps x a = (y, 0, 0)
  | [], x, a => ⟨fun _ => rfl, fun y h => by simp only [paR, List.map_nil, Option.some.injEq] at h; subst h; rfl⟩
  | p :: ps, x, a => by
    rw [paGo, List.map_cons, paR]
    cases hf : fnd l (rn s p) with
    | none => exact ⟨(fun h => by simp at h), (fun y h => by simp at h)⟩
    | some k =>
      simp only []
      cases ht : x.testBit k with
      | true => exact ⟨(fun h => by simp at h), (fun y h => by simp at h)⟩
      | false => simpa using paGo_paR l s ps (x ||| 2 ^ k) (a + 1)
theorem paR_swap (l : List Nat) (r q : Nat) (L : List Nat) (x y : Nat) (h : paR l (r :: q :: L) x = some y) : paR l (q :: r :: L) x = some y := by
  rw [paR] at h
  cases hr : fnd l r with
  | none => rw [hr] at h; simp at h
  | some j =>
    rw [hr] at h
    simp only [] at h
    cases h1 : x.testBit j with
    | true => rw [h1] at h; simp at h
    | false =>
      rw [h1] at h
      simp only [Bool.false_eq_true, if_false] at h
      rw [paR] at h
      cases hq : fnd l q with
      | none => rw [hq] at h; simp at h
      | some k =>
        rw [hq] at h
        simp only [] at h
        cases h2 : (x ||| 2 ^ j).testBit k with
        | true => rw [h2] at h; simp at h
        | false =>
          rw [h2] at h
          simp only [Bool.false_eq_true, if_false] at h
          rw [Nat.testBit_or, Nat.testBit_two_pow, Bool.or_eq_false_iff] at h2
          obtain ⟨h3, h4⟩ := h2
          have hne : ¬ j = k := by simpa using h4
          have h5 : (x ||| 2 ^ k).testBit j = false := by rw [Nat.testBit_or, Nat.testBit_two_pow, h1]; simp; omega
          rw [paR, hq]
          simp only [h3, Bool.false_eq_true, if_false]
          rw [paR, hr]
          simp only [h5, Bool.false_eq_true, if_false]
          rw [show x ||| 2 ^ k ||| 2 ^ j = x ||| 2 ^ j ||| 2 ^ k from by rw [Nat.or_assoc, Nat.or_comm (2 ^ k), ← Nat.or_assoc]]
          exact h
theorem paR_perm (l : List Nat) {L L' : List Nat} (hp : L.Perm L') : ∀ (x y : Nat), paR l L x = some y → paR l L' x = some y := by
  induction hp with
  | nil => exact fun _ _ h => h
  | cons r _ ih =>
    intro x y h
    rw [paR] at h ⊢
    cases hr : fnd l r with
    | none => rw [hr] at h; simp at h
    | some j =>
      rw [hr] at h
      simp only [] at h ⊢
      cases h1 : x.testBit j with
      | true => rw [h1] at h; simp at h
      | false => rw [h1] at h; simp only [Bool.false_eq_true, if_false] at h ⊢; exact ih _ _ h
  | swap r q L => intro x y h; exact paR_swap l q r L x y h
  | trans _ _ ih1 ih2 => exact fun x y h => ih2 x y (ih1 x y h)
theorem paR_mem (l : List Nat) : ∀ (L : List Nat) (x y : Nat), paR l L x = some y → ∀ r ∈ L, r ∈ l
  | [], _, _, _ => by simp
  | q :: L, x, y, h => by
    rw [paR] at h
    cases hq : fnd l q with
    | none => rw [hq] at h; simp at h
    | some k =>
      rw [hq] at h
      simp only [] at h
      obtain ⟨z, h1, h2, _⟩ := fnd_some hq
      have hz : z = q := by omega
      subst hz
      have hm := List.mem_of_getElem? h1
      intro r hr
      rcases List.mem_cons.1 hr with rfl | hr
      · exact hm
      · split at h
        · cases h
        · exact paR_mem l L _ _ h r hr

/-- What a text that is read as a set is made of. -/
theorem parV_ok {l : List Nat} {q : ByteArray} {y a : Nat} (hl : ∀ r ∈ l, classN r = 4) (h : parV l q = (y, a, 0)) (hd : q ≠ dash) :
    paR l (rs q) 0 = some y ∧ a = 0 ∧ 1 ≤ q.size ∧ q.size ≤ 65536 ∧ txt (rs q) = q ∧ 1 ≤ (rs q).length := by
  unfold parV at h
  by_cases h1 : 65536 < q.size
  · simp [h1] at h
  by_cases h2 : q.size = 0
  · simp [h2] at h
  rw [if_neg h1, if_neg h2, if_neg hd] at h
  have hp := (paGo_paR l q (st q 0) 0 0).1 (by rw [h])
  have h0 := (paGo_paR l q (st q 0) 0 0).2 _ hp
  rw [h] at h0 hp
  have ha : a = 0 := by injection h0 with _ h0; injection h0
  refine ⟨hp, ha, by omega, by omega, ?_, ?_⟩
  · refine txt_rs fun p hpm => ?_
    cases hlo : lo q p with
    | false => rfl
    | true =>
      have hm := paR_mem l _ _ _ hp (rn q p) (List.mem_map_of_mem hpm)
      have := hl _ hm
      rw [((lo_iff q p).1 hlo).1] at this
      exact absurd this class_fffd
  · unfold rs
    rw [List.length_map, st_cons (by omega)]; simp
theorem class_dash : classN 45 ≠ 4 := by decide +kernel
/-- .. and in another order it is the same set. -/
theorem parV_perm {l : List Nat} {q : ByteArray} {y a : Nat} (hl : ∀ r ∈ l, classN r = 4) (h : parV l q = (y, a, 0)) (hd : q ≠ dash) {L : List Nat} (hp : (rs q).Perm L) : parV l (txt L) = (y, 0, 0) := by
  obtain ⟨h1, _, h3, h4, h5, h6⟩ := parV_ok hl h hd
  have hok : ∀ r ∈ L, okR r := fun r hr => rs_ok q r (hp.mem_iff.2 hr)
  have hrs := rs_txt hok
  have hpar := paR_perm l hp 0 y h1
  have hsz : (txt L).size = q.size := by
    rw [txt_size, ← (hp.flatMap_right enc).length_eq, ← txt_size, h5]
  have hnd : txt L ≠ dash := by
    intro e
    have h45 : rs dash = [45] := by decide +kernel
    rw [e, h45] at hrs
    have := paR_mem l L 0 y hpar 45 (by rw [← hrs]; simp)
    exact class_dash (hl 45 this)
  unfold parV
  rw [hsz, if_neg (by omega), if_neg (by omega), if_neg hnd]
  refine (paGo_paR l (txt L) (st (txt L) 0) 0 0).2 y ?_
  show paR l (rs (txt L)) 0 = some y
  rw [hrs]; exact hpar
end Go.Proofs.Ythbejpgeohhppaa
