/- Plain: a set that is printed is read as it was. -/
import Derived.Test.YthbejpgeohhppaaPrint
import Derived.Test.YthbejpgeohhppaaTurn
namespace Go.Proofs.Ythbejpgeohhppaa
set_option linter.unusedVariables false
open Go.RowKit

theorem paR_ids {l : List Nat} (hn : l.Nodup) : ∀ (ids : List Nat) (x : Nat), (∀ i ∈ ids, i < l.length) → ids.Nodup → (∀ i ∈ ids, x.testBit i = false) →
    ∃ y, paR l (sgnL l ids) x = some y ∧ ∀ j, y.testBit j = (x.testBit j || decide (j ∈ ids))
  | [], x, _, _, _ => ⟨x, rfl, by simp⟩
  | i :: ids, x, hl, hd, hx => by
    have hi := hl i (by simp)
    have hf : fnd l (l.getD i 0 : Nat) = some i := by
      refine fnd_at hn ?_
      rw [List.getD_eq_getElem?_getD, List.getElem?_eq_getElem hi]; rfl
    obtain ⟨hni, hd2⟩ := List.nodup_cons.1 hd
    obtain ⟨y, h1, h2⟩ := paR_ids hn ids (x ||| 2 ^ i) (fun j hj => hl j (by simp [hj])) hd2 (fun j hj => by
      rw [Nat.testBit_or, hx j (by simp [hj]), Nat.testBit_two_pow]
      have : i ≠ j := fun e => hni (e ▸ hj)
      simp [this])
    refine ⟨y, ?_, fun j => ?_⟩
    · show paR l (l.getD i 0 :: sgnL l ids) x = some y
      rw [paR, hf]
      simp only [hx i (by simp), Bool.false_eq_true, if_false]
      exact h1
    · rw [h2, Nat.testBit_or, Nat.testBit_two_pow]
      by_cases e : i = j
      · subst e; simp
      · have e2 : ¬ j = i := fun h => e h.symm
        simp [e, e2]
theorem idsL_nodup (x k : Nat) : (idsL x k).Nodup := List.nodup_range.filter _
theorem idsL_iff {x n j : Nat} (hx : x < 2 ^ n) : x.testBit j = decide (j ∈ idsL x n) := by
  rw [Bool.eq_iff_iff, decide_eq_true_iff]
  unfold idsL
  rw [List.mem_filter, List.mem_range]
  constructor
  · intro h
    refine ⟨?_, h⟩
    rcases Nat.lt_or_ge j n with h2 | h2
    · exact h2
    · exact absurd hx (not_lt_of_bit h h2)
  · exact fun h => h.2

/-- What is printed: its size, and that it is read as the same set. -/
theorem parV_prV {l : List Nat} {x : Nat} {t : ByteArray} (hn : l.Nodup) (hl : l.length ≤ 100) (hcl : ∀ r ∈ l, classN r = 4) (hok : ∀ r ∈ l, okR r) (h : prV l x = (t, 0)) :
    parV l t = (x, 0, 0) ∧ t.size ≤ 400 := by
  unfold prV at h
  by_cases hx : x < 2 ^ l.length
  · rw [if_pos hx] at h
    have hx100 : x < 2 ^ 100 := Nat.lt_of_lt_of_le hx (Nat.pow_le_pow_right (by decide) hl)
    by_cases he : idsL x 100 = []
    · rw [if_pos he] at h
      obtain rfl : dash = t := by injection h
      have h0 : x = 0 := by
        apply Nat.eq_of_testBit_eq
        intro j
        rw [idsL_iff hx100, he]; simp
      subst h0
      exact ⟨parV_dash l, by decide⟩
    · rw [if_neg he] at h
      obtain rfl : txt (sgnL l (idsL x 100)) = t := by injection h
      have hlt : ∀ i ∈ idsL x 100, i < l.length := fun i hi => ids_lt hx hi
      have hokL := sgnL_ok hok hlt
      have hrs := rs_txt hokL
      obtain ⟨y, h1, h2⟩ := paR_ids hn (idsL x 100) 0 hlt (idsL_nodup x 100) (fun i _ => Nat.zero_testBit i)
      have hy : y = x := by
        apply Nat.eq_of_testBit_eq
        intro j
        rw [h2, Nat.zero_testBit, Bool.false_or, idsL_iff hx100]
      subst hy
      have h3 := idsL_len y 100
      have h4 : (sgnL l (idsL y 100)).length = (idsL y 100).length := by simp [sgnL]
      have h5 : 1 ≤ (idsL y 100).length := List.length_pos_iff.2 he
      obtain ⟨h6, h7⟩ := flat_len (sgnL l (idsL y 100))
      have hsz := txt_size (sgnL l (idsL y 100))
      refine ⟨?_, by omega⟩
      have hnd : txt (sgnL l (idsL y 100)) ≠ dash := by
        intro e
        have h45 : rs dash = [45] := by decide +kernel
        rw [e, h45] at hrs
        have := paR_mem l _ 0 y h1 45 (by rw [← hrs]; simp)
        exact class_dash (hcl 45 this)
      unfold parV
      rw [if_neg (by omega), if_neg (by omega), if_neg hnd]
      refine (paGo_paR l _ (st _ 0) 0 0).2 y ?_
      show paR l (rs _) 0 = some y
      rw [hrs]; exact h1
  · rw [if_neg hx] at h
    injection h with _ h; simp at h
theorem prV_cases (l : List Nat) (x : Nat) : (∃ t, prV l x = (t, 0)) ∨ prV l x = (⟨#[]⟩, 30) := by
  unfold prV
  split
  · exact .inl ⟨_, rfl⟩
  · exact .inr rfl
theorem prV_snd {l l' : List Nat} (hll : l.length = l'.length) (x : Nat) : (prV l x).2 = (prV l' x).2 := by
  unfold prV
  rw [hll]
  split <;> rfl
theorem prV_runes {l l' : List Nat} {x : Nat} {t u : ByteArray} (hll : l.length = l'.length) (hok : ∀ r ∈ l, okR r) (hok' : ∀ r ∈ l', okR r) (h : prV l x = (t, 0)) (h' : prV l' x = (u, 0)) :
    (rs t).length = (rs u).length := by
  unfold prV at h h'
  by_cases hx : x < 2 ^ l.length
  · have hx' : x < 2 ^ l'.length := hll ▸ hx
    rw [if_pos hx] at h
    rw [if_pos hx'] at h'
    by_cases he : idsL x 100 = []
    · rw [if_pos he] at h h'
      obtain rfl : dash = t := by injection h
      obtain rfl : dash = u := by injection h'
      rfl
    · rw [if_neg he] at h h'
      obtain rfl : txt (sgnL l (idsL x 100)) = t := by injection h
      obtain rfl : txt (sgnL l' (idsL x 100)) = u := by injection h'
      rw [rs_txt (sgnL_ok hok fun i hi => ids_lt hx hi), rs_txt (sgnL_ok hok' fun i hi => ids_lt hx' hi)]
      simp [sgnL]
  · rw [if_neg hx] at h
    injection h with _ h; simp at h
end Go.Proofs.Ythbejpgeohhppaa
