/- Plain laws of a write: which sector it turns, and what a run of writes of whole sectors leaves. -/
import Derived.Test.YtpfiaepoibablaaWalkNone
namespace Go.Proofs.Ytpfiaepoibablaa
set_option linter.unusedVariables false

def rowS (bs : List Nat) (s : Nat) : List Nat := (bs.drop (s * 32)).take 32
theorem rowS_len {bs : List Nat} (h : bs.length = 256) {s : Nat} (hs : s < 8) : (rowS bs s).length = 32 := by
  unfold rowS; rw [List.length_take, List.length_drop]; omega
theorem putS_get {bs l : List Nat} {k : Nat} (hb : bs.length = 256) (hk : k < 8) (hl : l.length = 32) (j : Nat) :
    (putS bs k l)[j]? = if j < 32 * k then bs[j]? else if j < 32 * k + 32 then l[j - 32 * k]? else bs[j]? := by
  unfold putS
  have h1 : (bs.take (32 * k)).length = 32 * k := by rw [List.length_take]; omega
  rw [List.getElem?_append, h1]
  by_cases c : j < 32 * k
  · rw [if_pos c, if_pos c, List.getElem?_take_of_lt c]
  · rw [if_neg c, if_neg c, List.getElem?_append, hl]
    by_cases c2 : j < 32 * k + 32
    · rw [if_pos (by omega), if_pos c2]
    · rw [if_neg (by omega), if_neg c2, List.getElem?_drop]; congr 1; omega
theorem putS_row {bs l : List Nat} {k : Nat} (hb : bs.length = 256) (hk : k < 8) (s : Nat) (hs : s < 8) (hl : l.length = 32) :
    ((putS bs k l).drop (s * 32)).take 32 = if s = k then l else (bs.drop (s * 32)).take 32 := by
  apply List.ext_getElem?
  intro j
  by_cases hj : j < 32
  · rw [List.getElem?_take_of_lt hj, List.getElem?_drop, putS_get hb hk hl]
    by_cases c : s = k
    · subst c
      rw [if_neg (by omega), if_pos (by omega), if_pos rfl]; congr 1; omega
    · rw [if_neg c, List.getElem?_take_of_lt hj, List.getElem?_drop]
      by_cases c2 : s < k
      · rw [if_pos (by omega)]
      · rw [if_neg (by omega), if_neg (by omega)]
  · rw [List.getElem?_eq_none (by rw [List.length_take]; omega)]
    symm
    apply List.getElem?_eq_none
    split
    · omega
    · rw [List.length_take]; omega
theorem wrV_cases (d : Dk) (s : Int) (l : List Nat) (hl : l.length = 32) :
    ((wrV d s l).2 = 0 ∧ ∃ k : Nat, s = k ∧ k < 8 ∧ (wrV d s l).1.bs = putS d.bs k l ∧ (wrV d s l).1.writes = d.writes + 1 ∧ (wrV d s l).1.fuse ≤ d.fuse ∧ (wrV d s l).1.off = d.off ∧ d.off = false) ∨
    ((wrV d s l).2 ≠ 0 ∧ (wrV d s l).1.bs = d.bs ∧ (wrV d s l).1.writes = d.writes ∧ (wrV d s l).1.fuse = d.fuse) := by
  unfold wrV
  by_cases hm : mayV d s = 0
  · obtain ⟨k, rfl, hk, ho⟩ := mayV_nat hm
    rw [if_pos hm, if_pos hl]
    cases hf : d.fused with
    | true =>
      rw [if_pos rfl]
      by_cases h0 : d.fuse = 0
      · rw [if_pos h0]; exact .inr ⟨by show (100 : Int) ≠ 0; decide, rfl, rfl, rfl⟩
      · rw [if_neg h0]; exact .inl ⟨rfl, k, rfl, hk, by rw [Int.toNat_natCast], rfl, by show d.fuse - 1 ≤ d.fuse; omega, rfl, ho⟩
    | false =>
      rw [if_neg (by decide)]; exact .inl ⟨rfl, k, rfl, hk, by rw [Int.toNat_natCast], rfl, Nat.le_refl _, rfl, ho⟩
  · rw [if_neg hm]; exact .inr ⟨hm, rfl, rfl, rfl⟩
theorem wrV_len {d : Dk} (h : d.bs.length = 256) (s : Int) (l : List Nat) (hl : l.length = 32) : (wrV d s l).1.bs.length = 256 := by
  rcases wrV_cases d s l hl with ⟨_, k, _, hk, hb, _⟩ | ⟨_, hb, _⟩
  · rw [hb]; exact putS_len h hk hl
  · rw [hb]; exact h

/-- Behind n writes of whole sectors: the last one of each place. -/
structure WhD (d : Dk) (last : List Nat) (n : Nat) : Prop where
  len : d.bs.length = 256
  many : last.length = 8
  rows : ∀ s v : Nat, last[s]? = some v → (d.bs.drop (s * 32)).take 32 = if v = 0 then List.replicate 32 0 else secL (v : Int)
  le : d.writes ≤ n
  fz : d.fuse ≤ 9223372036854775807
  small : ∀ s v : Nat, last[s]? = some v → v ≤ n
theorem whD_step {d : Dk} {last : List Nat} {n : Nat} (h : WhD d last n) (s : Nat) (hs : s < 8) :
    ((wrV d (s : Int) (secL ((n : Int) + 1))).2 = 0 ∧ WhD (wrV d (s : Int) (secL ((n : Int) + 1))).1 (last.set s (n + 1)) (n + 1)) ∨
    ((wrV d (s : Int) (secL ((n : Int) + 1))).2 ≠ 0 ∧ WhD (wrV d (s : Int) (secL ((n : Int) + 1))).1 last (n + 1)) := by
  have hl : (secL ((n : Int) + 1)).length = 32 := by unfold secL; simp
  obtain ⟨a1, a2, a3, a4, a5, a6⟩ := h
  rcases wrV_cases d (s : Int) (secL ((n : Int) + 1)) hl with ⟨h0, k, hk, hk8, hb, hw, hf, _⟩ | ⟨h0, hb, hw, hf⟩
  · obtain rfl : s = k := by omega
    refine .inl ⟨h0, ⟨by rw [hb]; exact putS_len a1 hk8 hl, by rw [List.length_set]; exact a2, fun j v hv => ?_, by omega, by omega, fun j v hv => ?_⟩⟩
    · have hj : j < 8 := by have := (List.getElem?_eq_some_iff.1 hv).1; rw [List.length_set] at this; omega
      rw [hb, putS_row a1 hk8 j hj hl]
      rw [List.getElem?_set] at hv
      by_cases c : s = j
      · subst c
        rw [if_pos rfl, if_pos (by omega)] at hv
        cases hv
        rw [if_pos rfl, if_neg (by omega)]; rfl
      · rw [if_neg c] at hv
        rw [if_neg (fun e => c e.symm)]
        exact a3 j v hv
    · rw [List.getElem?_set] at hv
      split at hv
      · split at hv
        · cases hv; omega
        · cases hv
      · have := a6 j v hv; omega
  · exact .inr ⟨h0, ⟨by rw [hb]; exact a1, a2, fun j v hv => by rw [hb]; exact a3 j v hv, by omega, by omega, fun j v hv => by have := a6 j v hv; omega⟩⟩
end Go.Proofs.Ytpfiaepoibablaa
