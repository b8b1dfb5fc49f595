/- Parameters that are structs of integers, and slices of such: opened. -/
import Derived.Test.YthkppkecclnlnaaGreatArgs
import Derived.OpenShut
import Derived.Deep.Slices
namespace Go.Proofs.YthkppkecclnlnaaGreat
set_option linter.unusedVariables false
open Go.RowKit Go.WideShapes Go.ChangeShapes Go.WideElems Go.Deep

theorem add_mid' (b o j : Nat) : (⟨b, o, none⟩ : Addr).add j = ⟨b, o + j, none⟩ := by unfold Addr.add; split <;> simp_all
theorem list1 : ∀ y : List Int, y.length = 1 → ∃ a, y = [a]
  | [a], _ => ⟨a, rfl⟩
theorem list2 : ∀ y : List Int, y.length = 2 → ∃ a b, y = [a, b]
  | [a, b], _ => ⟨a, b, rfl⟩
theorem list3 : ∀ y : List Int, y.length = 3 → ∃ a b c, y = [a, b, c]
  | [a, b, c], _ => ⟨a, b, c, rfl⟩
theorem list4 : ∀ y : List Int, y.length = 4 → ∃ a b c d, y = [a, b, c, d]
  | [a, b, c, d], _ => ⟨a, b, c, d, rfl⟩
theorem list5 : ∀ y : List Int, y.length = 5 → ∃ a b c d e, y = [a, b, c, d, e]
  | [a, b, c, d, e], _ => ⟨a, b, c, d, e, rfl⟩
theorem list6 : ∀ y : List Int, y.length = 6 → ∃ a b c d e f, y = [a, b, c, d, e, f]
  | [a, b, c, d, e, f], _ => ⟨a, b, c, d, e, f, rfl⟩
/-- A type all of whose cells are integers, one behind the other. -/
def tilesB (P : Program) (F : TypeId → Bool) : List Field → Nat → Nat → Bool
  | [], o, n => o == n
  | f :: fs, o, n => f.offset == o && F f.type && tilesB P F fs (o + P.cellsOf f.type) n
def flatB (P : Program) : Nat → TypeId → Bool
  | 0, _ => false
  | d + 1, t =>
    match P.underlying t with
    | some (.int .i64) => P.cellsOf t == 1
    | some (.struct fs) => tilesB P (flatB P d) fs.toList 0 (P.cellsOf t)
    | _ => false
def intsV (ys : List Int) : List Value := ys.map (Value.int .i64)

section
variable {H : Type} {enc : TypeId × Value → H} {P : Program} {w : World} {base : Nat} {spare : Nat → Bool} {held : Bool}
theorem tiles_open {F : TypeId → Bool} {cs : List Value} (hF : ∀ (t : TypeId) (n : Nat) (cs : List Value) (x : DataW H × List MemPlace), F t = true → DataW.trod enc P w base spare held n t cs = some x → ∃ ys : List Int, cs = intsV ys ∧ ∀ y ∈ ys, (Lit.int .i64 y).wf = true) {n : Nat} :
    ∀ (fs : List Field) (o : Nat), tilesB P F fs o cs.length = true → (∀ f ∈ fs, ∃ x, DataW.trod enc P w base spare held n f.type ((cs.drop f.offset).take (P.cellsOf f.type)) = some x) → ∃ ys : List Int, cs.drop o = intsV ys ∧ ∀ y ∈ ys, (Lit.int .i64 y).wf = true
  | [], o, ht, _ => by
    have ho : o = cs.length := by simpa [tilesB] using ht
    exact ⟨[], by rw [ho, List.drop_length]; rfl, by simp⟩
  | f :: fs, o, ht, hx => by
    simp only [tilesB, Bool.and_eq_true, beq_iff_eq] at ht
    obtain ⟨⟨h1, h2⟩, h3⟩ := ht
    obtain ⟨x, hx0⟩ := hx f (by simp)
    rw [h1] at hx0
    obtain ⟨ys, hy, hw⟩ := hF _ _ _ _ h2 hx0
    obtain ⟨zs, hz, hw2⟩ := tiles_open hF fs _ h3 (fun g hg => hx g (by simp [hg]))
    refine ⟨ys ++ zs, ?_, fun y hy => ?_⟩
    · rw [← List.take_append_drop (P.cellsOf f.type) (cs.drop o), List.drop_drop, hy, hz]
      unfold intsV; rw [List.map_append]
    · rcases List.mem_append.1 hy with h | h
      · exact hw y h
      · exact hw2 y h
theorem flat_open : ∀ (d : Nat) (t : TypeId) (n : Nat) (cs : List Value) (x : DataW H × List MemPlace), flatB P d t = true → DataW.trod enc P w base spare held n t cs = some x → ∃ ys : List Int, cs = intsV ys ∧ ∀ y ∈ ys, (Lit.int .i64 y).wf = true
  | 0, _, _, _, _, h, _ => by cases h
  | d + 1, t, n, cs, x, h, hx => by
    unfold flatB at h
    split at h
    · rename_i hu
      obtain ⟨z, rfl, _, hw⟩ := DataW.trod_int hu hx
      exact ⟨[z], rfl, by simpa using hw⟩
    · rename_i fs hu
      obtain ⟨xs, m, _, _, hl, hlen, hf⟩ := DataW.trod_struct hu hx
      rw [← hl] at h
      obtain ⟨ys, hy, hw⟩ := tiles_open (n := m) (fun t n cs x => flat_open d t n cs x) fs.toList 0 h (fun f hfm => by
        obtain ⟨i, hi, rfl⟩ := List.mem_iff_getElem.1 hfm
        have := hf i fs.toList[i] (by rw [← Array.getElem?_toList, List.getElem?_eq_getElem hi])
        refine ⟨xs[i]'(by rw [hlen]; simpa using hi), ?_⟩
        rw [this, List.getElem?_eq_getElem])
      exact ⟨ys, by simpa using hy, hw⟩
    · cases h
theorem flat_len {d : Nat} {t : TypeId} {n : Nat} {cs : List Value} {x : DataW H × List MemPlace} (h : flatB P d t = true) (hx : DataW.trod enc P w base spare held n t cs = some x) : cs.length = P.cellsOf t := by
  cases d with
  | zero => cases h
  | succ d =>
    unfold flatB at h
    split at h
    · rename_i hu
      obtain ⟨z, rfl, _, hw⟩ := DataW.trod_int hu hx
      have h2 : P.cellsOf t = 1 := by simpa using h
      exact h2.symm
    · rename_i fs hu
      obtain ⟨xs, m, _, _, hl, _⟩ := DataW.trod_struct hu hx
      exact hl
    · cases h
/-- A struct of integers that came in. -/
theorem open_flat {r : Reach} {b0 : Nat} {t : TypeId} {fs : Array Field} {v : Value} {dd : DataW H} {p : List MemPlace} (d : Nat) (ht : P.underlying t = some (.struct fs)) (hfl : flatB P d t = true)
    (hval : Value.okWide P w r b0 t v) (h : DataW.Trod enc P w 0 spare held t v dd p) : ∃ ys : List Int, v = .agg (intsV ys).toArray ∧ ys.length = P.cellsOf t ∧ ∀ y ∈ ys, (Lit.int .i64 y).wf = true := by
  obtain ⟨n, hn⟩ := h
  unfold Value.okWide at hval
  rw [ht] at hval
  obtain ⟨cs, rfl, _, _⟩ := hval
  obtain ⟨ys, hy, hw⟩ := flat_open d t n _ _ hfl hn
  have hl := flat_len hfl hn
  have hc : cs.toList = intsV ys := hy
  refine ⟨ys, by rw [← hc], ?_, hw⟩
  have h2 : (intsV ys).length = P.cellsOf t := by rw [← hc]; exact hl
  simpa [intsV] using h2
end
/-- A row of structs of n integers each that came in. -/
def RowsOf (W : World) (n : Nat) (v : Value) (xs : List (List Int)) : Prop :=
  ∃ a cap, v = .slice a xs.length cap ∧ xs.length ≤ cap ∧ cap ≤ maxLen ∧ ∀ (i : Nat) (x : List Int), xs[i]? = some x → x.length = n ∧ ∃ g o, a = some ⟨g, o, none⟩ ∧ g < W.heap.size ∧ ∀ (j : Nat) (y : Int), x[j]? = some y → W.cell? ⟨g, o + i * n + j, none⟩ = some (.int .i64 y)
theorem RowsOf.below {W W' : World} {n : Nat} {v : Value} {xs : List (List Int)} (h : RowsOf W n v xs) (hb : Below W.heap.size W W') : RowsOf W' n v xs := by
  obtain ⟨a, cap, h1, h2, h3, h4⟩ := h
  refine ⟨a, cap, h1, h2, h3, fun i x hx => ?_⟩
  obtain ⟨h5, g, o, h6, h7, h8⟩ := h4 i x hx
  exact ⟨h5, g, o, h6, Nat.lt_of_lt_of_le h7 hb.size, fun j y hy => (hb.cell h7).trans (h8 j y hy)⟩
theorem open_rows {H : Type} {enc : TypeId × Value → H} {P : Program} {W : World} {spare : Nat → Bool} {held : Bool} {r : Reach} {b0 : Nat} {t e : TypeId} {v : Value} {dd : DataW H} {p : List MemPlace} (d : Nat) (ht : P.underlying t = some (.slice e)) (hfl : flatB P d e = true) (hpos : 0 < P.cellsOf e)
    (hval : Value.okWide P W r b0 t v) (h : DataW.Trod enc P W 0 spare held t v dd p) :
    ∃ xs, RowsOf W (P.cellsOf e) v xs ∧ ∀ x ∈ xs, ∀ y ∈ x, (Lit.int .i64 y).wf = true := by
  obtain ⟨n, hn⟩ := h
  have hv : v.cells.toList = [v] := by
    cases v <;> first | rfl | (simp [Value.okWide, Cell.okWide, Cell.ok, ht] at hval)
  rw [hv] at hn
  rcases open_slice ht hn with ⟨h1, h2⟩ | ⟨a, len, cap, m, k, D, Pl, h1, hb, hl, hm, hmm, hx, hall⟩
  · obtain rfl : v = .slice none 0 0 := by simpa using h1
    exact ⟨[], ⟨none, 0, rfl, Nat.le_refl _, by unfold maxLen; omega, fun i x h => by simp at h⟩, by simp⟩
  · obtain rfl : v = .slice (some a) len cap := by simpa using h1
    have hlm : len ≤ m := by rw [hmm]; split <;> omega
    have key : ∀ i, i < len → ∃ ys : List Int, ys.length = P.cellsOf e ∧ (∀ y ∈ ys, (Lit.int .i64 y).wf = true) ∧ W.cells? 0 (a.add (i * P.cellsOf e)) (P.cellsOf e) = some (intsV ys) := by
      intro i hi
      obtain ⟨cs, hc, hd⟩ := hall i (by omega)
      obtain ⟨ys, hy, hw⟩ := flat_open d e _ _ _ hfl hd
      have hll := flat_len hfl hd
      refine ⟨ys, ?_, hw, by rw [← hy]; exact hc⟩
      rw [hy] at hll
      simpa [intsV] using hll
    obtain ⟨f, hf⟩ : ∃ f : Nat → List Int, ∀ i, i < len → (f i).length = P.cellsOf e ∧ (∀ y ∈ f i, (Lit.int .i64 y).wf = true) ∧ W.cells? 0 (a.add (i * P.cellsOf e)) (P.cellsOf e) = some (intsV (f i)) := by
      refine ⟨fun i => if h : i < len then (key i h).choose else [], fun i hi => ?_⟩
      simp only [hi, dite_true]
      exact (key i hi).choose_spec
    refine ⟨(List.range len).map f, ⟨some a, cap, by simp, by simpa using hl, hm, fun i x hx => ?_⟩, fun x hx => ?_⟩
    · rw [List.getElem?_map] at hx
      have hi : i < len := by
        rcases Nat.lt_or_ge i len with h | h
        · exact h
        · rw [List.getElem?_eq_none (by simpa using h)] at hx; cases hx
      rw [List.getElem?_range hi] at hx
      obtain rfl : f i = x := by simpa using hx
      obtain ⟨h4, h5, h6⟩ := hf i hi
      obtain ⟨_, h7, h8⟩ := World.cells?_some h6
      have hcell : ∀ j y, (f i)[j]? = some y → W.cell? ((a.add (i * P.cellsOf e)).add j) = some (.int .i64 y) := by
        intro j y hy
        have hj : j < P.cellsOf e := by have := (List.getElem?_eq_some_iff.1 hy).1; omega
        rw [h8 j hj]
        unfold intsV; rw [List.getElem?_map, hy]; rfl
      obtain ⟨g, o, spot⟩ := a
      have hspot : spot = none := by
        obtain ⟨k4, k5, k6⟩ := hf 0 (by omega)
        obtain ⟨_, k7, k8⟩ := World.cells?_some k6
        have hk := k8 0 hpos
        have hk2 : (intsV (f 0))[0]? = some (.int .i64 ((f 0)[0]'(by omega))) := by unfold intsV; rw [List.getElem?_map, List.getElem?_eq_getElem (by omega)]; rfl
        rw [hk2] at hk
        have := World.cell?_spot hk
        simpa [Addr.add] using this
      subst hspot
      have h0 := hcell 0 _ (List.getElem?_eq_getElem (by omega))
      refine ⟨h4, g, o, rfl, ?_, fun j y hy => ?_⟩
      · have := cell_lt h0
        rwa [add_mid', add_mid'] at this
      · have := hcell j y hy
        rwa [add_mid', add_mid'] at this
    · obtain ⟨i, hi, rfl⟩ := List.mem_map.1 hx
      exact (hf i (List.mem_range.1 hi)).2.1
end Go.Proofs.YthkppkecclnlnaaGreat
