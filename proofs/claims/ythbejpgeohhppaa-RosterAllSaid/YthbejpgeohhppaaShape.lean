/- Parameters of any flat shape (integers, bools, strings, rows of integers, structs of such), and slices of such: opened. -/
import Derived.Test.YthbejpgeohhppaaArgs
import Derived.OpenShut
import Derived.Deep.Slices
namespace Go.Proofs.Ythbejpgeohhppaa
set_option linter.unusedVariables false
open Go.RowKit Go.WideShapes Go.ChangeShapes Go.WideElems Go.Deep

/-- What one cell may hold. -/
inductive Sh where
  | int (k : IntKind)
  | bool
  | str
  | ints (k : IntKind)
def ShV (W : World) : Sh → Value → Prop
  | .int k, v => ∃ x, v = .int k x ∧ (Lit.int k x).wf = true
  | .bool, v => ∃ b, v = .bool b
  | .str, v => ∃ s : ByteArray, v = .string s ∧ s.size ≤ maxLen
  | .ints k, v => ∃ xs, RowOf W k v xs ∧ ∀ x ∈ xs, (Lit.int k x).wf = true
theorem ShV.below {W W' : World} (hb : Below W.heap.size W W') : ∀ {s : Sh} {v : Value}, ShV W s v → ShV W' s v
  | .int _, _, h => h
  | .bool, _, h => h
  | .str, _, h => h
  | .ints _, _, ⟨xs, h, hw⟩ => ⟨xs, h.below hb, hw⟩
/-- Cells of these shapes, one by one. -/
def ShL (W : World) : List Sh → List Value → Prop
  | [], [] => True
  | s :: ss, v :: vs => ShV W s v ∧ ShL W ss vs
  | _, _ => False
theorem ShL.len {W : World} : ∀ {ss : List Sh} {vs : List Value}, ShL W ss vs → vs.length = ss.length
  | [], [], _ => rfl
  | s :: ss, v :: vs, h => by simp [ShL.len h.2]
  | [], _ :: _, h => h.elim
  | _ :: _, [], h => h.elim
theorem ShL.append {W : World} : ∀ {ss : List Sh} {vs : List Value} {tt : List Sh} {us : List Value}, ShL W ss vs → ShL W tt us → ShL W (ss ++ tt) (vs ++ us)
  | [], [], _, _, _, h => h
  | s :: ss, v :: vs, _, _, h, k => ⟨h.1, ShL.append h.2 k⟩
  | [], _ :: _, _, _, h, _ => h.elim
  | _ :: _, [], _, _, h, _ => h.elim
theorem ShL.below {W W' : World} (hb : Below W.heap.size W W') : ∀ {ss : List Sh} {vs : List Value}, ShL W ss vs → ShL W' ss vs
  | [], [], h => h
  | s :: ss, v :: vs, h => ⟨h.1.below hb, ShL.below hb h.2⟩
  | [], _ :: _, h => h.elim
  | _ :: _, [], h => h.elim
def tilesS (P : Program) (F : TypeId → Option (List Sh)) : List Field → Nat → Nat → Option (List Sh)
  | [], o, n => if o == n then some [] else none
  | f :: fs, o, n => if f.offset == o then (match F f.type with | none => none | some a => match tilesS P F fs (o + P.cellsOf f.type) n with | none => none | some b => some (a ++ b)) else none
def shapes (P : Program) : Nat → TypeId → Option (List Sh)
  | 0, _ => none
  | d + 1, t =>
    match P.underlying t with
    | some (.int k) => if P.cellsOf t == 1 then some [.int k] else none
    | some .bool => if P.cellsOf t == 1 then some [.bool] else none
    | some .string => if P.cellsOf t == 1 then some [.str] else none
    | some (.slice e) => match P.underlying e with
      | some (.int k) => if P.cellsOf e == 1 && P.cellsOf t == 1 then some [.ints k] else none
      | _ => none
    | some (.struct fs) => tilesS P (shapes P d) fs.toList 0 (P.cellsOf t)
    | _ => none

section
variable {H : Type} {enc : TypeId × Value → H} {P : Program} {w : World} {spare : Nat → Bool} {held : Bool}
theorem rowOf_of_trod {t e : TypeId} {k : IntKind} {n : Nat} {cs : List Value} {x : DataW H × List MemPlace} (ht : P.underlying t = some (.slice e)) (he : P.underlying e = some (.int k)) (hc : P.cellsOf e = 1)
    (hn : DataW.trod enc P w 0 spare held n t cs = some x) : ∃ v xs, cs = [v] ∧ RowOf w k v xs ∧ ∀ x ∈ xs, (Lit.int k x).wf = true := by
  rcases open_ints ht he hc hn with ⟨h1, h2⟩ | ⟨a, len, cap, zs, h1, hb, hl, hm, hz, h2, h3, h4⟩
  · exact ⟨.slice none 0 0, [], h1, .inl ⟨rfl, rfl⟩, by simp⟩
  · have hzl : len ≤ zs.length := by rw [hz]; split <;> omega
    have hlen : (zs.take len).length = len := by rw [List.length_take]; omega
    refine ⟨.slice (some a) len cap, zs.take len, h1, .inr ⟨a, cap, by rw [hlen], by omega, hm, fun i x hx => ?_⟩, fun x hx => h4 x (List.mem_of_mem_take hx)⟩
    have hi : i < len := by have := (List.getElem?_eq_some_iff.1 hx).1; omega
    have hx2 : zs[i]? = some x := by rw [List.getElem?_take_of_lt hi] at hx; exact hx
    have hc1 := h3 i (by omega)
    rw [List.getD_eq_getElem?_getD, hx2] at hc1
    exact ⟨hc1, cell_lt hc1⟩
theorem tilesS_open {F : TypeId → Option (List Sh)} {cs : List Value} (hF : ∀ (t : TypeId) (n : Nat) (cs : List Value) (x : DataW H × List MemPlace) (ss : List Sh), F t = some ss → DataW.trod enc P w 0 spare held n t cs = some x → ShL w ss cs) {n : Nat} :
    ∀ (fs : List Field) (o : Nat) (ss : List Sh), tilesS P F fs o cs.length = some ss → (∀ f ∈ fs, ∃ x, DataW.trod enc P w 0 spare held n f.type ((cs.drop f.offset).take (P.cellsOf f.type)) = some x) → ShL w ss (cs.drop o)
  | [], o, ss, ht, _ => by
    unfold tilesS at ht
    split at ht
    · rename_i ho
      have ho : o = cs.length := by simpa using ho
      obtain rfl : [] = ss := by simpa using ht
      rw [ho, List.drop_length]; trivial
    · cases ht
  | f :: fs, o, ss, ht, hx => by
    unfold tilesS at ht
    split at ht
    · rename_i h1
      have h1 : f.offset = o := by simpa using h1
      split at ht
      · cases ht
      · rename_i a ha
        split at ht
        · cases ht
        · rename_i b hb
          obtain rfl : a ++ b = ss := by simpa using ht
          obtain ⟨x, hx0⟩ := hx f (by simp)
          rw [h1] at hx0
          have h2 := hF _ _ _ _ _ ha hx0
          have h3 := tilesS_open hF fs _ b hb (fun g hg => hx g (by simp [hg]))
          rw [← List.take_append_drop (P.cellsOf f.type) (cs.drop o), List.drop_drop]
          exact h2.append h3
    · cases ht
theorem shapes_open : ∀ (d : Nat) (t : TypeId) (n : Nat) (cs : List Value) (x : DataW H × List MemPlace) (ss : List Sh), shapes P d t = some ss → DataW.trod enc P w 0 spare held n t cs = some x → ShL w ss cs
  | 0, _, _, _, _, _, h, _ => by cases h
  | d + 1, t, n, cs, x, ss, h, hx => by
    unfold shapes at h
    split at h
    · rename_i k hu
      obtain ⟨z, rfl, _, hw⟩ := DataW.trod_int hu hx
      split at h
      · obtain rfl : [Sh.int k] = ss := by simpa using h
        exact ⟨⟨z, rfl, hw⟩, trivial⟩
      · cases h
    · rename_i hu
      obtain ⟨z, rfl, _⟩ := DataW.trod_bool hu hx
      split at h
      · obtain rfl : [Sh.bool] = ss := by simpa using h
        exact ⟨⟨z, rfl⟩, trivial⟩
      · cases h
    · rename_i hu
      obtain ⟨z, rfl, _, hz⟩ := DataW.trod_string hu hx
      split at h
      · obtain rfl : [Sh.str] = ss := by simpa using h
        exact ⟨⟨z, rfl, hz⟩, trivial⟩
      · cases h
    · rename_i e hu
      split at h
      · rename_i k he
        split at h
        · rename_i hc
          simp only [Bool.and_eq_true, beq_iff_eq] at hc
          obtain rfl : [Sh.ints k] = ss := by simpa using h
          obtain ⟨v, xs, rfl, h1, h2⟩ := rowOf_of_trod hu he hc.1 hx
          exact ⟨⟨xs, h1, h2⟩, trivial⟩
        · cases h
      · cases h
    · rename_i fs hu
      obtain ⟨xs, m, _, _, hl, hlen, hf⟩ := DataW.trod_struct hu hx
      rw [← hl] at h
      have := tilesS_open (n := m) (fun t n cs x ss => shapes_open d t n cs x ss) fs.toList 0 ss h (fun f hfm => by
        obtain ⟨i, hi, rfl⟩ := List.mem_iff_getElem.1 hfm
        have := hf i fs.toList[i] (by rw [← Array.getElem?_toList, List.getElem?_eq_getElem hi])
        refine ⟨xs[i]'(by rw [hlen]; simpa using hi), ?_⟩
        rw [this, List.getElem?_eq_getElem])
      simpa using this
    · cases h
/-- A struct that came in. -/
theorem open_shapes {r : Reach} {b0 : Nat} {t : TypeId} {fs : Array Field} {ss : List Sh} {v : Value} {dd : DataW H} {p : List MemPlace} (d : Nat) (ht : P.underlying t = some (.struct fs)) (hfl : shapes P d t = some ss)
    (hval : Value.okWide P w r b0 t v) (h : DataW.Trod enc P w 0 spare held t v dd p) : ∃ cs, v = .agg cs.toArray ∧ ShL w ss cs := by
  obtain ⟨n, hn⟩ := h
  unfold Value.okWide at hval
  rw [ht] at hval
  obtain ⟨cs, rfl, _, _⟩ := hval
  exact ⟨cs.toList, by simp, shapes_open d t n _ _ _ hfl hn⟩
end
/-- A row of elements of these shapes that came in. -/
def RowsS (W : World) (ss : List Sh) (v : Value) (xs : List (List Value)) : Prop :=
  ∃ a cap, v = .slice a xs.length cap ∧ xs.length ≤ cap ∧ cap ≤ maxLen ∧ ∀ (i : Nat) (x : List Value), xs[i]? = some x → ShL W ss x ∧ ∃ g o, a = some ⟨g, o, none⟩ ∧ g < W.heap.size ∧ ∀ (j : Nat) (y : Value), x[j]? = some y → W.cell? ⟨g, o + i * ss.length + j, none⟩ = some y
theorem RowsS.below {W W' : World} {ss : List Sh} {v : Value} {xs : List (List Value)} (h : RowsS W ss v xs) (hb : Below W.heap.size W W') : RowsS W' ss v xs := by
  obtain ⟨a, cap, h1, h2, h3, h4⟩ := h
  refine ⟨a, cap, h1, h2, h3, fun i x hx => ?_⟩
  obtain ⟨h5, g, o, h6, h7, h8⟩ := h4 i x hx
  exact ⟨h5.below hb, g, o, h6, Nat.lt_of_lt_of_le h7 hb.size, fun j y hy => (hb.cell h7).trans (h8 j y hy)⟩
theorem add_midS (b o j : Nat) : (⟨b, o, none⟩ : Addr).add j = ⟨b, o + j, none⟩ := by unfold Addr.add; split <;> simp_all
theorem open_rowsS {H : Type} {enc : TypeId × Value → H} {P : Program} {W : World} {spare : Nat → Bool} {held : Bool} {r : Reach} {b0 : Nat} {t e : TypeId} {ss : List Sh} {v : Value} {dd : DataW H} {p : List MemPlace} (d : Nat) (ht : P.underlying t = some (.slice e)) (hfl : shapes P d e = some ss) (hpos : 0 < ss.length) (hce : P.cellsOf e = ss.length)
    (hval : Value.okWide P W r b0 t v) (h : DataW.Trod enc P W 0 spare held t v dd p) : ∃ xs, RowsS W ss v xs ∧ (dd = .nil ∨ ∃ el sp, dd = .slice el sp ∧ el.length = xs.length) := by
  obtain ⟨n, hn⟩ := h
  have hv : v.cells.toList = [v] := by
    cases v <;> first | rfl | (simp [Value.okWide, Cell.okWide, Cell.ok, ht] at hval)
  rw [hv] at hn
  rcases DataW.trod_slice ht hn with ⟨h1, h2⟩ | ⟨a, len, cap, elems, rest, m, _, h1, h2, hb, hl, hm, hel, hall, _, _⟩
  · obtain rfl : v = .slice none 0 0 := by simpa using h1
    exact ⟨[], ⟨none, 0, rfl, Nat.le_refl _, by unfold maxLen; omega, fun i x h => by simp at h⟩, .inl (congrArg Prod.fst h2)⟩
  · obtain rfl : v = .slice (some a) len cap := by simpa using h1
    rw [hce] at hall
    have key : ∀ i, i < len → ∃ cs : List Value, ShL W ss cs ∧ W.cells? 0 (a.add (i * ss.length)) ss.length = some cs := by
      intro i hi
      have h3 := hall i hi
      rw [List.getElem?_eq_getElem (by omega)] at h3
      obtain ⟨cs, hc, hd⟩ := Option.bind_eq_some_iff.1 h3
      exact ⟨cs, shapes_open d e _ _ _ _ hfl hd, hc⟩
    obtain ⟨f, hf⟩ : ∃ f : Nat → List Value, ∀ i, i < len → ShL W ss (f i) ∧ W.cells? 0 (a.add (i * ss.length)) ss.length = some (f i) := by
      refine ⟨fun i => if h : i < len then (key i h).choose else [], fun i hi => ?_⟩
      simp only [hi, dite_true]
      exact (key i hi).choose_spec
    refine ⟨(List.range len).map f, ⟨some a, cap, by simp, by simpa using hl, hm, fun i x hx => ?_⟩, .inr ⟨elems.map (·.1), rest.map (·.1), congrArg Prod.fst h2, by simp [hel]⟩⟩
    rw [List.getElem?_map] at hx
    have hi : i < len := by
      rcases Nat.lt_or_ge i len with h | h
      · exact h
      · rw [List.getElem?_eq_none (by simpa using h)] at hx; cases hx
    rw [List.getElem?_range hi] at hx
    obtain rfl : f i = x := by simpa using hx
    obtain ⟨h4, h6⟩ := hf i hi
    have hlen := h4.len
    obtain ⟨_, h7, h8⟩ := World.cells?_some h6
    have hcell : ∀ j y, (f i)[j]? = some y → W.cell? ((a.add (i * ss.length)).add j) = some y := by
      intro j y hy
      have hj : j < ss.length := by have := (List.getElem?_eq_some_iff.1 hy).1; omega
      rw [h8 j hj]; exact hy
    have h0 := hcell 0 _ (List.getElem?_eq_getElem (by omega))
    obtain ⟨g, o, spot⟩ := a
    have hspot : spot = none := by
      obtain ⟨k4, k6⟩ := hf 0 (by omega)
      have k4l := k4.len
      obtain ⟨_, k7, k8⟩ := World.cells?_some k6
      have hk := k8 0 hpos
      rw [List.getElem?_eq_getElem (by omega)] at hk
      have := World.cell?_spot hk
      simpa [Addr.add] using this
    subst hspot
    refine ⟨h4, g, o, rfl, ?_, fun j y hy => ?_⟩
    · have := cell_lt h0
      rwa [add_midS, add_midS] at this
    · have := hcell j y hy
      rwa [add_midS, add_midS] at this
end Go.Proofs.Ythbejpgeohhppaa
