/- Walk: earshotref1.List: the characters of a text, as a row of cells. -/
import Derived.Test.YtcfbbmgpfeholaaAt
import Derived.Test.YtcfbbmgpfeholaaWorld
import Derived.Test.YtcfbbmgpfeholaaChars
import Derived.Maps.AppendAt
namespace Go.Proofs.Ytcfbbmgpfeholaa
set_option linter.unusedVariables false
open Go.RowKit

/-- A character's four cells; the cells of the characters that begin at some places. -/
def chC (s : ByteArray) (p : Nat) : List Value := [.int .i32 (rn s p), .int .i64 p, .int .i64 (wd s p), .bool (lo s p)]
def chR (s : ByteArray) (l : List Nat) : List Value := l.flatMap (chC s)
theorem chR_snoc (s : ByteArray) (l : List Nat) (p : Nat) : chR s (l ++ [p]) = chR s l ++ chC s p := by simp [chR]

/-- The cells of the character at a place among them. -/
theorem chR_get {s : ByteArray} {l : List Nat} : ∀ {k p : Nat}, l[k]? = some p → ∀ j, j < 4 → (chR s l)[k * 4 + j]? = (chC s p)[j]? := by
  induction l with
  | nil => intro k p h; simp at h
  | cons q l ih =>
    intro k p h j hj
    cases k with
    | zero =>
      simp at h; subst h
      show (chC s q ++ chR s l)[0 * 4 + j]? = _
      rw [List.getElem?_append_left (by simp [chC]; omega)]
      simp
    | succ k =>
      simp at h
      show (chC s q ++ chR s l)[(k + 1) * 4 + j]? = _
      rw [List.getElem?_append_right (by simp [chC]; omega), show (chC s q).length = 4 from rfl, show (k + 1) * 4 + j - 4 = k * 4 + j from by omega]
      exact ih h j hj
theorem chR_length (s : ByteArray) (l : List Nat) : (chR s l).length = l.length * 4 := by
  induction l with
  | nil => rfl
  | cons q l ih => show (chC s q ++ chR s l).length = _; rw [List.length_append, ih, List.length_cons, show (chC s q).length = 4 from rfl]; omega

/-- The four cells of the element k of an owned row of characters. -/
theorem row_cells {W : World} {base n cap g : Nat} {s : ByteArray} {l : List Nat} (h : W.ownsRow base 37 4 (.slice (some ⟨g, 0, none⟩) n cap) n (chR s l)) (hn : n = l.length) {k p : Nat} (hk : l[k]? = some p) :
    W.cell? ⟨g, k * 4, none⟩ = some (.int .i32 (rn s p)) ∧ W.cell? ⟨g, k * 4 + 1, none⟩ = some (.int .i64 p) ∧ W.cell? ⟨g, k * 4 + 2, none⟩ = some (.int .i64 (wd s p)) ∧ W.cell? ⟨g, k * 4 + 3, none⟩ = some (.bool (lo s p)) := by
  have hlt := (List.getElem?_eq_some_iff.1 hk).1
  refine ⟨?_, ?_, ?_, ?_⟩
  · have := h.cellAt (k * 4) (by omega); rw [this, show k * 4 = k * 4 + 0 from rfl, chR_get hk 0 (by omega)]; rfl
  · rw [h.cellAt (k * 4 + 1) (by omega), chR_get hk 1 (by omega)]; rfl
  · rw [h.cellAt (k * 4 + 2) (by omega), chR_get hk 2 (by omega)]; rfl
  · rw [h.cellAt (k * 4 + 3) (by omega), chR_get hk 3 (by omega)]; rfl

theorem cell_four_new (w : World) (a b c d : Value) (t : TypeId) : ∀ j u, [a, b, c, d][j]? = some u → (w.alloc (.cells #[a, b, c, d] t)).cell? ((⟨w.heap.size, 0, none⟩ : Addr).add j) = some u := by
  intro j u hj
  match j, hj with
  | 0, hj => simp at hj; subst hj; simp [Addr.add]
  | 1, hj => simp at hj; subst hj; simp [Addr.add]
  | 2, hj => simp at hj; subst hj; simp [Addr.add]
  | 3, hj => simp at hj; subst hj; simp [Addr.add]
  | j + 4, hj => simp at hj

theorem Try.infoChar : (Try.prog.info? 37).map (fun i => (i.zero, i.size, i.bytes)) = some (some (.agg #[.int .i32 0, .int .i64 0, .int .i64 0, .bool false]), 4, 32) := by kernel_rfl

theorem ownsRow_drewN {w : World} {base : Nat} {e : TypeId} {size : Nat} {v : Value} {n : Nat} {xs : List Value} (h : w.ownsRow base e size v n xs) (k : Nat) : (w.drewN k).ownsRow base e size v n xs := h

/-- The shape of a slice that owns a row. -/
theorem ownsRow_slice {w : World} {base : Nat} {e : TypeId} {size : Nat} {v : Value} {n : Nat} {xs : List Value} (h : w.ownsRow base e size v n xs) : ∃ a cap, v = .slice a n cap ∧ (n = 0 ∨ ∃ g, a = some ⟨g, 0, none⟩ ∧ base ≤ g ∧ g < w.heap.size) := by
  rcases h.2 with ⟨rfl, h0⟩ | ⟨g, cap, cur, rfl, hb, hg, _⟩
  · exact ⟨none, 0, by rw [h0], .inl h0⟩
  · exact ⟨_, cap, rfl, .inr ⟨g, rfl, hb, (Array.getElem?_eq_some_iff.1 hg).1⟩⟩

theorem ownsRow_pos {w : World} {base : Nat} {e : TypeId} {size : Nat} {v : Value} {n : Nat} {xs : List Value} (h : w.ownsRow base e size v n xs) (hn : 0 < n) : ∃ g cap, v = .slice (some ⟨g, 0, none⟩) n cap ∧ base ≤ g ∧ g < w.heap.size := by
  obtain ⟨a, cap, rfl, h0 | ⟨g, rfl, hb, hg⟩⟩ := ownsRow_slice h
  · omega
  · exact ⟨g, cap, rfl, hb, hg⟩

/-- What is owned stays owned behind a call that has turned nothing. -/
theorem ownsRow_below {w w1 : World} {base : Nat} {e : TypeId} {size : Nat} {v : Value} {n : Nat} {xs : List Value} (h : w.ownsRow base e size v n xs) (hb : Below w.heap.size w w1) : w1.ownsRow base e size v n xs := by
  refine h.kept (row := none) ⟨hb.os, hb.tape, hb.output, hb.size, fun k hk _ => hb.block k hk⟩ ?_
  cases hv : v.ownBlock with
  | none =>
    rcases h.2 with ⟨rfl, _⟩ | ⟨g, cap, cur, rfl, _⟩
    · exact .inl rfl
    · simp [Value.ownBlock] at hv
  | some g => exact .inr (by simp)

/-- What the law on append leaves, for a row of the call's own: below the base nothing has turned. -/
theorem below_append {B : Nat} {a w w1 : World} {e : TypeId} {size : Nat} {v : Value} {n : Nat} {xs : List Value} {o : Obj} (hb : Below B a w) (hB : B ≤ w.heap.size) (hown : w.ownsRow B e size v n xs) (hg : (w.alloc o).grownBy w1 v.ownBlock) : Below B a w1 :=
  (hb.alloc hB o).grown hg (by simp; omega) (fun j hj => by have := (hown.lt _ hj).1; omega)

end Go.Proofs.Ytcfbbmgpfeholaa
