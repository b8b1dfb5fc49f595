/- Stores of many cells into a block that is known whole. -/
import Derived.Test.YtpfiaepoibablaaRow
import Derived.Deep.MidRow
import Derived.Laws.Rows
namespace Go.Proofs.Ytpfiaepoibablaa
set_option linter.unusedVariables false
open Go.RowKit

def setAll (cs : Array Value) : Nat → List Value → Array Value
  | _, [] => cs
  | o, v :: vs => setAll (cs.setIfInBounds o v) (o + 1) vs
theorem setAll_size (vs : List Value) : ∀ (o : Nat) (cs : Array Value), (setAll cs o vs).size = cs.size := by
  induction vs with
  | nil => intro o cs; rfl
  | cons v vs ih => intro o cs; rw [setAll, ih, Array.size_setIfInBounds]
theorem setAll_get (vs : List Value) : ∀ (o : Nat) (cs : Array Value) (j : Nat), (setAll cs o vs)[j]? = if o ≤ j ∧ j < o + vs.length ∧ j < cs.size then vs[j - o]? else cs[j]? := by
  induction vs with
  | nil => intro o cs j; simp [setAll]; intro h1 h2; omega
  | cons v vs ih =>
    intro o cs j
    rw [setAll, ih, Array.size_setIfInBounds, List.length_cons]
    by_cases h1 : o + 1 ≤ j ∧ j < o + 1 + vs.length ∧ j < cs.size
    · rw [if_pos h1, if_pos (by omega), show j - o = (j - (o + 1)) + 1 from by omega, List.getElem?_cons_succ]
    · rw [if_neg h1, Array.getElem?_setIfInBounds]
      by_cases h2 : o = j
      · subst h2
        by_cases h3 : o < cs.size
        · rw [if_pos rfl, if_pos h3, if_pos (by omega)]; simp
        · rw [if_pos rfl, if_neg h3, if_neg (by omega)]; rw [Array.getElem?_eq_none (by omega)]
      · rw [if_neg h2, if_neg (by omega)]
theorem setAll_whole (vs : List Value) (cs : Array Value) (h : vs.length = cs.size) : setAll cs 0 vs = vs.toArray := by
  apply Array.ext_getElem?
  intro j
  rw [setAll_get]
  by_cases hj : j < vs.length
  · rw [if_pos (by omega)]; simp
  · rw [if_neg (by omega), Array.getElem?_eq_none (by omega), List.getElem?_toArray, List.getElem?_eq_none (by omega)]

theorem setCells_blk {b : Nat} {t : TypeId} (vs : List Value) : ∀ (o : Nat) (W : World) (cs : Array Value), W.heap[b]? = some (.cells cs t (0, 0)) → (W.setCells b o vs).heap[b]? = some (.cells (setAll cs o vs) t (0, 0)) := by
  induction vs with
  | nil => intro o W cs h; exact h
  | cons v vs ih => intro o W cs h; exact ih (o + 1) _ _ (blk_store h o v)
theorem setCells_other {b k : Nat} (vs : List Value) : ∀ (o : Nat) (W : World) {x : Obj}, W.heap[k]? = some x → k ≠ b → (W.setCells b o vs).heap[k]? = some x := by
  induction vs with
  | nil => intro o W x h _; exact h
  | cons v vs ih => intro o W x h hne; exact ih (o + 1) _ (blk_set h _ _ hne) hne
theorem setCells_below {b B : Nat} {w0 : World} (vs : List Value) : ∀ (o : Nat) (W : World), Below B w0 W → B ≤ b → Below B w0 (W.setCells b o vs) := by
  induction vs with
  | nil => intro o W h _; exact h
  | cons v vs ih => intro o W h hb; exact ih (o + 1) _ (h.setCell (p := ⟨b, o, none⟩) (by simpa using hb) v) hb
theorem setCells_size {b : Nat} (vs : List Value) : ∀ (o : Nat) (W : World), (W.setCells b o vs).heap.size = W.heap.size := by
  induction vs with
  | nil => intro o W; rfl
  | cons v vs ih => intro o W; exact (ih (o + 1) _).trans (by simp)
theorem there_blk {W : World} {b : Nat} {t : TypeId} {cs : Array Value} (h : W.heap[b]? = some (.cells cs t (0, 0))) (o n : Nat) (hn : o + n ≤ cs.size) : W.there b o n := by
  intro j hj
  rw [blk_cell h, blk_free h]
  exact ⟨by rw [Array.getElem?_eq_getElem (by omega)]; rfl, rfl⟩
/-- A whole block is written anew. -/
theorem setCells_whole {W : World} {b : Nat} {t : TypeId} {cs : Array Value} (h : W.heap[b]? = some (.cells cs t (0, 0))) (vs : Array Value) (hs : vs.size = cs.size) : (W.setCells b 0 vs.toList).heap[b]? = some (.cells vs t (0, 0)) := by
  rw [setCells_blk _ 0 W cs h, setAll_whole _ _ (by simpa using hs)]
end Go.Proofs.Ytpfiaepoibablaa
