/- A roster and the document's own, side by side. -/
import Derived.Test.YthbejpgeohhppaaAlive
namespace Go.Proofs.Ythbejpgeohhppaa
set_option linter.unusedVariables false
open Go.RowKit Go.Maps

/-- A roster and the document's, each in a variable. -/
def Two (w0 : World) (b c B C : Nat) (v u : Array Value) (o : Option (List Nat)) (W : World) : Prop :=
  W.heap[b]? = some (.cells v 25 (0, 0)) ∧ W.heap[c]? = some (.cells u 31 (0, 0)) ∧ RostAt W B (.agg v) o ∧ RefAt W C (.agg u) o ∧ Below w0.heap.size w0 W
theorem Two.drew {w0 : World} {b c B C : Nat} {v u : Array Value} {o : Option (List Nat)} {W : World} (h : Two w0 b c B C v u o W) : Two w0 b c B C v u o W.drew := by
  obtain ⟨h1, h2, h3, h4, h5⟩ := h
  exact ⟨h1, h2, h3.below ⟨rfl, rfl, rfl, Nat.le_refl _, fun _ _ => rfl⟩, h4.below ⟨rfl, rfl, rfl, Nat.le_refl _, fun _ _ => rfl⟩, below_drewN h5 1⟩
theorem Two.below {w0 : World} {b c B C : Nat} {v u : Array Value} {o : Option (List Nat)} {W W' : World} (h : Two w0 b c B C v u o W) (hb : Below W.heap.size W W') : Two w0 b c B C v u o W' :=
  ⟨blk_below' hb h.1, blk_below' hb h.2.1, h.2.2.1.below hb, h.2.2.2.1.below hb, below_then h.2.2.2.2 hb⟩
theorem Two.cells {w0 : World} {b c B C : Nat} {v0 v1 v2 u0 : Value} {o : Option (List Nat)} {W : World} (h : Two w0 b c B C #[v0, v1, v2] #[u0] o W) :
    (W.cell? ⟨b, 0, none⟩ = some v0 ∧ W.cell? ⟨b, 1, none⟩ = some v1 ∧ W.cell? ⟨b, 2, none⟩ = some v2) ∧ W.cell? ⟨c, 0, none⟩ = some u0 ∧ Two w0 b c B C #[v0, v1, v2] #[u0] o W := by
  obtain ⟨c0, c1, c2, _⟩ := three_cells h.1
  have := blk_cell h.2.1 0
  exact ⟨⟨c0, c1, c2⟩, by simpa using this, h⟩

theorem RostAt.grown {W W' : World} {B : Nat} {v : Value} {o : Option (List Nat)} {k : Nat} (h : RostAt W B v o) (hg : W.grownBy W' (some k)) (hk : ∀ l, o = some l → ∀ j, W.heap[k]? = some j → (∀ cs t f, j ≠ .cells cs t f) ∧ ∀ es c, j ≠ .map es c) (hlt : k < W.heap.size) : RostAt W' B v o := by
  cases o with
  | none => exact h
  | some l =>
    obtain ⟨sv, b, D, rfl, h1, ⟨h2, h3⟩, h4⟩ := h
    obtain ⟨j, hj⟩ : ∃ j, W.heap[k]? = some j := ⟨_, Array.getElem?_eq_getElem hlt⟩
    obtain ⟨n1, n2⟩ := hk l rfl j hj
    refine ⟨sv, b, D, rfl, h1.kept hg ?_, ⟨h2.kept hg ?_, h3⟩, h4⟩
    · rcases h1.2 with ⟨h, _⟩ | ⟨g, cap, cur, rfl, _, hh, _⟩
      · exact .inl (by rw [h]; rfl)
      · refine .inr fun e => ?_
        have : g = k := by simpa [Value.ownBlock] using e
        subst this
        rw [hj] at hh
        exact n1 _ _ _ (Option.some.inj hh)
    · intro e
      have : b = k := by simpa using e
      subst this
      obtain ⟨es, c, hb, _⟩ := h2
      rw [hj] at hb
      exact n2 _ _ (Option.some.inj hb)
theorem text_is (v : Value) (o : Option (List Nat)) (B : Nat) (W : World) (h : RostAt W B v o) (x : ByteArray) (hx : textV o = x) :
    Calls Try.prog 16 #[v] W fun e w' => e = .returned (.string x) ∧ Below W.heap.size W w' := by subst hx; exact text_any v o B W h
theorem sign_is (v : Value) (o : Option (List Nat)) (B : Nat) (W : World) (h : RostAt W B v o) (i : Int) (x : Value) (hx : signV (sgs o) i = x) :
    Calls Try.prog 18 #[v, .int .i64 i] W fun e w' => e = .returned x ∧ Below W.heap.size W w' := by subst hx; exact sign_any v o B W h i
theorem id_is (v : Value) (o : Option (List Nat)) (B : Nat) (W : World) (h : RostAt W B v o) (c : Int) (hc : (Lit.int .i32 c).wf = true) (x : Value) (hx : idV (sgs o) c = x) :
    Calls Try.prog 19 #[v, .int .i32 c] W fun e w' => e = .returned x ∧ Below W.heap.size W w' := by subst hx; exact id_any v o B W h c hc
theorem refId_is (v : Value) (o : Option (List Nat)) (B : Nat) (W : World) (h : RefAt W B v o) (hl : (sgs o).length ≤ 100) (c x : Int) (hx : fndI (sgs o) c = x) :
    Calls Try.prog 20 #[v, .int .i64 c] W fun e w' => e = .returned (.int .i64 x) ∧ Below W.heap.size W w' := by subst hx; exact refId_any v o B W h hl c
end Go.Proofs.Ythbejpgeohhppaa
