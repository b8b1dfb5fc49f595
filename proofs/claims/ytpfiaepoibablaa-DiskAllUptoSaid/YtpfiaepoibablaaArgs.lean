/- What came in stays as it was read, behind a call that has turned nothing; rows of integers that came in. -/
import Derived.Test.YtpfiaepoibablaaPost
import Derived.WideKeyArgs
import Derived.ChangeSlices
namespace Go.Proofs.Ytpfiaepoibablaa
set_option linter.unusedVariables false
open Go.RowKit Go.WideShapes Go.ChangeShapes Go.WideElems

section
variable {H : Type} {enc : TypeId × Value → H} {P : Program}
theorem trodAll_stays (hl : laidOutB P = true) {W W' : World} {sp : Nat → Bool} : ∀ (ts : List TypeId) (vs : List Value) (ds : List (DataW H)) (p : List MemPlace), (∀ t ∈ ts, P.readableRec t = true ∧ t < P.types.size) →
    DataW.TrodAll enc P W 0 (fun _ => true) true ts vs ds p → (∀ q ∈ p, W.sameAt W' q) → (∀ q ∈ p, sp q.block = true) → DataW.TrodAll enc P W' 0 sp true ts vs ds p
  | [], _, _, _, _, h, _, _ => by
    obtain ⟨rfl, rfl, rfl⟩ := trodAll_nil h
    exact h
  | t :: ts, _, _, _, hr, h, hs, hp => by
    obtain ⟨v, vs1, d, ds1, a, b, rfl, rfl, rfl, h1, h2⟩ := trodAll_cons h
    exact ⟨a, b, Trod_stays hl (hr t (by simp)).1 (hr t (by simp)).2 h1 (fun q hq => hs q (by simp [hq])) (fun q hq => hp q (by simp [hq])),
      trodAll_stays hl ts vs1 ds1 b (fun u hu => hr u (by simp [hu])) h2 (fun q hq => hs q (by simp [hq])) (fun q hq => hp q (by simp [hq])), rfl⟩
end

def readAll (P : Program) (ts : List TypeId) : Bool := ts.all fun t => P.readableRec t && decide (t < P.types.size)
theorem readAll_spec {P : Program} {ts : List TypeId} (h : readAll P ts = true) : ∀ t ∈ ts, P.readableRec t = true ∧ t < P.types.size := by
  intro t ht
  have := List.all_eq_true.1 h t ht
  simpa using this

/-- A row of integers that came in. -/
def RowOf (W : World) (k : IntKind) (v : Value) (xs : List Int) : Prop :=
  (v = .slice none 0 0 ∧ xs = []) ∨ ∃ a cap, v = .slice (some a) xs.length cap ∧ xs.length ≤ cap ∧ cap ≤ maxLen ∧ ∀ i x, xs[i]? = some x → W.cell? (a.add i) = some (.int k x) ∧ (a.add i).block < W.heap.size

theorem RowOf.slice {W : World} {k : IntKind} {v : Value} {xs : List Int} (h : RowOf W k v xs) : ∃ a cap, v = .slice a xs.length cap ∧ xs.length ≤ cap ∧ cap ≤ maxLen ∧ ∀ i x, xs[i]? = some x → ∃ b, a = some b ∧ W.cell? (b.add i) = some (.int k x) := by
  rcases h with ⟨rfl, rfl⟩ | ⟨a, cap, rfl, h1, h2, h3⟩
  · exact ⟨none, 0, rfl, Nat.le_refl _, by unfold maxLen; omega, fun i x h => by simp at h⟩
  · exact ⟨some a, cap, rfl, h1, h2, fun i x h => ⟨a, rfl, (h3 i x h).1⟩⟩

theorem RowOf.below {W W' : World} {k : IntKind} {v : Value} {xs : List Int} (h : RowOf W k v xs) (hb : Below W.heap.size W W') : RowOf W' k v xs := by
  rcases h with h | ⟨a, cap, rfl, h1, h2, h3⟩
  · exact .inl h
  · exact .inr ⟨a, cap, rfl, h1, h2, fun i x hx => ⟨(hb.cell (h3 i x hx).2).trans (h3 i x hx).1, Nat.lt_of_lt_of_le (h3 i x hx).2 hb.size⟩⟩

theorem cell_lt {W : World} {p : Addr} {v : Value} (h : W.cell? p = some v) : p.block < W.heap.size := by
  rcases Nat.lt_or_ge p.block W.heap.size with hlt | hge
  · exact hlt
  · exfalso
    unfold World.cell? at h
    rw [Array.getElem?_eq_none hge] at h
    simp at h

theorem open_rowOf {H : Type} {enc : TypeId × Value → H} {P : Program} {W : World} {spare : Nat → Bool} {held : Bool} {r : Reach} {b0 : Nat} {t e : TypeId} {k : IntKind} {v : Value} {d : DataW H} {p : List MemPlace} (ht : P.underlying t = some (.slice e)) (he : P.underlying e = some (.int k)) (hc : P.cellsOf e = 1)
    (hval : Value.okWide P W r b0 t v) (h : DataW.Trod enc P W 0 spare held t v d p) :
    ∃ xs, RowOf W k v xs ∧ (∀ x ∈ xs, (Lit.int k x).wf = true) ∧ (d = .nil ∨ ∃ el sp, d = .slice el sp ∧ el.length = xs.length) := by
  obtain ⟨n, hn⟩ := h
  have hv : v.cells.toList = [v] := by
    cases v <;> first | rfl | (simp [Value.okWide, Cell.okWide, Cell.ok, ht] at hval)
  rw [hv] at hn
  rcases open_ints ht he hc hn with ⟨h1, h2⟩ | ⟨a, len, cap, zs, h1, hb, hl, hm, hz, h2, h3, h4⟩
  · obtain rfl : v = .slice none 0 0 := by simpa using h1
    exact ⟨[], .inl ⟨rfl, rfl⟩, by simp, .inl (by simpa using congrArg Prod.fst h2)⟩
  · obtain rfl : v = .slice (some a) len cap := by simpa using h1
    have hzl : len ≤ zs.length := by rw [hz]; split <;> omega
    have hlen : (zs.take len).length = len := by rw [List.length_take]; omega
    refine ⟨zs.take len, .inr ⟨a, cap, by rw [hlen], by omega, hm, fun i x hx => ?_⟩, fun x hx => h4 x (List.mem_of_mem_take hx), .inr ⟨lits k (zs.take len), lits k (zs.drop len), by simpa using congrArg Prod.fst h2, by simp [lits]⟩⟩
    have hi : i < len := by have := (List.getElem?_eq_some_iff.1 hx).1; omega
    have hx2 : zs[i]? = some x := by rw [List.getElem?_take_of_lt hi] at hx; exact hx
    have hc1 := h3 i (by omega)
    rw [List.getD_eq_getElem?_getD, hx2] at hc1
    exact ⟨hc1, cell_lt hc1⟩
end Go.Proofs.Ytpfiaepoibablaa
