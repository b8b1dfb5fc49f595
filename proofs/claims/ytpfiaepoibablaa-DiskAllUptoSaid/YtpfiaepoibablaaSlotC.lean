/- Walks: Encode, Decode. -/
import Derived.Test.YtpfiaepoibablaaSlotB
import Derived.Test.YtpfiaepoibablaaFloat
import Derived.Test.YtpfiaepoibablaaEqB
import Derived.Deep.CutRange
namespace Go.Proofs.Ytpfiaepoibablaa
set_option linter.unusedVariables false
set_option linter.unusedSimpArgs false
open Go.RowKit

def encOk (a b c s : Int) : Prop := mayR a b c ∧ 1 ≤ s ∧ s ≤ 1099511627776
instance (a b c s : Int) : Decidable (encOk a b c s) := by unfold encOk; infer_instance
def rcN (a b c s : Int) : Rc := ⟨a.toNat, b.toNat, c.toNat, s.toNat⟩
theorem rcN_may {a b c s : Int} (h : encOk a b c s) : (rcN a b c s).may ∧ keptV (rcN a b c s) = .agg #[.int .i64 a, .int .i64 b, .int .i64 c, .int .i64 s] := by
  obtain ⟨⟨h1, h2, h3, h4, h5, h6⟩, h7, h8⟩ := h
  refine ⟨⟨by show 1 ≤ a.toNat; omega, by show a.toNat ≤ _; omega, by show b.toNat ≤ _; omega, by show c.toNat ≤ _; omega, by show 1 ≤ s.toNat; omega, by show s.toNat ≤ _; omega⟩, ?_⟩
  unfold keptV rcN
  simp only
  rw [Int.toNat_of_nonneg (by omega), Int.toNat_of_nonneg (by omega), Int.toNat_of_nonneg (by omega), Int.toNat_of_nonneg (by omega)]
theorem box3 (w : World) (x y z : Value) (t : TypeId) : (w.alloc (.cells #[x, y, z] t)).heap[w.heap.size]? = some (.cells #[x, y, z] t (0, 0)) := blk_new w _
/-- What Decode answers. -/
def decA (o : Option Rc) : Value := match o with | some r => .tuple #[recV r.life r.round r.tag, .int .i64 (r.seq : Int), .int .i64 0] | none => .tuple #[recV 0 0 0, .int .i64 0, .int .i64 70]
theorem CellsAt.part {W : World} {p : Addr} {l : List Nat} (h : CellsAt W p l) (o n : Nat) : CellsAt W (p.add o) ((l.drop o).take n) := by
  intro j x hx
  rw [List.getElem?_take] at hx
  split at hx
  · rw [List.getElem?_drop] at hx
    obtain ⟨b, h1, h2⟩ := h _ _ hx
    cases h1
    exact ⟨_, rfl, by rw [Addr.add_add]; exact h2⟩
  · cases hx
theorem CellsAt.range {W : World} {g q : Nat} {l : List Nat} (h : CellsAt W ⟨g, q, none⟩ l) : W.rangeAt g q (bC l) := by
  intro j v hv
  rw [bC_get] at hv
  cases hx : l[j]? with
  | none => rw [hx] at hv; cases hv
  | some x =>
    rw [hx] at hv
    cases hv
    obtain ⟨b, h1, h2⟩ := h j x hx
    cases h1
    rwa [Addr.add_mid] at h2
end Go.Proofs.Ytpfiaepoibablaa
