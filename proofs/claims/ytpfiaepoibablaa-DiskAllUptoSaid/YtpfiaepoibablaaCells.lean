/- Bytes that lie in memory: what stays of them. -/
import Derived.Test.YtpfiaepoibablaaWalkWhole
namespace Go.Proofs.Ytpfiaepoibablaa
set_option linter.unusedVariables false
open Go.RowKit

theorem DkAt.but {W W' : World} {b c : Nat} {d : Dk} (h : DkAt W b d) (hg : W.grownBy W' (some c)) (hne : b ≠ c) : DkAt W' b d := ⟨blk_grown hg h.1 (by simpa using hne), h.2⟩
theorem own_but {W W' : World} {B g n cp b : Nat} {e : TypeId} {xs : List Value} {sz : Nat} (h : W.ownsRow B e sz (.slice (some ⟨g, 0, none⟩) n cp) n xs) (hg : W.grownBy W' (some b)) (hne : g ≠ b) : W'.ownsRow B e sz (.slice (some ⟨g, 0, none⟩) n cp) n xs :=
  h.kept hg (.inr (by simp [Value.ownBlock]; omega))
theorem secL_len (v : Int) : (secL v).length = 32 := by unfold secL; simp
/-- Bytes that lie from a place on. -/
def CellsAt (W : World) (p : Addr) (l : List Nat) : Prop := ∀ j x, l[j]? = some x → ∃ b, some p = some b ∧ W.cell? (b.add j) = some (.int .u8 (x : Nat))
theorem CellsAt.below {W W' : World} {p : Addr} {l : List Nat} (h : CellsAt W p l) (hb : Below W.heap.size W W') : CellsAt W' p l := by
  intro j x hx
  obtain ⟨b, h1, h2⟩ := h j x hx
  exact ⟨b, h1, (hb.cell (cell_lt h2)).trans h2⟩
theorem CellsAt.but {W W' : World} {p : Addr} {l : List Nat} {b : Nat} (h : CellsAt W p l) (hg : W.grownBy W' (some b)) (hne : p.block ≠ b) : CellsAt W' p l := by
  intro j x hx
  obtain ⟨q, h1, h2⟩ := h j x hx
  cases h1
  refine ⟨_, rfl, ?_⟩
  obtain ⟨_, _, _, _, hgb⟩ := hg
  have hk := hgb (p.add j).block (cell_lt h2) (by rw [show (p.add j).block = p.block from by unfold Addr.add; split <;> rfl]; simpa using hne)
  unfold World.cell? at h2 ⊢
  rw [hk]; exact h2
theorem row_all {W : World} {B g n c : Nat} {l : List Nat} (h : W.ownsRow B 5 1 (.slice (some ⟨g, 0, none⟩) n c) n (bC l)) (hl : l.length = n) : CellsAt W ⟨g, 0, none⟩ l :=
  row_part (o := 0) h hl (fun j x hx => by rw [Nat.zero_add]; exact hx)
theorem row_cap {W : World} {B g n c : Nat} {e : TypeId} {sz : Nat} {xs : List Value} (h : W.ownsRow B e sz (.slice (some ⟨g, 0, none⟩) n c) n xs) : n ≤ c := by
  rcases h.2 with ⟨h', _⟩ | ⟨g', cap', cur, h', _, _, hnc, _⟩
  · simp at h'
  · injection h' with _ _ h'; omega
end Go.Proofs.Ytpfiaepoibablaa
