/- Walks: load, Load, Save. -/
import Derived.Test.YtpfiaepoibablaaSlotC
namespace Go.Proofs.Ytpfiaepoibablaa
set_option linter.unusedVariables false
set_option linter.unusedSimpArgs false
open Go.RowKit

def bestK (bs : List Nat) : Nat → Rc × Int
  | 0 => (Rc.zero, -1)
  | k + 1 => pick (bestK bs k) k (decL (slotB bs k))
theorem bestK_two (bs : List Nat) : bestK bs 2 = bestL bs := rfl
def keptC (r : Rc) : Array Value := #[.int .i64 (r.life : Int), .int .i64 (r.round : Int), .int .i64 (r.tag : Int), .int .i64 (r.seq : Int)]
theorem slotB_get {bs : List Nat} (h : bs.length = 256) {k : Nat} (hk : k < 4) : (slotB bs k).length = 64 := by
  unfold slotB; rw [List.length_append, rowS_len h (by omega), rowS_len h (by omega)]
theorem rowS_lt {bs : List Nat} (h : ∀ c ∈ bs, c < 256) (s : Nat) : ∀ c ∈ rowS bs s, c < 256 := fun c hc => h c (List.mem_of_mem_drop (List.mem_of_mem_take hc))
theorem slotB_lt {bs : List Nat} (h : ∀ c ∈ bs, c < 256) (k : Nat) : ∀ c ∈ slotB bs k, c < 256 := by
  intro c hc
  rcases List.mem_append.1 hc with hc | hc
  · exact rowS_lt h _ c hc
  · exact rowS_lt h _ c hc
theorem blk4 {W : World} {b : Nat} {x y z s : Value} {t : TypeId} (h : W.heap[b]? = some (.cells #[x, y, z, s] t (0, 0))) :
    W.cell? ⟨b, 0, none⟩ = some x ∧ W.cell? ⟨b, 1, none⟩ = some y ∧ W.cell? ⟨b, 2, none⟩ = some z ∧ W.cell? ⟨b, 3, none⟩ = some s ∧ W.frozen? ⟨b, 0, none⟩ = false ∧ W.frozen? ⟨b, 1, none⟩ = false ∧ W.frozen? ⟨b, 2, none⟩ = false ∧ W.frozen? ⟨b, 3, none⟩ = false :=
  ⟨(blk_cell h 0).trans rfl, (blk_cell h 1).trans rfl, (blk_cell h 2).trans rfl, (blk_cell h 3).trans rfl, blk_free h 0, blk_free h 1, blk_free h 2, blk_free h 3⟩
theorem blk3 {W : World} {b : Nat} {x y z : Value} {t : TypeId} (h : W.heap[b]? = some (.cells #[x, y, z] t (0, 0))) :
    W.cell? ⟨b, 0, none⟩ = some x ∧ W.cell? ⟨b, 1, none⟩ = some y ∧ W.cell? ⟨b, 2, none⟩ = some z ∧ W.frozen? ⟨b, 0, none⟩ = false ∧ W.frozen? ⟨b, 1, none⟩ = false ∧ W.frozen? ⟨b, 2, none⟩ = false :=
  ⟨(blk_cell h 0).trans rfl, (blk_cell h 1).trans rfl, (blk_cell h 2).trans rfl, blk_free h 0, blk_free h 1, blk_free h 2⟩
def ldA (d : Dk) : Value := if d.off then .tuple #[keptV Rc.zero, .int .i64 (-1), .int .i64 100] else .tuple #[keptV (bestL d.bs).1, .int .i64 (bestL d.bs).2, .int .i64 0]
end Go.Proofs.Ytpfiaepoibablaa
