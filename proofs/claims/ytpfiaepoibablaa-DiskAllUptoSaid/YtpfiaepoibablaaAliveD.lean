/- Walk: alive of the laws of the disk. -/
import Derived.Test.YtpfiaepoibablaaRead
namespace Go.Proofs.Ytpfiaepoibablaa
set_option linter.unusedVariables false
set_option linter.unusedSimpArgs false
open Go.RowKit

theorem bytes_row {W : World} {B g n c b : Nat} {l : List Nat} (h : W.ownsRow B 5 1 (.slice (some ⟨g, 0, none⟩) n c) n (bC l)) (hl : l.length = n) (hg : g ≠ b) : Bytes W b (.slice (some ⟨g, 0, none⟩) n c) l := by
  subst hl
  refine ⟨_, _, rfl, fun j x hx => ⟨_, rfl, hg, ?_⟩⟩
  have hj := (List.getElem?_eq_some_iff.1 hx).1
  rw [Addr.add_mid, Nat.zero_add, h.cellAt j (by omega)]
  unfold bC
  rw [List.getElem?_map, hx]; rfl
def aL : List Nat := (List.replicate 32 0).set 5 9
def aD : Dk := ⟨putS (List.replicate 256 0) 1 aL, false, false, 0, 1⟩
theorem aD_is : wrV Dk.new 1 aL = (aD, 0) := by
  unfold wrV
  rw [if_pos (by rfl), if_pos (by decide +kernel), if_neg (by show ¬ false = true; decide)]
  rfl
theorem aD_row : (aD.bs.drop (Int.toNat 1 * 32)).take 32 = aL := by decide +kernel
theorem aL_five : (bC aL)[5]? = some (.int .u8 9) := by rfl
theorem aL_set : (bC (List.replicate 32 0)).set 5 (.int .u8 9) = bC aL := by rfl
set_option maxRecDepth 100000 in
set_option maxHeartbeats 1000000 in
theorem alive_any (wi : World) : Calls Try.prog 6 #[] wi fun e w' => e = .returned (.bool true) ∧ Below wi.heap.size wi w' := by
  obtain ⟨i0, hi, hz0, hz1, hz2⟩ := info_parts Try.infoByte
  go_enter Try.func6, Try.ntmps6
  go_wp2_with fail
  refine (new_any _).mono ?_
  rintro e w1 ⟨rfl, hD1, hB1⟩
  go_wp2_with (refine wpList_make_full _ rfl _ _ 22 rfl w1.heap.size 5 i0 (.int .u8 0) 1 Try.underlying22 hi hz0 hz1 _ _ 32 32 32 rfl rfl rfl rfl (by rw [hz2]; decide) (by decide) (Nat.le_refl _) ?_; intro w2 hown hg; rw [show (madeCells (Value.int IntKind.u8 0).cells (32 * 1)).toList = bC (List.replicate 32 0) from toList_madeCells_one _ _] at hown; have f0 := hown.frozenAt 5; have c0 : w2.cell? ⟨w1.heap.size, 5, none⟩ = some (.int .u8 0) := (hown.cellAt 5 (by omega)).trans rfl)
  have hst := hown.stored 5 (.int .u8 9)
  rw [aL_set] at hst
  obtain ⟨hr3, hg3⟩ := hst
  have hz1 := hD1.lt
  have hD3 : DkAt (w2.setCell ⟨w1.heap.size, 5, none⟩ (.int .u8 9)) wi.heap.size Dk.new := by
    have h2 : w2.heap[wi.heap.size]? = some (.cells (dkC Dk.new) 56 (0, 0)) := blk_grown hg hD1.1 (by simp)
    exact ⟨blk_set h2 _ _ (by simp; omega), hD1.2⟩
  have hb2 : Below wi.heap.size wi w2 := hB1.grown hg (Nat.le_of_lt hz1) (fun j h => by cases h)
  have hb3 : Below wi.heap.size wi (w2.setCell ⟨w1.heap.size, 5, none⟩ (.int .u8 9)) := hb2.grown hg3 hb2.size (fun j h => by cases h; exact Nat.le_of_lt hz1)
  obtain ⟨w3, hw3⟩ : ∃ w3, w2.setCell ⟨w1.heap.size, 5, none⟩ (.int .u8 9) = w3 := ⟨_, rfl⟩
  rw [hw3] at hr3 hD3 hb3 ⊢
  clear hw3 hown hg hg3 hb2 hB1 f0 c0
  refine (write_any wi.heap.size Dk.new 1 _ aL w3 hD3 (bytes_row hr3 rfl (by omega)) (by decide) (by decide) (by decide)).mono ?_
  rintro e w4 ⟨rfl, hD4, hg4⟩
  rw [aD_is] at hD4 ⊢
  have hb4 : Below wi.heap.size wi w4 := hb3.grown hg4 hb3.size (fun j h => by cases h; exact Nat.le_refl _)
  go_wp2_with fail
  refine (read_any wi.heap.size aD 1 w4 hD4).mono ?_
  rintro e w5 ⟨v5, rfl, _, hv5, hB5⟩
  have hrow := hv5 rfl
  rw [aD_row] at hrow
  have hmz : mayV aD 1 = 0 := rfl
  rw [hmz]
  have hD5 := hD4.below hB5
  have hb5 := below_then hb4 hB5
  obtain ⟨g, cap, rfl, hg1, hg2⟩ := ownsRow_pos hrow (by omega)
  have c5 : w5.cell? ⟨g, 5, none⟩ = some (.int .u8 9) := (hrow.cellAt 5 (by omega)).trans aL_five
  go_wp2_with (first
    | (go_at_call 18; refine (writes_any _ _ _ hD5).mono ?_; rintro e w6 ⟨rfl, hB6⟩; have hD6 := hD5.below hB6; have hb6 := below_then hb5 hB6)
    | (go_at_call 19; refine (left_any _ _ _ hD6).mono ?_; rintro e w7 ⟨rfl, hB7⟩; have hb7 := below_then hb6 hB7))
  go_ret
  exact ⟨rfl, hb7⟩
end Go.Proofs.Ytpfiaepoibablaa
