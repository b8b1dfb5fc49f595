/- Walk: alive of the laws of the disk. -/
import Derived.Test.YthkppkecclnlnaaGreatRead
namespace Go.Proofs.YthkppkecclnlnaaGreat
set_option linter.unusedVariables false
set_option linter.unusedSimpArgs false
open Go.RowKit

theorem bytes_row {W : World} {B g n c b : Nat} {l : List Nat} (h : W.ownsRow B 5 1 (.slice (some ⟨g, 0, none⟩) n c) n (bC l)) (hl : l.length = n) (hg : g ≠ b) : Bytes W b (.slice (some ⟨g, 0, none⟩) n c) l := by
  subst hl
  refine ⟨_, _, rfl, fun j x hx => ⟨_, rfl, hg, ?_⟩⟩
  have hj := (List.getElem?_eq_some_iff.1 hx).1
  rw [Addr.add_mid, Nat.zero_add, h.cellAt j (by omega)]
  unfold bC
  rw [List.getElem?_map, hx]; rfl
def aL : List Nat := (List.replicate 32 0).set 5 9
def aD : Dk := ⟨putS (List.replicate 256 0) 1 aL, false, false, 0, 1⟩
theorem aD_is : wrV Dk.new 1 aL = (aD, 0) := by
  unfold wrV
  rw [if_pos (by rfl), if_pos (by decide +kernel), if_neg (by show ¬ false = true; decide)]
  rfl
theorem aD_row : (aD.bs.drop (Int.toNat 1 * 32)).take 32 = aL := by decide +kernel
theorem aL_five : (bC aL)[5]? = some (.int .u8 9) := by rfl
theorem aL_set : (bC (List.replicate 32 0)).set 5 (.int .u8 9) = bC aL := by rfl
end Go.Proofs.YthkppkecclnlnaaGreat
