/- Walk: Twin. -/
import Derived.Test.YthkppkecclnlnaaWalkNone
namespace Go.Proofs.Ythkppkecclnlnaa
set_option linter.unusedVariables false
set_option linter.unusedSimpArgs false
open Go.RowKit

theorem dk_info : (Try.prog.info? 90).map (·.size) = some 260 := by kernel_rfl
theorem dk_zero : Try.zeroCells90.size = 260 := by kernel_rfl
theorem dkC_one (d : Dk) : (dkC d).all (·.oneCell') = true := by
  unfold dkC
  refine all_oneCell_toArray fun v hv => ?_
  rcases List.mem_append.1 hv with h | h
  · exact bC_one _ v h
  · unfold dkT at h
    simp at h
    rcases h with rfl | rfl | rfl | rfl <;> rfl
set_option maxRecDepth 100000 in
set_option maxHeartbeats 1000000 in
theorem twin_any (b : Nat) (d : Dk) (w : World) (h : DkAt w b d) : Calls Try.prog 33 #[.pointer (some ⟨b, 0, none⟩)] w fun e w' => ∃ c, e = .returned (.pointer (some ⟨c, 0, none⟩)) ∧ w.heap.size ≤ c ∧ DkAt w' c d ∧ Below w.heap.size w w' := by
  have hD := Lib.hid h
  clear h
  go_enter Try.func33, Try.ntmps33
  go_wp2_with (first
    | (refine wpList_load_row rfl _ _ rfl b rfl _ (dkC d) _ _ hD.out.1 Try.underlying90 rfl (dk_info.trans (by rw [dkC_size hD.out.2])) ?_)
    | (refine wpList_store_mid rfl _ _ _ rfl w.heap.size 0 (dkC d) rfl rfl (there_blk (blk_new w _) 0 _ (by rw [dkC_size hD.out.2, dk_zero]; decide)) (dk_info.trans (by rw [dkC_size hD.out.2])) (dkC_one d) ?_; have n3 := new_row w Try.zeroCells90 90 (dkC d).toList (by rw [dk_zero, Array.length_toList, dkC_size hD.out.2])))
  go_ret
  exact ⟨_, rfl, Nat.le_refl _, ⟨by simpa using n3.1, hD.out.2⟩, by simpa using n3.2⟩
end Go.Proofs.Ythkppkecclnlnaa
