/- Two arrays of 64 bytes, compared. -/
import Derived.Test.YtpfiaepoibablaaOps
import Derived.DeepKeys
namespace Go.Proofs.Ytpfiaepoibablaa
set_option linter.unusedVariables false
open Go.RowKit

theorem mapM_all {α β : Type} (f : α → Option β) (g : α → β) : ∀ (is : List α), (∀ i ∈ is, f i = some (g i)) → is.mapM f = some (is.map g)
  | [], _ => by simp
  | i :: is, h => by
    rw [List.mapM_cons, h i (by simp), mapM_all f g is (fun j hj => h j (by simp [hj]))]
    rfl
theorem flat_ones {α β : Type} (h : α → β) : ∀ (is : List α), (is.map fun i => [h i]).flatten = is.map h
  | [] => rfl
  | i :: is => by rw [List.map_cons, List.flatten_cons, flat_ones h is]; rfl
theorem byte_wf {x : Nat} (h : x < 256) : (Lit.int .u8 (x : Int)).wf = true := by
  simp only [Lit.wf, Bool.and_eq_true, decide_eq_true_eq]
  have h4 : IntKind.u8.min = 0 := by decide
  have h5 : IntKind.u8.max = 255 := by decide
  omega
end Go.Proofs.Ytpfiaepoibablaa
