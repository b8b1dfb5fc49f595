/- Two arrays of 64 bytes, compared. -/
import Derived.Test.YthkppkecclnlnaaGreatOps
import Derived.DeepKeys
namespace Go.Proofs.YthkppkecclnlnaaGreat
set_option linter.unusedVariables false
open Go.RowKit

theorem mapM_all {α β : Type} (f : α → Option β) (g : α → β) : ∀ (is : List α), (∀ i ∈ is, f i = some (g i)) → is.mapM f = some (is.map g)
  | [], _ => by simp
  | i :: is, h => by
    rw [List.mapM_cons, h i (by simp), mapM_all f g is (fun j hj => h j (by simp [hj]))]
    rfl
theorem flat_ones {α β : Type} (h : α → β) : ∀ (is : List α), (is.map fun i => [h i]).flatten = is.map h
  | [] => rfl
  | i :: is => by rw [List.map_cons, List.flatten_cons, flat_ones h is]; rfl
theorem byte_wf {x : Nat} (h : x < 256) : (Lit.int .u8 (x : Int)).wf = true := by
  simp only [Lit.wf, Bool.and_eq_true, decide_eq_true_eq]
  have h4 : IntKind.u8.min = 0 := by decide
  have h5 : IntKind.u8.max = 255 := by decide
  omega
theorem lits64 (l : List Nat) (hl : l.length = 64) (hlt : ∀ c ∈ l, c < 256) : Tryz.prog.keyLits 2 57 (bC l) = some (l.map fun x : Nat => Lit.int .u8 (x : Int)) := by
  have hc : Tryz.prog.cellsOf 5 = 1 := by kernel_rfl
  have hc2 : Tryz.prog.cellsOf 57 = 64 := by kernel_rfl
  rw [show (2 : Nat) = 1 + 1 from rfl]
  unfold Program.keyLits
  rw [Tryz.underlying57]
  show (if (bC l).length = Tryz.prog.cellsOf 57 then _ else _) = _
  rw [if_pos (by rw [bC_len, hl, hc2]), hc]
  rw [mapM_all _ (fun i => [Lit.int .u8 ((l.getD i 0 : Nat) : Int)]) _ ?_]
  · rw [Option.map_some, flat_ones]
    refine congrArg some ?_
    apply List.ext_getElem?
    intro j
    by_cases hj : j < 64
    · rw [List.getElem?_map, List.getElem?_range hj, List.getElem?_map, List.getElem?_eq_getElem (show j < l.length by omega)]
      simp [List.getD_eq_getElem?_getD, show j < l.length by omega]
    · rw [List.getElem?_eq_none (by simp; omega), List.getElem?_eq_none (by simp; omega)]
  · intro i hi
    have hi : i < l.length := by rw [hl]; exact List.mem_range.1 hi
    rw [Nat.mul_one]
    have : ((bC l).drop i).take 1 = [Value.int .u8 ((l.getD i 0 : Nat) : Int)] := by
      rw [List.drop_eq_getElem_cons (show i < (bC l).length by rw [bC_len]; exact hi)]
      simp [bC, List.getD_eq_getElem?_getD, hi]
    rw [this]
    unfold Program.keyLits
    rw [Tryz.underlying5]
    show (if _ then _ else _) = _
    rw [if_pos ⟨rfl, byte_wf (by rw [List.getD_eq_getElem?_getD, List.getElem?_eq_getElem hi]; exact hlt _ (List.getElem_mem hi))⟩]
theorem eq_bytes (l m : List Nat) (hl : l.length = 64) (hm : m.length = 64) (h1 : ∀ c ∈ l, c < 256) (h2 : ∀ c ∈ m, c < 256) (w : World) :
    (Op.equalIn 10000 57 (.agg (bC l).toArray) (.agg (bC m).toArray)).run Tryz.prog w = .ok (decide (l = m)) w := by
  have formed : ∀ k : List Nat, k.length = 64 → (Value.agg (bC k).toArray).formed Tryz.prog 57 = true := by
    intro k hk
    have hc2 : Tryz.prog.cellsOf 57 = 64 := by kernel_rfl
    simp [Value.formed, Tryz.underlying57, hc2, bC_len, hk]
  obtain ⟨r, hr, hiff⟩ := run_equalIn_deep (P := Tryz.prog) 9998 2 57 (by kernel_rfl) w 2 2 (.agg (bC l).toArray) (.agg (bC m).toArray) _ _ (formed l hl) (formed m hm) (lits64 l hl h1) (lits64 m hm h2)
  have hr2 : (Op.equalIn 10000 57 (.agg (bC l).toArray) (.agg (bC m).toArray)).run Tryz.prog w = .ok r w := hr
  rw [hr2]
  clear hr hr2
  congr 1
  rw [Bool.eq_iff_iff, hiff, decide_eq_true_iff]
  constructor
  · intro h
    apply List.ext_getElem?
    intro j
    have := congrArg (fun k => k[j]?) h
    simp only [List.getElem?_map] at this
    cases h3 : l[j]? <;> cases h4 : m[j]? <;> simp [h3, h4] at this ⊢
    omega
  · rintro rfl; rfl
end Go.Proofs.YthkppkecclnlnaaGreat
