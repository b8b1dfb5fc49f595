/- The walk of the law DiskWhole. -/
import Derived.Test.YtpfiaepoibablaaWhole
namespace Go.Proofs.Ytpfiaepoibablaa
set_option linter.unusedVariables false
set_option linter.unusedSimpArgs false
open Go.RowKit

/-- A local array of numbers. -/
def laC (l : List Nat) : Array Value := (l.map fun x : Nat => Value.int .i64 (x : Int)).toArray
theorem laC_get {l : List Nat} {s v : Nat} (h : l[s]? = some v) : (laC l)[s]? = some (.int .i64 (v : Int)) := by
  unfold laC; rw [List.getElem?_toArray, List.getElem?_map, h]; rfl
theorem laC_set (l : List Nat) (s v : Nat) : (laC l).setIfInBounds s (.int .i64 (v : Int)) = laC (l.set s v) := by
  unfold laC; rw [List.setIfInBounds_toArray, List.map_set]
/-- A part of a row of bytes that the call owns. -/
theorem row_part {W : World} {B g n c o : Nat} {l m : List Nat} (h : W.ownsRow B 5 1 (.slice (some ⟨g, 0, none⟩) n c) n (bC l)) (hl : l.length = n) (hm : ∀ j x, m[j]? = some x → l[o + j]? = some x) :
    ∀ j x, m[j]? = some x → ∃ b, some (⟨g, o, none⟩ : Addr) = some b ∧ W.cell? (b.add j) = some (.int .u8 (x : Nat)) := by
  intro j x hx
  have h2 := hm j x hx
  have hj := (List.getElem?_eq_some_iff.1 h2).1
  refine ⟨_, rfl, ?_⟩
  rw [Addr.add_mid, h.cellAt _ (by omega)]
  unfold bC
  rw [List.getElem?_map, h2]; rfl
theorem rem_place (x : Int) : ∃ k : Nat, k < 8 ∧ ((Int.tmod x 8 = (k : Int)) ∨ (Int.tmod x 8 < 0 ∧ Int.tmod x 8 = (k : Int) - 8)) := by
  have h1 : Int.tmod x 8 < 8 := Int.tmod_lt_of_pos x (by decide)
  have h2 : -8 < Int.tmod x 8 := Int.lt_tmod_of_pos x (by decide)
  by_cases h : Int.tmod x 8 < 0
  · exact ⟨(Int.tmod x 8 + 8).toNat, by omega, .inr ⟨h, by omega⟩⟩
  · exact ⟨(Int.tmod x 8).toNat, by omega, .inl (by omega)⟩
end Go.Proofs.Ytpfiaepoibablaa
