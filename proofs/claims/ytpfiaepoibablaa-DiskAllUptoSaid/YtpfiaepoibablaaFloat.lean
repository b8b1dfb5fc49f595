/- A region that draws: one step by hand, where one or two operations are ready. -/
import Derived.Test.YtpfiaepoibablaaEarly
namespace Go.Proofs.Ytpfiaepoibablaa
open Go.RowKit
set_option linter.unusedVariables false
section
variable {P : Program} {ops : Array Oper} {Q : Exit → Act → World → Prop} {md : Region.Mode} {S : World → Prop} {L : Nat → Bool}
theorem wpAnyE_one {i : Nat} {oi : Oper} {fuel : Nat} {listed : Array Bool} {a : Act} {w : World} (hr : Region.ready md ops listed = [i]) (hi : ops[i]? = some oi)
    (h : wpList P ops (Exit.then (fun a' w' => (L i = false → S w') ∧ wpAnyE P md ops Q S L fuel (listed.setIfInBounds i true) a' w') Q) [oi] a w) : wpAnyE P md ops Q S L (fuel + 1) listed a w := by
  refine ⟨fun h' => (by rw [hr] at h'; cases h'), fun k hk => ?_⟩
  rw [hr] at hk
  obtain rfl : k = i := by simpa using hk
  exact wpOp_of_single hi h
theorem wpAnyE_two {i j : Nat} {oi oj : Oper} {fuel : Nat} {listed : Array Bool} {a : Act} {w : World} (hr : Region.ready md ops listed = [i, j]) (hi : ops[i]? = some oi) (hj : ops[j]? = some oj)
    (h1 : wpList P ops (Exit.then (fun a' w' => (L i = false → S w') ∧ wpAnyE P md ops Q S L fuel (listed.setIfInBounds i true) a' w') Q) [oi] a w)
    (h2 : wpList P ops (Exit.then (fun a' w' => (L j = false → S w') ∧ wpAnyE P md ops Q S L fuel (listed.setIfInBounds j true) a' w') Q) [oj] a w) : wpAnyE P md ops Q S L (fuel + 1) listed a w := by
  refine ⟨fun h' => (by rw [hr] at h'; cases h'), fun k hk => ?_⟩
  rw [hr] at hk
  rcases List.mem_cons.1 hk with rfl | hk
  · exact wpOp_of_single hi h1
  · obtain rfl : k = j := by simpa using hk
    exact wpOp_of_single hj h2
theorem wpAnyE_end {listed : Array Bool} {a : Act} {w : World} (hr : Region.ready md ops listed = []) (h : Q .normal a w) : wpAnyE P md ops Q S L 0 listed a w := ⟨hr, h⟩
end
end Go.Proofs.Ytpfiaepoibablaa
