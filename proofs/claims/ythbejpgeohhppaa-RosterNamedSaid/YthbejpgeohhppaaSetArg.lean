/- A parameter that is a set of ids (an array of four words) opens to a set as one number. -/
import Derived.Test.YthbejpgeohhppaaArgs
import Derived.Test.YthbejpgeohhppaaSet
import Derived.OpenShut
namespace Go.Proofs.Ythbejpgeohhppaa
set_option linter.unusedVariables false
open Go.RowKit Go.WideShapes Go.ChangeShapes Go.WideElems

theorem word_of {n : Int} (h : (Lit.int .u32 n).wf = true) : ∃ k : Nat, n = (k : Int) ∧ k < 2 ^ 32 := by
  have h2 : (0 : Int) ≤ n ∧ n < 4294967296 := by
    have h3 := h
    simp only [Lit.wf, Bool.and_eq_true, decide_eq_true_eq] at h3
    have h4 : IntKind.u32.min = 0 := by decide
    have h5 : IntKind.u32.max = 4294967295 := by decide
    omega
  exact ⟨n.toNat, by omega, by omega⟩

theorem open_setV {H : Type} {enc : TypeId × Value → H} {P : Program} {W : World} {spare : Nat → Bool} {held : Bool} {r : Reach} {b0 : Nat} {t e : TypeId} {v : Value} {d : DataW H} {p : List MemPlace} (ht : P.underlying t = some (.array 4 e)) (he : P.underlying e = some (.int .u32)) (hc : P.cellsOf e = 1) (hct : P.cellsOf t = 4)
    (hval : Value.okWide P W r b0 t v) (h : DataW.Trod enc P W 0 spare held t v d p) : ∃ x, v = setV x ∧ x < 2 ^ 128 := by
  obtain ⟨n, hn⟩ := h
  unfold Value.okWide at hval
  rw [ht] at hval
  obtain ⟨cs, rfl, _, _⟩ := hval
  obtain ⟨xs, m, rfl, hx, hl, hxl, hall⟩ := DataW.trod_array ht hn
  rw [hc] at hall
  have key : ∀ i, i < 4 → ∃ k : Nat, (cs.toList.drop i).take 1 = [.int .u32 (k : Int)] ∧ k < 2 ^ 32 := by
    intro i hi
    have h1 := hall i hi
    rw [Nat.mul_one, List.getElem?_eq_getElem (by omega)] at h1
    obtain ⟨z, hz, _, hw⟩ := DataW.trod_int he h1
    obtain ⟨k, rfl, hk⟩ := word_of hw
    exact ⟨k, hz, hk⟩
  obtain ⟨a, ha, la⟩ := key 0 (by omega)
  obtain ⟨b, hb, lb⟩ := key 1 (by omega)
  obtain ⟨c, hc1, lc⟩ := key 2 (by omega)
  obtain ⟨e1, he1, le⟩ := key 3 (by omega)
  have hcl : cs.toList.length = 4 := by
    exact hl.trans hct
  obtain ⟨c0, c1, c2, c3, hcs⟩ : ∃ c0 c1 c2 c3, cs.toList = [c0, c1, c2, c3] := by
    match hcx : cs.toList, hcl with
    | [c0, c1, c2, c3], _ => exact ⟨c0, c1, c2, c3, rfl⟩
  rw [hcs] at ha hb hc1 he1
  simp at ha hb hc1 he1
  subst ha hb hc1 he1
  obtain ⟨s0, s1, s2, s3⟩ := setOf4_sw la lb lc le
  refine ⟨setOf4 a b c e1, ?_, setOf4_lt la lb lc le⟩
  unfold setV setC
  rw [s0, s1, s2, s3, ← Array.toArray_toList (xs := cs), hcs]
end Go.Proofs.Ythbejpgeohhppaa
