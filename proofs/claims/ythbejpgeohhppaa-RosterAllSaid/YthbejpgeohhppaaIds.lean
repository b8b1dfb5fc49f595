/- The ids by their signs: a map that a call has made, as a list of signs. -/
import Derived.Test.YthbejpgeohhppaaRow
import Derived.Test.YthbejpgeohhppaaRd
import Derived.Maps.Own
import Derived.Maps.OwnOps
import Derived.Maps.OwnSet
namespace Go.Proofs.Ythbejpgeohhppaa
set_option linter.unusedVariables false
open Go.RowKit Go.Maps

/-- The place of a sign. -/
def fnd (l : List Nat) (c : Int) : Option Nat := l.findIdx? (fun r : Nat => ((r : Int) == c))
theorem fnd_snoc (l : List Nat) (r : Nat) (c : Int) : fnd (l ++ [r]) c = (fnd l c).or (if (r : Int) = c then some l.length else none) := by
  unfold fnd
  rw [List.findIdx?_append]
  simp [List.findIdx?_cons]
theorem fnd_some {l : List Nat} {c : Int} {k : Nat} (h : fnd l c = some k) : ∃ r, l[k]? = some r ∧ (r : Int) = c ∧ k < l.length := by
  unfold fnd at h
  rw [List.findIdx?_eq_some_iff_getElem] at h
  obtain ⟨hk, h1, _⟩ := h
  exact ⟨l[k], List.getElem?_eq_getElem hk, by simpa using h1, hk⟩
theorem fnd_none {l : List Nat} {c : Int} (h : fnd l c = none) : ∀ r ∈ l, (r : Int) ≠ c := by
  unfold fnd at h
  rw [List.findIdx?_eq_none_iff] at h
  intro r hr e
  have := h r hr
  simp [e] at this
theorem fnd_mem {l : List Nat} {r : Nat} : (fnd l r).isSome = decide (r ∈ l) := by
  cases h : fnd l r with
  | none => simp; intro hm; exact fnd_none h r hm rfl
  | some k => obtain ⟨x, h1, h2, h3⟩ := fnd_some h; have := List.mem_of_getElem? h1; simp; rw [show r = x from by omega]; exact this
theorem fnd_at {l : List Nat} (hn : l.Nodup) {k r : Nat} (h : l[k]? = some r) : fnd l r = some k := by
  have hlt := (List.getElem?_eq_some_iff.1 h).1
  cases hf : fnd l r with
  | none => exact absurd rfl (fnd_none hf r (List.mem_of_getElem? h))
  | some j =>
    obtain ⟨x, h1, h2, h3⟩ := fnd_some hf
    have hx : x = r := by omega
    subst hx
    rw [(List.getElem?_inj h3 hn).1 (h1.trans h.symm)]

def IdsD (l : List Nat) (D : DataW Unit) : Prop :=
  ∀ c : Int, (∀ z, D.atKey (.int .i32 c) z = match fnd l c with | some k => .lit (.int .i64 k) | none => z) ∧ Maps.has D (.int .i32 c) = (fnd l c).isSome
theorem idsD_nil : IdsD [] (.map []) := fun c => ⟨fun z => rfl, rfl⟩
theorem idsD_snoc {l : List Nat} {D : DataW Unit} {r : Nat} (hD : IsMap D) (hr : r ≤ 0x10FFFF) (h : IdsD l D) (hn : fnd l r = none) : IdsD (l ++ [r]) (D.put (.int .i32 (r : Int)) (.lit (.int .i64 l.length))) := by
  intro c
  rw [fnd_snoc]
  by_cases hc : (r : Int) = c
  · subst hc
    rw [hn]
    refine ⟨fun z => ?_, ?_⟩
    · rw [atKey_put_same hD (by trivial)]; simp
    · rw [has_put_same hD (by trivial)]; simp
  · have hne : (Lit.int .i32 c) ≠ .int .i32 (r : Int) := fun e => hc (by injection e with _ e; exact e.symm)
    refine ⟨fun z => ?_, ?_⟩
    · rw [atKey_put_other hne, (h c).1 z, if_neg hc]; simp
    · rw [has_put_other hne, (h c).2, if_neg hc]; simp

theorem idsLaw : Keyed Try.prog 21 := int_keyed Try.underlying21
theorem idsZero (w : World) : (zeroValue 3).run Try.prog w = .ok (.int .i64 0) w := by kernel_rfl

/-- The block of a map that has the ids of these signs. -/
def Ids (W : World) (b : Nat) (l : List Nat) (D : DataW Unit) : Prop := W.ownsMap Try.prog 21 (plainElem Try.prog 3) b l.length D ∧ IdsD l D

/-- The cells of the signs; a roster that a call has made. -/
def sgC (l : List Nat) : List Value := l.map fun r : Nat => .int .i32 (r : Int)
def RostAt (W : World) (base : Nat) (v : Value) : Option (List Nat) → Prop
  | none => v = .agg #[.string ⟨#[]⟩, .slice none 0 0, .map none]
  | some l => ∃ sv b D, v = .agg #[.string (txt l), sv, .map (some b)] ∧ W.ownsRow base 21 1 sv l.length (sgC l) ∧ Ids W b l D ∧ base ≤ b
end Go.Proofs.Ythbejpgeohhppaa
