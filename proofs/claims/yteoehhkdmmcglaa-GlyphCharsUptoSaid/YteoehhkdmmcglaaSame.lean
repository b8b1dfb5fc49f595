/- Walk: earshotbook.SameChars, of two rows of the same characters. -/
import Derived.Test.YteoehhkdmmcglaaList
import Derived.IntWalk
import Derived.StillTail
import Derived.StillTailTactics
import Derived.StillTactics
namespace Go.Proofs.Yteoehhkdmmcglaa
open Go.RowKit
set_option linter.unusedVariables false

set_option maxHeartbeats 2000000 in
theorem sameChars_yes (s : ByteArray) (l : List Nat) (va vb : Value) (ba bb : Nat) (hn : l.length ≤ 9223372036854775800) (w : World)
    (ha : w.ownsRow ba 29 4 va l.length (chR s l)) (hb : w.ownsRow bb 29 4 vb l.length (chR s l)) :
    Calls Try.prog 32 #[va, vb] w fun e w' => e = .returned (.bool true) ∧ Below w.heap.size w w' := by
  obtain ⟨pa, ca, rfl, hpa⟩ := ownsRow_slice ha
  obtain ⟨pb, cb, rfl, hpb⟩ := ownsRow_slice hb
  go_enter Try.func32, Try.ntmps32
  go_wp2
  go_loopw [5] (fun i wr => ∃ k : Nat, i = .int .i64 k ∧ k ≤ l.length ∧ wr.ownsRow ba 29 4 (.slice pa l.length ca) l.length (chR s l) ∧ wr.ownsRow bb 29 4 (.slice pb l.length cb) l.length (chR s l) ∧ Below w.heap.size w wr) (fun i _ => l.length - (intOf i).toNat)
  case atStart => exact ⟨0, rfl, by omega, ha, hb, Below.refl _ _⟩
  case round =>
    obtain ⟨k, rfl, hk, ha, hb, hbl⟩ := hrel
    by_cases hlt : k < l.length
    · rcases hpa with h0 | ⟨ga, rfl, _, _⟩
      · omega
      rcases hpb with h0 | ⟨gb, rfl, _, _⟩
      · omega
      have hget : l[k]? = some l[k] := List.getElem?_eq_getElem hlt
      obtain ⟨p, hp⟩ : ∃ p, l[k] = p := ⟨_, rfl⟩
      rw [hp] at hget
      obtain ⟨e0, e1, e2, e3⟩ := row_cells ha rfl hget
      obtain ⟨d0, d1, d2, d3⟩ := row_cells hb rfl hget
      have i0 : (k : Int) < (l.length : Int) := by omega
      have i1 : (0 : Int) ≤ (k : Int) := by omega
      have i3 : (k : Int).toNat = k := Int.toNat_natCast k
      have HA := Lib.hid ha
      have HB := Lib.hid hb
      clear hget hp ha hb
      go_wp2
      refine wp_region_still_tail 8 (by kernel_rfl) (by kernel_rfl) ?_
      simp only [List.take_succ_cons, List.take_zero, List.drop_succ_cons, List.drop_zero]
      repeat still_step
      try refine wpStill_nil ?_
      change wpList _ _ _ _ _ wr.drew
      go_wp2
      go_roundw
      case rel => exact ⟨k + 1, by go_num, by omega, HA.out, HB.out, hbl.drew⟩
      case measure => simp [intOf]; omega
    · have i0 : ¬ (k : Int) < (l.length : Int) := by omega
      go_wp2
      go_ret
      exact ⟨rfl, hbl⟩

end Go.Proofs.Yteoehhkdmmcglaa
