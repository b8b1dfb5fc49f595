/- Walks: glyph.digit, Stands, First, the reading of a byte in Escape. -/
import Derived.Test.YtcfbbmgpfeholaaEscL
import Derived.Test.YtcfbbmgpfeholaaRange
import Derived.Test.YtcfbbmgpfeholaaNth
import Derived.ScopeJumps
import Derived.WalkMore
import Derived.FnLit
namespace Go.Proofs.Ytcfbbmgpfeholaa
set_option linter.unusedVariables false
set_option linter.unusedSimpArgs false
open Go.RowKit

def dgI (c : Nat) : Int := match dg c with | some d => (d : Int) | none => -1
set_option maxHeartbeats 400000 in
theorem digit_any (c : Nat) (hc : c < 256) (w : World) :
    Calls Try.prog 26 #[.int .u8 (c : Int)] w fun e w' => e = .returned (.int .i64 (dgI c)) ∧ w' = w := by
  by_cases c1 : 48 ≤ c ∧ c ≤ 57
  · have e : dgI c = (c : Int) - 48 := by unfold dgI dg; rw [if_pos c1]; simp only; omega
    have w1 : IntKind.u8.wrap ((c : Int) - 48) = (c : Int) - 48 := by rw [IntKind.wrap_u8]; omega
    have b1 : (48 : Int) ≤ (c : Int) := by omega
    have b2 : (c : Int) ≤ 57 := by omega
    have b3 : (0 : Int) ≤ (c : Int) - 48 := by omega
    rw [e]
    go_enter Try.func26, Try.ntmps26
    go_wp2
    go_ret
    exact ⟨rfl, rfl⟩
  by_cases c2 : 97 ≤ c ∧ c ≤ 102
  · have e : dgI c = (c : Int) - 97 + 10 := by unfold dgI dg; rw [if_neg c1, if_pos c2]; simp only; omega
    have w1 : IntKind.u8.wrap ((c : Int) - 97) = (c : Int) - 97 := by rw [IntKind.wrap_u8]; omega
    have b1 : ¬ (c : Int) ≤ 57 := by omega
    have b2 : (97 : Int) ≤ (c : Int) := by omega
    have b3 : (c : Int) ≤ 102 := by omega
    have b4 : (48 : Int) ≤ (c : Int) := by omega
    rw [e]
    go_enter Try.func26, Try.ntmps26
    go_wp2
    go_ret
    exact ⟨rfl, rfl⟩
  by_cases c3 : 65 ≤ c ∧ c ≤ 70
  · have e : dgI c = (c : Int) - 65 + 10 := by unfold dgI dg; rw [if_neg c1, if_neg c2, if_pos c3]; simp only; omega
    have w1 : IntKind.u8.wrap ((c : Int) - 65) = (c : Int) - 65 := by rw [IntKind.wrap_u8]; omega
    have b1 : ¬ (c : Int) ≤ 57 := by omega
    have b2 : ¬ (97 : Int) ≤ (c : Int) := by omega
    have b3 : (65 : Int) ≤ (c : Int) := by omega
    have b4 : (48 : Int) ≤ (c : Int) := by omega
    have b5 : (c : Int) ≤ 70 := by omega
    rw [e]
    go_enter Try.func26, Try.ntmps26
    go_wp2
    go_ret
    exact ⟨rfl, rfl⟩
  · have e : dgI c = -1 := by unfold dgI dg; rw [if_neg c1, if_neg c2, if_neg c3]
    rw [e]
    have d1 : ¬ ((48 : Int) ≤ (c : Int) ∧ (c : Int) ≤ 57) := by omega
    have d2 : ¬ ((97 : Int) ≤ (c : Int) ∧ (c : Int) ≤ 102) := by omega
    have d3 : ¬ ((65 : Int) ≤ (c : Int) ∧ (c : Int) ≤ 70) := by omega
    clear c1 c2 c3 e hc
    go_enter Try.func26, Try.ntmps26
    go_wp2
    all_goals go_light
    all_goals first
      | (exfalso; simp at *; omega)
      | (go_ret; exact ⟨rfl, rfl⟩)
set_option maxHeartbeats 400000 in
theorem stands_yes (r a z : Int) (w : World) (h0 : 32 ≤ r) (h1 : r ≠ 127) :
    Calls Try.prog 19 #[.agg #[.int .i32 r, .int .i64 a, .int .i64 z, .bool false]] w fun e w' => e = .returned (.bool true) ∧ Below w.heap.size w w' := by
  have h2 : (r != 127) = true := by simpa using h1
  go_enter Try.func19, Try.ntmps19
  go_wp2
  go_ret
  exact ⟨rfl, (Below.refl _ _).alloc (Nat.le_refl _) _⟩
theorem at_any (b : Nat) (t : ByteArray) (i : Nat) (w : World) (hi : i ≤ 100) (ht : t.size ≤ 9223372036854775807) (h : w.cell? ⟨b, 0, none⟩ = some (.string t)) :
    Calls Try.prog 25 #[.int .i64 (i : Int), .pointer (some ⟨b, 0, none⟩)] w fun e w' => e = .returned (.int .u8 (ab t i : Nat)) ∧ w' = w := by
  by_cases c : i < t.size
  · have hb : ((t[i]'c).toNat : Int) = (ab t i : Nat) := by
      unfold ab bt
      rw [if_pos c]
      congr 2
      simp [ByteArray.get!, c]
      rfl
    have b1 : (i : Int) < (t.size : Int) := by omega
    go_enter Try.func25, Try.ntmps25
    go_wp2
    go_ret
    exact ⟨rfl, rfl⟩
  · have e : ab t i = 0 := by unfold ab; rw [if_neg c]
    have b1 : ¬ (i : Int) < (t.size : Int) := by omega
    rw [e]
    go_enter Try.func25, Try.ntmps25
    go_wp2
    go_ret
    exact ⟨rfl, rfl⟩
set_option maxHeartbeats 400000 in
theorem first_any (t : ByteArray) (ht : 0 < t.size) (hs : t.size ≤ 9223372036854775800) (w : World) :
    Calls Try.prog 17 #[.string t] w fun e w' => e = .returned (chV t 0) ∧ Below w.heap.size w w' := by
  go_enter Try.func17, Try.ntmps17
  go_wp2
  go_loopw [] (fun wr => wr.heap[w.heap.size]? = some chBlk ∧ wr.heap[w.heap.size + 1]? = some (.stringIter t 0) ∧ Below w.heap.size w wr) (fun _ => 0)
  case atStart =>
    have h0 := blk_new w chBlk
    refine ⟨blk_old h0 _, ?_, ((Below.refl _ _).alloc (Nat.le_refl _) _).alloc (by simp) _⟩
    have := blk_new (w.alloc chBlk) (.stringIter t 0)
    rwa [World.size_alloc] at this
  case round =>
    obtain ⟨hres, hit, hbl⟩ := hrel
    obtain ⟨W1, hnx, hit1, hg, hz⟩ := next_at Try.prog hit ht
    have hres1 := blk_grown hg hres (by simp)
    have hbl1 : Below w.heap.size w W1 := hbl.grown hg hbl.size (fun j hj => by cases hj; omega)
    have H : Hid (∀ w, Calls Try.prog 9 #[.string t, .int .i64 (0 : Nat), .int .i32 (rn t 0)] w fun e w' =>
      e = .returned (.agg #[.int .i32 (rn t 0), .int .i64 (0 : Nat), .int .i64 (wd t 0), .bool (lo t 0)]) ∧ Below w.heap.size w w') := Lib.hid (fun w => char_any t 0 ht w)
    clear hit hres hg
    go_wp2_with (go_at_call 9; refine (H.out _).mono ?_; rintro e w1 ⟨rfl, hB⟩; obtain ⟨c0, c1, c2, c3, f0, f1, f2, f3⟩ := four_cells (blk_below' hB hres1))
    go_light
    refine bodyPost_ret (v := chV t 0) ?_ rfl ⟨rfl, ?_⟩
    · simp [results, Try.results17, go_sem, chV, c0, c1, c2, c3]
    · exact ((((hbl1.trans (hB.mono hbl1.size)).setCell (Nat.le_refl _) _).setCell (Nat.le_refl _) _).setCell (Nat.le_refl _) _).setCell (Nat.le_refl _) _
end Go.Proofs.Ytcfbbmgpfeholaa
