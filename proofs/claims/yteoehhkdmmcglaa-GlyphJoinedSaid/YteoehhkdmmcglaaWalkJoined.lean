/- The walk of the law GlyphJoined. -/
import Derived.Test.YteoehhkdmmcglaaAlive
import Derived.Test.YteoehhkdmmcglaaCut
import Derived.OpenShut
namespace Go.Proofs.Yteoehhkdmmcglaa
open Go.RowKit
set_option linter.unusedVariables false

set_option maxHeartbeats 1000000 in
theorem glyphJoined_walk (s : ByteArray) (k : Int) (hs : s.size ≤ 140737488351232) (wk : (Lit.int .i64 k).wf = true) (w : World) :
    Calls Try.prog 8 #[.string s, .int .i64 k] w fun e w' => e = .returned (.bool true) ∧ Below w.heap.size w w' := by
  have H := Lib.hid (fun w => count_any s (by omega) w)
  by_cases hk : 0 ≤ k ∧ k ≤ (st s 0).length
  · obtain ⟨k, rfl⟩ := Int.eq_ofNat_of_zero_le hk.1
    have hk2 : k ≤ (st s 0).length := by omega
    have h1 : ¬ (k : Int) < 0 := by omega
    have h2 : ¬ ((st s 0).length : Int) < (k : Int) := by omega
    have C1 := Lib.hid (fun w => cut_yes s 0 k hs (by omega) hk2 w)
    have C2 := Lib.hid (fun w => cut_yes s k (st s 0).length hs hk2 (by omega) w)
    clear hk
    go_enter Try.func8, Try.ntmps8
    go_wp2_with (go_at_call 20; refine (H.out _).mono ?_; rintro e w1 ⟨rfl, hB1⟩)
    refine (C1.out _).mono ?_
    rintro e w2 ⟨rfl, hB2⟩
    go_wp2_with fail
    refine (C2.out _).mono ?_
    rintro e w3 ⟨rfl, hB3⟩
    go_wp2_with (go_at_call 17; refine (alive_any _).mono ?_; rintro e w4 ⟨rfl, hB4⟩)
    go_ret
    refine ⟨ret_bool ?_, below_then (below_then (below_then hB1 hB2) hB3) hB4⟩
    have := posOf_le s k
    rw [posOf_zero, posOf_end s (Nat.le_refl _), show min 0 (posOf s k) = 0 from by omega, show max (posOf s k) s.size = s.size from by omega]
    simp
  · have C := Lib.hid (fun w => cut_no s k (st s 0).length (by omega) (by simp [cutOk]; omega) w)
    have h1 : k < 0 ∨ ((st s 0).length : Int) < k := by omega
    clear hk
    rcases h1 with h1 | h1
    all_goals (
      go_enter Try.func8, Try.ntmps8
      go_wp2_with (first
        | (go_at_call 20; refine (H.out _).mono ?_; rintro e w1 ⟨rfl, hB1⟩)
        | (go_at_call 25; refine (C.out _).mono ?_; rintro e w2 ⟨rfl, hB2⟩)
        | (go_at_call 17; refine (alive_any _).mono ?_; rintro e w4 ⟨rfl, hB4⟩))
      all_goals go_ret
      all_goals exact ⟨rfl, below_then (below_then hB1 hB2) hB4⟩)

end Go.Proofs.Yteoehhkdmmcglaa
