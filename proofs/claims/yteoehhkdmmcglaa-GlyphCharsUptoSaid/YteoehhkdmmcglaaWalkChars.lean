/- The walk of the law GlyphChars. -/
import Derived.Test.YteoehhkdmmcglaaAlive
import Derived.Test.YteoehhkdmmcglaaGlyphChars
import Derived.Test.YteoehhkdmmcglaaSame
import Derived.Test.YteoehhkdmmcglaaBack
import Derived.Test.YteoehhkdmmcglaaMend
namespace Go.Proofs.Yteoehhkdmmcglaa
open Go.RowKit
set_option linter.unusedVariables false

theorem chars_long (s : ByteArray) (hs : 65536 < s.size) (w : World) :
    Calls Try.prog 22 #[.string s] w fun e w' => e = .returned (.tuple #[.slice none 0 0, .int .i64 2]) ∧ Below w.heap.size w w' := by
  have h1 : (65536 : Int) < (s.size : Int) := by omega
  go_enter Try.func22, Try.ntmps22
  go_wp2
  go_ret2
  exact ⟨rfl, (Below.refl _ _).alloc (Nat.le_refl _) _⟩
theorem refChars_long (s : ByteArray) (hs : 65536 < s.size) (w : World) :
    Calls Try.prog 31 #[.string s] w fun e w' => e = .returned (.tuple #[.slice none 0 0, .int .i64 2]) ∧ Below w.heap.size w w' := by
  have h1 : (65536 : Int) < (s.size : Int) := by omega
  go_enter Try.func31, Try.ntmps31
  go_wp2
  go_ret2
  exact ⟨rfl, Below.refl _ _⟩
theorem refChars_ok (s : ByteArray) (hs : s.size ≤ 65536) (w : World) :
    Calls Try.prog 31 #[.string s] w fun e w' => ∃ v, e = .returned (.tuple #[v, .int .i64 0]) ∧ w'.ownsRow w.heap.size 29 4 v (st s 0).length (chR s (st s 0)) ∧ Below w.heap.size w w' := by
  have HL := Lib.hid (fun w => list_any s (by omega) w)
  have h1 : ¬ (65536 : Int) < (s.size : Int) := by omega
  go_enter Try.func31, Try.ntmps31
  go_wp2_with (go_at_call 15; refine (HL.out _).mono ?_; rintro e w1 ⟨v, rfl, hown, hB1⟩)
  go_ret2
  exact ⟨_, rfl, hown, hB1⟩

def charsL (s : ByteArray) : List Nat := if s.size ≤ 65536 then st s 0 else []
def charsE (s : ByteArray) : Int := if s.size ≤ 65536 then 0 else 2
theorem chars_any (s : ByteArray) (w : World) :
    Calls Try.prog 22 #[.string s] w fun e w' => ∃ v, e = .returned (.tuple #[v, .int .i64 (charsE s)]) ∧ w'.ownsRow w.heap.size 29 4 v (charsL s).length (chR s (charsL s)) ∧ Below w.heap.size w w' := by
  unfold charsL charsE
  by_cases hs : s.size ≤ 65536
  · rw [if_pos hs, if_pos hs]; exact chars_ok s hs w
  · rw [if_neg hs, if_neg hs]
    refine (chars_long s (by omega) w).mono ?_
    rintro e w1 ⟨rfl, hB⟩
    exact ⟨_, rfl, World.ownsRow_nil _ _ _ _, hB⟩
theorem refChars_any (s : ByteArray) (w : World) :
    Calls Try.prog 31 #[.string s] w fun e w' => ∃ v, e = .returned (.tuple #[v, .int .i64 (charsE s)]) ∧ w'.ownsRow w.heap.size 29 4 v (charsL s).length (chR s (charsL s)) ∧ Below w.heap.size w w' := by
  unfold charsL charsE
  by_cases hs : s.size ≤ 65536
  · rw [if_pos hs, if_pos hs]; exact refChars_ok s hs w
  · rw [if_neg hs, if_neg hs]
    refine (refChars_long s (by omega) w).mono ?_
    rintro e w1 ⟨rfl, hB⟩
    exact ⟨_, rfl, World.ownsRow_nil _ _ _ _, hB⟩
theorem charsL_len (s : ByteArray) : (charsL s).length ≤ 65536 := by
  unfold charsL
  have := st_len s 0
  split
  · omega
  · simp

set_option maxHeartbeats 2000000 in
theorem glyphChars_walk (s : ByteArray) (hs : s.size ≤ 1048576) (w : World) :
    Calls Try.prog 13 #[.string s] w fun e w' => e = .returned (.bool true) ∧ Below w.heap.size w w' := by
  have A := Lib.hid alive_any
  have H1 := Lib.hid (fun w => chars_any s w)
  have H2 := Lib.hid (fun w => refChars_any s w)
  have C1 := Lib.hid (fun w => count_any s (by omega) w)
  have C2 := Lib.hid (fun w => refCount_any s (by omega) w)
  have P1 := Lib.hid (fun w => plain_any s w)
  have P2 := Lib.hid (fun w => refPlain_any s (by omega) w)
  have M1 := Lib.hid (fun w => mend_any s (by omega) w)
  have M2 := Lib.hid (fun w => refMend_any s (by omega) w)
  have B1 := Lib.hid (fun w => back_any s (by omega) w)
  have B2 := Lib.hid (fun w => refBack_any s (by omega) w)
  change Hid (∀ w, Calls _ _ _ w fun e w' => e = .returned (.bool (plainB s)) ∧ _) at P1
  have hL := charsL_len s
  have hee : (charsE s == charsE s) = true := by simp
  go_enter Try.func13, Try.ntmps13
  go_wp2_with fail
  refine (A.out _).mono ?_
  rintro e w1 ⟨rfl, hBw1⟩
  go_wp2_with fail
  refine (H1.out _).mono ?_
  rintro e w2 ⟨v, rfl, hv, hBw2⟩
  go_wp2_with fail
  refine (H2.out _).mono ?_
  rintro e w3 ⟨u, rfl, hu, hBw3⟩
  go_wp2_with fail
  have S := Lib.hid (fun W hW => sameChars_yes s (charsL s) v u _ _ (by omega) W (ownsRow_below (ownsRow_below hv hBw3) hW) (ownsRow_below hu hW))
  refine (S.out _ (Below.refl _ _)).mono ?_
  rintro e w4 ⟨rfl, hBw4⟩
  go_wp2_with fail
  refine (C1.out _).mono ?_
  rintro e w5 ⟨rfl, hBw5⟩
  go_wp2_with fail
  refine (C2.out _).mono ?_
  rintro e w6 ⟨rfl, hBw6⟩
  go_wp2_with fail
  refine (P1.out _).mono ?_
  rintro e w7 ⟨rfl, hBw7⟩
  go_wp2_with fail
  refine (P2.out _).mono ?_
  rintro e w8 ⟨rfl, hBw8⟩
  go_wp2_with fail
  refine (M1.out _).mono ?_
  rintro e w9 ⟨rfl, hBw9⟩
  go_wp2_with fail
  refine (M2.out _).mono ?_
  rintro e w10 ⟨rfl, hBw10⟩
  go_wp2_with fail
  refine (B1.out _).mono ?_
  rintro e w11 ⟨rfl, hBw11⟩
  go_wp2_with fail
  refine (B2.out _).mono ?_
  rintro e w12 ⟨rfl, hBw12⟩
  go_wp2
  go_ret
  exact ⟨rfl, below_then (below_then (below_then (below_then (below_then (below_then (below_then (below_then (below_then (below_then (below_then hBw1 hBw2) hBw3) hBw4) hBw5) hBw6) hBw7) hBw8) hBw9) hBw10) hBw11) hBw12⟩

end Go.Proofs.Yteoehhkdmmcglaa
