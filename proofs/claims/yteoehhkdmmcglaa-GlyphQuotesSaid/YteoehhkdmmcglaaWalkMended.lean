/- The walk of the law GlyphMended. -/
import Derived.Test.YteoehhkdmmcglaaAlive
import Derived.Test.YteoehhkdmmcglaaMend
namespace Go.Proofs.Yteoehhkdmmcglaa
open Go.RowKit
set_option linter.unusedVariables false

theorem toList_inj {a b : ByteArray} (h : a.toList = b.toList) : a = b := by
  rw [ByteArray.toList_eq, ByteArray.toList_eq] at h
  exact ba_ext h

theorem rs_len (s : ByteArray) : (rs s).length = (st s 0).length := by simp [rs]

set_option maxHeartbeats 2000000 in
theorem glyphMended_walk (s : ByteArray) (hs : s.size ≤ 1048576) (w : World) :
    Calls Try.prog 11 #[.string s] w fun e w' => e = .returned (.bool true) ∧ Below w.heap.size w w' := by
  have hN := st_len s 0
  have ht : (txt (rs s)).size ≤ 4194304 := by
    have := flat_len (rs s)
    rw [rs_len] at this
    rw [txt_size]; omega
  have hrs : rs (txt (rs s)) = rs s := rs_txt (rs_ok s)
  have hpl := (plainB_iff (txt (rs s))).2 (plain_txt (rs_ok s))
  have M1 := Lib.hid (fun w => mend_any s (by omega) w)
  have M2 := Lib.hid (fun w => mend_any (txt (rs s)) (by omega) w)
  have P1 := Lib.hid (fun w => plain_any s w)
  have P2 := Lib.hid (fun w => plain_any (txt (rs s)) w)
  have C1 := Lib.hid (fun w => count_any s (by omega) w)
  have C2 := Lib.hid (fun w => count_any (txt (rs s)) (by omega) w)
  rw [hrs] at M2
  change Hid (∀ w, Calls _ _ _ w fun e w' => e = .returned (.bool (plainB s)) ∧ _) at P1
  change Hid (∀ w, Calls _ _ _ w fun e w' => e = .returned (.bool (plainB (txt (rs s)))) ∧ _) at P2
  rw [hpl] at P2
  have hc : (st (txt (rs s)) 0).length = (st s 0).length := by rw [← rs_len, hrs, rs_len]
  rw [hc] at C2
  have heq : (txt (rs s) = s ∧ plainB s = true) ∨ (txt (rs s) ≠ s ∧ plainB s = false) := by
    cases hp : plainB s
    · right; exact ⟨fun h => (by rw [plain_back h] at hp; cases hp), rfl⟩
    · left; exact ⟨txt_rs ((plainB_iff s).1 hp), rfl⟩
  generalize txt (rs s) = t at *
  go_enter Try.func11, Try.ntmps11
  have A := Lib.hid alive_any
  go_wp2_with fail
  refine (M1.out _).mono ?_
  rintro e w1 ⟨rfl, hBw1⟩
  go_wp2_with fail
  refine (A.out _).mono ?_
  rintro e w2 ⟨rfl, hBw2⟩
  go_wp2_with fail
  refine (P2.out _).mono ?_
  rintro e w3 ⟨rfl, hBw3⟩
  go_wp2_with fail
  refine (C2.out _).mono ?_
  rintro e w4 ⟨rfl, hBw4⟩
  go_wp2_with fail
  refine (C1.out _).mono ?_
  rintro e w5 ⟨rfl, hBw5⟩
  go_wp2_with fail
  refine (M2.out _).mono ?_
  rintro e w6 ⟨rfl, hBw6⟩
  go_wp2_with fail
  refine (P1.out _).mono ?_
  rintro e w7 ⟨rfl, hBw7⟩
  have hb : ((t.toList == s.toList) == plainB s) = true := by
    rcases heq with ⟨rfl, h⟩ | ⟨h, h2⟩
    · rw [h]; simp
    · rw [h2, show (t.toList == s.toList) = false from by simpa using fun e => h (toList_inj e)]; rfl
  go_wp2
  go_ret
  exact ⟨rfl, below_then (below_then (below_then (below_then (below_then (below_then hBw1 hBw2) hBw3) hBw4) hBw5) hBw6) hBw7⟩

end Go.Proofs.Yteoehhkdmmcglaa
