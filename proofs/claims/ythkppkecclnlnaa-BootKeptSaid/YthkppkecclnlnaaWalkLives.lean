/- The walks of the laws BootRounds, BootTags, BootKept. -/
import Derived.Test.YthkppkecclnlnaaLives
namespace Go.Proofs.Ythkppkecclnlnaa
set_option linter.unusedVariables false
set_option linter.unusedSimpArgs false
open Go.RowKit

set_option maxRecDepth 100000 in
theorem bootRounds_walk (w : World) (v : Value) (xs : List (List Int)) (hrow : RowsOf w 3 v xs) (hwf : ∀ x ∈ xs, ∀ y ∈ x, (Lit.int .i64 y).wf = true) :
    Calls Try.prog 15 #[v] w fun e w' => e = .returned (.bool true) ∧ Below w.heap.size w w' := by
  have HL := Lib.hid (fun (h : xs.length ≤ 30) (w2 : World) (hr : RowsOf w2 3 v xs) => lives_any 1 w2 v xs hr hwf h)
  have HR := Lib.hid hrow
  obtain ⟨p, cap, rfl, _, _, _⟩ := hrow
  clear hwf
  by_cases hout : 30 < xs.length
  · have b0 : (30 : Int) < (xs.length : Int) := by omega
    clear hout
    go_enter Try.func15, Try.ntmps15
    go_wp2_with fail
    refine (alive12_any _).mono ?_
    rintro e w1 ⟨rfl, hB1⟩
    go_wp2_with fail
    go_ret
    exact ⟨rfl, hB1⟩
  · have b0 : ¬ (30 : Int) < (xs.length : Int) := by omega
    have HN := Lib.hid (show xs.length ≤ 30 by omega)
    clear hout
    go_enter Try.func15, Try.ntmps15
    go_wp2_with fail
    refine (alive12_any _).mono ?_
    rintro e w1 ⟨rfl, hB1⟩
    go_wp2_with fail
    refine (HL.out HN.out w1 (HR.out.below hB1)).mono ?_
    rintro e w2 ⟨rfl, hB2⟩
    go_wp2_with fail
    go_ret
    exact ⟨rfl, below_then hB1 hB2⟩
set_option maxRecDepth 100000 in
theorem bootTags_walk (w : World) (v : Value) (xs : List (List Int)) (hrow : RowsOf w 3 v xs) (hwf : ∀ x ∈ xs, ∀ y ∈ x, (Lit.int .i64 y).wf = true) :
    Calls Try.prog 16 #[v] w fun e w' => e = .returned (.bool true) ∧ Below w.heap.size w w' := by
  have HL := Lib.hid (fun (h : xs.length ≤ 30) (w2 : World) (hr : RowsOf w2 3 v xs) => lives_any 2 w2 v xs hr hwf h)
  have HR := Lib.hid hrow
  obtain ⟨p, cap, rfl, _, _, _⟩ := hrow
  clear hwf
  by_cases hout : 30 < xs.length
  · have b0 : (30 : Int) < (xs.length : Int) := by omega
    clear hout
    go_enter Try.func16, Try.ntmps16
    go_wp2_with fail
    refine (alive12_any _).mono ?_
    rintro e w1 ⟨rfl, hB1⟩
    go_wp2_with fail
    go_ret
    exact ⟨rfl, hB1⟩
  · have b0 : ¬ (30 : Int) < (xs.length : Int) := by omega
    have HN := Lib.hid (show xs.length ≤ 30 by omega)
    clear hout
    go_enter Try.func16, Try.ntmps16
    go_wp2_with fail
    refine (alive12_any _).mono ?_
    rintro e w1 ⟨rfl, hB1⟩
    go_wp2_with fail
    refine (HL.out HN.out w1 (HR.out.below hB1)).mono ?_
    rintro e w2 ⟨rfl, hB2⟩
    go_wp2_with fail
    go_ret
    exact ⟨rfl, below_then hB1 hB2⟩
set_option maxRecDepth 100000 in
theorem bootKept_walk (w : World) (v : Value) (xs : List (List Int)) (hrow : RowsOf w 3 v xs) (hwf : ∀ x ∈ xs, ∀ y ∈ x, (Lit.int .i64 y).wf = true) :
    Calls Try.prog 17 #[v] w fun e w' => e = .returned (.bool true) ∧ Below w.heap.size w w' := by
  have HL := Lib.hid (fun (h : xs.length ≤ 30) (w2 : World) (hr : RowsOf w2 3 v xs) => lives_any 3 w2 v xs hr hwf h)
  have HR := Lib.hid hrow
  obtain ⟨p, cap, rfl, _, _, _⟩ := hrow
  clear hwf
  by_cases hout : 30 < xs.length
  · have b0 : (30 : Int) < (xs.length : Int) := by omega
    clear hout
    go_enter Try.func17, Try.ntmps17
    go_wp2_with fail
    refine (alive12_any _).mono ?_
    rintro e w1 ⟨rfl, hB1⟩
    go_wp2_with fail
    go_ret
    exact ⟨rfl, hB1⟩
  · have b0 : ¬ (30 : Int) < (xs.length : Int) := by omega
    have HN := Lib.hid (show xs.length ≤ 30 by omega)
    clear hout
    go_enter Try.func17, Try.ntmps17
    go_wp2_with fail
    refine (alive12_any _).mono ?_
    rintro e w1 ⟨rfl, hB1⟩
    go_wp2_with fail
    refine (HL.out HN.out w1 (HR.out.below hB1)).mono ?_
    rintro e w2 ⟨rfl, hB2⟩
    go_wp2_with fail
    go_ret
    exact ⟨rfl, below_then hB1 hB2⟩
end Go.Proofs.Ythkppkecclnlnaa
