/- The walk of the law GlyphQuotes. -/
import Derived.Test.YteoehhkdmmcglaaAlive
import Derived.Test.YteoehhkdmmcglaaRefQuote
import Derived.Test.YteoehhkdmmcglaaWalkMended
namespace Go.Proofs.Yteoehhkdmmcglaa
open Go.RowKit
set_option linter.unusedVariables false

theorem quoteL_le (s : ByteArray) : ∀ d p, s.size - p ≤ d → s.size - p ≤ (quoteL s (st s p)).length := by
  intro d
  induction d with
  | zero => intro p h; omega
  | succ d ih =>
    intro p h
    by_cases hp : p < s.size
    · have hw := wd_bd s p hp
      have hq := qb_len s p hp
      have := ih (p + wd s p) (by omega)
      rw [st_cons hp, quoteL, List.flatMap_cons, List.length_append]
      unfold quoteL at this
      omega
    · omega

set_option maxRecDepth 100000 in
theorem refQuote_any (s : ByteArray) (w : World) :
    Calls Try.prog 30 #[.string s] w fun e w' => e = .returned (quoteV s) ∧ Below w.heap.size w w' := by
  have hle := quoteL_le s _ 0 (Nat.le_refl _)
  by_cases hs : s.size ≤ 65536
  · have i0 : ¬ (65536 : Int) < (s.size : Int) := by omega
    have H := Lib.hid (fun w => quoted_any s (by omega) w)
    have hsz : (⟨(34 :: (quoteL s (st s 0) ++ [34])).toArray⟩ : ByteArray).size = (quoteL s (st s 0)).length + 2 := by
      rw [size_of_list']; simp
    by_cases hq : (quoteL s (st s 0)).length + 2 ≤ 65536
    · have hV : quoteV s = .tuple #[.string ⟨(34 :: (quoteL s (st s 0) ++ [34])).toArray⟩, .int .i64 0] := by unfold quoteV; rw [if_pos hq]
      rw [hV]
      obtain ⟨t, ht⟩ : ∃ t : ByteArray, (⟨(34 :: (quoteL s (st s 0) ++ [34])).toArray⟩ : ByteArray) = t := ⟨_, rfl⟩
      rw [ht] at H hsz
      try rw [ht]
      clear ht hV
      have i1 : ¬ (65536 : Int) < (t.size : Int) := by omega
      clear hsz hq hle hs
      go_enter Try.func30, Try.ntmps30
      go_wp2_with fail
      refine (H.out _).mono ?_
      rintro e w1 ⟨rfl, hB1⟩
      go_wp2_with fail
      go_ret2
      exact ⟨rfl, hB1⟩
    · have hV : quoteV s = .tuple #[.string ⟨#[]⟩, .int .i64 2] := by unfold quoteV; rw [if_neg hq]
      rw [hV]
      obtain ⟨t, ht⟩ : ∃ t : ByteArray, (⟨(34 :: (quoteL s (st s 0) ++ [34])).toArray⟩ : ByteArray) = t := ⟨_, rfl⟩
      rw [ht] at H hsz
      try rw [ht]
      clear ht hV
      have i1 : (65536 : Int) < (t.size : Int) := by omega
      clear hsz hq hle hs
      go_enter Try.func30, Try.ntmps30
      go_wp2_with fail
      refine (H.out _).mono ?_
      rintro e w1 ⟨rfl, hB1⟩
      go_wp2_with fail
      go_ret2
      exact ⟨rfl, hB1⟩
  · have i0 : (65536 : Int) < (s.size : Int) := by omega
    have hV : quoteV s = .tuple #[.string ⟨#[]⟩, .int .i64 2] := by unfold quoteV; rw [if_neg (by omega)]
    rw [hV]
    go_enter Try.func30, Try.ntmps30
    go_wp2_with fail
    go_ret2
    exact ⟨rfl, Below.refl _ _⟩

set_option maxHeartbeats 1000000 in
theorem glyphQuotes_walk (s : ByteArray) (hs : s.size ≤ 140737488351232) (w : World) :
    Calls Try.prog 12 #[.string s] w fun e w' => e = .returned (.bool true) ∧ Below w.heap.size w w' := by
  have A := Lib.hid alive_any
  have Q1 := Lib.hid (fun w => quote_any s (by omega) w)
  have Q2 := Lib.hid (fun w => refQuote_any s w)
  obtain ⟨t, ec, hV⟩ : ∃ (t : ByteArray) (ec : Int), quoteV s = .tuple #[.string t, .int .i64 ec] := by
    unfold quoteV; split
    · exact ⟨_, _, rfl⟩
    · exact ⟨_, _, rfl⟩
  rw [hV] at Q1 Q2
  have hee : (ec == ec) = true := by simp
  go_enter Try.func12, Try.ntmps12
  go_wp2_with fail
  refine (Q1.out _).mono ?_
  rintro e w1 ⟨rfl, hBw1⟩
  go_wp2_with fail
  refine (Q2.out _).mono ?_
  rintro e w2 ⟨rfl, hBw2⟩
  go_wp2_with fail
  refine (A.out _).mono ?_
  rintro e w3 ⟨rfl, hBw3⟩
  go_wp2
  go_ret
  exact ⟨rfl, below_then (below_then hBw1 hBw2) hBw3⟩

end Go.Proofs.Yteoehhkdmmcglaa
