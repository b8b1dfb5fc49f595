/- The walk of the law GlyphCuts. -/
import Derived.Test.YteoehhkdmmcglaaAlive
import Derived.Test.YteoehhkdmmcglaaRefCut
namespace Go.Proofs.Yteoehhkdmmcglaa
open Go.RowKit
set_option linter.unusedVariables false

theorem nthV_form (s : ByteArray) (i : Int) : ∃ (r a b : Int) (l : Bool) (e : Int), nthV s i = .tuple #[.agg #[.int .i32 r, .int .i64 a, .int .i64 b, .bool l], .int .i64 e] := by
  by_cases h : 0 ≤ i ∧ i < (st s 0).length
  · unfold nthV
    rw [if_pos h, if_pos h]
    exact ⟨_, _, _, _, _, rfl⟩
  · rw [nthV_none h]; exact ⟨_, _, _, _, _, rfl⟩

theorem cuts_form (s : ByteArray) (f t : Int) (hs : s.size ≤ 1048576) : ∃ (u : ByteArray) (e : Int),
    (∀ w, Calls Try.prog 25 #[.string s, .int .i64 f, .int .i64 t] w fun x w' => x = .returned (.tuple #[.string u, .int .i64 e]) ∧ Below w.heap.size w w') ∧
    (∀ w, Calls Try.prog 27 #[.string s, .int .i64 f, .int .i64 t] w fun x w' => x = .returned (.tuple #[.string u, .int .i64 e]) ∧ Below w.heap.size w w') := by
  cases h : cutOk s f t with
  | false => exact ⟨_, _, fun w => cut_no s f t (by omega) h w, fun w => refCut_no s f t (by omega) h w⟩
  | true =>
    have h1 : 0 ≤ f ∧ f ≤ t ∧ t ≤ ((st s 0).length : Int) := by simpa [cutOk] using h
    obtain ⟨f, rfl⟩ := Int.eq_ofNat_of_zero_le h1.1
    obtain ⟨t, rfl⟩ := Int.eq_ofNat_of_zero_le (show 0 ≤ t by omega)
    exact ⟨_, _, fun w => cut_yes s f t (by omega) (by omega) (by omega) w, fun w => refCut_yes s f t (by omega) (by omega) (by omega) w⟩

set_option maxHeartbeats 2000000 in
theorem glyphCuts_walk (s : ByteArray) (i f t : Int) (wi : (Lit.int .i64 i).wf = true) (wf : (Lit.int .i64 f).wf = true) (wt : (Lit.int .i64 t).wf = true) (hs : s.size ≤ 1048576) (w : World) :
    Calls Try.prog 10 #[.string s, .int .i64 i, .int .i64 f, .int .i64 t] w fun e w' => e = .returned (.bool true) ∧ Below w.heap.size w w' := by
  obtain ⟨r, a, b, l, e, hn⟩ := nthV_form s i
  obtain ⟨u, x, hc, hr⟩ := cuts_form s f t hs
  have N1 : Hid (∀ w, Calls Try.prog 21 #[.string s, .int .i64 i] w fun z w' => z = .returned (.tuple #[.agg #[.int .i32 r, .int .i64 a, .int .i64 b, .bool l], .int .i64 e]) ∧ Below w.heap.size w w') :=
    Lib.hid (fun w => by have := nth_any s i (by omega) w; rwa [hn] at this)
  have N2 : Hid (∀ w, Calls Try.prog 26 #[.string s, .int .i64 i] w fun z w' => z = .returned (.tuple #[.agg #[.int .i32 r, .int .i64 a, .int .i64 b, .bool l], .int .i64 e]) ∧ Below w.heap.size w w') :=
    Lib.hid (fun w => by have := refNth_any s i (by omega) w; rwa [hn] at this)
  have C1 := Lib.hid hc
  have C2 := Lib.hid hr
  clear hn hc hr
  go_enter Try.func10, Try.ntmps10
  go_wp2_with (first
    | (go_at_call 17; refine (alive_any _).mono ?_; rintro z w1 ⟨rfl, hB1⟩)
    | (go_at_call 21; refine (N1.out _).mono ?_; rintro z w2 ⟨rfl, hB2⟩)
    | (go_at_call 26; refine (N2.out _).mono ?_; rintro z w3 ⟨rfl, hB3⟩; have q3 := blk_below' hB3 (blk_new w2 _))
    | (go_at_call 25; refine (C1.out _).mono ?_; rintro z w4 ⟨rfl, hB4⟩; have p3 := blk_below' hB4 (blk_old q3 _); have p4 := blk_below' hB4 (blk_new w3 _))
    | (go_at_call 27; refine (C2.out _).mono ?_; rintro z w5 ⟨rfl, hB5⟩; obtain ⟨c0, c1, c2, c3, f0, f1, f2, f3⟩ := four_cells (blk_below' hB5 p3); obtain ⟨d0, d1, d2, d3, g0, g1, g2, g3⟩ := four_cells (blk_below' hB5 p4)))
  go_ret
  exact ⟨rfl, below_then (below_alloc_then (below_alloc_then (below_then hB1 hB2) hB3) hB4) hB5⟩

end Go.Proofs.Yteoehhkdmmcglaa
