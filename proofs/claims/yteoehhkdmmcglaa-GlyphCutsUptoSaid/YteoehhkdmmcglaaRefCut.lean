/- Walks: earshotref1.Nth, earshotref1.Cut. -/
import Derived.Test.YteoehhkdmmcglaaList
import Derived.Test.YteoehhkdmmcglaaNth
import Derived.Test.YteoehhkdmmcglaaCut
import Derived.IntWalk
namespace Go.Proofs.Yteoehhkdmmcglaa
open Go.RowKit
set_option linter.unusedVariables false

set_option maxHeartbeats 1000000 in
theorem refNth_any (s : ByteArray) (i : Int) (hs : s.size ≤ 4398046511103) (w : World) :
    Calls Try.prog 26 #[.string s, .int .i64 i] w fun e w' => e = .returned (nthV s i) ∧ Below w.heap.size w w' := by
  have HL := Lib.hid (fun w => list_any s hs w)
  have hN := st_len s 0
  have hb0 : Below w.heap.size w (w.alloc chBlk) := (Below.refl _ _).alloc (Nat.le_refl _) _
  by_cases h : 0 ≤ i ∧ i < (st s 0).length
  · obtain ⟨k, rfl⟩ := Int.eq_ofNat_of_zero_le h.1
    have hk : k < (st s 0).length := by omega
    obtain ⟨p, hp⟩ : ∃ p, (st s 0)[k]? = some p := ⟨_, List.getElem?_eq_getElem hk⟩
    have h1 : ¬ (k : Int) < 0 := by omega
    have h2 : ¬ ((st s 0).length : Int) ≤ (k : Int) := by omega
    have HP := Lib.hid hp
    clear h hp
    go_enter Try.func26, Try.ntmps26
    go_wp2_with (go_at_call 15; refine (HL.out _).mono ?_; rintro e w1 ⟨lv, rfl, hown, hB⟩; obtain ⟨g, lc, rfl, hg1, hg2⟩ := ownsRow_pos hown (by omega); obtain ⟨e0, e1, e2, e3⟩ := row_cells hown rfl HP.out; obtain ⟨c0, c1, c2, c3, f0, f1, f2, f3⟩ := four_cells (blk_below' hB (blk_new w chBlk)))
    go_light
    refine bodyPost_ret (v := .tuple #[chV s p, .int .i64 0]) ?_ rfl ⟨?_, ?_⟩
    · simp [results, Try.results26, go_sem, chV, c0, c1, c2, c3]
    · rw [nthV_some rfl HP.out]
    · exact ((((hb0.trans (hB.mono hb0.size)).setCell (Nat.le_refl _) _).setCell (Nat.le_refl _) _).setCell (Nat.le_refl _) _).setCell (Nat.le_refl _) _
  · have h2 : i < 0 ∨ ((st s 0).length : Int) ≤ i := by omega
    have HN := Lib.hid (nthV_none h)
    clear h
    rcases h2 with h2 | h2
    all_goals (
      go_enter Try.func26, Try.ntmps26
      go_wp2_with (go_at_call 15; refine (HL.out _).mono ?_; rintro e w1 ⟨lv, rfl, hown, hB⟩; obtain ⟨la, lc, rfl, hla⟩ := ownsRow_slice hown; obtain ⟨c0, c1, c2, c3, f0, f1, f2, f3⟩ := four_cells (blk_below' hB (blk_new w chBlk)))
      go_light
      refine bodyPost_ret (v := .tuple #[ch0, .int .i64 3]) ?_ rfl ⟨?_, ?_⟩
      · simp [results, Try.results26, go_sem, ch0, c0, c1, c2, c3]
      · rw [HN.out]
      · exact ((((hb0.trans (hB.mono hb0.size)).setCell (Nat.le_refl _) _).setCell (Nat.le_refl _) _).setCell (Nat.le_refl _) _).setCell (Nat.le_refl _) _)

theorem extract_self (s : ByteArray) (a : Nat) : s.extract a a = ⟨#[]⟩ := by
  apply ByteArray.ext
  rw [ByteArray.data_extract]
  simp
  exact Nat.min_le_left _ _

set_option maxHeartbeats 1000000 in
theorem refCut_no (s : ByteArray) (f t : Int) (hs : s.size ≤ 4398046511103) (h : cutOk s f t = false) (w : World) :
    Calls Try.prog 27 #[.string s, .int .i64 f, .int .i64 t] w fun e w' => e = .returned (.tuple #[.string ⟨#[]⟩, .int .i64 3]) ∧ Below w.heap.size w w' := by
  have h1 : ¬ (0 ≤ f ∧ f ≤ t ∧ t ≤ ((st s 0).length : Int)) := by simpa [cutOk] using h
  have HL := Lib.hid (fun w => list_any s hs w)
  clear h
  have h2 : f < 0 ∨ (0 ≤ f ∧ t < f) ∨ (0 ≤ f ∧ f ≤ t ∧ ((st s 0).length : Int) < t) := by omega
  clear h1
  rcases h2 with h2 | ⟨h2, h3⟩ | ⟨h2, h3, h4⟩
  all_goals (
    go_enter Try.func27, Try.ntmps27
    go_wp2_with (go_at_call 15; refine (HL.out _).mono ?_; rintro e w1 ⟨lv, rfl, hown, hB⟩; obtain ⟨la, lc, rfl, hla⟩ := ownsRow_slice hown)
    go_ret2
    exact ⟨rfl, hB⟩)

set_option maxHeartbeats 2000000 in
theorem refCut_yes (s : ByteArray) (f t : Nat) (hs : s.size ≤ 4398046511103) (hft : f ≤ t) (ht : t ≤ (st s 0).length) (w : World) :
    Calls Try.prog 27 #[.string s, .int .i64 f, .int .i64 t] w fun e w' => e = .returned (.tuple #[.string (s.extract (posOf s f) (posOf s t)), .int .i64 0]) ∧ Below w.heap.size w w' := by
  have HL := Lib.hid (fun w => list_any s hs w)
  have a : ¬ (f : Int) < 0 := by omega
  have b : ¬ (t : Int) < (f : Int) := by omega
  have c : ¬ ((st s 0).length : Int) < (t : Int) := by omega
  have hN := st_len s 0
  by_cases e : f = t
  · subst e
    have d : ((f : Int) == (f : Int)) = true := by simp
    go_enter Try.func27, Try.ntmps27
    go_wp2_with (go_at_call 15; refine (HL.out _).mono ?_; rintro e w1 ⟨lv, rfl, hown, hB⟩; obtain ⟨la, lc, rfl, hla⟩ := ownsRow_slice hown)
    go_ret2
    exact ⟨by rw [extract_self]; rfl, hB⟩
  · have d : ((f : Int) == (t : Int)) = false := by simp; omega
    have hlt : f < t := by omega
    obtain ⟨t, rfl⟩ : ∃ u, t = u + 1 := ⟨t - 1, by omega⟩
    obtain ⟨p, hp⟩ : ∃ p, (st s 0)[f]? = some p := ⟨_, List.getElem?_eq_getElem (by omega)⟩
    obtain ⟨q, hq⟩ : ∃ q, (st s 0)[t]? = some q := ⟨_, List.getElem?_eq_getElem (by omega)⟩
    have ep : posOf s f = p := by unfold posOf; rw [List.getD_eq_getElem?_getD, hp]; rfl
    have eq : posOf s t = q := by unfold posOf; rw [List.getD_eq_getElem?_getD, hq]; rfl
    have en : q + wd s q = posOf s (t + 1) := posOf_next hq
    have hm := posOf_mono s (show f ≤ t + 1 by omega)
    have hm2 := posOf_le s (t + 1)
    rw [ep] at hm
    have hw : 1 ≤ wd s q ∧ wd s q ≤ 4 ∧ q + wd s q ≤ s.size := by
      have := st_mem _ _ (Nat.le_refl _) q (List.mem_of_getElem? hq)
      exact wd_bd s q this.2
    rw [ep]
    have HP := Lib.hid hp
    have HQ := Lib.hid hq
    have EN := Lib.hid en
    have hm3 : p ≤ q + wd s q := by omega
    clear e ep eq en hp hq hm hm2
    go_enter Try.func27, Try.ntmps27
    go_wp2_with (go_at_call 15; refine (HL.out _).mono ?_; rintro e w1 ⟨lv, rfl, hown, hB⟩; obtain ⟨g, lc, rfl, hg1, hg2⟩ := ownsRow_pos hown (by omega); obtain ⟨e0, e1, e2, e3⟩ := row_cells hown rfl HP.out; obtain ⟨k0, k1, k2, k3⟩ := row_cells hown rfl HQ.out)
    have r1 : IntKind.i64.wrap ((q : Int) + (wd s q : Int)) = (q : Int) + (wd s q : Int) := IntWalk.i64_in _ (by omega)
    have r2 : (0 : Int) ≤ (f : Int) := by omega
    have r3 : (f : Int) < ((st s 0).length : Int) := by omega
    have r4 : (0 : Int) ≤ (p : Int) := by omega
    have r5 : (p : Int) ≤ (q : Int) + (wd s q : Int) := by omega
    have r6 : (q : Int) + (wd s q : Int) ≤ (s.size : Int) := by omega
    have r7 : ((q : Int) + (wd s q : Int)).toNat = q + wd s q := by omega
    go_quiet (fail)
    clear r1 r7
    go_wp2
    go_ret2
    exact ⟨by rw [← EN.out]; rfl, below_drewN (hB.alloc hB.size _) _⟩

end Go.Proofs.Yteoehhkdmmcglaa
