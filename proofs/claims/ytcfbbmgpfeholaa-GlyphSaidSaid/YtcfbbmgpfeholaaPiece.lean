/- Walks: glyph.piece: a character as it is written in quotes. -/
import Derived.Test.YtcfbbmgpfeholaaNumber
import Derived.Test.YtcfbbmgpfeholaaSize
import Derived.StillTail
import Derived.StillTailTactics
import Derived.StillTactics
namespace Go.Proofs.Ytcfbbmgpfeholaa
set_option linter.unusedVariables false
set_option linter.unusedSimpArgs false
open Go.RowKit

/-- What is written for a character: its rune, whether it is loose, its first byte, its bytes. -/
def pc (r : Nat) (l : Bool) (b : Nat) (own : List UInt8) : List UInt8 :=
  if r = 34 ∨ r = 92 then 92 :: own
  else if r = 10 then [92, 110]
  else if r = 9 then [92, 116]
  else if r = 13 then [92, 114]
  else if l = true ∨ r < 32 ∨ r = 127 then [92, 120, hexd (b / 16), hexd (b % 16)]
  else if hiddenB (r : Int) = true then [92, 117, 123] ++ hexL r ++ [125]
  else own


theorem str_eq {a : ByteArray} {l : List UInt8} (h : a.data.toList = l) : Ending.returned (.string a) = .returned (.string ⟨l.toArray⟩) := by
  congr 2
  refine ba_ext ?_
  simpa using h

theorem hexF_len (f r : Nat) : (hexF f r).length ≤ f := by
  induction f generalizing r with
  | zero => simp [hexF]
  | succ f ih =>
    by_cases h : 0 < r
    · rw [hexF_succ f h, List.length_append]; have := ih (r / 16); simp; omega
    · rw [show r = 0 from by omega, hexF_zero]; simp
theorem hexL_len (r : Nat) : (hexL r).length ≤ 8 := hexF_len 8 r

set_option maxHeartbeats 4000000 in
theorem piece_w (r : Nat) (a z : Int) (l : Bool) (own : ByteArray) (b : Nat) (hr : r < 2147483648) (h0 : 0 < own.size) (hz : own.size ≤ 1000000) (hb : ∀ h, (own[0]'h).toNat = b) (w : World) :
    Calls Try.prog 11 #[.agg #[.int .i32 r, .int .i64 a, .int .i64 z, .bool l], .string own] w fun e w' => e = .returned (.string ⟨(pc r l b own.data.toList).toArray⟩) ∧ Below w.heap.size w w' := by
  have hb8 : b < 256 := by rw [← hb h0]; exact (own[0]'h0).toNat_lt
  have e34 : ∀ {k : Nat} {c : Bool}, decide (r = k) = c → ((r : Int) == (k : Int)) = c := by
    intro k c h; rw [← h, Bool.eq_iff_iff]; simp; omega
  have k9 : ¬ 9223372036854775807 < 1 + own.size := by omega
  obtain ⟨d1, hd1, d1lt⟩ : ∃ d, b / 16 = d ∧ d < 16 := ⟨_, rfl, by omega⟩
  obtain ⟨d2, hd2, d2lt⟩ : ∃ d, b % 16 = d ∧ d < 16 := ⟨_, rfl, by omega⟩
  have x1 : bits .and .u8 (b : Int) 15 = (d2 : Int) := by
    have := bits_mask .u8 8 (by decide) wraps_u8 4 (by decide) (b : Int) (by omega) (by omega)
    have h2 : (b : Int) % 16 = (d2 : Int) := by omega
    rw [← h2]
    simpa using this
  have y1 := digit_at d1 d1lt
  have y2 := digit_at d2 d2lt
  unfold digitsT at y1 y2
  have w1 : IntKind.u8.wrap ((d1 : Int) + 1) = (d1 : Int) + 1 := by rw [IntKind.wrap_u8]; omega
  have w2 : IntKind.u8.wrap ((d2 : Int) + 1) = (d2 : Int) + 1 := by rw [IntKind.wrap_u8]; omega
  have t1 : ((d1 : Int) + 1).toNat = d1 + 1 := by omega
  have t2 : ((d2 : Int) + 1).toNat = d2 + 1 := by omega
  have o1 : (0 : Int) ≤ (d1 : Int) + 1 := by omega
  have o2 : (0 : Int) ≤ (d2 : Int) + 1 := by omega
  have p1 : (d1 : Int) + 1 ≤ 16 := by omega
  have p2 : (d2 : Int) + 1 ≤ 16 := by omega
  have m1 : (0 : Int) ≤ (d1 : Int) := by omega
  have m2 : (0 : Int) ≤ (d2 : Int) := by omega
  have l1 : (d1 : Int) ≤ (d1 : Int) + 1 := by omega
  have l2 : (d2 : Int) ≤ (d2 : Int) + 1 := by omega
  have x2 : (b : Int) / 16 = (d1 : Int) := by omega
  by_cases c1 : r = 34
  · have q1 : ((r : Int) == 34) = true := e34 (by simpa using c1)
    rw [pc, if_pos (.inl c1)]
    go_enter Try.func11, Try.ntmps11
    go_wp2_with fail
    go_light
    go_ret
    refine ⟨?_, (Below.refl _ _).alloc (Nat.le_refl _) _⟩
    exact str_eq (by simp)
  have q1 : ((r : Int) == 34) = false := e34 (by simpa using c1)
  by_cases c2 : r = 92
  · have q2 : ((r : Int) == 92) = true := e34 (by simpa using c2)
    rw [pc, if_pos (.inr c2)]
    go_enter Try.func11, Try.ntmps11
    go_wp2_with fail
    go_light
    go_ret
    refine ⟨?_, (Below.refl _ _).alloc (Nat.le_refl _) _⟩
    exact str_eq (by simp)
  have q2 : ((r : Int) == 92) = false := e34 (by simpa using c2)
  rw [pc, if_neg (by omega)]
  by_cases c3 : r = 10
  · have q3 : ((r : Int) == 10) = true := e34 (by simpa using c3)
    rw [if_pos c3]
    go_enter Try.func11, Try.ntmps11
    go_wp2_with fail
    go_light
    go_ret
    refine ⟨?_, (Below.refl _ _).alloc (Nat.le_refl _) _⟩
    exact str_eq (by simp)
  have q3 : ((r : Int) == 10) = false := e34 (by simpa using c3)
  rw [if_neg c3]
  by_cases c4 : r = 9
  · have q4 : ((r : Int) == 9) = true := e34 (by simpa using c4)
    rw [if_pos c4]
    go_enter Try.func11, Try.ntmps11
    go_wp2_with fail
    go_light
    go_ret
    refine ⟨?_, (Below.refl _ _).alloc (Nat.le_refl _) _⟩
    exact str_eq (by simp)
  have q4 : ((r : Int) == 9) = false := e34 (by simpa using c4)
  rw [if_neg c4]
  by_cases c5 : r = 13
  · have q5 : ((r : Int) == 13) = true := e34 (by simpa using c5)
    rw [if_pos c5]
    go_enter Try.func11, Try.ntmps11
    go_wp2_with fail
    go_light
    go_ret
    refine ⟨?_, (Below.refl _ _).alloc (Nat.le_refl _) _⟩
    exact str_eq (by simp)
  have q5 : ((r : Int) == 13) = false := e34 (by simpa using c5)
  rw [if_neg c5]
  by_cases c6 : l = true ∨ r < 32 ∨ r = 127
  · rw [if_pos c6, hd1, hd2]
    have c7 : l = true ∨ (l = false ∧ r < 32) ∨ (l = false ∧ ¬ r < 32 ∧ r = 127) := by
      cases l
      · simp at c6; simp; omega
      · simp
    rcases c7 with rfl | ⟨rfl, c7⟩ | ⟨rfl, c7, c8⟩
    · skip
      go_enter Try.func11, Try.ntmps11
      go_wp2_with fail
      refine wp_region_still_tail 14 (by kernel_rfl) (by kernel_rfl) ?_
      simp only [List.take_succ_cons, List.take_zero, List.drop_succ_cons, List.drop_zero]
      repeat still_step
      try refine wpStill_nil ?_
      go_wp2_with fail
      go_light
      go_ret
      exact ⟨str_eq (by simp), ((Below.refl _ _).alloc (Nat.le_refl _) _).drew⟩
    · have q6 : (r : Int) < 32 := by omega
      go_enter Try.func11, Try.ntmps11
      go_wp2_with fail
      refine wp_region_still_tail 14 (by kernel_rfl) (by kernel_rfl) ?_
      simp only [List.take_succ_cons, List.take_zero, List.drop_succ_cons, List.drop_zero]
      repeat still_step
      try refine wpStill_nil ?_
      go_wp2_with fail
      go_light
      go_ret
      exact ⟨str_eq (by simp), ((Below.refl _ _).alloc (Nat.le_refl _) _).drew⟩
    · have q6 : ¬ (r : Int) < 32 := by omega
      have q7 : ((r : Int) == 127) = true := e34 (by simpa using c8)
      go_enter Try.func11, Try.ntmps11
      go_wp2_with fail
      refine wp_region_still_tail 14 (by kernel_rfl) (by kernel_rfl) ?_
      simp only [List.take_succ_cons, List.take_zero, List.drop_succ_cons, List.drop_zero]
      repeat still_step
      try refine wpStill_nil ?_
      go_wp2_with fail
      go_light
      go_ret
      exact ⟨str_eq (by simp), ((Below.refl _ _).alloc (Nat.le_refl _) _).drew⟩
  rw [if_neg c6]
  obtain rfl : l = false := by cases l <;> simp_all
  have q6 : ¬ (r : Int) < 32 := by simp at c6; omega
  have q7 : ((r : Int) == 127) = false := e34 (by simp at c6; simp; omega)
  have H := Lib.hid (fun w => hidden_any (r : Int) w)
  by_cases c8 : hiddenB (r : Int) = true
  · rw [if_pos c8]
    rw [c8] at H
    have n0 := hexL_len r
    have n1 : ¬ 9223372036854775807 < 3 + (hexL r).length := by omega
    have n2 : ¬ 9223372036854775807 < 3 + (hexL r).length + 1 := by omega
    have N := Lib.hid (fun w => number_any r hr w)
    go_enter Try.func11, Try.ntmps11
    go_wp2_with (first
      | (go_at_call 22; refine (H.out _).mono ?_; rintro e w1 ⟨rfl, rfl⟩)
      | (go_at_call 23; refine (N.out _).mono ?_; rintro e w1 ⟨rfl, hB1⟩))
    go_light
    go_ret
    refine ⟨str_eq (by simp), below_alloc_then (Below.refl _ _) hB1⟩
  · rw [if_neg c8]
    have c9 : hiddenB (r : Int) = false := by simpa using c8
    rw [c9] at H
    go_enter Try.func11, Try.ntmps11
    go_wp2_with (first
      | (go_at_call 22; refine (H.out _).mono ?_; rintro e w1 ⟨rfl, rfl⟩))
    go_wp2_with fail
    go_light
    go_ret
    refine ⟨?_, (Below.refl _ _).alloc (Nat.le_refl _) _⟩
    exact str_eq rfl

/-- What is written for the character at a place. -/
def qb (s : ByteArray) (p : Nat) : List UInt8 := pc (rn s p) (lo s p) (bt s p) (bl s p)
theorem piece_any (s : ByteArray) (p : Nat) (hp : p < s.size) (w : World) :
    Calls Try.prog 11 #[.agg #[.int .i32 (rn s p), .int .i64 p, .int .i64 (wd s p), .bool (lo s p)], .string (s.extract p (p + wd s p))] w fun e w' => e = .returned (.string ⟨(qb s p).toArray⟩) ∧ Below w.heap.size w w' := by
  have hr := rn_bd s p
  have hw := wd_bd s p hp
  have hsz : (s.extract p (p + wd s p)).size = wd s p := by rw [ByteArray.size_extract]; omega
  have := piece_w (rn s p) p (wd s p) (lo s p) (s.extract p (p + wd s p)) (bt s p) (by omega) (by omega) (by omega) (fun h => by
    have e : (s.extract p (p + wd s p)).data.toList[0]? = s.data.toList[p]? := by
      rw [bl_extract, bl, List.getElem?_take_of_lt (by omega), List.getElem?_drop, Nat.add_zero]
    have e2 := bt_list s p hp
    rw [e2] at e
    have e3 : (s.extract p (p + wd s p)).data.toList[0]? = some ((s.extract p (p + wd s p))[0]'h) := by
      rw [Array.getElem?_toList]
      exact Array.getElem?_eq_getElem _
    rw [e3] at e
    rw [Option.some.inj e, UInt8.toNat_ofNat', Nat.mod_eq_of_lt (bt_lt s p)]) w
  rw [bl_extract] at this
  exact this

end Go.Proofs.Ytcfbbmgpfeholaa
