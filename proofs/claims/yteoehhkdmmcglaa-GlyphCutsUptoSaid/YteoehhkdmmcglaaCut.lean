/- Walks: strings.Clone, glyph.Cut. -/
import Derived.Test.YteoehhkdmmcglaaWorld
import Derived.Test.YteoehhkdmmcglaaRange
namespace Go.Proofs.Yteoehhkdmmcglaa
open Go.RowKit
set_option linter.unusedVariables false

set_option maxHeartbeats 400000 in
theorem clone_any (s : ByteArray) (hs : s.size ≤ 281474976710656) (w : World) :
    Calls Try.prog 43 #[.string s] w fun e w' => e = .returned (.string s) ∧ Below w.heap.size w w' := by
  go_enter Try.func43, Try.ntmps43
  go_wp2_with (go_at_call 57; refine (Try.stringslite_Clone _ _ hs).mono ?_; rintro e w1 ⟨rfl, hB⟩)
  go_ret
  exact ⟨rfl, hB⟩

/-- Cut's answer. -/
def cutOk (s : ByteArray) (f t : Int) : Bool := decide (0 ≤ f ∧ f ≤ t ∧ t ≤ ((st s 0).length : Int))

set_option maxHeartbeats 1000000 in
theorem cut_no (s : ByteArray) (f t : Int) (hs : s.size ≤ 9223372036854775800) (h : cutOk s f t = false) (w : World) :
    Calls Try.prog 25 #[.string s, .int .i64 f, .int .i64 t] w fun e w' => e = .returned (.tuple #[.string ⟨#[]⟩, .int .i64 3]) ∧ Below w.heap.size w w' := by
  have h1 : ¬ (0 ≤ f ∧ f ≤ t ∧ t ≤ ((st s 0).length : Int)) := by simpa [cutOk] using h
  have H := Lib.hid (fun w => count_any s hs w)
  clear h
  by_cases a : f < 0
  · go_enter Try.func25, Try.ntmps25
    go_wp2
    go_ret2
    exact ⟨rfl, Below.refl _ _⟩
  · by_cases b : t < f
    · go_enter Try.func25, Try.ntmps25
      go_wp2
      go_ret2
      exact ⟨rfl, Below.refl _ _⟩
    · have c : ((st s 0).length : Int) < t := by omega
      clear h1
      go_enter Try.func25, Try.ntmps25
      go_wp2_with (go_at_call 20; refine (H.out _).mono ?_; rintro e w1 ⟨rfl, hB⟩)
      go_ret2
      exact ⟨rfl, hB⟩

set_option maxHeartbeats 2000000 in
theorem cut_yes (s : ByteArray) (f t : Nat) (hs : s.size ≤ 140737488351232) (hft : f ≤ t) (ht : t ≤ (st s 0).length) (w : World) :
    Calls Try.prog 25 #[.string s, .int .i64 f, .int .i64 t] w fun e w' => e = .returned (.tuple #[.string (s.extract (posOf s f) (posOf s t)), .int .i64 0]) ∧ Below w.heap.size w w' := by
  have H := Lib.hid (fun w => count_any s (by omega) w)
  have hl := st_len s 0
  have a : ¬ (f : Int) < 0 := by omega
  have b : ¬ (t : Int) < (f : Int) := by omega
  have c : ¬ ((st s 0).length : Int) < (t : Int) := by omega
  go_enter Try.func25, Try.ntmps25
  go_wp2_with (go_at_call 20; refine (H.out _).mono ?_; rintro e w1 ⟨rfl, hB⟩)
  go_loopw [8, 9, 10] (fun b e n wr => ∃ (pos bn en : Nat) (pre : List Nat), wr.heap[w1.heap.size]? = some (.stringIter s pos) ∧ Below w.heap.size w wr ∧ w1.heap.size ≤ wr.heap.size ∧ b = .int .i64 bn ∧ e = .int .i64 en ∧ n = .int .i64 pre.length ∧
      Hid (st s 0 = pre ++ st s pos) ∧ Hid (bn = if f < pre.length then posOf s f else s.size) ∧ Hid (en = if t < pre.length then posOf s t else s.size) ∧ pos ≤ s.size ∧ pre.length ≤ s.size) (fun _ _ _ wr => s.size - wr.iterPos w1.heap.size)
  case atStart =>
    exact ⟨0, s.size, s.size, [], blk_new w1 _, hB.alloc hB.size _, by simp [World.iter], rfl, rfl, rfl, rfl, rfl, rfl, by omega, by simp⟩
  case round =>
    obtain ⟨pos, bn, en, pre, hit, hbl, hz, rfl, rfl, rfl, hpre, hbn, hen, hpos, hpl⟩ := hrel
    have hip := Lib.hid (iterPos_of hit)
    by_cases hp : pos < s.size
    · obtain ⟨W1, hnx, hit1, hg, hz1⟩ := next_at Try.prog hit hp
      have hbl1 : Below w.heap.size w W1 := hbl.grown hg hbl.size (fun j hj => by cases hj; exact hB.size)
      have hw := wd_bd s pos hp
      have hat := Lib.hid (posOf_at hpre.out hpos)
      have hpl2 : pre.length + 1 ≤ s.size := by
        have h1 := hpre.out
        rw [st_cons hp] at h1
        rw [h1] at hl; simp at hl; omega
      clear hit hg H
      have fin : ∀ bn' en' : Nat, (bn' = if f = pre.length then pos else bn) → (en' = if t = pre.length then pos else en) → Hid (st s 0 = (pre ++ [pos]) ++ st s (pos + wd s pos) ∧ bn' = (if f < (pre ++ [pos]).length then posOf s f else s.size) ∧ en' = (if t < (pre ++ [pos]).length then posOf s t else s.size)) := by
        intro bn' en' h1 h2
        refine ⟨by rw [hpre.out, st_cons hp]; simp, ?_, ?_⟩
        · rw [h1, hbn.out]
          simp only [List.length_append, List.length_cons, List.length_nil]
          by_cases e : f = pre.length
          · rw [if_pos e, if_pos (by omega), e, hat.out]
          · rw [if_neg e]
            by_cases e2 : f < pre.length
            · rw [if_pos e2, if_pos (by omega)]
            · rw [if_neg e2, if_neg (by omega)]
        · rw [h2, hen.out]
          simp only [List.length_append, List.length_cons, List.length_nil]
          by_cases e : t = pre.length
          · rw [if_pos e, if_pos (by omega), e, hat.out]
          · rw [if_neg e]
            by_cases e2 : t < pre.length
            · rw [if_pos e2, if_pos (by omega)]
            · rw [if_neg e2, if_neg (by omega)]
      have FIN := Lib.hid fin
      clear fin
      by_cases e1 : f = pre.length <;> by_cases e2 : t = pre.length
      all_goals (
        have F := FIN.out (if f = pre.length then pos else bn) (if t = pre.length then pos else en) rfl rfl
        clear FIN
        first
          | rw [if_pos e1] at F
          | rw [if_neg e1] at F
        first
          | rw [if_pos e2] at F
          | rw [if_neg e2] at F
        first
          | have g1 : ((pre.length : Int) == (f : Int)) = true := by simp; omega
          | have g1 : ((pre.length : Int) == (f : Int)) = false := by simp; omega
        first
          | have g2 : ((pre.length : Int) == (t : Int)) = true := by simp; omega
          | have g2 : ((pre.length : Int) == (t : Int)) = false := by simp; omega
        clear e1 e2
        go_wp2
        go_roundw
        case rel =>
          exact ⟨pos + wd s pos, _, _, pre ++ [pos], hit1, hbl1, by omega, rfl, rfl, by simp, F.out.1, F.out.2.1, F.out.2.2, by omega, by simp; omega⟩
        case measure => rw [iterPos_of hit1, hip.out]; omega)
    · have hnx := next_end Try.prog hit hp
      have hN : st s 0 = pre := by rw [hpre.out, st_nil hp]; simp
      have eb : bn = posOf s f := by
        rw [hbn.out, ← hN]
        by_cases e : f < (st s 0).length
        · rw [if_pos e]
        · rw [if_neg e, posOf_end s (by omega)]
      have ee : en = posOf s t := by
        rw [hen.out, ← hN]
        by_cases e : t < (st s 0).length
        · rw [if_pos e]
        · rw [if_neg e, posOf_end s (by omega)]
      subst eb ee
      have hle := posOf_mono s hft
      have hle2 := posOf_le s t
      clear hit hN hbn hen
      have HC := Lib.hid (fun w => clone_any (s.extract (posOf s f) (posOf s t)) (by rw [ByteArray.size_extract]; omega) w)
      go_wp2_with (go_at_call 43; refine (HC.out _).mono ?_; rintro e w2 ⟨rfl, hB2⟩)
      go_ret2
      exact ⟨rfl, hbl.trans (hB2.mono hbl.size)⟩

end Go.Proofs.Yteoehhkdmmcglaa
