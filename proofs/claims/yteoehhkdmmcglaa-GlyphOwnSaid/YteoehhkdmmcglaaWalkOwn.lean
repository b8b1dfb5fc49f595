/- The walk of the law GlyphOwn. -/
import Derived.Test.YteoehhkdmmcglaaAlive
import Derived.Test.YteoehhkdmmcglaaGlyphChars
namespace Go.Proofs.Yteoehhkdmmcglaa
open Go.RowKit
set_option linter.unusedVariables false

theorem lo_eq (s : ByteArray) (p : Nat) : lo s p = (((rn s p : Int) == 65533) && ((wd s p : Int) == 1)) := by
  rw [Bool.eq_iff_iff, lo_iff]; simp; omega

set_option maxHeartbeats 2000000 in
theorem glyphOwn_walk (s : ByteArray) (hs : s.size ≤ 140737488351232) (w : World) :
    Calls Try.prog 6 #[.string s] w fun e w' => e = .returned (.bool true) ∧ Below w.heap.size w w' := by
  by_cases hlong : 65536 < s.size
  · have h1 : (65536 : Int) < (s.size : Int) := by omega
    go_enter Try.func6, Try.ntmps6
    go_wp2_with (go_at_call 17; refine (alive_any _).mono ?_; rintro e w4 ⟨rfl, hB4⟩)
    go_ret
    exact ⟨rfl, hB4⟩
  · have h1 : ¬ (65536 : Int) < (s.size : Int) := by omega
    have C := Lib.hid (fun w => chars_ok s (by omega) w)
    have hN := st_len s 0
    go_enter Try.func6, Try.ntmps6
    go_wp2_with (go_at_call 22; refine (C.out _).mono ?_; rintro e w1 ⟨v, rfl, hown, hB1⟩)
    obtain ⟨la, lc, rfl, hpos⟩ := ownsRow_slice hown
    go_loopw [5] (fun n wr => ∃ pos k : Nat, wr.heap[w1.heap.size]? = some (.stringIter s pos) ∧ wr.ownsRow w.heap.size 29 4 (.slice la (st s 0).length lc) (st s 0).length (chR s (st s 0)) ∧ Below w.heap.size w wr ∧ n = .int .i64 k ∧ Hid (∃ pre, st s 0 = pre ++ st s pos ∧ pre.length = k) ∧ pos ≤ s.size) (fun _ wr => s.size - wr.iterPos w1.heap.size)
    case atStart =>
      exact ⟨0, 0, blk_new w1 _, hown.alloc _, hB1.alloc hB1.size _, rfl, ⟨[], rfl, rfl⟩, by omega⟩
    case round =>
      obtain ⟨pos, k, hit, hown, hbl, rfl, hk, hple⟩ := hrel
      have hpos' := iterPos_of hit
      by_cases hp : pos < s.size
      · obtain ⟨W1, hnx, hit1, hg, hz⟩ := next_at Try.prog hit hp
        have hget : (st s 0)[k]? = some pos := by
          obtain ⟨pre, e, hl⟩ := hk.out
          rw [e, st_cons hp, ← hl]; simp
        have hlt := (List.getElem?_eq_some_iff.1 hget).1
        rcases hpos with h0 | ⟨g, rfl, hgb, hgl⟩
        · omega
        have hown1 := hown.kept hg (.inr (by intro e; simp [Value.ownBlock] at e; omega))
        have hbl1 : Below w.heap.size w W1 := hbl.grown hg hbl.size (fun j hj => by cases hj; exact hB1.size)
        obtain ⟨e0, e1, e2, e3⟩ := row_cells hown1 rfl hget
        have hw := wd_bd s pos hp
        have hr := rn_bd s pos
        have HP := Lib.hid hpos'
        clear hpos' hit hg hget hown
        have i0 : ¬ ((st s 0).length : Int) ≤ (k : Int) := by omega
        have i4 : ¬ (st s 0).length ≤ k := by omega
        have i1 : (0 : Int) ≤ (k : Int) := by omega
        have i2 : (k : Int) < ((st s 0).length : Int) := by omega
        have i3 : (k : Int).toNat = k := Int.toNat_natCast k
        have hc : (lo s pos = true ∧ ((rn s pos : Int) == 65533) = true ∧ ((wd s pos : Int) == 1) = true) ∨ (lo s pos = false ∧ ((rn s pos : Int) == 65533) = false) ∨ (lo s pos = false ∧ ((rn s pos : Int) == 65533) = true ∧ ((wd s pos : Int) == 1) = false) := by
          have L := lo_eq s pos
          revert L
          cases ((rn s pos : Int) == 65533) <;> cases ((wd s pos : Int) == 1) <;> cases lo s pos <;> simp
        rcases hc with ⟨hl, hr1, hr2⟩ | ⟨hl, hr1⟩ | ⟨hl, hr1, hr2⟩
        · rw [hl] at e3
          clear hl
          go_wp2
          go_quiet (fail)
          clear i0 i1 i2 i3 e0 e1 e2 e3
          go_wp2
          go_roundw
          case rel =>
            obtain ⟨pre, e, hl⟩ := hk.out
            rw [st_cons hp] at e
            exact ⟨pos + wd s pos, k + 1, blk_drewN hit1 nq, ownsRow_drewN hown1 nq, below_drewN hbl1 nq, by go_num, ⟨pre ++ [pos], by rw [e]; simp, by simp [hl]⟩, by omega⟩
          case measure => rw [iterPos_of (blk_drewN hit1 nq), HP.out]; omega
        · rw [hl] at e3
          clear hl
          go_wp2
          go_quiet (fail)
          clear i0 i1 i2 i3 e0 e1 e2 e3
          go_wp2
          go_roundw
          case rel =>
            obtain ⟨pre, e, hl⟩ := hk.out
            rw [st_cons hp] at e
            exact ⟨pos + wd s pos, k + 1, blk_drewN hit1 nq, ownsRow_drewN hown1 nq, below_drewN hbl1 nq, by go_num, ⟨pre ++ [pos], by rw [e]; simp, by simp [hl]⟩, by omega⟩
          case measure => rw [iterPos_of (blk_drewN hit1 nq), HP.out]; omega
        · rw [hl] at e3
          clear hl
          go_wp2
          go_quiet (fail)
          clear i0 i1 i2 i3 e0 e1 e2 e3
          go_wp2
          go_roundw
          case rel =>
            obtain ⟨pre, e, hl⟩ := hk.out
            rw [st_cons hp] at e
            exact ⟨pos + wd s pos, k + 1, blk_drewN hit1 nq, ownsRow_drewN hown1 nq, below_drewN hbl1 nq, by go_num, ⟨pre ++ [pos], by rw [e]; simp, by simp [hl]⟩, by omega⟩
          case measure => rw [iterPos_of (blk_drewN hit1 nq), HP.out]; omega
      · have hnx := next_end Try.prog hit hp
        have hkk : k = (st s 0).length := by
          obtain ⟨pre, e, hl⟩ := hk.out
          rw [e, st_nil hp, ← hl]; simp
        subst hkk
        clear hit hpos'
        have H := Lib.hid (fun w => count_any s (by omega) w)
        go_wp2_with (first
          | (go_at_call 17; refine (alive_any _).mono ?_; rintro e w4 ⟨rfl, hB4⟩)
          | (go_at_call 20; refine (H.out _).mono ?_; rintro e w5 ⟨rfl, hB5⟩))
        go_ret
        exact ⟨rfl, (hbl.trans (hB4.mono hbl.size)).trans (hB5.mono (Nat.le_trans hbl.size hB4.size))⟩

end Go.Proofs.Yteoehhkdmmcglaa
