/- Walks: glyph.Count, glyph.Plain: a range over a text. -/
import Derived.Test.YtcfbbmgpfeholaaSize
import Derived.Test.YtcfbbmgpfeholaaChars
import Derived.Lib.OthersKept
namespace Go.Proofs.Ytcfbbmgpfeholaa
open Go.RowKit

theorem iter_next (w : World) (s : ByteArray) (p : Nat) (h : p < s.size) (P : Program) : ∀ ty, (Instr.next (.pointer (some ⟨w.heap.size, 0, none⟩)) true ty).run P (w.iter s p) =
    .ok (.tuple #[.bool true, .int .i64 p, .int .i32 (rn s p)]) (w.iter s (p + wd s p)) := by
  intro ty
  have := run_next_any (P := P) w s p ty h
  rw [decode_dec] at this
  exact this

theorem iter_next_at {B : Nat} (W : World) (hB : W.heap.size = B) (s : ByteArray) (p : Nat) (h : p < s.size) (P : Program) : ∀ ty, (Instr.next (.pointer (some ⟨B, 0, none⟩)) true ty).run P (W.iter s p) =
    .ok (.tuple #[.bool true, .int .i64 p, .int .i32 (rn s p)]) (W.iter s (p + wd s p)) := by
  subst hB; exact iter_next W s p h P
theorem iter_end_at {B : Nat} (W : World) (hB : W.heap.size = B) (s : ByteArray) (p : Nat) (h : ¬ p < s.size) (P : Program) : ∀ ty, (Instr.next (.pointer (some ⟨B, 0, none⟩)) true ty).run P (W.iter s p) =
    .ok (.tuple #[.bool false]) (W.iter s p) := by
  subst hB; exact fun ty => run_next_end W s p ty h

theorem iter_below (w : World) (s : ByteArray) (p : Nat) : Below w.heap.size w (w.iter s p) := (Below.refl _ _).alloc (Nat.le_refl _) _

set_option maxHeartbeats 400000 in
theorem count_any (s : ByteArray) (hs : s.size ≤ 9223372036854775800) (w : World) :
    Calls Try.prog 15 #[.string s] w fun e w' => e = .returned (.int .i64 (st s 0).length) ∧ Below w.heap.size w w' := by
  have hl := st_len s 0
  go_enter Try.func15, Try.ntmps15
  go_wp2
  go_loopw [3] (fun n w' => ∃ pos k : Nat, w' = w.iter s pos ∧ n = .int .i64 k ∧ Hid (k + (st s pos).length = (st s 0).length) ∧ k ≤ s.size) (fun _ w' => s.size - w'.iterPos w.heap.size)
  case atStart => exact ⟨0, 0, rfl, rfl, by show _ = _; omega, by omega⟩
  case round =>
    obtain ⟨pos, k, rfl, rfl, hk, hk2⟩ := hrel
    by_cases hp : pos < s.size
    · have hnx := iter_next w s pos hp Try.prog
      have hw := wd_bd s pos hp
      go_wp2
      go_roundw
      case rel =>
        have := hk.out
        rw [st_cons hp, List.length_cons] at this
        exact ⟨pos + wd s pos, k + 1, rfl, by go_num, by show _ = _; omega, by omega⟩
      case measure => simp; omega
    · have hnx : ∀ ty, (Instr.next (.pointer (some ⟨w.heap.size, 0, none⟩)) true ty).run Try.prog (w.iter s pos) = _ := fun ty => run_next_end w s pos ty hp
      go_wp2
      go_ret
      have := hk.out
      rw [st_nil hp, List.length_nil] at this
      exact ⟨ret_int (by omega), iter_below _ _ _⟩


set_option maxHeartbeats 400000 in
theorem plain_any (s : ByteArray) (w : World) :
    Calls Try.prog 7 #[.string s] w fun e w' => e = .returned (.bool ((st s 0).all fun p => !lo s p)) ∧ Below w.heap.size w w' := by
  go_enter Try.func7, Try.ntmps7
  go_wp2
  go_loopw [] (fun w' => ∃ pos : Nat, w' = w.iter s pos ∧ Hid (((st s 0).all fun p => !lo s p) = ((st s pos).all fun p => !lo s p))) (fun w' => s.size - w'.iterPos w.heap.size)
  case atStart => exact ⟨0, rfl, rfl⟩
  case round =>
    obtain ⟨pos, rfl, hk⟩ := hrel
    by_cases hp : pos < s.size
    · have hnx := iter_next w s pos hp Try.prog
      have hw := wd_bd s pos hp
      have H := Lib.hid (fun w => size_any s pos hp w)
      cases hl : lo s pos
      · rw [hl] at H
        have HL := Lib.hid hl
        clear hl
        go_wp2_with (go_at_call 20; refine (H.out _).mono ?_; rintro e w' ⟨rfl, rfl⟩)
        go_roundw
        case rel =>
          exact ⟨pos + wd s pos, rfl, by show _ = _; rw [hk.out, st_cons hp, List.all_cons, HL.out]; rfl⟩
        case measure => simp; omega
      · rw [hl] at H
        have HL := Lib.hid hl
        clear hl
        go_wp2_with (go_at_call 20; refine (H.out _).mono ?_; rintro e w' ⟨rfl, rfl⟩)
        go_ret
        exact ⟨ret_bool (by rw [hk.out, st_cons hp, List.all_cons, HL.out]; rfl), iter_below _ _ _⟩
    · skip
      have hnx : ∀ ty, (Instr.next (.pointer (some ⟨(w).heap.size, 0, none⟩)) true ty).run Try.prog ((w).iter s pos) = _ := fun ty => run_next_end (w) s pos ty hp
      go_wp2
      go_ret
      exact ⟨ret_bool (by rw [hk.out, st_nil hp]; rfl), iter_below _ _ _⟩

end Go.Proofs.Ytcfbbmgpfeholaa
