/- Walks: glyph.size, glyph.char: the character at a place. -/
import Derived.Test.YtcfbbmgpfeholaaClass
import Derived.Test.YtcfbbmgpfeholaaPure
import Derived.Test.YtcfbbmgpfeholaaShelf
import Derived.Deep.Light
namespace Go.Proofs.Ytcfbbmgpfeholaa
open Go.RowKit

theorem ret_sz {a b : Int} {c d : Bool} (h : a = b) (k : c = d) : Ending.returned (.tuple #[.int .i64 a, .bool c]) = .returned (.tuple #[.int .i64 b, .bool d]) := by rw [h, k]

set_option maxHeartbeats 400000 in
theorem size_any (s : ByteArray) (p : Nat) (hp : p < s.size) (w : World) :
    Calls Try.prog 20 #[.string s, .int .i64 p, .int .i32 (rn s p)] w fun e w' => e = .returned (.tuple #[.int .i64 (wd s p), .bool (lo s p)]) ∧ w = w' := by
  by_cases hr : rn s p = 65533
  · have hx : Lib.hasPrefix (List.take (s.size - p) (List.drop p s.data.toList)) [239, 191, 189] = !lo s p := by
      rw [List.take_of_length_le (by simp)]; exact prefix_fffd s p hp hr
    have hr' : ((rn s p : Int) == 65533) = true := by rw [hr]; rfl
    cases hl : lo s p
    · have hL := Lib.hid (runeLen_wd s p hl)
      have hX : Lib.hasPrefix (List.take (s.size - p) (List.drop p s.data.toList)) [239, 191, 189] = true := by rw [hx, hl]; rfl
      clear hx hr hl
      go_enter Try.func20, Try.ntmps20
      go_wp2_with (first | (go_at_call 16; refine (Try.strings_HasPrefix _ _ _).mono ?_; rintro e w' ⟨rfl, rfl⟩) | (go_at_call 27; refine (Try.utf8_RuneLen _ _).mono ?_; rintro e w' ⟨rfl, rfl⟩))
      go_ret2
      exact ⟨ret_sz hL.out rfl, rfl⟩
    · have hX : Lib.hasPrefix (List.take (s.size - p) (List.drop p s.data.toList)) [239, 191, 189] = false := by rw [hx, hl]; rfl
      have hW := Lib.hid ((lo_iff s p).1 hl).2
      clear hx hr hl
      go_enter Try.func20, Try.ntmps20
      go_wp2_with (first | (go_at_call 16; refine (Try.strings_HasPrefix _ _ _).mono ?_; rintro e w' ⟨rfl, rfl⟩) | (go_at_call 27; refine (Try.utf8_RuneLen _ _).mono ?_; rintro e w' ⟨rfl, rfl⟩))
      go_ret2
      exact ⟨ret_sz (by rw [hW.out]; rfl) rfl, rfl⟩
  · have hl : lo s p = false := by
      cases h : lo s p
      · rfl
      · exact absurd ((lo_iff s p).1 h).1 hr
    have hL := Lib.hid (runeLen_wd s p hl)
    have hr' : ((rn s p : Int) == 65533) = false := by simp; omega
    have HL := Lib.hid hl
    clear hl hr
    go_enter Try.func20, Try.ntmps20
    go_wp2_with (first | (go_at_call 16; refine (Try.strings_HasPrefix _ _ _).mono ?_; rintro e w' ⟨rfl, rfl⟩) | (go_at_call 27; refine (Try.utf8_RuneLen _ _).mono ?_; rintro e w' ⟨rfl, rfl⟩))
    go_ret2
    exact ⟨ret_sz hL.out HL.out.symm, rfl⟩

/-- A character as a value: rune, place, bytes, loose. -/
def chV (s : ByteArray) (p : Nat) : Value := .agg #[.int .i32 (rn s p), .int .i64 p, .int .i64 (wd s p), .bool (lo s p)]

set_option maxHeartbeats 400000 in
theorem char_any (s : ByteArray) (p : Nat) (hp : p < s.size) (w : World) :
    Calls Try.prog 9 #[.string s, .int .i64 p, .int .i32 (rn s p)] w fun e w' => e = .returned (chV s p) ∧ Below w.heap.size w w' := by
  have H := Lib.hid (fun w => size_any s p hp w)
  go_enter Try.func9, Try.ntmps9
  go_wp2_with (go_at_call 20; refine (H.out _).mono ?_; rintro e w' ⟨rfl, rfl⟩)
  go_light
  exact bodyPost_ret (v := chV s p) (by simp [results, Try.results9, go_sem, chV]) rfl ⟨rfl, (Below.refl _ _).alloc (Nat.le_refl _) _⟩

end Go.Proofs.Ytcfbbmgpfeholaa
