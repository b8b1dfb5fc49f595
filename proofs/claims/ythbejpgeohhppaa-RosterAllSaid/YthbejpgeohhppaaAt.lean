/- Walks: earshotref1.more, earshotref1.At: what stands at a byte, as the model's own decoding has it. -/
import Derived.Test.YthbejpgeohhppaaClass
import Derived.Test.YthbejpgeohhppaaPure
import Derived.Deep.QuietTactic
import Derived.BigQuiet
import Derived.IntWalk
namespace Go.Proofs.Ythbejpgeohhppaa
open Go.RowKit

def moreB (s : ByteArray) (j : Nat) : Bool := decide (j < s.size ∧ 0x80 ≤ bt s j ∧ bt s j ≤ 0xBF)

theorem bt_get (s : ByteArray) (i : Nat) (h : i < s.size) : (s[i]'h).toNat = bt s i := by
  rw [← get_at s i h]; rfl

set_option maxHeartbeats 400000 in
theorem more_any (s : ByteArray) (j : Int) (h0 : 0 ≤ j) (_hj : j ≤ 9223372036854775807) (w : World) :
    Calls Try.prog 44 #[.string s, .int .i64 j] w fun e w' => e = .returned (.bool (moreB s j.toNat)) ∧ w = w' := by
  obtain ⟨j, rfl⟩ := Int.eq_ofNat_of_zero_le h0
  rw [Int.toNat_natCast]
  by_cases h : j < s.size
  all_goals (
    first
      | have hb := bt_get s j h
      | skip
    go_enter Try.func44, Try.ntmps44
    go_wp2
    all_goals go_light
    all_goals (
      go_ret
      refine ⟨ret_bool ?_, rfl⟩
      unfold moreB
      rw [Bool.eq_iff_iff]
      simp only [decide_eq_true_eq, Bool.false_eq_true, false_iff]
      omega))

theorem more_b (s : ByteArray) (j : Nat) (b : Bool) (h : moreB s j = b) (hj : (j : Int) ≤ 9223372036854775807) (w : World) :
    Calls Try.prog 44 #[.string s, .int .i64 j] w fun e w' => e = .returned (.bool b) ∧ w = w' := by
  have := more_any s j (by omega) hj w
  rwa [Int.toNat_natCast, h] at this

theorem moreB_iff (s : ByteArray) (j : Nat) : moreB s j = true ↔ j < s.size ∧ 0x80 ≤ bt s j ∧ bt s j ≤ 0xBF := by simp [moreB]

def atV (s : ByteArray) (i : Nat) : Value := .tuple #[.int .i64 (rn s i), .int .i64 (wd s i), .bool (lo s i)]

theorem at_end {s : ByteArray} {i : Nat} {X Y : Int} {Z : Bool} {r n : Nat} (h : Hid (dec s i = (r, n))) (hX : X = r) (hY : Y = n) (hZ : Z = decide ((r, n) = (65533, 1))) :
    Ending.returned (.tuple #[.int .i64 X, .int .i64 Y, .bool Z]) = .returned (atV s i) := by
  unfold atV rn wd lo; rw [h.out, hX, hY, hZ]

set_option maxRecDepth 100000 in
set_option maxHeartbeats 4000000 in
theorem refAt_any (s : ByteArray) (i : Nat) (hi : i < s.size) (hs : s.size ≤ 9223372036854775800) (w : World) :
    Calls Try.prog 27 #[.string s, .int .i64 i] w fun e w' => e = .returned (atV s i) ∧ ∃ n, w' = w.drewN n := by
  have b0 := bt_lt s i
  have b1 := bt_lt s (i + 1)
  have b2 := bt_lt s (i + 2)
  have b3 := bt_lt s (i + 3)
  have g0 := bt_get s i hi
  by_cases c1 : bt s i < 0x80
  · skip
    have hd : Hid (dec s i = (bt s i, 1)) := by
      show dec s i = _
      unfold dec
      repeat' split
      all_goals first | (exfalso; omega) | rfl
    go_enter Try.func27, Try.ntmps27
    go_wp2
    all_goals go_light
    go_ret3
    refine ⟨at_end hd ?_ ?_ ?_, 0, rfl⟩
    all_goals first | omega | (simp; done) | (simp; omega)
  by_cases c2 : bt s i < 0xC2
  · skip
    have hd : Hid (dec s i = (65533, 1)) := by
      show dec s i = _
      unfold dec
      repeat' split
      all_goals first | (exfalso; omega) | rfl
    go_enter Try.func27, Try.ntmps27
    go_wp2
    all_goals go_light
    go_ret3
    refine ⟨at_end hd ?_ ?_ ?_, 0, rfl⟩
    all_goals first | omega | (simp; done) | (simp; omega)
  by_cases c3 : bt s i ≤ 0xDF
  · cases h1 : moreB s (i + 1)
    · skip
      have g1 : ¬ (i + 1 < s.size ∧ 0x80 ≤ bt s (i + 1) ∧ bt s (i + 1) ≤ 0xBF) := by rw [← moreB_iff, h1]; simp
      have hd : Hid (dec s i = (65533, 1)) := by
        show dec s i = _
        unfold dec
        repeat' split
        all_goals first | (exfalso; omega) | rfl
      clear g1
      have M1 : Hid (∀ w, Calls Try.prog 44 #[.string s, .int .i64 (i + 1)] w fun e w' => e = .returned (.bool false) ∧ w = w') := fun w => more_b s (i + 1) false h1 (by omega) w
      clear h1
      go_enter Try.func27, Try.ntmps27
      go_wp2_with (go_at_call 44; first | ((with_reducible refine (M1.out _).mono ?_); rintro e w' ⟨rfl, rfl⟩))
      all_goals go_light
      go_ret3
      refine ⟨at_end hd ?_ ?_ ?_, 0, rfl⟩
      all_goals first | omega | (simp; done) | (simp; omega)
    · skip
      have g1 := (moreB_iff _ _).1 h1
      have k1 := bt_get s (i + 1) g1.1
      obtain ⟨g1, l1, u1⟩ := g1
      have hd : Hid (dec s i = ((bt s i - 0xC0) * 64 + (bt s (i + 1) - 0x80), 2)) := by
        show dec s i = _
        unfold dec
        repeat' split
        all_goals first | (exfalso; omega) | rfl
      have M1 : Hid (∀ w, Calls Try.prog 44 #[.string s, .int .i64 (i + 1)] w fun e w' => e = .returned (.bool true) ∧ w = w') := fun w => more_b s (i + 1) true h1 (by omega) w
      clear h1
      go_enter Try.func27, Try.ntmps27
      go_wp2_with (go_at_call 44; first | ((with_reducible refine (M1.out _).mono ?_); rintro e w' ⟨rfl, rfl⟩))
      all_goals go_light
      go_ret3
      refine ⟨at_end hd ?_ ?_ ?_, 0, rfl⟩
      all_goals first | omega | (simp; done) | (simp; omega)
  by_cases c4 : bt s i ≤ 0xEF
  · cases h1 : moreB s (i + 1)
    · skip
      have g1 : ¬ (i + 1 < s.size ∧ 0x80 ≤ bt s (i + 1) ∧ bt s (i + 1) ≤ 0xBF) := by rw [← moreB_iff, h1]; simp
      have hd : Hid (dec s i = (65533, 1)) := by
        show dec s i = _
        unfold dec
        repeat' split
        all_goals first | (exfalso; omega) | rfl
      clear g1
      have M1 : Hid (∀ w, Calls Try.prog 44 #[.string s, .int .i64 (i + 1)] w fun e w' => e = .returned (.bool false) ∧ w = w') := fun w => more_b s (i + 1) false h1 (by omega) w
      clear h1
      go_enter Try.func27, Try.ntmps27
      go_wp2_with (go_at_call 44; first | ((with_reducible refine (M1.out _).mono ?_); rintro e w' ⟨rfl, rfl⟩))
      all_goals go_light
      go_ret3
      refine ⟨at_end hd ?_ ?_ ?_, 0, rfl⟩
      all_goals first | omega | (simp; done) | (simp; omega)
    · skip
      have g1 := (moreB_iff _ _).1 h1
      have k1 := bt_get s (i + 1) g1.1
      obtain ⟨g1, l1, u1⟩ := g1
      cases h2 : moreB s (i + 2)
      · skip
        have g2 : ¬ (i + 2 < s.size ∧ 0x80 ≤ bt s (i + 2) ∧ bt s (i + 2) ≤ 0xBF) := by rw [← moreB_iff, h2]; simp
        have hd : Hid (dec s i = (65533, 1)) := by
          show dec s i = _
          unfold dec
          repeat' split
          all_goals first | (exfalso; omega) | rfl
        clear g2
        have M1 : Hid (∀ w, Calls Try.prog 44 #[.string s, .int .i64 (i + 1)] w fun e w' => e = .returned (.bool true) ∧ w = w') := fun w => more_b s (i + 1) true h1 (by omega) w
        have M2 : Hid (∀ w, Calls Try.prog 44 #[.string s, .int .i64 (i + 2)] w fun e w' => e = .returned (.bool false) ∧ w = w') := fun w => more_b s (i + 2) false h2 (by omega) w
        clear h1 h2
        go_enter Try.func27, Try.ntmps27
        go_wp2_with (go_at_call 44; first | ((with_reducible refine (M1.out _).mono ?_); rintro e w' ⟨rfl, rfl⟩) | ((with_reducible refine (M2.out _).mono ?_); rintro e w' ⟨rfl, rfl⟩))
        all_goals go_light
        go_ret3
        refine ⟨at_end hd ?_ ?_ ?_, 0, rfl⟩
        all_goals first | omega | (simp; done) | (simp; omega)
      · skip
        have g2 := (moreB_iff _ _).1 h2
        have k2 := bt_get s (i + 2) g2.1
        obtain ⟨g2, l2, u2⟩ := g2
        by_cases r1 : (bt s i - 0xE0) * 4096 + (bt s (i + 1) - 0x80) * 64 + (bt s (i + 2) - 0x80) < 0x800
        · skip
          have hd : Hid (dec s i = (65533, 1)) := by
            show dec s i = _
            unfold dec
            repeat' split
            all_goals first | (exfalso; omega) | rfl
          have M1 : Hid (∀ w, Calls Try.prog 44 #[.string s, .int .i64 (i + 1)] w fun e w' => e = .returned (.bool true) ∧ w = w') := fun w => more_b s (i + 1) true h1 (by omega) w
          have M2 : Hid (∀ w, Calls Try.prog 44 #[.string s, .int .i64 (i + 2)] w fun e w' => e = .returned (.bool true) ∧ w = w') := fun w => more_b s (i + 2) true h2 (by omega) w
          clear h1 h2
          go_enter Try.func27, Try.ntmps27
          go_wp2_with (go_at_call 44; first | ((with_reducible refine (M1.out _).mono ?_); rintro e w' ⟨rfl, rfl⟩) | ((with_reducible refine (M2.out _).mono ?_); rintro e w' ⟨rfl, rfl⟩))
          have v1 : IntKind.i64.wrap ((i : Int) + 1) = (i : Int) + 1 := IntWalk.i64_in _ (by omega)
          have v2 : IntKind.i64.wrap ((i : Int) + 2) = (i : Int) + 2 := IntWalk.i64_in _ (by omega)
          have v3 : IntKind.i64.wrap ((i : Int) + 3) = (i : Int) + 3 := IntWalk.i64_in _ (by omega)
          have p1 : (0 : Int) ≤ (i : Int) + 1 := by omega
          have p2 : (0 : Int) ≤ (i : Int) + 2 := by omega
          have p3 : (0 : Int) ≤ (i : Int) + 3 := by omega
          have t1 : ((i : Int) + 1).toNat = i + 1 := by omega
          have t2 : ((i : Int) + 2).toNat = i + 2 := by omega
          have t3 : ((i : Int) + 3).toNat = i + 3 := by omega
          have q1 : (i : Int) + 1 < (s.size : Int) := by omega
          have q2 : (i : Int) + 2 < (s.size : Int) := by omega
          first | have q3 : (i : Int) + 3 < (s.size : Int) := by omega | have q3 : True := trivial
          go_quiet (fail)
          clear v1 v2 v3 t1 t2 t3
          go_wp2
          all_goals go_light
          go_ret3
          refine ⟨at_end hd ?_ ?_ ?_, _, rfl⟩
          all_goals first | omega | (simp; done) | (simp; omega)
        by_cases r2 : (bt s i - 0xE0) * 4096 + (bt s (i + 1) - 0x80) * 64 + (bt s (i + 2) - 0x80) < 0xD800
        · skip
          have hd : Hid (dec s i = ((bt s i - 0xE0) * 4096 + (bt s (i + 1) - 0x80) * 64 + (bt s (i + 2) - 0x80), 3)) := by
            show dec s i = _
            unfold dec
            repeat' split
            all_goals first | (exfalso; omega) | rfl
          have M1 : Hid (∀ w, Calls Try.prog 44 #[.string s, .int .i64 (i + 1)] w fun e w' => e = .returned (.bool true) ∧ w = w') := fun w => more_b s (i + 1) true h1 (by omega) w
          have M2 : Hid (∀ w, Calls Try.prog 44 #[.string s, .int .i64 (i + 2)] w fun e w' => e = .returned (.bool true) ∧ w = w') := fun w => more_b s (i + 2) true h2 (by omega) w
          clear h1 h2
          go_enter Try.func27, Try.ntmps27
          go_wp2_with (go_at_call 44; first | ((with_reducible refine (M1.out _).mono ?_); rintro e w' ⟨rfl, rfl⟩) | ((with_reducible refine (M2.out _).mono ?_); rintro e w' ⟨rfl, rfl⟩))
          have v1 : IntKind.i64.wrap ((i : Int) + 1) = (i : Int) + 1 := IntWalk.i64_in _ (by omega)
          have v2 : IntKind.i64.wrap ((i : Int) + 2) = (i : Int) + 2 := IntWalk.i64_in _ (by omega)
          have v3 : IntKind.i64.wrap ((i : Int) + 3) = (i : Int) + 3 := IntWalk.i64_in _ (by omega)
          have p1 : (0 : Int) ≤ (i : Int) + 1 := by omega
          have p2 : (0 : Int) ≤ (i : Int) + 2 := by omega
          have p3 : (0 : Int) ≤ (i : Int) + 3 := by omega
          have t1 : ((i : Int) + 1).toNat = i + 1 := by omega
          have t2 : ((i : Int) + 2).toNat = i + 2 := by omega
          have t3 : ((i : Int) + 3).toNat = i + 3 := by omega
          have q1 : (i : Int) + 1 < (s.size : Int) := by omega
          have q2 : (i : Int) + 2 < (s.size : Int) := by omega
          first | have q3 : (i : Int) + 3 < (s.size : Int) := by omega | have q3 : True := trivial
          go_quiet (fail)
          clear v1 v2 v3 t1 t2 t3
          go_wp2
          all_goals go_light
          go_ret3
          refine ⟨at_end hd ?_ ?_ ?_, _, rfl⟩
          all_goals first | omega | (simp; done) | (simp; omega)
        by_cases r3 : (bt s i - 0xE0) * 4096 + (bt s (i + 1) - 0x80) * 64 + (bt s (i + 2) - 0x80) ≤ 0xDFFF
        · skip
          have hd : Hid (dec s i = (65533, 1)) := by
            show dec s i = _
            unfold dec
            repeat' split
            all_goals first | (exfalso; omega) | rfl
          have M1 : Hid (∀ w, Calls Try.prog 44 #[.string s, .int .i64 (i + 1)] w fun e w' => e = .returned (.bool true) ∧ w = w') := fun w => more_b s (i + 1) true h1 (by omega) w
          have M2 : Hid (∀ w, Calls Try.prog 44 #[.string s, .int .i64 (i + 2)] w fun e w' => e = .returned (.bool true) ∧ w = w') := fun w => more_b s (i + 2) true h2 (by omega) w
          clear h1 h2
          go_enter Try.func27, Try.ntmps27
          go_wp2_with (go_at_call 44; first | ((with_reducible refine (M1.out _).mono ?_); rintro e w' ⟨rfl, rfl⟩) | ((with_reducible refine (M2.out _).mono ?_); rintro e w' ⟨rfl, rfl⟩))
          have v1 : IntKind.i64.wrap ((i : Int) + 1) = (i : Int) + 1 := IntWalk.i64_in _ (by omega)
          have v2 : IntKind.i64.wrap ((i : Int) + 2) = (i : Int) + 2 := IntWalk.i64_in _ (by omega)
          have v3 : IntKind.i64.wrap ((i : Int) + 3) = (i : Int) + 3 := IntWalk.i64_in _ (by omega)
          have p1 : (0 : Int) ≤ (i : Int) + 1 := by omega
          have p2 : (0 : Int) ≤ (i : Int) + 2 := by omega
          have p3 : (0 : Int) ≤ (i : Int) + 3 := by omega
          have t1 : ((i : Int) + 1).toNat = i + 1 := by omega
          have t2 : ((i : Int) + 2).toNat = i + 2 := by omega
          have t3 : ((i : Int) + 3).toNat = i + 3 := by omega
          have q1 : (i : Int) + 1 < (s.size : Int) := by omega
          have q2 : (i : Int) + 2 < (s.size : Int) := by omega
          first | have q3 : (i : Int) + 3 < (s.size : Int) := by omega | have q3 : True := trivial
          go_quiet (fail)
          clear v1 v2 v3 t1 t2 t3
          go_wp2
          all_goals go_light
          go_ret3
          refine ⟨at_end hd ?_ ?_ ?_, _, rfl⟩
          all_goals first | omega | (simp; done) | (simp; omega)
        have hd : Hid (dec s i = ((bt s i - 0xE0) * 4096 + (bt s (i + 1) - 0x80) * 64 + (bt s (i + 2) - 0x80), 3)) := by
          show dec s i = _
          unfold dec
          repeat' split
          all_goals first | (exfalso; omega) | rfl
        have M1 : Hid (∀ w, Calls Try.prog 44 #[.string s, .int .i64 (i + 1)] w fun e w' => e = .returned (.bool true) ∧ w = w') := fun w => more_b s (i + 1) true h1 (by omega) w
        have M2 : Hid (∀ w, Calls Try.prog 44 #[.string s, .int .i64 (i + 2)] w fun e w' => e = .returned (.bool true) ∧ w = w') := fun w => more_b s (i + 2) true h2 (by omega) w
        clear h1 h2
        go_enter Try.func27, Try.ntmps27
        go_wp2_with (go_at_call 44; first | ((with_reducible refine (M1.out _).mono ?_); rintro e w' ⟨rfl, rfl⟩) | ((with_reducible refine (M2.out _).mono ?_); rintro e w' ⟨rfl, rfl⟩))
        have v1 : IntKind.i64.wrap ((i : Int) + 1) = (i : Int) + 1 := IntWalk.i64_in _ (by omega)
        have v2 : IntKind.i64.wrap ((i : Int) + 2) = (i : Int) + 2 := IntWalk.i64_in _ (by omega)
        have v3 : IntKind.i64.wrap ((i : Int) + 3) = (i : Int) + 3 := IntWalk.i64_in _ (by omega)
        have p1 : (0 : Int) ≤ (i : Int) + 1 := by omega
        have p2 : (0 : Int) ≤ (i : Int) + 2 := by omega
        have p3 : (0 : Int) ≤ (i : Int) + 3 := by omega
        have t1 : ((i : Int) + 1).toNat = i + 1 := by omega
        have t2 : ((i : Int) + 2).toNat = i + 2 := by omega
        have t3 : ((i : Int) + 3).toNat = i + 3 := by omega
        have q1 : (i : Int) + 1 < (s.size : Int) := by omega
        have q2 : (i : Int) + 2 < (s.size : Int) := by omega
        first | have q3 : (i : Int) + 3 < (s.size : Int) := by omega | have q3 : True := trivial
        go_quiet (fail)
        clear v1 v2 v3 t1 t2 t3
        go_wp2
        all_goals go_light
        go_ret3
        refine ⟨at_end hd ?_ ?_ ?_, _, rfl⟩
        all_goals first | omega | (simp; done) | (simp; omega)
  by_cases c5 : bt s i ≤ 0xF4
  · cases h1 : moreB s (i + 1)
    · skip
      have g1 : ¬ (i + 1 < s.size ∧ 0x80 ≤ bt s (i + 1) ∧ bt s (i + 1) ≤ 0xBF) := by rw [← moreB_iff, h1]; simp
      have hd : Hid (dec s i = (65533, 1)) := by
        show dec s i = _
        unfold dec
        repeat' split
        all_goals first | (exfalso; omega) | rfl
      clear g1
      have M1 : Hid (∀ w, Calls Try.prog 44 #[.string s, .int .i64 (i + 1)] w fun e w' => e = .returned (.bool false) ∧ w = w') := fun w => more_b s (i + 1) false h1 (by omega) w
      clear h1
      go_enter Try.func27, Try.ntmps27
      go_wp2_with (go_at_call 44; first | ((with_reducible refine (M1.out _).mono ?_); rintro e w' ⟨rfl, rfl⟩))
      all_goals go_light
      go_ret3
      refine ⟨at_end hd ?_ ?_ ?_, 0, rfl⟩
      all_goals first | omega | (simp; done) | (simp; omega)
    · skip
      have g1 := (moreB_iff _ _).1 h1
      have k1 := bt_get s (i + 1) g1.1
      obtain ⟨g1, l1, u1⟩ := g1
      cases h2 : moreB s (i + 2)
      · skip
        have g2 : ¬ (i + 2 < s.size ∧ 0x80 ≤ bt s (i + 2) ∧ bt s (i + 2) ≤ 0xBF) := by rw [← moreB_iff, h2]; simp
        have hd : Hid (dec s i = (65533, 1)) := by
          show dec s i = _
          unfold dec
          repeat' split
          all_goals first | (exfalso; omega) | rfl
        clear g2
        have M1 : Hid (∀ w, Calls Try.prog 44 #[.string s, .int .i64 (i + 1)] w fun e w' => e = .returned (.bool true) ∧ w = w') := fun w => more_b s (i + 1) true h1 (by omega) w
        have M2 : Hid (∀ w, Calls Try.prog 44 #[.string s, .int .i64 (i + 2)] w fun e w' => e = .returned (.bool false) ∧ w = w') := fun w => more_b s (i + 2) false h2 (by omega) w
        clear h1 h2
        go_enter Try.func27, Try.ntmps27
        go_wp2_with (go_at_call 44; first | ((with_reducible refine (M1.out _).mono ?_); rintro e w' ⟨rfl, rfl⟩) | ((with_reducible refine (M2.out _).mono ?_); rintro e w' ⟨rfl, rfl⟩))
        all_goals go_light
        go_ret3
        refine ⟨at_end hd ?_ ?_ ?_, 0, rfl⟩
        all_goals first | omega | (simp; done) | (simp; omega)
      · skip
        have g2 := (moreB_iff _ _).1 h2
        have k2 := bt_get s (i + 2) g2.1
        obtain ⟨g2, l2, u2⟩ := g2
        cases h3 : moreB s (i + 3)
        · skip
          have g3 : ¬ (i + 3 < s.size ∧ 0x80 ≤ bt s (i + 3) ∧ bt s (i + 3) ≤ 0xBF) := by rw [← moreB_iff, h3]; simp
          have hd : Hid (dec s i = (65533, 1)) := by
            show dec s i = _
            unfold dec
            repeat' split
            all_goals first | (exfalso; omega) | rfl
          clear g3
          have M1 : Hid (∀ w, Calls Try.prog 44 #[.string s, .int .i64 (i + 1)] w fun e w' => e = .returned (.bool true) ∧ w = w') := fun w => more_b s (i + 1) true h1 (by omega) w
          have M2 : Hid (∀ w, Calls Try.prog 44 #[.string s, .int .i64 (i + 2)] w fun e w' => e = .returned (.bool true) ∧ w = w') := fun w => more_b s (i + 2) true h2 (by omega) w
          have M3 : Hid (∀ w, Calls Try.prog 44 #[.string s, .int .i64 (i + 3)] w fun e w' => e = .returned (.bool false) ∧ w = w') := fun w => more_b s (i + 3) false h3 (by omega) w
          clear h1 h2 h3
          go_enter Try.func27, Try.ntmps27
          go_wp2_with (go_at_call 44; first | ((with_reducible refine (M1.out _).mono ?_); rintro e w' ⟨rfl, rfl⟩) | ((with_reducible refine (M2.out _).mono ?_); rintro e w' ⟨rfl, rfl⟩) | ((with_reducible refine (M3.out _).mono ?_); rintro e w' ⟨rfl, rfl⟩))
          all_goals go_light
          go_ret3
          refine ⟨at_end hd ?_ ?_ ?_, 0, rfl⟩
          all_goals first | omega | (simp; done) | (simp; omega)
        · skip
          have g3 := (moreB_iff _ _).1 h3
          have k3 := bt_get s (i + 3) g3.1
          obtain ⟨g3, l3, u3⟩ := g3
          by_cases r1 : (bt s i - 0xF0) * 262144 + (bt s (i + 1) - 0x80) * 4096 + (bt s (i + 2) - 0x80) * 64 + (bt s (i + 3) - 0x80) < 0x10000
          · skip
            have hd : Hid (dec s i = (65533, 1)) := by
              show dec s i = _
              unfold dec
              repeat' split
              all_goals first | (exfalso; omega) | rfl
            have M1 : Hid (∀ w, Calls Try.prog 44 #[.string s, .int .i64 (i + 1)] w fun e w' => e = .returned (.bool true) ∧ w = w') := fun w => more_b s (i + 1) true h1 (by omega) w
            have M2 : Hid (∀ w, Calls Try.prog 44 #[.string s, .int .i64 (i + 2)] w fun e w' => e = .returned (.bool true) ∧ w = w') := fun w => more_b s (i + 2) true h2 (by omega) w
            have M3 : Hid (∀ w, Calls Try.prog 44 #[.string s, .int .i64 (i + 3)] w fun e w' => e = .returned (.bool true) ∧ w = w') := fun w => more_b s (i + 3) true h3 (by omega) w
            clear h1 h2 h3
            go_enter Try.func27, Try.ntmps27
            go_wp2_with (go_at_call 44; first | ((with_reducible refine (M1.out _).mono ?_); rintro e w' ⟨rfl, rfl⟩) | ((with_reducible refine (M2.out _).mono ?_); rintro e w' ⟨rfl, rfl⟩) | ((with_reducible refine (M3.out _).mono ?_); rintro e w' ⟨rfl, rfl⟩))
            have v1 : IntKind.i64.wrap ((i : Int) + 1) = (i : Int) + 1 := IntWalk.i64_in _ (by omega)
            have v2 : IntKind.i64.wrap ((i : Int) + 2) = (i : Int) + 2 := IntWalk.i64_in _ (by omega)
            have v3 : IntKind.i64.wrap ((i : Int) + 3) = (i : Int) + 3 := IntWalk.i64_in _ (by omega)
            have p1 : (0 : Int) ≤ (i : Int) + 1 := by omega
            have p2 : (0 : Int) ≤ (i : Int) + 2 := by omega
            have p3 : (0 : Int) ≤ (i : Int) + 3 := by omega
            have t1 : ((i : Int) + 1).toNat = i + 1 := by omega
            have t2 : ((i : Int) + 2).toNat = i + 2 := by omega
            have t3 : ((i : Int) + 3).toNat = i + 3 := by omega
            have q1 : (i : Int) + 1 < (s.size : Int) := by omega
            have q2 : (i : Int) + 2 < (s.size : Int) := by omega
            first | have q3 : (i : Int) + 3 < (s.size : Int) := by omega | have q3 : True := trivial
            go_quiet (fail)
            clear v1 v2 v3 t1 t2 t3
            go_wp2
            all_goals go_light
            go_ret3
            refine ⟨at_end hd ?_ ?_ ?_, _, rfl⟩
            all_goals first | omega | (simp; done) | (simp; omega)
          by_cases r2 : (bt s i - 0xF0) * 262144 + (bt s (i + 1) - 0x80) * 4096 + (bt s (i + 2) - 0x80) * 64 + (bt s (i + 3) - 0x80) ≤ 0x10FFFF
          · skip
            have hd : Hid (dec s i = ((bt s i - 0xF0) * 262144 + (bt s (i + 1) - 0x80) * 4096 + (bt s (i + 2) - 0x80) * 64 + (bt s (i + 3) - 0x80), 4)) := by
              show dec s i = _
              unfold dec
              repeat' split
              all_goals first | (exfalso; omega) | rfl
            have M1 : Hid (∀ w, Calls Try.prog 44 #[.string s, .int .i64 (i + 1)] w fun e w' => e = .returned (.bool true) ∧ w = w') := fun w => more_b s (i + 1) true h1 (by omega) w
            have M2 : Hid (∀ w, Calls Try.prog 44 #[.string s, .int .i64 (i + 2)] w fun e w' => e = .returned (.bool true) ∧ w = w') := fun w => more_b s (i + 2) true h2 (by omega) w
            have M3 : Hid (∀ w, Calls Try.prog 44 #[.string s, .int .i64 (i + 3)] w fun e w' => e = .returned (.bool true) ∧ w = w') := fun w => more_b s (i + 3) true h3 (by omega) w
            clear h1 h2 h3
            go_enter Try.func27, Try.ntmps27
            go_wp2_with (go_at_call 44; first | ((with_reducible refine (M1.out _).mono ?_); rintro e w' ⟨rfl, rfl⟩) | ((with_reducible refine (M2.out _).mono ?_); rintro e w' ⟨rfl, rfl⟩) | ((with_reducible refine (M3.out _).mono ?_); rintro e w' ⟨rfl, rfl⟩))
            have v1 : IntKind.i64.wrap ((i : Int) + 1) = (i : Int) + 1 := IntWalk.i64_in _ (by omega)
            have v2 : IntKind.i64.wrap ((i : Int) + 2) = (i : Int) + 2 := IntWalk.i64_in _ (by omega)
            have v3 : IntKind.i64.wrap ((i : Int) + 3) = (i : Int) + 3 := IntWalk.i64_in _ (by omega)
            have p1 : (0 : Int) ≤ (i : Int) + 1 := by omega
            have p2 : (0 : Int) ≤ (i : Int) + 2 := by omega
            have p3 : (0 : Int) ≤ (i : Int) + 3 := by omega
            have t1 : ((i : Int) + 1).toNat = i + 1 := by omega
            have t2 : ((i : Int) + 2).toNat = i + 2 := by omega
            have t3 : ((i : Int) + 3).toNat = i + 3 := by omega
            have q1 : (i : Int) + 1 < (s.size : Int) := by omega
            have q2 : (i : Int) + 2 < (s.size : Int) := by omega
            first | have q3 : (i : Int) + 3 < (s.size : Int) := by omega | have q3 : True := trivial
            go_quiet (fail)
            clear v1 v2 v3 t1 t2 t3
            go_wp2
            all_goals go_light
            go_ret3
            refine ⟨at_end hd ?_ ?_ ?_, _, rfl⟩
            all_goals first | omega | (simp; done) | (simp; omega)
          have hd : Hid (dec s i = (65533, 1)) := by
            show dec s i = _
            unfold dec
            repeat' split
            all_goals first | (exfalso; omega) | rfl
          have M1 : Hid (∀ w, Calls Try.prog 44 #[.string s, .int .i64 (i + 1)] w fun e w' => e = .returned (.bool true) ∧ w = w') := fun w => more_b s (i + 1) true h1 (by omega) w
          have M2 : Hid (∀ w, Calls Try.prog 44 #[.string s, .int .i64 (i + 2)] w fun e w' => e = .returned (.bool true) ∧ w = w') := fun w => more_b s (i + 2) true h2 (by omega) w
          have M3 : Hid (∀ w, Calls Try.prog 44 #[.string s, .int .i64 (i + 3)] w fun e w' => e = .returned (.bool true) ∧ w = w') := fun w => more_b s (i + 3) true h3 (by omega) w
          clear h1 h2 h3
          go_enter Try.func27, Try.ntmps27
          go_wp2_with (go_at_call 44; first | ((with_reducible refine (M1.out _).mono ?_); rintro e w' ⟨rfl, rfl⟩) | ((with_reducible refine (M2.out _).mono ?_); rintro e w' ⟨rfl, rfl⟩) | ((with_reducible refine (M3.out _).mono ?_); rintro e w' ⟨rfl, rfl⟩))
          have v1 : IntKind.i64.wrap ((i : Int) + 1) = (i : Int) + 1 := IntWalk.i64_in _ (by omega)
          have v2 : IntKind.i64.wrap ((i : Int) + 2) = (i : Int) + 2 := IntWalk.i64_in _ (by omega)
          have v3 : IntKind.i64.wrap ((i : Int) + 3) = (i : Int) + 3 := IntWalk.i64_in _ (by omega)
          have p1 : (0 : Int) ≤ (i : Int) + 1 := by omega
          have p2 : (0 : Int) ≤ (i : Int) + 2 := by omega
          have p3 : (0 : Int) ≤ (i : Int) + 3 := by omega
          have t1 : ((i : Int) + 1).toNat = i + 1 := by omega
          have t2 : ((i : Int) + 2).toNat = i + 2 := by omega
          have t3 : ((i : Int) + 3).toNat = i + 3 := by omega
          have q1 : (i : Int) + 1 < (s.size : Int) := by omega
          have q2 : (i : Int) + 2 < (s.size : Int) := by omega
          first | have q3 : (i : Int) + 3 < (s.size : Int) := by omega | have q3 : True := trivial
          go_quiet (fail)
          clear v1 v2 v3 t1 t2 t3
          go_wp2
          all_goals go_light
          go_ret3
          refine ⟨at_end hd ?_ ?_ ?_, _, rfl⟩
          all_goals first | omega | (simp; done) | (simp; omega)
  have hd : Hid (dec s i = (65533, 1)) := by
    show dec s i = _
    unfold dec
    repeat' split
    all_goals first | (exfalso; omega) | rfl
  go_enter Try.func27, Try.ntmps27
  go_wp2
  all_goals go_light
  go_ret3
  refine ⟨at_end hd ?_ ?_ ?_, 0, rfl⟩
  all_goals first | omega | (simp; done) | (simp; omega)

end Go.Proofs.Ythbejpgeohhppaa
