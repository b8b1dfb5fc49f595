/- Walks: earshotref1.Count, earshotref1.Plain, earshotref1.Mend. -/
import Derived.Test.YteoehhkdmmcglaaBytes
import Derived.Test.YteoehhkdmmcglaaRunes
import Derived.IntWalk
namespace Go.Proofs.Yteoehhkdmmcglaa
set_option linter.unusedVariables false
open Go.RowKit



set_option maxHeartbeats 1000000 in
theorem refCount_any (s : ByteArray) (hs : s.size ≤ 140737488351232) (w : World) :
    Calls Try.prog 33 #[.string s] w fun e w' => e = .returned (.int .i64 (st s 0).length) ∧ Below w.heap.size w w' := by
  have HA : Hid (∀ i, i < s.size → ∀ w, Calls Try.prog 38 #[.string s, .int .i64 i] w fun e w' => e = .returned (.tuple #[.int .i64 (rn s i), .int .i64 (wd s i), .bool (lo s i)]) ∧ ∃ n, w' = w.drewN n) :=
    Lib.hid (fun i hi w => refAt_any s i hi (by omega) w)
  have hN := st_len s 0
  go_enter Try.func33, Try.ntmps33
  go_wp2
  go_loopw [3, 4] (fun n i wr => ∃ pos k : Nat, n = .int .i64 k ∧ i = .int .i64 pos ∧ Hid (k + (st s pos).length = (st s 0).length) ∧ Below w.heap.size w wr ∧ pos ≤ s.size ∧ k ≤ pos) (fun _ i _ => s.size - (intOf i).toNat)
  case atStart => exact ⟨0, 0, rfl, rfl, by show _ = _; omega, Below.refl _ _, by omega, by omega⟩
  case round =>
    obtain ⟨pos, k, rfl, rfl, hk, hbl, hle, hkp⟩ := hrel
    by_cases hp : pos < s.size
    · have hw := wd_bd s pos hp
      have H := Lib.hid (HA.out pos hp)
      go_wp2_with (go_at_call 38; refine (H.out _).mono ?_; rintro e w1 ⟨rfl, nq, rfl⟩)
      go_roundw
      case rel =>
        have := hk.out
        rw [st_cons hp, List.length_cons] at this
        exact ⟨pos + wd s pos, k + 1, by go_num, by go_num, by show _ = _; omega, below_drewN hbl nq, by omega, by omega⟩
      case measure => simp [intOf]; omega
    · go_wp2
      go_ret
      have := hk.out
      rw [st_nil hp, List.length_nil] at this
      exact ⟨ret_int (by omega), hbl⟩

set_option maxHeartbeats 1000000 in
theorem refPlain_any (s : ByteArray) (hs : s.size ≤ 140737488351232) (w : World) :
    Calls Try.prog 34 #[.string s] w fun e w' => e = .returned (.bool (plainB s)) ∧ Below w.heap.size w w' := by
  have HA : Hid (∀ i, i < s.size → ∀ w, Calls Try.prog 38 #[.string s, .int .i64 i] w fun e w' => e = .returned (.tuple #[.int .i64 (rn s i), .int .i64 (wd s i), .bool (lo s i)]) ∧ ∃ n, w' = w.drewN n) :=
    Lib.hid (fun i hi w => refAt_any s i hi (by omega) w)
  go_enter Try.func34, Try.ntmps34
  go_wp2
  go_loopw [3] (fun i wr => ∃ pos : Nat, i = .int .i64 pos ∧ Hid (plainB s = ((st s pos).all fun p => !lo s p)) ∧ Below w.heap.size w wr ∧ pos ≤ s.size) (fun i _ => s.size - (intOf i).toNat)
  case atStart => exact ⟨0, rfl, rfl, Below.refl _ _, by omega⟩
  case round =>
    obtain ⟨pos, rfl, hk, hbl, hle⟩ := hrel
    by_cases hp : pos < s.size
    · have hw := wd_bd s pos hp
      have H := Lib.hid (HA.out pos hp)
      cases hl : lo s pos
      · rw [hl] at H
        have HL := Lib.hid hl
        clear hl
        go_wp2_with (go_at_call 38; refine (H.out _).mono ?_; rintro e w1 ⟨rfl, nq, rfl⟩)
        go_roundw
        case rel =>
          exact ⟨pos + wd s pos, by go_num, by show _ = _; rw [hk.out, st_cons hp, List.all_cons, HL.out]; rfl, below_drewN hbl nq, by omega⟩
        case measure => simp [intOf]; omega
      · rw [hl] at H
        have HL := Lib.hid hl
        clear hl
        go_wp2_with (go_at_call 38; refine (H.out _).mono ?_; rintro e w1 ⟨rfl, nq, rfl⟩)
        go_ret
        exact ⟨ret_bool (by rw [hk.out, st_cons hp, List.all_cons, HL.out]; rfl), below_drewN hbl nq⟩
    · go_wp2
      go_ret
      exact ⟨ret_bool (by rw [hk.out, st_nil hp]; rfl), hbl⟩

/-- What Mend writes for a character. -/
def mb (s : ByteArray) (p : Nat) : List UInt8 := if lo s p then [239, 191, 189] else bl s p
theorem mb_enc (s : ByteArray) (p : Nat) (h : p < s.size) : mb s p = enc (rn s p) := by
  unfold mb
  cases hl : lo s p
  · rw [if_neg (by simp), bl_enc s p h hl]
  · rw [if_pos rfl, ((lo_iff s p).1 hl).1]; rfl

set_option maxHeartbeats 2000000 in
theorem refMend_any (s : ByteArray) (hs : s.size ≤ 35184372088832) (w : World) :
    Calls Try.prog 35 #[.string s] w fun e w' => e = .returned (.string (txt (rs s))) ∧ Below w.heap.size w w' := by
  have HA : Hid (∀ i, i < s.size → ∀ w, Calls Try.prog 38 #[.string s, .int .i64 i] w fun e w' => e = .returned (.tuple #[.int .i64 (rn s i), .int .i64 (wd s i), .bool (lo s i)]) ∧ ∃ n, w' = w.drewN n) :=
    Lib.hid (fun i hi w => refAt_any s i hi (by omega) w)
  obtain ⟨i0, hi, hz0, hz1, hz2⟩ := info_parts Try.infoByte
  go_enter Try.func35, Try.ntmps35
  go_wp2
  go_loopw [3, 4] (fun v i wr => ∃ (pos : Nat) (pre : List Nat), i = .int .i64 pos ∧ wr.ownsRow w.heap.size 5 1 v (pre.flatMap enc).length (Lib.byteCells (pre.flatMap enc)) ∧ Hid (rs s = pre ++ (st s pos).map (rn s)) ∧ Below w.heap.size w wr ∧ (pre.flatMap enc).length ≤ 4 * pos ∧ pos ≤ s.size) (fun _ i _ => s.size - (intOf i).toNat)
  case atStart => exact ⟨0, [], rfl, World.ownsRow_nil _ _ _ _, rfl, Below.refl _ _, by simp, by omega⟩
  case round =>
    obtain ⟨pos, pre, rfl, hown, hacc, hbl, hal, hle⟩ := hrel
    by_cases hp : pos < s.size
    · have hw := wd_bd s pos hp
      have hr := rn_bd s pos
      have hme := mb_enc s pos hp
      have hme2 := enc_len (rn s pos)
      have H := Lib.hid (HA.out pos hp)
      have i1 : ¬ (s.size : Int) < (pos : Int) + (wd s pos : Int) := by omega
      have i2 : ¬ ((pos : Int) + (wd s pos : Int)) < (pos : Int) := by omega
      have i3 : ((pos : Int) + (wd s pos : Int)).toNat = pos + wd s pos := by omega
      have i4 : IntKind.i64.wrap ((pos : Int) + (wd s pos : Int)) = (pos : Int) + (wd s pos : Int) := IntWalk.i64_in _ (by omega)
      cases hl : lo s pos
      · rw [hl] at H
        have HL := Lib.hid hl
        clear hl
        go_wp2_with (first
          | (go_at_call 38; refine (H.out _).mono ?_; rintro e w1 ⟨rfl, nq, rfl⟩)
          | (at_builtin; refine Lib.wpList_append_own_string _ rfl _ _ 57 9 rfl w.heap.size 5 i0 Try.underlying57 Try.underlying9 hi hz0 hz1 hz2 _ _ _ rfl (ownsRow_drewN hown nq) (s.extract pos (pos + wd s pos)) rfl (by rw [ByteArray.size_extract]; unfold maxLen; omega) (by rw [ByteArray.size_extract]; omega) (by have := hbl.size; simpa using this) ?_; intro v' w4 hown4 hg4 _))
        have hbl1 : Below w.heap.size w w4 := (below_drewN hbl nq).grown hg4 hbl.size (fun j hj => (hown.lt _ hj).1)
        rw [strCells_bytes, bl_extract, bl_enc s pos hp HL.out, ← byteCells_app, show (s.extract pos (pos + wd s pos)).size = (enc (rn s pos)).length from by rw [← bl_enc s pos hp HL.out, bl_len s pos hp, ByteArray.size_extract]; omega, ← List.length_append] at hown4
        go_wp2
        go_roundw
        case rel =>
          refine ⟨pos + wd s pos, pre ++ [rn s pos], by go_num, ?_, ?_, hbl1, ?_, by omega⟩
          · rw [List.flatMap_append, List.flatMap_singleton]; exact hown4
          · show _ = _; rw [hacc.out, st_cons hp]; simp
          · rw [List.flatMap_append, List.flatMap_singleton, List.length_append]
            have : (enc (rn s pos)).length ≤ 4 * wd s pos := by omega
            omega
        case measure => simp [intOf]; omega
      · rw [hl] at H
        have HL := Lib.hid hl
        clear hl
        have hfff : rn s pos = 65533 := ((lo_iff s pos).1 HL.out).1
        go_wp2_with (first
          | (go_at_call 38; refine (H.out _).mono ?_; rintro e w1 ⟨rfl, nq, rfl⟩)
          | (at_builtin; refine wpList_append_own _ rfl _ _ 57 rfl w.heap.size 5 i0 (.int .u8 0) 1 1 Try.underlying57 hi hz0 hz1 hz2 rfl (by decide) _ _ _ rfl ((ownsRow_drewN hown nq).alloc _) ⟨wr.heap.size, 0, none⟩ 3 3 (Lib.byteCells [239, 191, 189]) rfl rfl (cells_new (wr.drewN nq) (Lib.byteCells [239, 191, 189]) _) (byteCells_one _) (by unfold maxLen; omega) (by omega) (by have := hbl.size; simp; omega) ?_; intro v' w4 hown4 hg4 _))
        have hbl1 : Below w.heap.size w w4 := ((below_drewN hbl nq).alloc (o := _) (by have := hbl.size; simpa using this)).grown hg4 (by have := hbl.size; simp; omega) (fun j hj => (hown.lt _ hj).1)
        rw [← byteCells_app, show ([239, 191, 189] : List UInt8) = enc (rn s pos) from by rw [hfff]; rfl, show (pre.flatMap enc).length + 3 = (pre.flatMap enc ++ enc (rn s pos)).length from by rw [List.length_append, hfff]; rfl] at hown4
        go_wp2
        go_roundw
        case rel =>
          refine ⟨pos + wd s pos, pre ++ [rn s pos], by go_num, ?_, ?_, hbl1, ?_, by omega⟩
          · rw [List.flatMap_append, List.flatMap_singleton]; exact hown4
          · show _ = _; rw [hacc.out, st_cons hp]; simp
          · rw [List.flatMap_append, List.flatMap_singleton, List.length_append]
            have : (enc (rn s pos)).length ≤ 4 * wd s pos := by omega
            omega
        case measure => simp [intOf]; omega
    · have hcv := own_string (P := Try.prog) (dst := 9) Try.underlying57 Try.underlying5 Try.underlying9 hown rfl
      go_wp2
      go_ret
      have hh := hacc.out
      rw [st_nil hp, List.map_nil, List.append_nil] at hh
      refine ⟨?_, hbl⟩
      rw [hh]; rfl

end Go.Proofs.Yteoehhkdmmcglaa
