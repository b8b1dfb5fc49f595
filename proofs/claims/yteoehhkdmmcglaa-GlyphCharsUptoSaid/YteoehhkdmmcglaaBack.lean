/- Walks: glyph.Back, earshotref1.Back. -/
import Derived.Test.YteoehhkdmmcglaaCopy
import Derived.Test.YteoehhkdmmcglaaRange
import Derived.Test.YteoehhkdmmcglaaRefMend
import Derived.StillTail
import Derived.StillTailTactics
import Derived.StillTactics
namespace Go.Proofs.Yteoehhkdmmcglaa
set_option linter.unusedVariables false
open Go.RowKit

/-- The characters' bytes, the last first. -/
def backL (s : ByteArray) (l : List Nat) : List UInt8 := l.reverse.flatMap (bl s)
def backT (s : ByteArray) : ByteArray := ⟨(backL s (st s 0)).toArray⟩
theorem backL_snoc (s : ByteArray) (l : List Nat) (p : Nat) : backL s (l ++ [p]) = bl s p ++ backL s l := by simp [backL]

set_option maxHeartbeats 2000000 in
theorem back_any (s : ByteArray) (hs : s.size ≤ 140737488351232) (w : World) :
    Calls Try.prog 19 #[.string s] w fun e w' => e = .returned (.string (backT s)) ∧ Below w.heap.size w w' := by
  have hmk := make_bytes s.size (by omega)
  have HS : Hid (∀ pos, pos < s.size → ∀ w, Calls Try.prog 40 #[.string s, .int .i64 pos, .int .i32 (rn s pos)] w fun e w' => e = .returned (.tuple #[.int .i64 (wd s pos), .bool (lo s pos)]) ∧ w = w') :=
    Lib.hid (fun pos hp w => by refine (size_any s pos hp w).mono ?_; rintro e w' ⟨rfl, rfl⟩; exact ⟨rfl, rfl⟩)
  go_enter Try.func19, Try.ntmps19
  go_wp2
  have a0 : (w.alloc (.cells (Array.replicate s.size (Value.int .u8 0)) 5)).heap[w.heap.size]? = some (.cells (List.replicate s.size (Value.int .u8 0)).toArray 5 (0, 0)) := by
    rw [blk_new]; simp
  go_loopw [4] (fun en wr => ∃ (pos e : Nat) (pre : List Nat), en = .int .i64 e ∧ e + pos = s.size ∧ wr.heap[w.heap.size]? = some (.cells (List.replicate e (Value.int .u8 0) ++ Lib.byteCells (backL s pre)).toArray 5 (0, 0)) ∧ wr.heap[w.heap.size + 1]? = some (.stringIter s pos) ∧ Below w.heap.size w wr ∧ Hid (st s 0 = pre ++ st s pos) ∧ (backL s pre).length = pos) (fun _ wr => s.size - wr.iterPos (w.heap.size + 1))
  case atStart =>
    refine ⟨0, s.size, [], rfl, rfl, ?_, ?_, ((Below.refl _ _).alloc (Nat.le_refl _) _).alloc (by simp) _, rfl, rfl⟩
    · have := blk_old a0 (.stringIter s 0)
      rw [show List.replicate s.size (Value.int .u8 0) ++ Lib.byteCells (backL s []) = List.replicate s.size (Value.int .u8 0) from by simp [backL, Lib.byteCells]]
      exact this
    · have := blk_new (w.alloc (.cells (Array.replicate s.size (Value.int .u8 0)) 5)) (.stringIter s 0)
      rwa [World.size_alloc] at this
  case round =>
    obtain ⟨pos, e, pre, rfl, hep, hout, hit, hbl, hpre, hbk⟩ := hrel
    have hpos := iterPos_of hit
    by_cases hp : pos < s.size
    · obtain ⟨W1, hnx, hit1, hg, hz⟩ := next_at Try.prog hit hp
      have hout1 := blk_grown hg hout (by simp)
      have hbl1 : Below w.heap.size w W1 := hbl.grown hg hbl.size (fun j hj => by cases hj; omega)
      have hw := wd_bd s pos hp
      have HP := Lib.hid hpos
      have H := Lib.hid (HS.out pos hp)
      obtain ⟨e', rfl⟩ : ∃ e', e = e' + wd s pos := ⟨e - wd s pos, by omega⟩
      have i1 : ¬ (s.size : Int) < (pos : Int) + (wd s pos : Int) := by omega
      have i2 : ¬ ((pos : Int) + (wd s pos : Int)) < (pos : Int) := by omega
      have i3 : ((pos : Int) + (wd s pos : Int)).toNat = pos + wd s pos := by omega
      have i4 : IntKind.i64.wrap ((pos : Int) + (wd s pos : Int)) = (pos : Int) + (wd s pos : Int) := IntWalk.i64_in _ (by omega)
      have i5 : IntKind.i64.wrap (((e' + wd s pos : Nat) : Int) - (wd s pos : Int)) = (e' : Int) := by rw [show ((e' + wd s pos : Nat) : Int) - (wd s pos : Int) = (e' : Int) from by omega]; exact IntWalk.i64_in _ (by omega)
      have i6 : ¬ (s.size : Int) < (e' : Int) := by omega
      have i8 : ¬ s.size = e' := by omega
      have i7 : ¬ (e' : Int) < 0 := by omega
      clear hpos hit hout hg HS
      go_wp2_with (go_at_call 40; refine (H.out _).mono ?_; rintro e w' ⟨rfl, rfl⟩)
      refine wp_region_still_tail 9 (by kernel_rfl) (by kernel_rfl) ?_
      simp only [List.take_succ_cons, List.take_zero, List.drop_succ_cons, List.drop_zero]
      repeat still_step
      try refine wpStill_nil ?_
      change wpList _ _ _ _ _ W1.drew
      have hz1 : (s.extract pos (pos + wd s pos)).size = wd s pos := by rw [ByteArray.size_extract]; omega
      have hrep : List.replicate (e' + wd s pos) (Value.int .u8 0) ++ Lib.byteCells (backL s pre) = List.replicate e' (Value.int .u8 0) ++ List.replicate (wd s pos) (Value.int .u8 0) ++ Lib.byteCells (backL s pre) := by
        rw [List.replicate_append_replicate]
      rw [hrep] at hout1
      have hcp := fun ty => run_copy_text (P := Try.prog) W1.drew 57 9 ty 5 w.heap.size e' (s.size - e') (s.size - e') (s.extract pos (pos + wd s pos)) 5 (List.replicate e' (Value.int .u8 0)) (List.replicate (wd s pos) (Value.int .u8 0)) (Lib.byteCells (backL s pre)) Try.underlying57 (by kernel_rfl) (by omega) hout1 (by simp) (by simp [hz1])
      have hs2 := heap_setCells_same w.heap.size 5 (0, 0) (Lib.strCells (s.extract pos (pos + wd s pos))) e' W1.drew _ _ _ hout1 (by simp) (by rw [Lib.strCells_length, hz1]; simp)
      have hi2 : (W1.drew.setCells w.heap.size e' (Lib.strCells (s.extract pos (pos + wd s pos)))).heap[w.heap.size + 1]? = some (.stringIter s (pos + wd s pos)) := by rw [heap_setCells_else _ (by omega)]; exact hit1
      have hb2 := below_setCells w.heap.size (Nat.le_refl _) (Lib.strCells (s.extract pos (pos + wd s pos))) e' W1.drew hbl1.drew
      clear i1 i2 i3 i4 i5 i6 i7 i8
      go_wp2
      clear hcp
      go_roundw
      case rel =>
        refine ⟨pos + wd s pos, e', pre ++ [pos], rfl, by omega, ?_, hi2, hb2, ?_, ?_⟩
        · rw [backL_snoc, byteCells_app, ← List.append_assoc, ← bl_extract, ← strCells_bytes]; exact hs2
        · show _ = _; rw [hpre.out, st_cons hp]; simp
        · rw [backL_snoc, List.length_append, bl_len s pos hp]; omega
      case measure => rw [iterPos_of hi2, HP.out]; omega
    · have hnx := next_end Try.prog hit hp
      have he0 : e = 0 := by omega
      subst he0
      have hh := hpre.out
      rw [st_nil hp, List.append_nil] at hh
      have hlen : (backL s pre).length = s.size := by omega
      have hcv := run_convert_bytes_back (P := Try.prog) wr 57 9 5 ⟨w.heap.size, 0, none⟩ s.size (backL s pre) Try.underlying57 Try.underlying5 Try.underlying9 (fun j hj => by
        rw [Addr.add_lit, Nat.zero_add]
        have := byteCells_get (backL s pre) j hj
        simp [World.cell?, hout, this])
      rw [hlen] at hcv
      clear hpos hit
      go_wp2
      go_ret
      refine ⟨?_, hbl⟩
      rw [backT, hh]; rfl

theorem backL_cons (s : ByteArray) (l : List Nat) (p : Nat) : backL s (p :: l) = backL s l ++ bl s p := by simp [backL]
theorem backL_len (s : ByteArray) (l : List Nat) (h : ∀ p ∈ l, p < s.size) : (backL s l).length ≤ 4 * l.length := by
  induction l with
  | nil => simp [backL]
  | cons p l ih =>
    have h1 := ih (fun q hq => h q (by simp [hq]))
    have h2 := bl_len s p (h p (by simp))
    have h3 := wd_bd s p (h p (by simp))
    rw [backL_cons, List.length_append, List.length_cons]; omega

set_option maxHeartbeats 2000000 in
theorem refBack_any (s : ByteArray) (hs : s.size ≤ 4398046511103) (w : World) :
    Calls Try.prog 36 #[.string s] w fun e w' => e = .returned (.string (backT s)) ∧ Below w.heap.size w w' := by
  have HL := Lib.hid (fun w => list_any s hs w)
  have hN := st_len s 0
  obtain ⟨i0, hi, hz0, hz1, hz2⟩ := info_parts Try.infoByte
  have j1 : IntKind.i64.wrap (((st s 0).length : Int) - 1) = ((st s 0).length : Int) - 1 := IntWalk.i64_in _ (by omega)
  go_enter Try.func36, Try.ntmps36
  go_wp2_with (go_at_call 15; refine (HL.out _).mono ?_; rintro e w1 ⟨v, rfl, hown, hB1⟩; obtain ⟨la, lc, rfl, hpos⟩ := ownsRow_slice hown)
  clear j1
  go_loopw [4, 5] (fun v i wr => ∃ k : Nat, i = .int .i64 ((k : Int) - 1) ∧ k ≤ (st s 0).length ∧ wr.ownsRow w1.heap.size 5 1 v (backL s ((st s 0).drop k)).length (Lib.byteCells (backL s ((st s 0).drop k))) ∧ Below w1.heap.size w1 wr) (fun _ i _ => (intOf i + 1).toNat)
  case atStart => exact ⟨(st s 0).length, rfl, Nat.le_refl _, by rw [List.drop_length]; exact World.ownsRow_nil _ _ _ _, Below.refl _ _⟩
  case round =>
    obtain ⟨k, rfl, hk, hbs, hbl⟩ := hrel
    cases k with
    | zero =>
      have hcv := own_string (P := Try.prog) (dst := 9) Try.underlying57 Try.underlying5 Try.underlying9 hbs rfl
      have j2 : ((0 : Nat) : Int) - 1 = -1 := by omega
      go_wp2
      go_ret
      refine ⟨?_, hB1.trans (hbl.mono hB1.size)⟩
      rfl
    | succ k =>
      rcases hpos with h0 | ⟨g, rfl, hgb, hgl⟩
      · omega
      have hget : (st s 0)[k]? = some ((st s 0)[k]'(by omega)) := List.getElem?_eq_getElem _
      obtain ⟨p, hp⟩ : ∃ p, (st s 0)[k]'(by omega) = p := ⟨_, rfl⟩
      rw [hp] at hget
      have hps := (st_mem _ _ (Nat.le_refl _) p (List.mem_of_getElem? hget)).2
      have hw := wd_bd s p hps
      have hdrop : (st s 0).drop k = p :: (st s 0).drop (k + 1) := by rw [List.drop_eq_getElem_cons (by omega), hp]
      have hownr := ownsRow_below hown hbl
      obtain ⟨e0, e1, e2, e3⟩ := row_cells hownr rfl hget
      have hblen := backL_len s ((st s 0).drop (k + 1)) (fun q hq => (st_mem _ _ (Nat.le_refl _) q (List.mem_of_mem_drop hq)).2)
      have hdl : ((st s 0).drop (k + 1)).length ≤ s.size := by rw [List.length_drop]; omega
      have i1 : ¬ (s.size : Int) < (p : Int) + (wd s p : Int) := by omega
      have i2 : ¬ ((p : Int) + (wd s p : Int)) < (p : Int) := by omega
      have i3 : ((p : Int) + (wd s p : Int)).toNat = p + wd s p := by omega
      have i4 : IntKind.i64.wrap ((p : Int) + (wd s p : Int)) = (p : Int) + (wd s p : Int) := IntWalk.i64_in _ (by omega)
      have i5 : ((k + 1 : Nat) : Int) - 1 = (k : Int) := by omega
      have i6 : (k : Int) < ((st s 0).length : Int) := by omega
      have i7 : k < (st s 0).length := by omega
      have i8 : IntKind.i64.wrap ((k : Int) - 1) = (k : Int) - 1 := IntWalk.i64_in _ (by omega)
      clear hget hown
      go_wp2
      refine wp_region_still_tail 19 (by kernel_rfl) (by kernel_rfl) ?_
      simp only [List.take_succ_cons, List.take_zero, List.drop_succ_cons, List.drop_zero]
      repeat still_step
      try refine wpStill_nil ?_
      change wpList _ _ _ _ _ wr.drew
      clear i1 i2 i3 i4 i5 i6 e0 e1 e2 e3
      at_builtin
      refine Lib.wpList_append_own_string _ rfl _ _ 57 9 rfl w1.heap.size 5 i0 Try.underlying57 Try.underlying9 hi hz0 hz1 hz2 _ _ _ rfl (ownsRow_drewN hbs 1) (s.extract p (p + wd s p)) rfl (by rw [ByteArray.size_extract]; unfold maxLen; omega) (by rw [ByteArray.size_extract]; omega) hbl.size ?_
      intro v' w4 hown4 hg4 _
      have hbl1 : Below w1.heap.size w1 w4 := (below_drewN hbl 1).grown hg4 hbl.size (fun j hj => (hbs.lt _ hj).1)
      rw [strCells_bytes, bl_extract, ← byteCells_app, show (s.extract p (p + wd s p)).size = (bl s p).length from by rw [bl_len s p hps, ByteArray.size_extract]; omega, ← List.length_append, ← backL_cons, ← hdrop] at hown4
      go_wp2
      go_roundw
      case rel => exact ⟨k, rfl, by omega, hown4, hbl1⟩
      case measure => simp [intOf]

end Go.Proofs.Yteoehhkdmmcglaa
