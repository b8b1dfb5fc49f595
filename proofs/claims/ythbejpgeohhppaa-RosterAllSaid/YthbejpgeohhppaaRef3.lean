/- Walks: package earshotref3: Row, Make, With, Put, Has. -/
import Derived.Test.YthbejpgeohhppaaEach
import Derived.Test.YthbejpgeohhppaaMid
namespace Go.Proofs.Ythbejpgeohhppaa
set_option linter.unusedVariables false
set_option linter.unusedSimpArgs false
open Go.RowKit

/-- A row of bools. -/
def rowC (f : Nat → Bool) : Array Value := (Array.range 100).map fun i => .bool (f i)
theorem rowC_size (f : Nat → Bool) : (rowC f).size = 100 := by simp [rowC]
theorem rowC_get (f : Nat → Bool) (i : Nat) (h : i < 100) : (rowC f)[i]? = some (.bool (f i)) := by simp [rowC, Array.getElem?_map, Array.getElem?_range, h]
theorem rowC_set (f : Nat → Bool) (k : Nat) (b : Bool) : (rowC f).setIfInBounds k (.bool b) = rowC (fun i => if i = k then b else f i) := by
  apply Array.ext_getElem?
  intro j
  rw [Array.getElem?_setIfInBounds]
  by_cases hj : j < 100
  · rw [rowC_get _ _ hj, rowC_get _ _ hj, rowC_size]
    by_cases h : k = j
    · subst h; simp [hj]
    · rw [if_neg h, if_neg (fun e => h e.symm)]
  · rw [Array.getElem?_eq_none (xs := rowC f) (by rw [rowC_size]; omega), Array.getElem?_eq_none (xs := rowC _) (by rw [rowC_size]; omega), rowC_size]
    by_cases h : k = j
    · rw [if_pos h, if_neg (by omega)]
    · rw [if_neg h]
theorem rowC_congr {f g : Nat → Bool} (h : ∀ i, i < 100 → f i = g i) : rowC f = rowC g := by
  apply Array.ext_getElem?
  intro j
  by_cases hj : j < 100
  · rw [rowC_get _ _ hj, rowC_get _ _ hj, h j hj]
  · rw [Array.getElem?_eq_none (by rw [rowC_size]; omega), Array.getElem?_eq_none (by rw [rowC_size]; omega)]
theorem rowC_one (f : Nat → Bool) : (rowC f).all (·.oneCell') = true := by
  rw [Array.all_eq_true]
  intro i hi
  simp [rowC]
  rfl

theorem zero_row (w : World) : (zeroValue 90).run Try.prog w = .ok (.agg (rowC fun _ => false)) w := by kernel_rfl
theorem row_info : (Try.prog.info? 90).map (·.size) = some 100 := by kernel_rfl
theorem b3 (w : World) (a b c : Obj) : (((w.alloc a).alloc b).alloc c).heap[w.heap.size + 1]? = some b := blk_old (b1 w a b) _

set_option maxRecDepth 100000 in
set_option maxHeartbeats 1000000 in
theorem row_any (x : Nat) (w : World) :
    Calls Try.prog 47 #[setV x] w fun e w' => e = .returned (.agg (rowC x.testBit)) ∧ Below w.heap.size w w' := by
  unfold setV
  have hz := zero_row
  go_enter Try.func47, Try.ntmps47
  go_wp2_with fail
  clear hz
  go_loopw [4] (fun i wr => ∃ k : Nat, i = .int .i64 k ∧ k ≤ 100 ∧ wr.heap[w.heap.size]? = some (.cells (setC x) 47 (0, 0)) ∧ wr.heap[w.heap.size + 1]? = some (.cells (rowC fun _ => false) 90 (0, 0)) ∧
      wr.heap[w.heap.size + 1 + 1]? = some (.cells (rowC fun i => decide (i < k) && x.testBit i) 90 (0, 0)) ∧ Below w.heap.size w wr) (fun i _ => 100 - (intOf i).toNat)
  case atStart =>
    refine ⟨0, rfl, by omega, blk_old (blk_old (blk_new w _) _) _, b3 w _ _ _, ?_, (((Below.refl _ w).alloc (Nat.le_refl _) _).alloc (by simp) _).alloc (by simp; omega) _⟩
    have := b2 w (.cells (setC x) 47) (.cells (rowC fun _ => false) 90) (.cells (rowC fun _ => false) 90)
    simpa using this
  case round =>
    obtain ⟨k, rfl, hk, h0, h1, h2, hb⟩ := hrel
    by_cases hlt : k < 100
    · have c0 : wr.cell? ⟨w.heap.size, k / 32, none⟩ = some (.int .u32 (sw x (k / 32) : Nat)) := (blk_cell h0 (k / 32)).trans (setC_get x _ (by omega))
      have c2 : wr.cell? ⟨w.heap.size + 1 + 1, k, none⟩ = some (.bool false) := (blk_cell h2 k).trans ((rowC_get _ k hlt).trans (by simp))
      have f2 := blk_free h2 k
      have i1 : (k : Int) < 100 := by omega
      have hw := sw_lt x (k / 32)
      have h3 := blk_store h2 k (.bool (x.testBit k))
      rw [rowC_set] at h3
      have h3 : (wr.setCell ⟨w.heap.size + 1 + 1, k, none⟩ (.bool (x.testBit k))).heap[w.heap.size + 1 + 1]? = some (.cells (rowC fun i => decide (i < k + 1) && x.testBit i) 90 (0, 0)) := by
        rw [h3, rowC_congr]
        intro i _
        by_cases hi : i = k
        · subst hi; simp
        · have : (i < k + 1) = (i < k) := by rw [eq_iff_iff]; omega
          simp [hi, this]
      have hwd := has_word x k
      rw [Int.toNat_natCast] at hwd
      have H3 := Lib.hid h3
      clear h3
      go_wp2
      exact ⟨⟨k + 1, by go_num, by omega, blk_set h0 _ _ (by simp; omega), blk_set h1 _ _ (by simp), H3.out, hb.setCell (by simp; omega) _⟩, by simp [intOf]; omega⟩
    · obtain rfl : k = 100 := by omega
      rw [rowC_congr (g := x.testBit) (fun i hi => by simp [hi])] at h2
      go_wp2_with (first
        | (refine wpList_load_row rfl _ _ rfl (w.heap.size + 1 + 1) rfl _ (rowC x.testBit) _ _ h2 Try.underlying90 rfl (row_info.trans (by rw [rowC_size])) ?_)
        | (refine wpList_store_mid rfl _ _ _ rfl (w.heap.size + 1) 0 (rowC x.testBit) rfl rfl (there_blk h1 0 _ (by rw [rowC_size, rowC_size]; omega)) (row_info.trans (by rw [rowC_size])) (rowC_one _) ?_))
      have h3 := setCells_whole h1 (rowC x.testBit) (by rw [rowC_size, rowC_size])
      exact bodyPost_ret (v := .agg (rowC x.testBit)) (results_cell_row rfl _ _ (w.heap.size + 1) _ _ _ _ rfl h3 Try.underlying90 rfl (row_info.trans (by rw [rowC_size]))) rfl ⟨rfl, setCells_below _ _ _ hb (by omega)⟩

/-- The set of a row. -/
def mkN (f : Nat → Bool) : Nat → Nat
  | 0 => 0
  | k + 1 => if f k then mkN f k ||| 2 ^ k else mkN f k
theorem mkN_bit (f : Nat → Bool) (i : Nat) : ∀ k, (mkN f k).testBit i = (decide (i < k) && f i)
  | 0 => by simp [mkN]
  | k + 1 => by
    unfold mkN
    have ih := mkN_bit f i k
    by_cases hf : f k = true
    · rw [if_pos hf, Nat.testBit_or, ih, Nat.testBit_two_pow]
      by_cases hi : k = i
      · subst hi; simp [hf]
      · have : (i < k + 1) = (i < k) := by rw [eq_iff_iff]; omega
        simp [hi, this]
    · rw [if_neg hf, ih]
      by_cases hi : i = k
      · subst hi; simp [hf]
      · have : (i < k + 1) = (i < k) := by rw [eq_iff_iff]; omega
        simp [this]
def with1 (x i : Nat) : Nat → Bool := fun j => if j = i then true else x.testBit j
theorem with1_set (x i : Nat) : (rowC x.testBit).setIfInBounds i (.bool true) = rowC (with1 x i) := rowC_set _ _ _
theorem mkN_with (x i : Nat) (hi : i < 100) : mkN (with1 x i) 100 = x % 2 ^ 100 ||| 2 ^ i := by
  unfold with1
  apply Nat.eq_of_testBit_eq
  intro k
  rw [mkN_bit, Nat.testBit_or, Nat.testBit_mod_two_pow, Nat.testBit_two_pow]
  by_cases hk : k = i
  · subst hk; simp [hi]
  · have : ¬ i = k := fun e => hk e.symm
    simp [hk, this]
theorem mkN_mod (x : Nat) : mkN x.testBit 100 = x % 2 ^ 100 := by
  apply Nat.eq_of_testBit_eq
  intro i
  rw [mkN_bit, Nat.testBit_mod_two_pow]

set_option maxRecDepth 100000 in
set_option maxHeartbeats 1000000 in
theorem make_any (f : Nat → Bool) (w : World) :
    Calls Try.prog 56 #[.agg (rowC f)] w fun e w' => e = .returned (setV (mkN f 100)) ∧ Below w.heap.size w w' := by
  unfold setV
  go_enter Try.func56, Try.ntmps56
  go_wp2_with fail
  rw [setC_zero]
  go_loopw [4] (fun i wr => ∃ k : Nat, i = .int .i64 k ∧ k ≤ 100 ∧ wr.heap[w.heap.size]? = some (.cells (rowC f) 90 (0, 0)) ∧ wr.heap[w.heap.size + 1]? = some (.cells (setC 0) 47 (0, 0)) ∧
      wr.heap[w.heap.size + 1 + 1]? = some (.cells (setC (mkN f k)) 47 (0, 0)) ∧ Below w.heap.size w wr) (fun i _ => 100 - (intOf i).toNat)
  case atStart =>
    exact ⟨0, rfl, by omega, blk_old (blk_old (blk_new w _) _) _, b3 w _ _ _, b2 w _ _ _, (((Below.refl _ w).alloc (Nat.le_refl _) _).alloc (by simp) _).alloc (by simp; omega) _⟩
  case round =>
    obtain ⟨k, rfl, hk, h0, h1, h2, hb⟩ := hrel
    by_cases hlt : k < 100
    · have c0 : wr.cell? ⟨w.heap.size, k, none⟩ = some (.bool (f k)) := (blk_cell h0 k).trans (rowC_get f k hlt)
      have i1 : (k : Int) < 100 := by omega
      cases hf : f k with
      | false =>
        rw [hf] at c0
        have HF := Lib.hid hf
        clear hf
        go_wp2
        go_roundw
        case rel => exact ⟨k + 1, by go_num, by omega, h0, h1, by unfold mkN; rw [HF.out]; exact h2, hb⟩
        case measure => simp [intOf]; omega
      | true =>
        rw [hf] at c0
        have hm : mkN f (k + 1) = mkN f k ||| 2 ^ k := by show (if f k then _ else _) = _; rw [hf]; rfl
        have HM := Lib.hid hm
        clear hf hm
        generalize mkN f k = y at *
        have i2 : IntKind.i64.wrap ((k : Int) / 32) = (k : Int) / 32 := IntWalk.i64_in _ (by omega)
        have i3 : (k : Int) / 32 < 4 := by omega
        have i4 : (0 : Int) ≤ (k : Int) / 32 := by omega
        have i8 : ((k : Int) / 32).toNat = k / 32 := by omega
        have i5 : (k : Int).tmod 32 = (k : Int) % 32 := Int.tmod_eq_emod_of_nonneg (by omega)
        have i6 : IntKind.i64.wrap ((k : Int) % 32) = (k : Int) % 32 := IntWalk.i64_in _ (by omega)
        have i7 : (0 : Int) ≤ (k : Int) % 32 := by omega
        have i9 : ((k : Int) % 32).toNat = k % 32 := by omega
        have c2 : wr.cell? ⟨w.heap.size + 1 + 1, k / 32, none⟩ = some (.int .u32 (sw y (k / 32) : Nat)) := (blk_cell h2 (k / 32)).trans (setC_get y _ (by omega))
        have f2 := blk_free h2 (k / 32)
        go_wp2_with fail
        refine wp_region_still_tail 11 (by kernel_rfl) (by kernel_rfl) ?_
        simp only [List.take_succ_cons, List.take_zero, List.drop_succ_cons, List.drop_zero]
        repeat still_step
        try refine wpStill_nil ?_
        change wpList _ _ _ _ _ wr.drew
        rw [or_word]
        clear i2 i3 i4 i5 i6 i7 i8 i9
        go_wp2
        go_roundw
        case rel =>
          refine ⟨k + 1, by go_num, by omega, blk_set (blk_drewN h0 1) _ _ (by simp; omega), blk_set (blk_drewN h1 1) _ _ (by simp), ?_, (below_drewN hb 1).setCell (by simp; omega) _⟩
          have := blk_store (blk_drewN h2 1) (k / 32) (.int .u32 (sw y (k / 32) ||| 2 ^ (k % 32) : Nat))
          rw [withC_set y k (by omega)] at this
          rw [HM.out]
          exact this
        case measure => simp [intOf]; omega
    · obtain rfl : k = 100 := by omega
      obtain ⟨q0, q1, q2, q3, _⟩ := set_cells h2
      obtain ⟨s0, s1, s2, s3, g0, g1, g2, g3⟩ := set_cells h1
      go_wp2
      refine bodyPost_ret (v := .agg (setC (mkN f 100))) ?_ rfl ⟨rfl, (((hb.setCell (by simp) _).setCell (by simp) _).setCell (by simp) _).setCell (by simp) _⟩
      unfold setC
      simp [results, Try.results56, go_sem, s0, s1, s2, s3]

theorem row_index (g : Nat → Bool) (i : Nat) (hi : i < 100) (w : World) : (Instr.index 90 (.agg (rowC g)) (.int .i64 i)).run Try.prog w = .ok (.bool (g i)) w := by
  have h0 : (0 : Int) ≤ (i : Int) := by omega
  have h1 : (i : Int) < 100 := by omega
  have h := rowC_get g i hi
  simp [Instr.index, run_underlying Try.underlying90, go_sem, h]
  intro hh; omega
set_option maxRecDepth 100000 in
set_option maxHeartbeats 1000000 in
theorem refHas_any (x : Nat) (i : Nat) (hi : i < 100) (w : World) :
    Calls Try.prog 33 #[setV x, .int .i64 i] w fun e w' => e = .returned (.bool (x.testBit i)) ∧ Below w.heap.size w w' := by
  have HR := Lib.hid (fun w => row_any x w)
  unfold setV
  unfold setV at HR
  have b0 := blk_new w (.cells (setC x) 47)
  obtain ⟨q0, q1, q2, q3, _⟩ := set_cells b0
  have i0 : (0 : Int) ≤ (i : Int) := by omega
  have i1 : (i : Int) < 100 := by omega
  have hx := row_index x.testBit i hi
  go_enter Try.func33, Try.ntmps33
  go_wp2_with (go_at_call 47; refine (HR.out _).mono ?_; rintro e w1 ⟨rfl, hB⟩)
  go_ret
  exact ⟨rfl, below_alloc_then (Below.refl _ w) hB⟩
set_option maxRecDepth 100000 in
set_option maxHeartbeats 1000000 in
theorem refWith_any (x : Nat) (i : Nat) (hi : i < 100) (w : World) :
    Calls Try.prog 48 #[setV x, .int .i64 i] w fun e w' => e = .returned (.tuple #[setV (x % 2 ^ 100 ||| 2 ^ i), .int .i64 0]) ∧ Below w.heap.size w w' := by
  have HR := Lib.hid (fun w => row_any x w)
  have HM := Lib.hid (fun w => make_any (with1 x i) w)
  rw [mkN_with x i hi] at HM
  generalize x % 2 ^ 100 ||| 2 ^ i = y at *
  unfold setV
  unfold setV at HR HM
  have i0 : ¬ (i : Int) < 0 := by omega
  have i1 : ¬ (100 : Int) ≤ (i : Int) := by omega
  have hz := zero_row
  obtain ⟨q0, q1, q2, q3, _⟩ := set_cells (blk_old (blk_new w (.cells (setC x) 47)) (.cells #[.int .u32 0, .int .u32 0, .int .u32 0, .int .u32 0] 47))
  go_enter Try.func48, Try.ntmps48
  have B0 : Below w.heap.size w ((w.alloc (.cells (setC x) 47)).alloc (.cells #[.int .u32 0, .int .u32 0, .int .u32 0, .int .u32 0] 47)) := ((Below.refl _ w).alloc (Nat.le_refl _) _).alloc (by simp) _
  have Z0 : _ = some (Obj.cells (setC 0) 47 (0, 0)) := b1 w (.cells (setC x) 47) (.cells #[.int .u32 0, .int .u32 0, .int .u32 0, .int .u32 0] 47)
  go_wp2_with (first
    | (go_at_call 47; refine (HR.out _).mono ?_; rintro e w1 ⟨rfl, hB⟩)
    | (refine wpList_store_mid rfl _ _ _ rfl w1.heap.size 0 (rowC x.testBit) rfl rfl (there_blk (blk_new w1 (.cells (rowC fun _ => false) 90)) 0 _ (by rw [rowC_size, rowC_size]; omega)) (row_info.trans (by rw [rowC_size])) (rowC_one _) ?_; have hz3 : w.heap.size + 2 ≤ w1.heap.size := (by have := hB.size; simpa using this); have h3 := setCells_whole (blk_new w1 (.cells (rowC fun _ => false) 90)) (rowC x.testBit) (by rw [rowC_size, rowC_size]); have z3 := setCells_other (b := w1.heap.size) (rowC x.testBit).toList 0 _ (blk_old (blk_below' hB Z0) (.cells (rowC fun _ => false) 90)) (by omega); have hb3 := setCells_below (b := w1.heap.size) (rowC x.testBit).toList 0 _ ((below_then B0 hB).alloc (by omega) (.cells (rowC fun _ => false) 90)) (by omega); generalize (w1.alloc (.cells (rowC fun _ => false) 90)).setCells w1.heap.size 0 (rowC x.testBit).toList = W3 at h3 z3 hb3 ⊢; have c3 := (blk_cell h3 i).trans (rowC_get _ i hi); have f3 := blk_free h3 i; have i2 : (i : Int) < 100 := (by omega); have h4 := blk_store h3 i (.bool true); rw [with1_set] at h4; have z4 := blk_set z3 ⟨w1.heap.size, i, none⟩ (.bool true) (by simp; omega); have hb4 := hb3.setCell (p := ⟨w1.heap.size, i, none⟩) (by simp; omega) (.bool true); obtain ⟨p0, p1, p2, p3, g0, g1, g2, g3⟩ := set_cells z4)
    | (refine wpList_load_row rfl _ _ rfl w1.heap.size rfl _ (rowC (with1 x i)) _ _ h4 Try.underlying90 rfl (row_info.trans (by rw [rowC_size])) ?_)
    | (go_at_call 56; refine (HM.out _).mono ?_; rintro e w5 ⟨rfl, hB5⟩; have z5 := blk_below' hB5 z4; have hb5 := below_then hb4 hB5; obtain ⟨s0, s1, s2, s3, t0, t1, t2, t3⟩ := set_cells z5; unfold setC))
  refine bodyPost_ret (v := .tuple #[.agg (setC y), .int .i64 0]) ?_ rfl ⟨rfl, (((hb5.setCell (by simp) _).setCell (by simp) _).setCell (by simp) _).setCell (by simp) _⟩
  unfold setC
  simp [results, Try.results48, go_sem, s0, s1, s2, s3]

set_option maxRecDepth 100000 in
set_option maxHeartbeats 1000000 in
theorem refPut_any (x : Nat) (i : Nat) (hi : i < 100) (w : World) :
    Calls Try.prog 34 #[setV x, .int .i64 i] w fun e w' => e = .returned (setV (x % 2 ^ 100 ||| 2 ^ i)) ∧ Below w.heap.size w w' := by
  have HW := Lib.hid (fun w => refWith_any x i hi w)
  generalize x % 2 ^ 100 ||| 2 ^ i = y at *
  unfold setV
  unfold setV at HW
  obtain ⟨q0, q1, q2, q3, _⟩ := set_cells (blk_old (blk_new w (.cells (setC x) 47)) (.cells #[.int .u32 0, .int .u32 0, .int .u32 0, .int .u32 0] 47))
  have B0 : Below w.heap.size w ((w.alloc (.cells (setC x) 47)).alloc (.cells #[.int .u32 0, .int .u32 0, .int .u32 0, .int .u32 0] 47)) := ((Below.refl _ w).alloc (Nat.le_refl _) _).alloc (by simp) _
  have Z0 : _ = some (Obj.cells (setC 0) 47 (0, 0)) := b1 w (.cells (setC x) 47) (.cells #[.int .u32 0, .int .u32 0, .int .u32 0, .int .u32 0] 47)
  go_enter Try.func34, Try.ntmps34
  go_wp2_with (first
    | (go_at_call 48; refine (HW.out _).mono ?_; rintro e w5 ⟨rfl, hB5⟩; have hz := hB5.size; have z5 := blk_old (blk_below' hB5 Z0) (.cells (setC y) 47); have hb5 := (below_then B0 hB5).alloc (by simp at hz; omega) (.cells (setC y) 47); obtain ⟨s0, s1, s2, s3, t0, t1, t2, t3⟩ := set_cells z5; obtain ⟨p0, p1, p2, p3, _⟩ := set_cells (blk_new w5 (.cells (setC y) 47)); unfold setC; unfold setC at p0 p1 p2 p3 s0 s1 s2 s3 t0 t1 t2 t3 hb5))
  refine bodyPost_ret (v := .agg (setC y)) ?_ rfl ⟨rfl, (((hb5.setCell (by simp) _).setCell (by simp) _).setCell (by simp) _).setCell (by simp) _⟩
  unfold setC
  simp [results, Try.results34, go_sem, s0, s1, s2, s3]
end Go.Proofs.Ythbejpgeohhppaa
