/- Walks: earshotref3.Within, Ids. -/
import Derived.Test.YthbejpgeohhppaaRef3
namespace Go.Proofs.Ythbejpgeohhppaa
set_option linter.unusedVariables false
set_option linter.unusedSimpArgs false
open Go.RowKit

theorem lt_of_bits {x n : Nat} (hx : x < 2 ^ 128) (h : ∀ j, j < 128 → x.testBit j = true → j < n) : x < 2 ^ n := by
  apply Nat.lt_pow_two_of_testBit
  intro i hi
  by_cases h1 : i < 128
  · cases ht : x.testBit i with
    | false => rfl
    | true => have := h i h1 ht; omega
  · exact Nat.testBit_lt_two_pow (Nat.lt_of_lt_of_le hx (Nat.pow_le_pow_right (by decide) (by omega)))
theorem not_lt_of_bit {x n j : Nat} (h : x.testBit j = true) (hj : n ≤ j) : ¬ x < 2 ^ n := by
  intro hx
  have := Nat.testBit_lt_two_pow (Nat.lt_of_lt_of_le hx (Nat.pow_le_pow_right (by decide) hj))
  rw [this] at h; cases h

set_option maxRecDepth 100000 in
set_option maxHeartbeats 1000000 in
theorem refWithin_any (x n : Nat) (hx : x < 2 ^ 128) (hn : n ≤ 100) (w : World) :
    Calls Try.prog 40 #[setV x, .int .i64 n] w fun e w' => e = .returned (.bool (decide (x < 2 ^ n))) ∧ Below w.heap.size w w' := by
  have HX := Lib.hid hx
  clear hx
  unfold setV
  go_enter Try.func40, Try.ntmps40
  go_wp2_with fail
  go_loopw [5] (fun i wr => ∃ k : Nat, i = .int .i64 k ∧ k ≤ 128 ∧ wr.heap[w.heap.size]? = some (.cells (setC x) 47 (0, 0)) ∧ Hid (∀ j, j < k → x.testBit j = true → j < n) ∧ Below w.heap.size w wr) (fun i _ => 128 - (intOf i).toNat)
  case atStart => exact ⟨0, rfl, by omega, blk_new w _, (by intro j hj; omega), (Below.refl _ w).alloc (Nat.le_refl _) _⟩
  case round =>
    obtain ⟨k, rfl, hk, h0, hb, hbl⟩ := hrel
    by_cases hlt : k < 128
    · have c0 : wr.cell? ⟨w.heap.size, k / 32, none⟩ = some (.int .u32 (sw x (k / 32) : Nat)) := (blk_cell h0 (k / 32)).trans (setC_get x _ (by omega))
      have i1 : (k : Int) < 128 := by omega
      have hw := sw_lt x (k / 32)
      have hwd := has_word x k
      rw [Int.toNat_natCast] at hwd
      cases ht : x.testBit k with
      | false =>
        rw [ht] at hwd
        have HT := Lib.hid ht
        clear ht
        go_wp2
        go_roundw
        case rel =>
          refine ⟨k + 1, by go_num, by omega, h0, ?_, hbl⟩
          intro j hj hjt
          by_cases e : j = k
          · subst e; rw [HT.out] at hjt; cases hjt
          · exact hb.out j (by omega) hjt
        case measure => simp [intOf]; omega
      | true =>
        rw [ht] at hwd
        have HT := Lib.hid ht
        clear ht
        by_cases hkn : k < n
        · have i2 : ¬ (n : Int) ≤ (k : Int) := by omega
          have i3 : ¬ (100 : Int) ≤ (k : Int) := by omega
          go_wp2
          go_roundw
          case rel =>
            refine ⟨k + 1, by go_num, by omega, h0, ?_, hbl⟩
            intro j hj hjt
            by_cases e : j = k
            · omega
            · exact hb.out j (by omega) hjt
          case measure => simp [intOf]; omega
        · have i2 : (n : Int) ≤ (k : Int) := by omega
          go_wp2
          go_ret
          exact ⟨ret_b (by have := not_lt_of_bit HT.out (show n ≤ k by omega); simp only [this, decide_false]), hbl⟩
    · obtain rfl : k = 128 := by omega
      go_wp2
      go_ret
      exact ⟨ret_b (by have := lt_of_bits HX.out hb.out; simp only [this, decide_true]), hbl⟩

/-- The ids of a set, below some. -/
def idsL (x k : Nat) : List Nat := (List.range k).filter x.testBit
theorem idsL_succ (x k : Nat) : idsL x (k + 1) = if x.testBit k then idsL x k ++ [k] else idsL x k := by
  unfold idsL
  rw [List.range_succ, List.filter_append]
  cases h : x.testBit k <;> simp [h]
theorem idsL_len (x k : Nat) : (idsL x k).length ≤ k := by
  have := List.length_filter_le x.testBit (List.range k)
  rw [List.length_range] at this
  exact this
theorem idsL_mem {x k i : Nat} (h : i ∈ idsL x k) : i < k ∧ x.testBit i = true := by
  unfold idsL at h
  rw [List.mem_filter, List.mem_range] at h
  exact h
def natC (l : List Nat) : List Value := l.map fun r : Nat => .int .i64 (r : Int)
theorem Try.infoInt3 : (Try.prog.info? 3).map (fun i => (i.zero, i.size, i.bytes)) = some (some (.int .i64 0), 1, 8) := by kernel_rfl

set_option maxRecDepth 100000 in
set_option maxHeartbeats 1000000 in
theorem refIds_any (x : Nat) (w : World) :
    Calls Try.prog 41 #[setV x] w fun e w' => ∃ v, e = .returned v ∧ w'.ownsRow w.heap.size 3 1 v (idsL x 100).length (natC (idsL x 100)) ∧ Below w.heap.size w w' := by
  obtain ⟨i0, hi, hz0, hz1, hz2⟩ := info_parts Try.infoInt3
  have HR := Lib.hid (fun w => row_any x w)
  have hz := zero_row
  unfold setV
  unfold setV at HR
  obtain ⟨q0, q1, q2, q3, _⟩ := set_cells (blk_new w (.cells (setC x) 47))
  go_enter Try.func41, Try.ntmps41
  go_wp2_with (first
    | (go_at_call 47; refine (HR.out _).mono ?_; rintro e w1 ⟨rfl, hB⟩; have hz3 : w.heap.size + 1 ≤ w1.heap.size := (by have := hB.size; simpa using this))
    | (refine wpList_store_mid rfl _ _ _ rfl w1.heap.size 0 (rowC x.testBit) rfl rfl (there_blk (blk_new w1 (.cells (rowC fun _ => false) 90)) 0 _ (by rw [rowC_size, rowC_size]; omega)) (row_info.trans (by rw [rowC_size])) (rowC_one _) ?_; have h3 := setCells_whole (blk_new w1 (.cells (rowC fun _ => false) 90)) (rowC x.testBit) (by rw [rowC_size, rowC_size]); have hs3 := setCells_size (b := w1.heap.size) (rowC x.testBit).toList 0 (w1.alloc (.cells (rowC fun _ => false) 90)); have hb3 := setCells_below (b := w1.heap.size) (rowC x.testBit).toList 0 _ ((below_alloc_then (Below.refl _ w) hB).alloc (by omega) (.cells (rowC fun _ => false) 90)) (by omega); generalize (w1.alloc (.cells (rowC fun _ => false) 90)).setCells w1.heap.size 0 (rowC x.testBit).toList = W3 at h3 hs3 hb3 ⊢))
  rw [World.size_alloc] at hs3
  clear hz HR q0 q1 q2 q3 hB
  have HS3 := Lib.hid hs3
  clear hs3
  go_loopw [4, 5] (fun v i wr => ∃ k : Nat, i = .int .i64 k ∧ k ≤ 100 ∧ wr.heap[w1.heap.size]? = some (.cells (rowC x.testBit) 90 (0, 0)) ∧ wr.ownsRow (w1.heap.size + 1) 3 1 v (idsL x k).length (natC (idsL x k)) ∧ w1.heap.size + 1 ≤ wr.heap.size ∧ Below w.heap.size w wr) (fun _ i _ => 100 - (intOf i).toNat)
  case atStart => exact ⟨0, rfl, by omega, h3, World.ownsRow_nil _ _ _ _, by rw [HS3.out]; omega, hb3⟩
  case round =>
    obtain ⟨k, rfl, hk, h0, hown, hsz, hbl⟩ := hrel
    clear h3 hb3
    by_cases hlt : k < 100
    · have c0 : wr.cell? ⟨w1.heap.size, k, none⟩ = some (.bool (x.testBit k)) := (blk_cell h0 k).trans (rowC_get _ k hlt)
      have i1 : (k : Int) < 100 := by omega
      have hid := idsL_succ x k
      have hln := idsL_len x k
      cases ht : x.testBit k with
      | false =>
        rw [ht] at c0 hid
        have HID := Lib.hid hid
        clear hid ht
        go_wp2
        go_roundw
        case rel => exact ⟨k + 1, by go_num, by omega, h0, by rw [HID.out]; exact hown, hsz, hbl⟩
        case measure => simp [intOf]; omega
      | true =>
        rw [ht] at c0 hid
        have HID := Lib.hid hid
        clear hid ht
        generalize idsL x k = l at *
        go_wp2_with (first
          | (at_builtin; refine wpList_append_own _ rfl _ _ 29 rfl (w1.heap.size + 1) 3 i0 (.int .i64 0) 1 8 Try.underlying29 hi hz0 hz1 hz2 rfl (by decide) _ _ _ rfl (hown.alloc _) ⟨wr.heap.size, 0, none⟩ 1 1 [.int .i64 k] rfl rfl ?c1 ?c2 ?c3 ?c4 ?c5 ?_))
        case c2 => first | rfl | (intro u hu; simp at hu; subst hu; rfl)
        case c3 => unfold maxLen; omega
        case c4 => omega
        case c5 => first | omega | (simp; omega)
        intro v' w4 hown4 hg4 hv4
        have h4 := blk_grown hg4 (blk_old h0 _) (row_blk hown (by omega))
        have hb4 := below_append hbl hbl.size (ownsRow_base hown (by omega)) hg4
        have hz4 := hg4.size
        rw [World.size_alloc] at hz4
        clear hown h0 hg4 hbl
        go_wp2
        go_roundw
        case rel =>
          refine ⟨k + 1, by go_num, by omega, h4, ?_, by omega, hb4⟩
          rw [HID.out]
          simp only [if_true, List.length_append, List.length_singleton, natC, List.map_append, List.map_cons, List.map_nil]
          exact hown4
        case measure => simp [intOf]; omega
    · obtain rfl : k = 100 := by omega
      go_wp2
      go_ret
      exact ⟨_, rfl, ownsRow_base hown (by omega), hbl⟩
end Go.Proofs.Ythbejpgeohhppaa
