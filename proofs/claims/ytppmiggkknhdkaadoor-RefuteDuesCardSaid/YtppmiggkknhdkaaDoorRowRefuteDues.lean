/-
  RefuteDues: for every input the law answers true, and each argument reads afterwards as before. Conditions: none of ours; the form's own reach (each text takes at most 2^47 - 4096 bytes) is used where a text comes in.
-/
import Derived.Test.YtppmiggkknhdkaaDoorBaseD
import Derived.Deep.RegionHeld3
import Derived.RangeFuncNested
import Derived.RangeFuncBound
import Derived.RangeFuncBox
import Derived.RangeFuncCalls
import Derived.RangeFuncLeaves
import Derived.Shelf.Abstract
import Derived.Shelf.RegionOpen
import Derived.OwnWalkIn
import Derived.TacticsInMore
import Derived.LoopNIn
import Derived.LoopIn
import Derived.Test.YtppmiggkknhdkaaDoorRows
import Derived.RangeFuncFrom
import Derived.Deep.DeepCutAuto
import Derived.Test.YtppmiggkknhdkaaDoorTie
import Derived.Test.YtppmiggkknhdkaaDoorCards
import Derived.LaidMore
import Derived.LaidHandle
import Derived.Lay
import Derived.SevenTiedAt
namespace Go.Proofs.YtppmiggkknhdkaaDoor
set_option linter.unusedVariables false
set_option linter.unusedSimpArgs false
open Go.RowKit

set_option maxRecDepth 100000 in
set_option maxHeartbeats 1000000 in
theorem refuteKept_w (w : World) (n sf : Int) (v : Value) (k : Int) (hn : (Lit.int .i64 n).wf = true) (hsf : (Lit.int .i64 sf).wf = true) (xs : List (List Value)) (hrow : RowsS w [.rows 3] v xs) (hk : (Lit.int .i64 k).wf = true) {a : Addr} (hg : Gl a w) :
    Calls Tryd.prog 4 #[.int .i64 n, .int .i64 sf, v, .int .i64 k] w fun e w' => e = .returned (.bool true) ∧ Below w.heap.size w w' := by
  have hkb : k ≤ 9223372036854775807 := by
    simp only [Lit.wf, Bool.and_eq_true, decide_eq_true_eq] at hk
    have h5 : IntKind.i64.max = 9223372036854775807 := by decide
    omega
  clear hn hsf hk
  by_cases hall : nwE n sf 0 = 0 ∧ xs.length ≤ 40 ∧ 0 ≤ k
  · obtain ⟨h1, h2, h3⟩ := hall
    have hb : (1 ≤ n ∧ n ≤ 100) ∧ 0 ≤ sf ∧ sf < n := by
      unfold nwE at h1
      split at h1
      · split at h1
        · omega
        · cases h1
      · cases h1
    obtain ⟨N, rfl⟩ : ∃ N : Nat, n = N := ⟨n.toNat, by omega⟩
    obtain ⟨S, rfl⟩ : ∃ S : Nat, sf = S := ⟨sf.toNat, by omega⟩
    exact refuteKept_in N S k ⟨by omega, by omega⟩ (by omega) ⟨h3, hkb⟩ v xs w hg hrow h2
  · have hlt0 : ∀ c ∈ Dk.new.bs, c < 256 := tnS_new.lt
    obtain ⟨s0, hsv⟩ := first_save15
    obtain ⟨D, hDe⟩ : ∃ D, saveW Dk.new ((1 : Nat) : Int) (capR 0 : Nat) (capT 0 : Nat) = D := ⟨_, rfl⟩
    rw [hDe] at s0
    have HDE := Lib.hid hDe
    obtain ⟨d1, er⟩ := D
    simp only at s0
    subst s0
    have HG := Lib.hid hg
    obtain ⟨p, cap, rfl, hm1, hm2, _⟩ := hrow
    clear hDe hsv hg hm1 hm2 hkb
    by_cases hE : nwE n sf 0 = 0
    · have hb : (1 ≤ n ∧ n ≤ 100) ∧ 0 ≤ sf ∧ sf < n := by
        unfold nwE at hE
        split at hE
        · split at hE
          · omega
          · cases hE
        · cases hE
      obtain ⟨N, rfl⟩ : ∃ N : Nat, n = N := ⟨n.toNat, by omega⟩
      obtain ⟨S, rfl⟩ : ∃ S : Nat, sf = S := ⟨sf.toNat, by omega⟩
      have HN := Lib.hid (show (1 ≤ N ∧ N ≤ 100) ∧ S < N by omega)
      by_cases hl : 40 < xs.length
      · have a1 : (40 : Int) < (xs.length : Int) := by omega
        clear hall hE hb hl
        go_enter Tryd.func4, Tryd.ntmps4
        go_wp2_with fail
        refine (new_any _).mono ?_
        rintro e w1 ⟨rfl, hD1, hB1⟩
        go_wp2_with fail
        refine (open_none w.heap.size Dk.new w1 hD1 hlt0 (by decide) (by decide) (loadA_none slSt_new rfl)).mono ?_
        rintro e w2 ⟨h0, _, hg2⟩
        rw [HDE.out] at h0
        obtain ⟨b, rfl, hb, hT2⟩ := h0 rfl
        have hb2 := hB1.grown hg2 hB1.size (fun j h => by cases h; exact Nat.le_refl _)
        have hbw : w.heap.size ≤ b := Nat.le_trans hB1.size hb
        clear h0 hg2 hD1 hlt0 hT2 hB1
        go_wp2_with fail
        refine (tnew_yes N S 0 HN.out.1 HN.out.2 (by decide) w2).mono ?_
        rintro e w3 ⟨B, g, rfl, hT3, hB3, hg3, hb3⟩
        have hb03 := below_then hb2 hb3
        clear hT3 hb3
        go_wp2_with (go_at_call 12; refine (alive15_any (HG.out.of hb03)).mono ?_; rintro e w9 ⟨rfl, hB9⟩)
        go_ret
        exact ⟨rfl, below_then hb03 hB9⟩
      · have a1 : ¬ (40 : Int) < (xs.length : Int) := by omega
        have a2 : k < 0 := by omega
        clear hall hE hb hl
        go_enter Tryd.func4, Tryd.ntmps4
        go_wp2_with fail
        refine (new_any _).mono ?_
        rintro e w1 ⟨rfl, hD1, hB1⟩
        go_wp2_with fail
        refine (open_none w.heap.size Dk.new w1 hD1 hlt0 (by decide) (by decide) (loadA_none slSt_new rfl)).mono ?_
        rintro e w2 ⟨h0, _, hg2⟩
        rw [HDE.out] at h0
        obtain ⟨b, rfl, hb, hT2⟩ := h0 rfl
        have hb2 := hB1.grown hg2 hB1.size (fun j h => by cases h; exact Nat.le_refl _)
        have hbw : w.heap.size ≤ b := Nat.le_trans hB1.size hb
        clear h0 hg2 hD1 hlt0 hT2 hB1
        go_wp2_with fail
        refine (tnew_yes N S 0 HN.out.1 HN.out.2 (by decide) w2).mono ?_
        rintro e w3 ⟨B, g, rfl, hT3, hB3, hg3, hb3⟩
        have hb03 := below_then hb2 hb3
        clear hT3 hb3
        go_wp2_with (go_at_call 12; refine (alive15_any (HG.out.of hb03)).mono ?_; rintro e w9 ⟨rfl, hB9⟩)
        go_ret
        exact ⟨rfl, below_then hb03 hB9⟩
    · have HE := Lib.hid (fun w => tnew_no n sf 0 hE w)
      have a1 : (nwE n sf 0 != 0) = true := by simpa using hE
      clear hall hE
      generalize nwE n sf 0 = E at *
      go_enter Tryd.func4, Tryd.ntmps4
      go_wp2_with fail
      refine (new_any _).mono ?_
      rintro e w1 ⟨rfl, hD1, hB1⟩
      go_wp2_with fail
      refine (open_none w.heap.size Dk.new w1 hD1 hlt0 (by decide) (by decide) (loadA_none slSt_new rfl)).mono ?_
      rintro e w2 ⟨h0, _, hg2⟩
      rw [HDE.out] at h0
      obtain ⟨b, rfl, hb, hT2⟩ := h0 rfl
      have hb2 := hB1.grown hg2 hB1.size (fun j h => by cases h; exact Nat.le_refl _)
      have hbw : w.heap.size ≤ b := Nat.le_trans hB1.size hb
      clear h0 hg2 hD1 hlt0 hT2 hB1
      go_wp2_with fail
      refine (HE.out w2).mono ?_
      rintro e w3 ⟨rfl, hb3⟩
      have hb03 := below_then hb2 hb3
      clear hb3
      go_wp2_with (go_at_call 12; refine (alive15_any (HG.out.of hb03)).mono ?_; rintro e w9 ⟨rfl, hB9⟩)
      go_ret
      exact ⟨rfl, below_then hb03 hB9⟩
end Go.Proofs.YtppmiggkknhdkaaDoor
namespace Go.Proofs.YtppmiggkknhdkaaDoor
set_option linter.unusedVariables false
set_option linter.unusedSimpArgs false
open Go.RowKit

theorem eq_words (a b c d a' b' c' d' : Int) (w : World) : (Op.equalIn 10000 59 (.agg #[.int .u32 a, .int .u32 b, .int .u32 c, .int .u32 d]) (.agg #[.int .u32 a', .int .u32 b', .int .u32 c', .int .u32 d'])).run Tryd.prog w = .ok (a == a' && b == b' && c == c' && d == d') w := by
  have u3 := Tryd.underlying57
  have a3 := Tryd.isAgg57
  have z3 := Tryd.sizeOf57
  rw [show (10000 : Nat) = 9999 + 1 from rfl, Op.equalIn]
  simp only [Sem.run_bind, run_underlying Tryd.underlying59, Result.andThen_ok]
  simp only [Std.Legacy.Range.forIn_eq_forIn_range', Std.Legacy.Range.size, Nat.sub_zero, Nat.add_sub_cancel, Nat.div_one, List.range'_succ, List.range'_zero, List.forIn_cons, List.forIn_nil]
  go_simp
  by_cases h1 : a = a' <;> by_cases h2 : b = b' <;> by_cases h3 : c = c' <;> by_cases h4 : d = d' <;> simp [h1, h2, h3, h4]

/-- Sets are alike just if the numbers are. -/
theorem eq_sets {x y : Nat} (hx : x < 2 ^ 128) (hy : y < 2 ^ 128) (w : World) : (Op.equalIn 10000 59 (.agg (setC x)) (.agg (setC y))).run Tryd.prog w = .ok (decide (x = y)) w := by
  unfold setC
  rw [eq_words]
  congr 1
  rw [Bool.eq_iff_iff, decide_eq_true_iff]
  simp only [Bool.and_eq_true, beq_iff_eq]
  constructor
  · rintro ⟨⟨⟨h0, h1⟩, h2⟩, h3⟩
    refine set_ext hx hy fun j hj => ?_
    match j, hj with
    | 0, _ => omega
    | 1, _ => omega
    | 2, _ => omega
    | 3, _ => omega
  · rintro rfl; exact ⟨⟨⟨rfl, rfl⟩, rfl⟩, rfl⟩
end Go.Proofs.YtppmiggkknhdkaaDoor
namespace Go.Proofs.YtppmiggkknhdkaaDoor
set_option linter.unusedVariables false
set_option linter.unusedSimpArgs false
open Go.RowKit

/-- A row of bools. -/
def rowC (f : Nat → Bool) : Array Value := (Array.range 100).map fun i => .bool (f i)
theorem rowC_size (f : Nat → Bool) : (rowC f).size = 100 := by simp [rowC]
theorem rowC_get (f : Nat → Bool) (i : Nat) (h : i < 100) : (rowC f)[i]? = some (.bool (f i)) := by simp [rowC, Array.getElem?_map, Array.getElem?_range, h]
theorem rowC_set (f : Nat → Bool) (k : Nat) (b : Bool) : (rowC f).setIfInBounds k (.bool b) = rowC (fun i => if i = k then b else f i) := by
  apply Array.ext_getElem?
  intro j
  rw [Array.getElem?_setIfInBounds]
  by_cases hj : j < 100
  · rw [rowC_get _ _ hj, rowC_get _ _ hj, rowC_size]
    by_cases h : k = j
    · subst h; simp [hj]
    · rw [if_neg h, if_neg (fun e => h e.symm)]
  · rw [Array.getElem?_eq_none (xs := rowC f) (by rw [rowC_size]; omega), Array.getElem?_eq_none (xs := rowC _) (by rw [rowC_size]; omega), rowC_size]
    by_cases h : k = j
    · rw [if_pos h, if_neg (by omega)]
    · rw [if_neg h]
theorem rowC_congr {f g : Nat → Bool} (h : ∀ i, i < 100 → f i = g i) : rowC f = rowC g := by
  apply Array.ext_getElem?
  intro j
  by_cases hj : j < 100
  · rw [rowC_get _ _ hj, rowC_get _ _ hj, h j hj]
  · rw [Array.getElem?_eq_none (by rw [rowC_size]; omega), Array.getElem?_eq_none (by rw [rowC_size]; omega)]
theorem rowC_one (f : Nat → Bool) : (rowC f).all (·.oneCell') = true := by
  rw [Array.all_eq_true]
  intro i hi
  simp [rowC]
  rfl

theorem zero_row (w : World) : (zeroValue 131).run Tryd.prog w = .ok (.agg (rowC fun _ => false)) w := by kernel_rfl
theorem row_info : (Tryd.prog.info? 131).map (·.size) = some 100 := by kernel_rfl
theorem b3 (w : World) (a b c : Obj) : (((w.alloc a).alloc b).alloc c).heap[w.heap.size + 1]? = some b := blk_old (b1 w a b) _

set_option maxRecDepth 100000 in
set_option maxHeartbeats 1000000 in
theorem row_any (x : Nat) (w : World) :
    Calls Tryd.prog 77 #[setV x] w fun e w' => e = .returned (.agg (rowC x.testBit)) ∧ Below w.heap.size w w' := by
  unfold setV
  have hz := zero_row
  go_enter Tryd.func77, Tryd.ntmps77
  go_wp2_with fail
  clear hz
  go_loopw [4] (fun i wr => ∃ k : Nat, i = .int .i64 k ∧ k ≤ 100 ∧ wr.heap[w.heap.size]? = some (.cells (setC x) 59 (0, 0)) ∧ wr.heap[w.heap.size + 1]? = some (.cells (rowC fun _ => false) 131 (0, 0)) ∧
      wr.heap[w.heap.size + 1 + 1]? = some (.cells (rowC fun i => decide (i < k) && x.testBit i) 131 (0, 0)) ∧ Below w.heap.size w wr) (fun i _ => 100 - (intOf i).toNat)
  case atStart =>
    refine ⟨0, rfl, by omega, blk_old (blk_old (blk_new w _) _) _, b3 w _ _ _, ?_, (((Below.refl _ w).alloc (Nat.le_refl _) _).alloc (by simp) _).alloc (by simp; omega) _⟩
    have := b2 w (.cells (setC x) 59) (.cells (rowC fun _ => false) 131) (.cells (rowC fun _ => false) 131)
    simpa using this
  case round =>
    obtain ⟨k, rfl, hk, h0, h1, h2, hb⟩ := hrel
    by_cases hlt : k < 100
    · have c0 : wr.cell? ⟨w.heap.size, k / 32, none⟩ = some (.int .u32 (sw x (k / 32) : Nat)) := (blk_cell h0 (k / 32)).trans (setC_get x _ (by omega))
      have c2 : wr.cell? ⟨w.heap.size + 1 + 1, k, none⟩ = some (.bool false) := (blk_cell h2 k).trans ((rowC_get _ k hlt).trans (by simp))
      have f2 := blk_free h2 k
      have i1 : (k : Int) < 100 := by omega
      have hw := sw_lt x (k / 32)
      have h3 := blk_store h2 k (.bool (x.testBit k))
      rw [rowC_set] at h3
      have h3 : (wr.setCell ⟨w.heap.size + 1 + 1, k, none⟩ (.bool (x.testBit k))).heap[w.heap.size + 1 + 1]? = some (.cells (rowC fun i => decide (i < k + 1) && x.testBit i) 131 (0, 0)) := by
        rw [h3, rowC_congr]
        intro i _
        by_cases hi : i = k
        · subst hi; simp
        · have : (i < k + 1) = (i < k) := by rw [eq_iff_iff]; omega
          simp [hi, this]
      have hwd := has_word x k
      rw [Int.toNat_natCast] at hwd
      have H3 := Lib.hid h3
      clear h3
      go_wp2
      exact ⟨⟨k + 1, by go_num, by omega, blk_set h0 _ _ (by simp; omega), blk_set h1 _ _ (by simp), H3.out, hb.setCell (by simp; omega) _⟩, by simp [intOf]; omega⟩
    · obtain rfl : k = 100 := by omega
      rw [rowC_congr (g := x.testBit) (fun i hi => by simp [hi])] at h2
      go_wp2_with (first
        | (refine wpList_load_row rfl _ _ rfl (w.heap.size + 1 + 1) rfl _ (rowC x.testBit) _ _ h2 Tryd.underlying131 rfl (row_info.trans (by rw [rowC_size])) ?_)
        | (refine wpList_store_mid rfl _ _ _ rfl (w.heap.size + 1) 0 (rowC x.testBit) rfl rfl (there_blk h1 0 _ (by rw [rowC_size, rowC_size]; omega)) (row_info.trans (by rw [rowC_size])) (rowC_one _) ?_))
      have h3 := setCells_whole h1 (rowC x.testBit) (by rw [rowC_size, rowC_size])
      exact bodyPost_ret (v := .agg (rowC x.testBit)) (results_cell_row rfl _ _ (w.heap.size + 1) _ _ _ _ rfl h3 Tryd.underlying131 rfl (row_info.trans (by rw [rowC_size]))) rfl ⟨rfl, setCells_below _ _ _ hb (by omega)⟩

/-- The set of a row. -/
def mkN (f : Nat → Bool) : Nat → Nat
  | 0 => 0
  | k + 1 => if f k then mkN f k ||| 2 ^ k else mkN f k
theorem mkN_bit (f : Nat → Bool) (i : Nat) : ∀ k, (mkN f k).testBit i = (decide (i < k) && f i)
  | 0 => by simp [mkN]
  | k + 1 => by
    unfold mkN
    have ih := mkN_bit f i k
    by_cases hf : f k = true
    · rw [if_pos hf, Nat.testBit_or, ih, Nat.testBit_two_pow]
      by_cases hi : k = i
      · subst hi; simp [hf]
      · have : (i < k + 1) = (i < k) := by rw [eq_iff_iff]; omega
        simp [hi, this]
    · rw [if_neg hf, ih]
      by_cases hi : i = k
      · subst hi; simp [hf]
      · have : (i < k + 1) = (i < k) := by rw [eq_iff_iff]; omega
        simp [this]
def with1 (x i : Nat) : Nat → Bool := fun j => if j = i then true else x.testBit j
theorem with1_set (x i : Nat) : (rowC x.testBit).setIfInBounds i (.bool true) = rowC (with1 x i) := rowC_set _ _ _
theorem mkN_with (x i : Nat) (hi : i < 100) : mkN (with1 x i) 100 = x % 2 ^ 100 ||| 2 ^ i := by
  unfold with1
  apply Nat.eq_of_testBit_eq
  intro k
  rw [mkN_bit, Nat.testBit_or, Nat.testBit_mod_two_pow, Nat.testBit_two_pow]
  by_cases hk : k = i
  · subst hk; simp [hi]
  · have : ¬ i = k := fun e => hk e.symm
    simp [hk, this]
theorem mkN_mod (x : Nat) : mkN x.testBit 100 = x % 2 ^ 100 := by
  apply Nat.eq_of_testBit_eq
  intro i
  rw [mkN_bit, Nat.testBit_mod_two_pow]

set_option maxRecDepth 100000 in
set_option maxHeartbeats 1000000 in
theorem make_any (f : Nat → Bool) (w : World) :
    Calls Tryd.prog 78 #[.agg (rowC f)] w fun e w' => e = .returned (setV (mkN f 100)) ∧ Below w.heap.size w w' := by
  unfold setV
  go_enter Tryd.func78, Tryd.ntmps78
  go_wp2_with fail
  rw [setC_zero]
  go_loopw [4] (fun i wr => ∃ k : Nat, i = .int .i64 k ∧ k ≤ 100 ∧ wr.heap[w.heap.size]? = some (.cells (rowC f) 131 (0, 0)) ∧ wr.heap[w.heap.size + 1]? = some (.cells (setC 0) 59 (0, 0)) ∧
      wr.heap[w.heap.size + 1 + 1]? = some (.cells (setC (mkN f k)) 59 (0, 0)) ∧ Below w.heap.size w wr) (fun i _ => 100 - (intOf i).toNat)
  case atStart =>
    exact ⟨0, rfl, by omega, blk_old (blk_old (blk_new w _) _) _, b3 w _ _ _, b2 w _ _ _, (((Below.refl _ w).alloc (Nat.le_refl _) _).alloc (by simp) _).alloc (by simp; omega) _⟩
  case round =>
    obtain ⟨k, rfl, hk, h0, h1, h2, hb⟩ := hrel
    by_cases hlt : k < 100
    · have c0 : wr.cell? ⟨w.heap.size, k, none⟩ = some (.bool (f k)) := (blk_cell h0 k).trans (rowC_get f k hlt)
      have i1 : (k : Int) < 100 := by omega
      cases hf : f k with
      | false =>
        rw [hf] at c0
        have HF := Lib.hid hf
        clear hf
        go_wp2
        go_roundw
        case rel => exact ⟨k + 1, by go_num, by omega, h0, h1, by unfold mkN; rw [HF.out]; exact h2, hb⟩
        case measure => simp [intOf]; omega
      | true =>
        rw [hf] at c0
        have hm : mkN f (k + 1) = mkN f k ||| 2 ^ k := by show (if f k then _ else _) = _; rw [hf]; rfl
        have HM := Lib.hid hm
        clear hf hm
        generalize mkN f k = y at *
        have i2 : IntKind.i64.wrap ((k : Int) / 32) = (k : Int) / 32 := IntWalk.i64_in _ (by omega)
        have i3 : (k : Int) / 32 < 4 := by omega
        have i4 : (0 : Int) ≤ (k : Int) / 32 := by omega
        have i8 : ((k : Int) / 32).toNat = k / 32 := by omega
        have i5 : (k : Int).tmod 32 = (k : Int) % 32 := Int.tmod_eq_emod_of_nonneg (by omega)
        have i6 : IntKind.i64.wrap ((k : Int) % 32) = (k : Int) % 32 := IntWalk.i64_in _ (by omega)
        have i7 : (0 : Int) ≤ (k : Int) % 32 := by omega
        have i9 : ((k : Int) % 32).toNat = k % 32 := by omega
        have c2 : wr.cell? ⟨w.heap.size + 1 + 1, k / 32, none⟩ = some (.int .u32 (sw y (k / 32) : Nat)) := (blk_cell h2 (k / 32)).trans (setC_get y _ (by omega))
        have f2 := blk_free h2 (k / 32)
        go_wp2_with fail
        refine wp_region_still_tail 11 (by kernel_rfl) (by kernel_rfl) ?_
        simp only [List.take_succ_cons, List.take_zero, List.drop_succ_cons, List.drop_zero]
        repeat still_step
        try refine wpStill_nil ?_
        change wpList _ _ _ _ _ wr.drew
        rw [or_word]
        clear i2 i3 i4 i5 i6 i7 i8 i9
        go_wp2
        go_roundw
        case rel =>
          refine ⟨k + 1, by go_num, by omega, blk_set (blk_drewN h0 1) _ _ (by simp; omega), blk_set (blk_drewN h1 1) _ _ (by simp), ?_, (below_drewN hb 1).setCell (by simp; omega) _⟩
          have := blk_store (blk_drewN h2 1) (k / 32) (.int .u32 (sw y (k / 32) ||| 2 ^ (k % 32) : Nat))
          rw [withC_set y k (by omega)] at this
          rw [HM.out]
          exact this
        case measure => simp [intOf]; omega
    · obtain rfl : k = 100 := by omega
      obtain ⟨q0, q1, q2, q3, _⟩ := set_cells h2
      obtain ⟨s0, s1, s2, s3, g0, g1, g2, g3⟩ := set_cells h1
      go_wp2
      refine bodyPost_ret (v := .agg (setC (mkN f 100))) ?_ rfl ⟨rfl, (((hb.setCell (by simp) _).setCell (by simp) _).setCell (by simp) _).setCell (by simp) _⟩
      unfold setC
      simp [results, Tryd.results78, go_sem, s0, s1, s2, s3]

theorem row_index (g : Nat → Bool) (i : Nat) (hi : i < 100) (w : World) : (Instr.index 131 (.agg (rowC g)) (.int .i64 i)).run Tryd.prog w = .ok (.bool (g i)) w := by
  have h0 : (0 : Int) ≤ (i : Int) := by omega
  have h1 : (i : Int) < 100 := by omega
  have h := rowC_get g i hi
  simp [Instr.index, run_underlying Tryd.underlying131, go_sem, h]
  intro hh; omega
set_option maxRecDepth 100000 in
set_option maxHeartbeats 1000000 in
theorem refWith_any (x : Nat) (i : Nat) (hi : i < 100) (w : World) :
    Calls Tryd.prog 59 #[setV x, .int .i64 i] w fun e w' => e = .returned (.tuple #[setV (x % 2 ^ 100 ||| 2 ^ i), .int .i64 0]) ∧ Below w.heap.size w w' := by
  have HR := Lib.hid (fun w => row_any x w)
  have HM := Lib.hid (fun w => make_any (with1 x i) w)
  rw [mkN_with x i hi] at HM
  generalize x % 2 ^ 100 ||| 2 ^ i = y at *
  unfold setV
  unfold setV at HR HM
  have i0 : ¬ (i : Int) < 0 := by omega
  have i1 : ¬ (100 : Int) ≤ (i : Int) := by omega
  have hz := zero_row
  obtain ⟨q0, q1, q2, q3, _⟩ := set_cells (blk_old (blk_new w (.cells (setC x) 59)) (.cells #[.int .u32 0, .int .u32 0, .int .u32 0, .int .u32 0] 59))
  go_enter Tryd.func59, Tryd.ntmps59
  have B0 : Below w.heap.size w ((w.alloc (.cells (setC x) 59)).alloc (.cells #[.int .u32 0, .int .u32 0, .int .u32 0, .int .u32 0] 59)) := ((Below.refl _ w).alloc (Nat.le_refl _) _).alloc (by simp) _
  have Z0 : _ = some (Obj.cells (setC 0) 59 (0, 0)) := b1 w (.cells (setC x) 59) (.cells #[.int .u32 0, .int .u32 0, .int .u32 0, .int .u32 0] 59)
  go_wp2_with (first
    | (go_at_call 77; refine (HR.out _).mono ?_; rintro e w1 ⟨rfl, hB⟩)
    | (refine wpList_store_mid rfl _ _ _ rfl w1.heap.size 0 (rowC x.testBit) rfl rfl (there_blk (blk_new w1 (.cells (rowC fun _ => false) 131)) 0 _ (by rw [rowC_size, rowC_size]; omega)) (row_info.trans (by rw [rowC_size])) (rowC_one _) ?_; have hz3 : w.heap.size + 2 ≤ w1.heap.size := (by have := hB.size; simpa using this); have h3 := setCells_whole (blk_new w1 (.cells (rowC fun _ => false) 131)) (rowC x.testBit) (by rw [rowC_size, rowC_size]); have z3 := setCells_other (b := w1.heap.size) (rowC x.testBit).toList 0 _ (blk_old (blk_below' hB Z0) (.cells (rowC fun _ => false) 131)) (by omega); have hb3 := setCells_below (b := w1.heap.size) (rowC x.testBit).toList 0 _ ((below_then B0 hB).alloc (by omega) (.cells (rowC fun _ => false) 131)) (by omega); generalize (w1.alloc (.cells (rowC fun _ => false) 131)).setCells w1.heap.size 0 (rowC x.testBit).toList = W3 at h3 z3 hb3 ⊢; have c3 := (blk_cell h3 i).trans (rowC_get _ i hi); have f3 := blk_free h3 i; have i2 : (i : Int) < 100 := (by omega); have h4 := blk_store h3 i (.bool true); rw [with1_set] at h4; have z4 := blk_set z3 ⟨w1.heap.size, i, none⟩ (.bool true) (by simp; omega); have hb4 := hb3.setCell (p := ⟨w1.heap.size, i, none⟩) (by simp; omega) (.bool true); obtain ⟨p0, p1, p2, p3, g0, g1, g2, g3⟩ := set_cells z4)
    | (refine wpList_load_row rfl _ _ rfl w1.heap.size rfl _ (rowC (with1 x i)) _ _ h4 Tryd.underlying131 rfl (row_info.trans (by rw [rowC_size])) ?_)
    | (go_at_call 78; refine (HM.out _).mono ?_; rintro e w5 ⟨rfl, hB5⟩; have z5 := blk_below' hB5 z4; have hb5 := below_then hb4 hB5; obtain ⟨s0, s1, s2, s3, t0, t1, t2, t3⟩ := set_cells z5; unfold setC))
  refine bodyPost_ret (v := .tuple #[.agg (setC y), .int .i64 0]) ?_ rfl ⟨rfl, (((hb5.setCell (by simp) _).setCell (by simp) _).setCell (by simp) _).setCell (by simp) _⟩
  unfold setC
  simp [results, Tryd.results59, go_sem, s0, s1, s2, s3]

set_option maxRecDepth 100000 in
set_option maxHeartbeats 1000000 in
theorem refPut_any (x : Nat) (i : Nat) (hi : i < 100) (w : World) :
    Calls Tryd.prog 43 #[setV x, .int .i64 i] w fun e w' => e = .returned (setV (x % 2 ^ 100 ||| 2 ^ i)) ∧ Below w.heap.size w w' := by
  have HW := Lib.hid (fun w => refWith_any x i hi w)
  generalize x % 2 ^ 100 ||| 2 ^ i = y at *
  unfold setV
  unfold setV at HW
  obtain ⟨q0, q1, q2, q3, _⟩ := set_cells (blk_old (blk_new w (.cells (setC x) 59)) (.cells #[.int .u32 0, .int .u32 0, .int .u32 0, .int .u32 0] 59))
  have B0 : Below w.heap.size w ((w.alloc (.cells (setC x) 59)).alloc (.cells #[.int .u32 0, .int .u32 0, .int .u32 0, .int .u32 0] 59)) := ((Below.refl _ w).alloc (Nat.le_refl _) _).alloc (by simp) _
  have Z0 : _ = some (Obj.cells (setC 0) 59 (0, 0)) := b1 w (.cells (setC x) 59) (.cells #[.int .u32 0, .int .u32 0, .int .u32 0, .int .u32 0] 59)
  go_enter Tryd.func43, Tryd.ntmps43
  go_wp2_with (first
    | (go_at_call 59; refine (HW.out _).mono ?_; rintro e w5 ⟨rfl, hB5⟩; have hz := hB5.size; have z5 := blk_old (blk_below' hB5 Z0) (.cells (setC y) 59); have hb5 := (below_then B0 hB5).alloc (by simp at hz; omega) (.cells (setC y) 59); obtain ⟨s0, s1, s2, s3, t0, t1, t2, t3⟩ := set_cells z5; obtain ⟨p0, p1, p2, p3, _⟩ := set_cells (blk_new w5 (.cells (setC y) 59)); unfold setC; unfold setC at p0 p1 p2 p3 s0 s1 s2 s3 t0 t1 t2 t3 hb5))
  refine bodyPost_ret (v := .agg (setC y)) ?_ rfl ⟨rfl, (((hb5.setCell (by simp) _).setCell (by simp) _).setCell (by simp) _).setCell (by simp) _⟩
  unfold setC
  simp [results, Tryd.results43, go_sem, s0, s1, s2, s3]
end Go.Proofs.YtppmiggkknhdkaaDoor
namespace Go.Proofs.YtppmiggkknhdkaaDoor
set_option linter.unusedVariables false
set_option linter.unusedSimpArgs false
open Go.RowKit

theorem lt_of_bits {x n : Nat} (hx : x < 2 ^ 128) (h : ∀ j, j < 128 → x.testBit j = true → j < n) : x < 2 ^ n := by
  apply Nat.lt_pow_two_of_testBit
  intro i hi
  by_cases h1 : i < 128
  · cases ht : x.testBit i with
    | false => rfl
    | true => have := h i h1 ht; omega
  · exact Nat.testBit_lt_two_pow (Nat.lt_of_lt_of_le hx (Nat.pow_le_pow_right (by decide) (by omega)))
theorem not_lt_of_bit {x n j : Nat} (h : x.testBit j = true) (hj : n ≤ j) : ¬ x < 2 ^ n := by
  intro hx
  have := Nat.testBit_lt_two_pow (Nat.lt_of_lt_of_le hx (Nat.pow_le_pow_right (by decide) hj))
  rw [this] at h; cases h

/-- The ids of a set, below some. -/
def idsL (x k : Nat) : List Nat := (List.range k).filter x.testBit
theorem idsL_succ (x k : Nat) : idsL x (k + 1) = if x.testBit k then idsL x k ++ [k] else idsL x k := by
  unfold idsL
  rw [List.range_succ, List.filter_append]
  cases h : x.testBit k <;> simp [h]
theorem idsL_len (x k : Nat) : (idsL x k).length ≤ k := by
  have := List.length_filter_le x.testBit (List.range k)
  rw [List.length_range] at this
  exact this
theorem idsL_mem {x k i : Nat} (h : i ∈ idsL x k) : i < k ∧ x.testBit i = true := by
  unfold idsL at h
  rw [List.mem_filter, List.mem_range] at h
  exact h
def natC (l : List Nat) : List Value := l.map fun r : Nat => .int .i64 (r : Int)
theorem Tryd.infoInt3 : (Tryd.prog.info? 3).map (fun i => (i.zero, i.size, i.bytes)) = some (some (.int .i64 0), 1, 8) := by kernel_rfl

end Go.Proofs.YtppmiggkknhdkaaDoor
namespace Go.Proofs.YtppmiggkknhdkaaDoor
set_option linter.unusedVariables false
set_option linter.unusedSimpArgs false
open Go.RowKit Go.Shelf

theorem within_iff {x n : Nat} : (x &&& (2 ^ n - 1) = x) = (x < 2 ^ n) := by
  rw [Nat.and_two_pow_sub_one_eq_mod, eq_iff_iff]
  constructor
  · intro h; rw [← h]; exact Nat.mod_lt _ (Nat.pow_pos (by decide))
  · exact Nat.mod_eq_of_lt

/-- A set in a variable. -/
def SetIn (w0 : World) (b x : Nat) (W : World) : Prop := W.heap[b]? = some (.cells (setC x) 59 (0, 0)) ∧ Below w0.heap.size w0 W
theorem SetIn.below {w0 : World} {b x : Nat} {W W' : World} (h : SetIn w0 b x W) (hb : Below W.heap.size W W') : SetIn w0 b x W' := ⟨blk_below' hb h.1, below_then h.2 hb⟩
theorem SetIn.drew {w0 : World} {b x : Nat} {W : World} (h : SetIn w0 b x W) : SetIn w0 b x W.drew := ⟨h.1, below_drewN h.2 1⟩
theorem SetIn.all {w0 : World} {b x : Nat} {W : World} (h : SetIn w0 b x W) : (W.cell? ⟨b, 0, none⟩ = some (.int .u32 (sw x 0 : Nat)) ∧ W.cell? ⟨b, 1, none⟩ = some (.int .u32 (sw x 1 : Nat)) ∧ W.cell? ⟨b, 2, none⟩ = some (.int .u32 (sw x 2 : Nat)) ∧ W.cell? ⟨b, 3, none⟩ = some (.int .u32 (sw x 3 : Nat))) ∧ SetIn w0 b x W := by
  obtain ⟨c0, c1, c2, c3, _⟩ := set_cells h.1
  exact ⟨⟨c0, c1, c2, c3⟩, h⟩

abbrev idEnc (x : Nat) (i : { i : Nat // i ∈ idsL x 100 }) : Array Value := #[.int .i64 i.1]
/-- A round keeps the variable with the set. -/
def KeepsAt (b : Nat) (A B : World) : Prop := ∀ o, A.heap[b]? = some o → B.heap[b]? = some o
theorem KeepsAt.trans {b : Nat} {A B C : World} (h : KeepsAt b A B) (k : KeepsAt b B C) : KeepsAt b A C := fun o ho => k o (h o ho)
theorem KeepsAt.refl (b : Nat) (A : World) : KeepsAt b A A := fun _ h => h
theorem KeepsAt.of_below {b : Nat} {A B : World} (h : Below A.heap.size A B) : KeepsAt b A B := fun _ ho => blk_below' h ho
theorem KeepsAt.put {b : Nat} {w : World} (hb : b < w.heap.size) (W : World) (l : Nat) (o o' : Obj) (hl : w.heap.size ≤ l) (h : W.heap[l]? = some o) (_ : o.isCells = false) (_ : o.isWalk = false) : KeepsAt b W (W.putObj l o') := fun q hq => by
  have hne : l ≠ b := by omega
  simp only [World.putObj]
  rw [Array.getElem?_setIfInBounds_ne hne]
  exact hq

theorem idsL_pre {x j k : Nat} (h : j ≤ k) : idsL x j <+: idsL x k := by
  induction k with
  | zero => obtain rfl : j = 0 := by omega
            exact List.prefix_refl _
  | succ k ih =>
    by_cases e : j = k + 1
    · subst e; exact List.prefix_refl _
    · rw [idsL_succ]
      split
      · exact (ih (by omega)).trans (List.prefix_append _ _)
      · exact ih (by omega)
theorem idsL_step {x k : Nat} (hk : k < 100) (h : x.testBit k = true) : idsL x k ++ [k] <+: idsL x 100 := by
  have h1 := idsL_succ x k
  rw [h, if_pos rfl] at h1
  rw [← h1]
  exact idsL_pre (by omega)

end Go.Proofs.YtppmiggkknhdkaaDoor
namespace Go.Proofs.YtppmiggkknhdkaaDoor
set_option linter.unusedVariables false
set_option linter.unusedSimpArgs false
open Go.RowKit Go.Shelf

theorem NL.at {W : World} {v : Value} {g : Nat} {R : List Nat} (h : NL W v g R) : ∀ j u, (ntC 0 R)[j]? = some u → W.cell? ⟨g, j, none⟩ = some u := by
  obtain ⟨cap, sp, rfl, h1⟩ := h
  intro j u hu
  rw [blk_cell h1, List.getElem?_toArray, List.getElem?_append_left (List.getElem?_eq_some_iff.1 hu).1]
  exact hu
set_option maxRecDepth 100000 in
theorem nclone_any {w : World} {g c : Nat} {R : List Nat} (v0 : Value) (h : NL w v0 g R) (hn : R.length ≤ 100) :
    Calls Tryd.prog 79 #[.slice (some ⟨g, 0, none⟩) R.length c] w fun e w' => ∃ v, e = .returned v ∧ w'.ownsRow w.heap.size 24 3 v R.length (ntC 0 R) ∧ Below w.heap.size w w' := by
  obtain ⟨i0, hi, hz⟩ := Option.map_eq_some_iff.1 Tryd.infoNotice
  simp only [Prod.mk.injEq] at hz
  obtain ⟨hz0, hz1, hz2⟩ := hz
  have HC := Lib.hid h.at
  have HG := Lib.hid h.lt
  have HN := Lib.hid hn
  clear h hn
  go_enter Tryd.func79, Tryd.ntmps79
  have hnil : ∀ w, (binOp .eql 45 (.slice (some ⟨g, 0, none⟩) R.length c) (.slice none 0 0)).run Tryd.prog w = .ok (.bool false) w := fun w => by kernel_rfl
  go_wp2_with (at_builtin; refine wpList_append_own _ rfl _ _ 45 rfl w.heap.size 24 i0 (.agg #[.int .i64 0, .int .i64 0, .int .i64 0]) 3 24 Tryd.underlying45 hi hz0 hz1 hz2 rfl (by decide) _ 0 [] rfl (World.ownsRow_lit w #[] 0 (Nat.le_refl _) (by unfold maxLen; omega) rfl) ⟨g, 0, none⟩ R.length c (ntC 0 R) rfl ?a1 ?a2 ?a3 ?a4 ?a5 ?a6 ?_)
  case a1 => rw [ntC_len]
  case a2 => intro j u hu; rw [add_mid', Nat.zero_add, World.cell?_alloc_old _ _ _ (Nat.ne_of_lt HG.out)]; exact HC.out j u hu
  case a3 => exact ntC_one R 0
  case a4 => unfold maxLen; have := HN.out; omega
  case a5 => have := HN.out; omega
  case a6 => simp
  intro v' w4 hown4 hg4 hv4
  go_wp2
  go_ret
  refine ⟨_, rfl, ?_, ((Below.refl _ w).alloc (Nat.le_refl _) _).grown hg4 (by simp) (fun j hj => by cases hj; exact Nat.le_refl _)⟩
  simpa using hown4
theorem tlist_any {w : World} {B g cp : Nat} {R : List Nat} (h : Tb w B g cp R) :
    Calls Tryd.prog 60 #[.pointer (some ⟨B, 0, none⟩)] w fun e w' => ∃ v, e = .returned v ∧ w'.ownsRow w.heap.size 24 3 v R.length (ntC 0 R) ∧ Below w.heap.size w w' := by
  have HL := Lib.hid (list_any h)
  have HC := Lib.hid (nclone_any (c := cp) _ h.list h.n.2)
  clear h
  go_enter Tryd.func60, Tryd.ntmps60
  go_wp2_with fail
  refine HL.out.mono ?_
  rintro e w1 ⟨rfl, rfl⟩
  go_wp2_with fail
  refine HC.out.mono ?_
  rintro e w2 ⟨v, rfl, ho, hB⟩
  go_wp2_with fail
  go_ret
  exact ⟨v, rfl, ho, hB⟩
/-- The cells of a list, told by its block. -/
def LC (W : World) (g : Nat) (R : List Nat) : Prop := ∀ i q, R[i]? = some q → W.cell? ⟨g, i * 3, none⟩ = some (.int .i64 (i : Int)) ∧ W.cell? ⟨g, i * 3 + 1, none⟩ = some (.int .i64 (tgN q : Nat)) ∧ W.cell? ⟨g, i * 3 + 2, none⟩ = some (.int .i64 (kdN q : Nat))
theorem LC.of_own {W : World} {base g n cap : Nat} {R : List Nat} (h : W.ownsRow base 24 3 (.slice (some ⟨g, 0, none⟩) n cap) n (ntC 0 R)) : LC W g R := by
  intro i q hq
  have hc := h.cells rfl
  obtain ⟨h0, h1, h2⟩ := ntC_get R 0 i q hq
  rw [Nat.zero_add] at h0
  have e0 := hc _ _ h0
  have e1 := hc _ _ h1
  have e2 := hc _ _ h2
  rw [add_mid', Nat.zero_add] at e0 e1 e2
  exact ⟨e0, e1, e2⟩
theorem LC.same {W X : World} {g : Nat} {R : List Nat} (h : LC W g R) (he : X.heap[g]? = W.heap[g]?) : LC X g R := by
  intro i q hq
  obtain ⟨h0, h1, h2⟩ := h i q hq
  unfold World.cell? at *
  rw [he]; exact ⟨h0, h1, h2⟩
/-- The captured list. -/
structure AllS (W : World) (Bs gg cap : Nat) (R : List Nat) : Prop where
  box : W.heap[Bs]? = some (.cells #[.slice (some ⟨gg, 0, none⟩) R.length cap] 45 (0, 0))
  cells : LC W gg R
  isC : ∃ cs t f, W.heap[gg]? = some (.cells cs t f)
theorem AllS.keep {W X : World} {Bs gg cap : Nat} {R : List Nat} (h : AllS W Bs gg cap R) (h1 : X.heap[Bs]? = W.heap[Bs]?) (h2 : X.heap[gg]? = W.heap[gg]?) : AllS X Bs gg cap R :=
  ⟨h1.trans h.box, h.cells.same h2, by obtain ⟨cs, t, f, hh⟩ := h.isC; exact ⟨cs, t, f, h2.trans hh⟩⟩
theorem AllS.lt {W : World} {Bs gg cap : Nat} {R : List Nat} (h : AllS W Bs gg cap R) : Bs < W.heap.size ∧ gg < W.heap.size := by
  obtain ⟨cs, t, f, hh⟩ := h.isC
  exact ⟨blk_lt h.box, blk_lt hh⟩
theorem AllS.below {W X : World} {Bs gg cap : Nat} {R : List Nat} (h : AllS W Bs gg cap R) (hb : Below W.heap.size W X) : AllS X Bs gg cap R := h.keep (hb.block _ h.lt.1) (hb.block _ h.lt.2)
def Keep2 (b c : Nat) (A B : World) : Prop := (∀ o, A.heap[b]? = some o → B.heap[b]? = some o) ∧ (∀ o, A.heap[c]? = some o → B.heap[c]? = some o)
theorem Keep2.trans {b c : Nat} {A B C : World} (h : Keep2 b c A B) (k : Keep2 b c B C) : Keep2 b c A C := ⟨fun o ho => k.1 o (h.1 o ho), fun o ho => k.2 o (h.2 o ho)⟩
theorem Keep2.put {b c : Nat} {w : World} (hb : b < w.heap.size) (hc : c < w.heap.size) (W : World) (l : Nat) (o o' : Obj) (hl : w.heap.size ≤ l) (h : W.heap[l]? = some o) (_ : o.isCells = false) (_ : o.isWalk = false) : Keep2 b c W (W.putObj l o') := by
  have h1 : l ≠ b := by omega
  have h2 : l ≠ c := by omega
  refine ⟨fun q hq => ?_, fun q hq => ?_⟩
  · simp only [World.putObj]; rw [Array.getElem?_setIfInBounds_ne h1]; exact hq
  · simp only [World.putObj]; rw [Array.getElem?_setIfInBounds_ne h2]; exact hq
theorem AllS.keep2 {W X : World} {Bs gg cap : Nat} {R : List Nat} (h : AllS W Bs gg cap R) (hk : Keep2 Bs gg W X) : AllS X Bs gg cap R := by
  obtain ⟨cs, t, f, hh⟩ := h.isC
  exact h.keep ((hk.1 _ h.box).trans h.box.symm) ((hk.2 _ hh).trans hh.symm)
theorem AllS.abide {W X : World} {Bs gg cap : Nat} {R : List Nat} (h : AllS W Bs gg cap R) {row : Option Nat} (hg : W.grownBy X row) (hr : ∀ r, row = some r → ∃ o : Obj, W.heap[r]? = some o ∧ o.isCells = false) : AllS X Bs gg cap R := by
  obtain ⟨cs, t, f, hh⟩ := h.isC
  have n1 : some Bs ≠ row := fun e => by obtain ⟨o, ho, hc⟩ := hr Bs e.symm; rw [h.box] at ho; cases ho; cases hc
  have n2 : some gg ≠ row := fun e => by obtain ⟨o, ho, hc⟩ := hr gg e.symm; rw [hh] at ho; cases ho; cases hc
  exact h.keep (hg.5 _ h.lt.1 n1) (hg.5 _ h.lt.2 n2)
theorem tall_any {w : World} {B g cp : Nat} {R : List Nat} (h : Tb w B g cp R) :
    Calls Tryd.prog 46 #[.pointer (some ⟨B, 0, none⟩)] w fun e w' => ∃ Bs gg cap, e = .returned (.func (.func 61) #[] #[.pointer (some ⟨Bs, 0, none⟩)]) ∧ AllS w' Bs gg cap R ∧ w.heap.size ≤ Bs ∧ w.heap.size ≤ gg ∧ Below w.heap.size w w' := by
  have hmf : ∀ (fn : Fn) (first cap : Array Value) (w : World), (Instr.makeFunc fn first cap).run Tryd.prog w = .ok (.func fn first cap) w := fun _ _ _ _ => rfl
  have HL := Lib.hid (tlist_any h)
  have hn := h.n.1
  clear h
  go_enter Tryd.func46, Tryd.ntmps46
  go_wp2_with fail
  refine HL.out.mono ?_
  rintro e w1 ⟨v, rfl, ho, hB⟩
  obtain ⟨gg, cap, rfl, hg1, hg2⟩ := ownsRow_pos ho (by omega)
  have hsz := hB.size
  have hA : AllS (w1.alloc (.cells #[.slice (some ⟨gg, 0, none⟩) R.length cap] 45)) w1.heap.size gg cap R := by
    have hcs : ∃ cs t f, w1.heap[gg]? = some (.cells cs t f) := by
      rcases ho.2 with ⟨h', _⟩ | ⟨g', cap', cur, h', _, hh, _⟩
      · simp at h'
      · injection h' with h1 h2 h3
        injection h1 with h1
        injection h1 with h1
        subst h1
        exact ⟨_, _, _, hh⟩
    obtain ⟨cs, t, f, hh⟩ := hcs
    refine ⟨blk_new w1 _, (LC.of_own ho).same ?_, cs, t, f, blk_old hh _⟩
    rw [hh]; exact blk_old hh _
  have hb2 := hB.alloc hB.size (.cells #[.slice (some ⟨gg, 0, none⟩) R.length cap] 45)
  clear ho hB
  go_wp2_with fail
  go_ret
  exact ⟨w1.heap.size, gg, cap, rfl, hA, hsz, hg1, hb2⟩
theorem range_pre {k n : Nat} (h : k < n) : List.range k ++ [k] <+: List.range n := by
  rw [← List.range_succ]
  obtain ⟨d, rfl⟩ : ∃ d, n = k + 1 + d := ⟨n - (k + 1), by omega⟩
  rw [List.range_add]
  exact List.prefix_append _ _
def rkAt (R : List Nat) (i : Nat) : Nat := R.getD i 0
abbrev ntEnc (R : List Nat) (i : { i : Nat // i < R.length }) : Array Value := #[.agg #[.int .i64 (i.1 : Int), .int .i64 (tgN (rkAt R i.1) : Nat), .int .i64 (kdN (rkAt R i.1) : Nat)]]
set_option maxRecDepth 100000 in
set_option maxHeartbeats 1000000 in
theorem tall1_stops (R : List Nat) (hR : R.length ≤ 100) (n : Nat) (hn : 1 ≤ n) (w : World) (Bs gg cap : Nat) (hs : AllS w Bs gg cap R) :
    SeqStopsK Fence.wide n Tryd.prog 61 #[.pointer (some ⟨Bs, 0, none⟩)] (ntEnc R) (Keep2 Bs gg) (fun xs => xs.map (·.1) = List.range R.length) (fun pre => pre.map (·.1) <+: List.range R.length) R.length w := fun l J Jx W hW hJ hJx hY h0 => by
  have hs1 := hs.below hW
  have HR := Lib.hid hR
  have hR9 : R.length ≤ 9223372036854775807 := by omega
  clear hR
  have b0 := blk_cell hs1.box 0
  refine callsIn_of_wp Tryd.func61 rfl trivial ?_ rfl
  simp only [Tryd.ntmps61, List.size_toArray, List.length_cons, List.length_nil, Nat.reduceAdd, Nat.reduceSub, Array.replicate_succ, Array.replicate_zero, List.push_toArray, List.append_toArray, List.nil_append, List.cons_append]
  gi_wp2
  gi_loopw [7] (fun i wr => ∃ (k : Nat) (pre : List { i : Nat // i < R.length }), i = .int .i64 k ∧ k ≤ R.length ∧ pre.map (·.1) = List.range k ∧ J pre wr ∧ AllS wr Bs gg cap R) (fun i _ => R.length - (intOf i).toNat)
  case atStart => exact ⟨0, [], rfl, by omega, rfl, h0, hs1⟩
  case round =>
    obtain ⟨k, pre, rfl, hk, hpre, hJs, hb⟩ := hrel
    have HPRE := Lib.hid hpre
    clear hpre
    by_cases hlt : k < R.length
    · obtain ⟨q, hq⟩ : ∃ q, R[k]? = some q := ⟨_, List.getElem?_eq_getElem hlt⟩
      obtain ⟨c0, c1, c2⟩ := hb.cells k q hq
      have hqd : rkAt R k = q := by simp [rkAt, List.getD, hq]
      have i1 : (k : Int) < (R.length : Int) := by omega
      have i2 : (0 : Int) ≤ (k : Int) := by omega
      have i3 : (k : Int).toNat = k := Int.toNat_natCast k
      have hlen : pre.length < R.length := by
        have h2 := congrArg List.length HPRE.out
        rw [List.length_map, List.length_range] at h2
        omega
      have hJ1 := hJ _ wr _ none hJs (World.grownBy_alloc wr (.cells #[.int .i64 (k : Int), .int .i64 (tgN q : Nat), .int .i64 (kdN q : Nat)] 24) none) (fun r e => by cases e)
      have hb1 := Lib.hid (hb.below ((Below.refl _ wr).alloc (Nat.le_refl _) (.cells #[.int .i64 (k : Int), .int .i64 (tgN q : Nat), .int .i64 (kdN q : Nat)] 24)))
      obtain ⟨fn, tmps, assign, body, hy, hYR⟩ := hY pre ⟨k, hlt⟩ _ hJ1 hlen
      dsimp only [ntEnc] at hy
      rw [hqd] at hy
      have HYR := Lib.hid hYR
      have HLT := Lib.hid hlt
      have n0 := blk_new wr (.cells #[.int .i64 (k : Int), .int .i64 (tgN q : Nat), .int .i64 (kdN q : Nat)] 24)
      have x0 := blk_cell n0 0
      have x1 := blk_cell n0 1
      have x2 := blk_cell n0 2
      clear hYR hJs hb hJ1 n0 hq hqd
      gi_wp2
      refine HYR.out.mono ?_
      rintro e W' (⟨rfl, hJ', hk'⟩ | ⟨rfl, hJx'⟩)
      · have hb' := hb1.out.keep2 hk'
        gi_wp2
        go_roundw
        case rel => exact ⟨k + 1, pre ++ [⟨k, hlt⟩], by have := HR.out; go_num, by have := HR.out; omega, by rw [List.map_append, HPRE.out, List.range_succ]; rfl, hJ', hb'⟩
        case measure => have := HR.out; simp [intOf]; omega
      · gi_wp2
        refine bodyPost_ret (results_none rfl _ _ _) rfl ?_
        refine ⟨⟨_, rfl⟩, .inr ⟨pre ++ [⟨k, hlt⟩], ?_, hJx'⟩⟩
        rw [List.map_append, HPRE.out]
        exact range_pre hlt
    · obtain rfl : k = R.length := by omega
      clear hY hJ hJx h0
      have i1 : ¬ (R.length : Int) < (R.length : Int) := by omega
      gi_wp2
      go_end0
      exact ⟨⟨_, rfl⟩, .inl ⟨pre, HPRE.out, hJs⟩⟩
end Go.Proofs.YtppmiggkknhdkaaDoor
namespace Go.Proofs.YtppmiggkknhdkaaDoor
set_option linter.unusedVariables false
set_option linter.unusedSimpArgs false
open Go.RowKit Go.Shelf
attribute [local go_sem] Oper.semAt_some

/-- No bit but those of nodes that are suspected. -/
def SusB (R : List Nat) (y : Nat) : Prop := ∀ j, y.testBit j = true → kdN (R.getD j 0) = 2
theorem susB_zero (R : List Nat) : SusB R 0 := fun j h => by simp at h
theorem susB_with {R : List Nat} {y i : Nat} (h : SusB R y) (hi : kdN (R.getD i 0) = 2) : SusB R (y % 2 ^ 100 ||| 2 ^ i) := by
  intro j hj
  rw [Nat.testBit_or, Bool.or_eq_true] at hj
  rcases hj with hj | hj
  · rw [Nat.testBit_mod_two_pow] at hj
    simp only [Bool.and_eq_true] at hj
    exact h j hj.2
  · rw [Nat.testBit_two_pow] at hj
    have : i = j := by simpa using hj
    rw [← this]; exact hi
structure SuI (w : World) (R : List Nat) (sb rb Bs gg cap : Nat) (W : World) : Prop where
  s : ∃ y, W.heap[sb]? = some (.cells (setC y) 59 (0, 0)) ∧ SusB R y
  r : W.heap[rb]? = some (.cells (setC 0) 59 (0, 0))
  all : AllS W Bs gg cap R
  low : Below w.heap.size w W
theorem SuI.own {α : Type} {w : World} {R : List Nat} {sb rb Bs gg cap B : Nat} (hB : w.heap.size ≤ B) : OwnFrom B (fun (_ : α) W => SuI w R sb rb Bs gg cap W) := by
  intro q X Y row h hg hr
  have keep : ∀ {k : Nat} {cs : Array Value} {t : TypeId} {f : Nat × Nat}, X.heap[k]? = some (.cells cs t f) → Y.heap[k]? = some (.cells cs t f) := fun {k cs t f} hk => by
    refine (hg.5 k (blk_lt hk) fun e => ?_).trans hk
    obtain ⟨_, o, ho, hc⟩ := hr k e.symm
    rw [hk] at ho; cases ho; cases hc
  obtain ⟨y, hy, hb⟩ := h.s
  refine ⟨⟨y, keep hy, hb⟩, keep h.r, h.all.abide hg (fun r e => (hr r e).2), ?_⟩
  exact ⟨hg.1.trans h.low.os, hg.2.trans h.low.tape, hg.3.trans h.low.output, Nat.le_trans h.low.size hg.4, fun k hk => (hg.5 k (Nat.lt_of_lt_of_le hk h.low.size) fun e => by obtain ⟨h1, _⟩ := hr k e.symm; omega).trans (h.low.block k hk)⟩
theorem SuI.below {w W X : World} {R : List Nat} {sb rb Bs gg cap : Nat} (h : SuI w R sb rb Bs gg cap W) (hb : Below W.heap.size W X) : SuI w R sb rb Bs gg cap X := by
  obtain ⟨y, hy, hs⟩ := h.s
  exact ⟨⟨y, blk_below' hb hy, hs⟩, blk_below' hb h.r, h.all.below hb, below_then h.low hb⟩
theorem SuI.put {w W X : World} {R : List Nat} {sb rb Bs gg cap z : Nat} (h : SuI w R sb rb Bs gg cap W) (hg : W.grownBy X (some sb)) (hz : X.heap[sb]? = some (.cells (setC z) 59 (0, 0))) (hs : SusB R z) (hne : sb ≠ rb ∧ sb ≠ Bs ∧ sb ≠ gg ∧ w.heap.size ≤ sb) : SuI w R sb rb Bs gg cap X :=
  ⟨⟨z, hz, hs⟩, blk_grown hg h.r (by simp; omega), h.all.keep (hg.5 _ h.all.lt.1 (by simp; omega)) (hg.5 _ h.all.lt.2 (by simp; omega)), h.low.grown hg h.low.size (fun j e => by cases e; exact hne.2.2.2)⟩
theorem sui_keeps {W X : World} {b : Nat} {cs : Array Value} {t : TypeId} {f : Nat × Nat} (hg : W.grownBy X (some b)) (hb : W.heap[b]? = some (.cells cs t f)) : KeepsOthers W X :=
  ⟨hg.4, fun k o hk hc => (hg.5 k (blk_lt hk) fun e => by injection e with e; subst e; rw [hb] at hk; cases hk; cases hc).trans hk⟩
theorem blk_put {W : World} {k D : Nat} {x : Obj} (h : W.heap[k]? = some x) (hne : D ≠ k) (o : Obj) : (W.putObj D o).heap[k]? = some x := by
  simp only [World.putObj]
  rw [Array.getElem?_setIfInBounds_ne hne]
  exact h
set_option maxRecDepth 100000 in
set_option maxHeartbeats 2000000 in
theorem susp_any {w : World} {B g cp : Nat} {R : List Nat} (h : Tb w B g cp R) :
    Calls Tryd.prog 27 #[.pointer (some ⟨B, 0, none⟩)] w fun e w' => ∃ y, e = .returned (setV y) ∧ SusB R y ∧ Below w.heap.size w w' := by
  have hb0 : Below w.heap.size w ((w.alloc (.cells (setC 0) 59)).alloc (.cells (setC 0) 59)) := ((Below.refl _ w).alloc (Nat.le_refl _) _).alloc (by simp) _
  have r0 : ((w.alloc (.cells (setC 0) 59)).alloc (.cells (setC 0) 59)).heap[w.heap.size]? = some (.cells (setC 0) 59 (0, 0)) := blk_old (blk_new w _) _
  have s0 : ((w.alloc (.cells (setC 0) 59)).alloc (.cells (setC 0) 59)).heap[w.heap.size + 1]? = some (.cells (setC 0) 59 (0, 0)) := b1 w _ _
  have HA := Lib.hid (tall_any (h.below hb0))
  have HN := Lib.hid h.n.2
  rw [← setC_zero] at hb0 r0 s0 HA
  clear h
  refine (callsIn_wide (n := 8)).1 ?_
  refine callsIn_of_wp_marks Tryd.func27 rfl trivial ?_ rfl
  simp only [Tryd.ntmps27, List.size_toArray, List.length_cons, List.length_nil, Nat.reduceAdd, Nat.reduceSub, Array.replicate_succ, Array.replicate_zero, List.push_toArray, List.append_toArray, List.nil_append, List.cons_append]
  gi_wp2_with fail
  obtain ⟨W, hW⟩ : ∃ W, ((w.alloc (.cells #[.int .u32 0, .int .u32 0, .int .u32 0, .int .u32 0] 59)).alloc (.cells #[.int .u32 0, .int .u32 0, .int .u32 0, .int .u32 0] 59)) = W := ⟨_, rfl⟩
  rw [hW] at hb0 r0 s0 HA ⊢
  clear hW
  refine ⟨trivial, (callsIn_wide.2 HA.out).mono ?_⟩
  rintro e W3 ⟨Bs, gg, cap, rfl, hAll, hBs, hgg, hB3⟩
  have hS3 : SuI w R (w.heap.size + 1) w.heap.size Bs gg cap W3 := ⟨⟨0, by rw [← setC_zero]; exact blk_below' hB3 s0, susB_zero R⟩, by rw [← setC_zero]; exact blk_below' hB3 r0, hAll, below_then hb0 hB3⟩
  have hz := blk_lt s0
  have hz3 := hB3.size
  have hlt := hAll.lt
  have HNE : Hid (w.heap.size + 1 ≠ w.heap.size ∧ w.heap.size + 1 ≠ Bs ∧ w.heap.size + 1 ≠ gg ∧ w.heap.size ≤ w.heap.size + 1) := Lib.hid ⟨by omega, by omega, by omega, by omega⟩
  clear HA hB3 hb0 r0 s0
  gi_wp2_with fail
  have hz3w := hS3.low.size
  apply wpIn_rangeFunc_ownH (F := Fence.wide) (n := 8) (P := Tryd.prog) rfl (by omega) (gf := 61) (lb := #[.pointer (some ⟨Bs, 0, none⟩)]) rfl trivial (enters_of Tryd.func61 (by kernel_rfl) rfl)
    (encs := ntEnc R) (tall1_stops R HN.out 7 (by omega) W3 Bs gg cap hAll) (Keep2.trans) (Keep2.put (by omega) (by omega)) (Below.refl _ _) (fun _ => rfl)
    (fun pre W => SuI w R (w.heap.size + 1) w.heap.size Bs gg cap W)
    (fun c pre W => False)
    (SuI.own (by omega))
    (fun c _ _ _ _ h _ _ => h)
    hS3
    (fun x a' W => ∃ px, a' = { tmps := #[.pointer (some ⟨B, 0, none⟩), undef, .pointer (some ⟨w.heap.size, 0, none⟩), .pointer (some ⟨w.heap.size + 1, 0, none⟩), .pointer (some ⟨px, 0, none⟩), .pointer (some ⟨B, 0, none⟩), .func (.func 61) #[] #[.pointer (some ⟨Bs, 0, none⟩)], .agg #[.int .i64 (x.1 : Int), .int .i64 (tgN (rkAt R x.1) : Nat), .int .i64 (kdN (rkAt R x.1) : Nat)], undef, undef, undef, undef, undef, undef, undef, undef, undef, undef, undef], defers := [] } ∧ w.heap.size + 1 < px ∧ W.heap[px]? = some (.cells #[.int .i64 (x.1 : Int), .int .i64 (tgN (rkAt R x.1) : Nat), .int .i64 (kdN (rkAt R x.1) : Nat)] 24 (0, 0)))
    (by
      rintro x a' _ X Y row ⟨px, h1, h2, h3⟩ hg hr
      refine ⟨px, h1, h2, (hg.5 px (blk_lt h3) fun e => ?_).trans h3⟩
      obtain ⟨_, o, ho, hc⟩ := hr px e.symm
      rw [h3] at ho; cases ho; cases hc)
  case hassign =>
    intro l pre x W K hI hK
    have HK := Lib.hid hK
    have HI := Lib.hid hI
    have hlw := blk_lt hI.s.choose_spec.1
    clear hK hI
    have hal := (Below.refl W.heap.size W).alloc (Nat.le_refl _) (.cells #[.int .i64 (x.1 : Int), .int .i64 (tgN (rkAt R x.1) : Nat), .int .i64 (kdN (rkAt R x.1) : Nat)] 24)
    have HIW := Lib.hid (HI.out.below hal)
    have HX := Lib.hid (blk_new W (.cells #[.int .i64 (x.1 : Int), .int .i64 (tgN (rkAt R x.1) : Nat), .int .i64 (kdN (rkAt R x.1) : Nat)] 24))
    have HAL := Lib.hid hal
    clear hal
    gi_wp2
    exact HK.out _ _ ((KeepsOthers.from ⟨HAL.out.size, fun k o hk _ => blk_below' HAL.out hk⟩ _)) ⟨fun o ho => blk_below' HAL.out ho, fun o ho => blk_below' HAL.out ho⟩ HIW.out ⟨W.heap.size, rfl, hlw, HX.out⟩
  case hbody =>
    rintro l pre ⟨i, hi⟩ a' Wb hl hlr hI ⟨px, rfl, hpx, hxb⟩ hlen
    have k0 := blk_cell hxb 0
    have k2 := blk_cell hxb 2
    have HI2 := Lib.hid hI
    dsimp only at k0 k2
    by_cases hk : kdN (rkAt R i) = 2
    · have c2 : (((kdN (rkAt R i) : Nat) : Int) == 2) = true := by simp; omega
      have HKD := Lib.hid hk
      have HW := Lib.hid (fun y w => with_yes y i (by have := HN.out; omega) w)
      unfold setV setC at HW
      clear hI hk hlen hxb
      obtain ⟨y, hy, hys⟩ := HI2.out.s
      obtain ⟨q0, q1, q2, q3, f0, f1, f2, f3⟩ := set_cells hy
      have HYS := Lib.hid hys
      clear hy hys
      dsimp only
      generalize ((kdN (rkAt R i) : Nat) : Int) = K at *
      generalize ((tgN (rkAt R i) : Nat) : Int) = T at *
      gi_wp2_with (first
        | (refine ⟨trivial, ?_⟩; gi_at_call 39; refine (CallsIn.inRound l (callsIn_wide.2 (HW.out y _))).mono ?_; rintro e W1 ⟨rfl, hB1⟩; have HI3 := Lib.hid (HI2.out.below hB1); obtain ⟨y2, hy2, _⟩ := HI3.out.s; obtain ⟨_, _, _, _, f0, f1, f2, f3⟩ := set_cells hy2))
      have hcl := blk_lt hy2
      have hg := Lib.hid (but_set (but_set (but_set (but_set (but_refl W1 (some (w.heap.size + 1))) hcl 0 (.int .u32 (sw (y % 2 ^ 100 ||| 2 ^ i) 0 : Nat))) hcl 1 (.int .u32 (sw (y % 2 ^ 100 ||| 2 ^ i) 1 : Nat))) hcl 2 (.int .u32 (sw (y % 2 ^ 100 ||| 2 ^ i) 2 : Nat))) hcl 3 (.int .u32 (sw (y % 2 ^ 100 ||| 2 ^ i) 3 : Nat)))
      have hs := Lib.hid (blk_store (blk_store (blk_store (blk_store hy2 0 (.int .u32 (sw (y % 2 ^ 100 ||| 2 ^ i) 0 : Nat))) 1 (.int .u32 (sw (y % 2 ^ 100 ||| 2 ^ i) 1 : Nat))) 2 (.int .u32 (sw (y % 2 ^ 100 ||| 2 ^ i) 2 : Nat))) 3 (.int .u32 (sw (y % 2 ^ 100 ||| 2 ^ i) 3 : Nat)))
      have HI4 := HI3.out.put (z := y % 2 ^ 100 ||| 2 ^ i) hg.out (by have := hs.out; simpa [setC] using this) (susB_with HYS.out HKD.out) HNE.out
      have hk1 : Keep2 Bs gg Wb W1 := ⟨fun o ho => blk_below' hB1 ho, fun o ho => blk_below' hB1 ho⟩
      exact ⟨KeepsFrom.trans (KeepsOthers.from ⟨hB1.size, fun k o hk _ => blk_below' hB1 hk⟩ _) (KeepsOthers.from (sui_keeps hg.out hy2) _), hk1.trans ⟨fun o ho => (hg.out.5 _ HI3.out.all.lt.1 (by have := HNE.out; simp; omega)).trans ho, fun o ho => (hg.out.5 _ HI3.out.all.lt.2 (by have := HNE.out; simp; omega)).trans ho⟩, HI4⟩
    · have c2 : (((kdN (rkAt R i) : Nat) : Int) == 2) = false := by simp; omega
      clear hI hk hlen hxb
      dsimp only
      generalize ((kdN (rkAt R i) : Nat) : Int) = K at *
      generalize ((tgN (rkAt R i) : Nat) : Int) = T at *
      gi_wp2
      exact ⟨KeepsFrom.refl _ _, ⟨fun o ho => ho, fun o ho => ho⟩, HI2.out⟩
  case hdone =>
    rintro D ys Wb hD hys hI hK
    obtain ⟨y, hy, hys2⟩ := hI.s
    obtain ⟨q0, q1, q2, q3, _⟩ := set_cells hy
    obtain ⟨u0, u1, u2, u3, f0, f1, f2, f3⟩ := set_cells hI.r
    have HL := Lib.hid hI.low
    have HYB := Lib.hid hys2
    have HKD := Lib.hid hK
    have HDl := Lib.hid hD
    have HRL := Lib.hid hI.r
    clear hI hy hys2 hK hys
    gi_wp2
    have hlt2 : w.heap.size < D := by have := HDl.out; omega
    have hr4 := blk_store (blk_store (blk_store (blk_store HRL.out 0 (.int .u32 (sw y 0 : Nat))) 1 (.int .u32 (sw y 1 : Nat))) 2 (.int .u32 (sw y 2 : Nat))) 3 (.int .u32 (sw y 3 : Nat))
    have hr5 : ((((Wb.setCell ⟨w.heap.size, 0, none⟩ (.int .u32 (sw y 0 : Nat))).setCell ⟨w.heap.size, 1, none⟩ (.int .u32 (sw y 1 : Nat))).setCell ⟨w.heap.size, 2, none⟩ (.int .u32 (sw y 2 : Nat))).setCell ⟨w.heap.size, 3, none⟩ (.int .u32 (sw y 3 : Nat))).heap[w.heap.size]? = some (.cells (setC y) 59 (0, 0)) := by simpa [setC] using hr4
    have hK' := blk_set (blk_set (blk_set (blk_set HKD.out ⟨w.heap.size, 0, none⟩ (.int .u32 (sw y 0 : Nat)) (by simp; omega)) ⟨w.heap.size, 1, none⟩ (.int .u32 (sw y 1 : Nat)) (by simp; omega)) ⟨w.heap.size, 2, none⟩ (.int .u32 (sw y 2 : Nat)) (by simp; omega)) ⟨w.heap.size, 3, none⟩ (.int .u32 (sw y 3 : Nat)) (by simp; omega)
    have hb4 := (((HL.out.setCell (p := ⟨w.heap.size, 0, none⟩) (Nat.le_refl _) (.int .u32 (sw y 0 : Nat))).setCell (p := ⟨w.heap.size, 1, none⟩) (Nat.le_refl _) (.int .u32 (sw y 1 : Nat))).setCell (p := ⟨w.heap.size, 2, none⟩) (Nat.le_refl _) (.int .u32 (sw y 2 : Nat))).setCell (p := ⟨w.heap.size, 3, none⟩) (Nat.le_refl _) (.int .u32 (sw y 3 : Nat))
    clear hr4
    generalize (((Wb.setCell _ _).setCell _ _).setCell _ _).setCell _ _ = WX at *
    refine ⟨by simp, .inl ⟨_, _, rfl, run_takeDeferred hK', ?_⟩⟩
    obtain ⟨v0, v1, v2, v3, _⟩ := set_cells (blk_put hr5 (D := D) (by omega) (.deferred none))
    refine ⟨.agg (setC y), ?_, ⟨y, rfl, HYB.out, hb4.trans (belowK_b (w := w) (Nat.le_refl _) _ D _ _ (by omega) hK' rfl rfl)⟩⟩
    unfold setC
    simp [results, Tryd.results27, go_sem, v0, v1, v2, v3]
  case hstop =>
    rintro D c pre W hD hSp h hK
    exact h.elim
end Go.Proofs.YtppmiggkknhdkaaDoor
namespace Go.Proofs.YtppmiggkknhdkaaDoor
set_option linter.unusedVariables false
set_option linter.unusedSimpArgs false
open Go.RowKit

def vX (n : Nat) (x : List Int) : Bool := vN (n : Int) (x.getD 0 0) (x.getD 1 0) (x.getD 2 0)
def tX (R : List Nat) (x : List Int) : List Nat := tkR R (x.getD 0 0).toNat (rkI (x.getD 1 0) (x.getD 2 0)).toNat
/-- What Merge makes of a book. -/
def mgR (R : List Nat) (xs : List (List Int)) : List Nat := if xs.all (vX R.length) then xs.foldl tX R else R
theorem tX_len (R : List Nat) (x : List Int) : (tX R x).length = R.length := tkR_len _ _ _
theorem foldX_len (xs : List (List Int)) : ∀ R : List Nat, (xs.foldl tX R).length = R.length := by
  induction xs with
  | nil => intro R; rfl
  | cons x xs ih => intro R; rw [List.foldl_cons, ih, tX_len]
theorem mgR_len (R : List Nat) (xs : List (List Int)) : (mgR R xs).length = R.length := by unfold mgR; split; exact foldX_len _ _; rfl
theorem take_succ3 {xs : List (List Int)} {k : Nat} {x : List Int} (h : xs[k]? = some x) : xs.take (k + 1) = xs.take k ++ [x] := by rw [List.take_add_one, h]; rfl

/-- What is known in Merge's first loop. -/
structure MgA (w : World) (B g cp : Nat) (R : List Nat) (W : World) : Prop where
  box : W.heap[w.heap.size]? = some (.cells #[.pointer (some ⟨B, 0, none⟩)] 22 (0, 0))
  res : W.heap[w.heap.size + 1]? = some (.cells (setC 0) 59 (0, 0))
  book : Tb W B g cp R
  low : w.grownBy W (some g)
  lt : B < w.heap.size ∧ g < w.heap.size
theorem MgA.below {w W X : World} {B g cp : Nat} {R : List Nat} (h : MgA w B g cp R W) (hb : Below W.heap.size W X) : MgA w B g cp R X :=
  ⟨blk_below' hb h.box, blk_below' hb h.res, h.book.below hb, but_then h.low (but_below hb _), h.lt⟩
theorem MgA.chg {w W X : World} {B g cp cx : Nat} {R R' : List Nat} (h : MgA w B g cp R W) (hc : Ch2 W X g cx) (hT : Tb X B g cp R') (hcx : w.heap.size + 1 < cx) : MgA w B g cp R' X :=
  ⟨hc.blk h.box (by have := h.lt; omega) (by omega), hc.blk h.res (by have := h.lt; omega) (by omega), hT,
    ⟨hc.os.trans h.low.1, hc.tape.trans h.low.2, hc.output.trans h.low.3, Nat.le_trans h.low.4 hc.size, fun k hk hne => (hc.block k (Nat.lt_of_lt_of_le hk h.low.4) (by simpa using hne) (by omega)).trans (h.low.5 k hk hne)⟩, h.lt⟩
theorem MgA.res4 {w W : World} {B g cp : Nat} {R : List Nat} (h : MgA w B g cp R W) (a b c d : Value) : W.grownBy ((((W.setCell ⟨w.heap.size + 1, 0, none⟩ a).setCell ⟨w.heap.size + 1, 1, none⟩ b).setCell ⟨w.heap.size + 1, 2, none⟩ c).setCell ⟨w.heap.size + 1, 3, none⟩ d) (some (w.heap.size + 1)) := by
  have hl := blk_lt h.res
  exact but_set (but_set (but_set (but_set (but_refl W _) hl _ _) hl _ _) hl _ _) hl _ _
theorem res_keep {w W : World} {B g cp : Nat} {R : List Nat} (h : MgA w B g cp R W) (a b c d : Value) : Tb ((((W.setCell ⟨w.heap.size + 1, 0, none⟩ a).setCell ⟨w.heap.size + 1, 1, none⟩ b).setCell ⟨w.heap.size + 1, 2, none⟩ c).setCell ⟨w.heap.size + 1, 3, none⟩ d) B g cp R :=
  h.book.other (h.res4 a b c d) (by have := h.lt; omega) (by have := h.lt; omega)
theorem res_keep' {w W : World} {B g cp : Nat} {R : List Nat} (h : MgA w B g cp R W) (a b c d : Value) : w.grownBy ((((W.setCell ⟨w.heap.size + 1, 0, none⟩ a).setCell ⟨w.heap.size + 1, 1, none⟩ b).setCell ⟨w.heap.size + 1, 2, none⟩ c).setCell ⟨w.heap.size + 1, 3, none⟩ d) (some g) := by
  obtain ⟨h1, h2, h3, h4, h5⟩ := h.res4 a b c d
  exact ⟨h1.trans h.low.1, h2.trans h.low.2, h3.trans h.low.3, Nat.le_trans h.low.4 h4, fun k hk hne => (h5 k (Nat.lt_of_lt_of_le hk h.low.4) (by simp; omega)).trans (h.low.5 k hk hne)⟩
/-- A box with a notice beside. -/
structure MgB (w : World) (B g cp : Nat) (R : List Nat) (p : Nat) (o t k : Int) (W : World) : Prop where
  a : MgA w B g cp R W
  x : W.heap[p]? = some (.cells #[.int .i64 o, .int .i64 t, .int .i64 k] 24 (0, 0))
theorem MgB.below {w W X : World} {B g cp p : Nat} {R : List Nat} {o t k : Int} (h : MgB w B g cp R p o t k W) (hb : Below W.heap.size W X) : MgB w B g cp R p o t k X := ⟨h.a.below hb, blk_below' hb h.x⟩
def Mb4 (b p B : Nat) (o t k : Int) (W : World) : Prop := W.cell? ⟨b, 0, none⟩ = some (.pointer (some ⟨B, 0, none⟩)) ∧ Bx3 p o t k W
theorem MgB.c4 {w W : World} {B g cp p : Nat} {R : List Nat} {o t k : Int} (h : MgB w B g cp R p o t k W) : Mb4 w.heap.size p B o t k W := ⟨blk_cell h.a.box 0, blk_cell h.x 0, blk_cell h.x 1, blk_cell h.x 2⟩
theorem MgB.frees {w W : World} {B g cp p : Nat} {R : List Nat} {o t k : Int} (h : MgB w B g cp R p o t k W) : W.frozen? ⟨p, 0, none⟩ = false ∧ W.frozen? ⟨p, 1, none⟩ = false ∧ W.frozen? ⟨p, 2, none⟩ = false := ⟨blk_free h.x _, blk_free h.x _, blk_free h.x _⟩
set_option maxRecDepth 100000 in
set_option maxHeartbeats 1000000 in
theorem merge_any {w : World} {B g cp : Nat} {R : List Nat} (v : Value) (xs : List (List Int)) (h : Tb w B g cp R) (hrow : ∀ W, w.grownBy W (some g) → RowsOf W 3 v xs) :
    Calls Tryd.prog 21 #[.pointer (some ⟨B, 0, none⟩), v] w fun e w' => (∃ (y : Nat) (er : Int), e = .returned (.tuple #[setV y, .int .i64 er])) ∧ Tb w' B g cp (mgR R xs) ∧ w.grownBy w' (some g) := by
  have HRW := Lib.hid hrow
  obtain ⟨p, cap, rfl, hm1, hm2, _⟩ := hrow w (but_refl _ _)
  have hmax : xs.length ≤ 9223372036854775807 := by unfold maxLen at hm2; omega
  clear hm1 hm2
  have hA : MgA w B g cp R ((w.alloc (.cells #[.pointer (some ⟨B, 0, none⟩)] 22)).alloc (.cells (setC 0) 59)) := by
    have hb := ((Below.refl w.heap.size w).alloc (Nat.le_refl _) (.cells #[.pointer (some ⟨B, 0, none⟩)] 22)).alloc (by simp) (.cells (setC 0) 59)
    exact ⟨blk_old (blk_new w _) _, b1 w _ _, h.below hb, but_below hb _, h.lt⟩
  have hn := h.n
  rw [← setC_zero] at hA
  clear h hrow
  go_enter Tryd.func21, Tryd.ntmps21
  go_wp2_with fail
  generalize (w.alloc (.cells #[.pointer (some ⟨B, 0, none⟩)] 22)).alloc _ = W0 at *
  go_loopw [14] (fun iv wr => ∃ k : Nat, iv = .int .i64 k ∧ k ≤ xs.length ∧ (xs.take k).all (vX R.length) = true ∧ MgA w B g cp R wr) (fun iv _ => xs.length - (intOf iv).toNat)
  case atStart => exact ⟨0, rfl, by omega, rfl, hA⟩
  case round =>
    obtain ⟨k, rfl, hk, hall, hM⟩ := hrel
    clear hA
    by_cases hlt : k < xs.length
    · obtain ⟨o, t, d, gx, ox, cap', hx, hv, r0, r1, r2⟩ := rows3 (HRW.out _ hM.low) hlt
      injection hv with hv1 hv2 hv3
      subst hv1 hv3
      have i1 : (k : Int) < (xs.length : Int) := by omega
      have i2 : (0 : Int) ≤ (k : Int) := by omega
      have i3 : (k : Int).toNat = k := Int.toNat_natCast k
      have HM := Lib.hid (show MgB w B g cp R wr.heap.size o t d (wr.alloc (.cells #[.int .i64 o, .int .i64 t, .int .i64 d] 24)) from ⟨hM.below ((Below.refl _ _).alloc (Nat.le_refl _) _), blk_new wr _⟩)
      have HX := Lib.hid hx
      have HALL := Lib.hid hall
      clear hM hx hall
      have HV := Lib.hid (fun w => valid_any (R.length : Int) o t d w)
      unfold nV at HV
      have HZ : Hid (∀ W, Tb W B g cp R → Calls Tryd.prog 33 #[.pointer (some ⟨B, 0, none⟩)] W fun e w' => e = .returned (.int .i64 (R.length : Int)) ∧ w' = W) := Lib.hid fun W hW => size_any hW
      go_upto_region 4 with fail
      clear r0 r1 r2
      generalize World.alloc wr _ = W1 at *
      refine wp_region_early (Mb4 w.heap.size wr.heap.size B o t d) (fun _ => false) (by kernel_rfl) ?_
      simp only [List.size_toArray, List.length_cons, List.length_nil, Nat.reduceAdd, Array.replicate_succ, Array.replicate_zero, List.push_toArray, List.nil_append, List.cons_append]
      have HM := Lib.hid (HM.out.below ((Below.refl _ W1).drew))
      generalize World.drew W1 = W2 at *
      have hSS := HM.out.c4
      refine wpAnyE_take (i := 0) (v := ?_) rfl (by kernel_rfl) (by kernel_rfl) (by kernel_rfl) (by kernel_rfl) (fun _ _ _ h => h) (Or.inl ⟨by rfl, ?_⟩) hSS ?_
      rotate_left
      · intro w hSw
        obtain ⟨j0, j1, j2, j3⟩ := hSw
        go_simp
        all_goals with_reducible rfl
      simp only [Act.put, List.setIfInBounds_toArray, List.set_cons_zero, List.set_cons_succ, List.getElem_toArray, List.getElem_cons_zero, List.getElem_cons_succ]
      refine wpAnyE_take (i := 2) (v := ?_) rfl (by kernel_rfl) (by kernel_rfl) (by kernel_rfl) (by kernel_rfl) (fun _ _ _ h => h) (Or.inl ⟨by rfl, ?_⟩) hSS ?_
      rotate_left
      · intro w hSw
        obtain ⟨j0, j1, j2, j3⟩ := hSw
        go_simp
        all_goals with_reducible rfl
      simp only [Act.put, List.setIfInBounds_toArray, List.set_cons_zero, List.set_cons_succ, List.getElem_toArray, List.getElem_cons_zero, List.getElem_cons_succ]
      refine wpAnyE_one (i := 1) (by kernel_rfl) rfl ?_
      change wpList _ _ (Exit.then _ _) [_] _ _
      try simp only [List.setIfInBounds_toArray, List.set_cons_zero, List.set_cons_succ, List.getElem_toArray, List.getElem_cons_zero, List.getElem_cons_succ]
      go_wp2_with (go_at_call 33; refine (HZ.out _ HM.out.a.book).mono ?_; rintro e w1 ⟨rfl, rfl⟩)
      refine ⟨fun _ => hSS, ?_⟩
      try simp only [List.setIfInBounds_toArray, List.set_cons_zero, List.set_cons_succ, List.getElem_toArray, List.getElem_cons_zero, List.getElem_cons_succ]
      refine wpAnyE_one (i := 3) (by kernel_rfl) rfl ?_
      change wpList _ _ (Exit.then _ _) [_] _ _
      try simp only [List.setIfInBounds_toArray, List.set_cons_zero, List.set_cons_succ, List.getElem_toArray, List.getElem_cons_zero, List.getElem_cons_succ]
      cases hv : vN (R.length : Int) o t d with
      | true =>
        rw [hv] at HV
        have HALL2 := Lib.hid (show (xs.take (k + 1)).all (vX R.length) = true by rw [take_succ3 HX.out, List.all_append, HALL.out]; simp [vX, hv])
        clear hv
        go_wp2_with (go_at_call 31; refine (HV.out _).mono ?_; rintro e w2 ⟨rfl, hB⟩)
        have HM := Lib.hid (HM.out.below hB)
        clear hB hSS
        have hSS := HM.out.c4
        refine ⟨fun _ => hSS, ?_⟩
        try simp only [List.setIfInBounds_toArray, List.set_cons_zero, List.set_cons_succ, List.getElem_toArray, List.getElem_cons_zero, List.getElem_cons_succ]
        refine wpAnyE_take (i := 4) (v := ?_) rfl (by kernel_rfl) (by kernel_rfl) (by kernel_rfl) (by kernel_rfl) (fun _ _ _ h => h) (Or.inl ⟨by rfl, ?_⟩) hSS ?_
        rotate_left
        · intro w hSw
          obtain ⟨j0, j1, j2, j3⟩ := hSw
          go_simp
          all_goals with_reducible rfl
        simp only [Act.put, List.setIfInBounds_toArray, List.set_cons_zero, List.set_cons_succ, List.getElem_toArray, List.getElem_cons_zero, List.getElem_cons_succ]
        refine wpAnyE_end (by kernel_rfl) ?_
        go_wp2_with fail
        go_roundw
        case rel => exact ⟨k + 1, by go_num, by omega, HALL2.out, HM.out.a⟩
        case measure => simp [intOf]; omega
      | false =>
        rw [hv] at HV
        have HALL2 := Lib.hid (show ¬ (xs.all (vX R.length) = true) by
          intro hh
          have := List.all_eq_true.1 hh _ (List.mem_of_getElem? HX.out)
          rw [show vX R.length [o, t, d] = vN (R.length : Int) o t d from rfl, hv] at this
          cases this)
        clear hv
        go_wp2_with (go_at_call 31; refine (HV.out _).mono ?_; rintro e w2 ⟨rfl, hB⟩)
        have HM := Lib.hid (HM.out.below hB)
        clear hB hSS
        have hSS := HM.out.c4
        refine ⟨fun _ => hSS, ?_⟩
        try simp only [List.setIfInBounds_toArray, List.set_cons_zero, List.set_cons_succ, List.getElem_toArray, List.getElem_cons_zero, List.getElem_cons_succ]
        refine wpAnyE_take (i := 4) (v := ?_) rfl (by kernel_rfl) (by kernel_rfl) (by kernel_rfl) (by kernel_rfl) (fun _ _ _ h => h) (Or.inl ⟨by rfl, ?_⟩) hSS ?_
        rotate_left
        · intro w hSw
          obtain ⟨j0, j1, j2, j3⟩ := hSw
          go_simp
          all_goals with_reducible rfl
        simp only [Act.put, List.setIfInBounds_toArray, List.set_cons_zero, List.set_cons_succ, List.getElem_toArray, List.getElem_cons_zero, List.getElem_cons_succ]
        refine wpAnyE_end (by kernel_rfl) ?_
        have e0 := HM.out.a.res
        obtain ⟨q0, q1, q2, q3, f0, f1, f2, f3⟩ := set_cells e0
        clear e0
        go_wp2_with fail
        have hb4 := fun (W : World) (hW : w.grownBy W (some g)) => W
        refine bodyPost_ret (v := .tuple #[.agg (setC 0), .int .i64 50]) ?_ rfl ?_
        · rw [← setC_zero]
          simp [results, Tryd.results21, go_sem, q0, q1, q2, q3]
        · have hz : w2.heap.size ≥ w.heap.size + 2 := by have := blk_lt HM.out.a.res; omega
          have hh := HM.out.a
          refine ⟨⟨0, 50, rfl⟩, ?_, ?_⟩
          · rw [show mgR R xs = R from if_neg HALL2.out]
            exact res_keep hh _ _ _ _
          · exact res_keep' hh _ _ _ _
    · have HR := Lib.hid (show mgR R xs = xs.foldl tX R by
        unfold mgR; rw [if_pos]
        rw [List.take_of_length_le (by omega)] at hall; exact hall)
      obtain rfl : k = xs.length := by omega
      have HALL := Lib.hid (show xs.all (vX R.length) = true by rw [List.take_of_length_le (Nat.le_refl _)] at hall; exact hall)
      have i1 : ¬ (xs.length : Int) < (xs.length : Int) := by omega
      clear hall hlt hk
      have hmf : ∀ (fn : Fn) (first cap : Array Value) (w : World), (Instr.makeFunc fn first cap).run Tryd.prog w = .ok (.func fn first cap) w := fun _ _ _ _ => rfl
      go_upto_region 9 with fail
      obtain ⟨cx, hcx⟩ : ∃ cx, wr.heap.size = cx := ⟨_, rfl⟩
      have hM2 : MgA w B g cp R (wr.alloc (.cells (setC 0) 59)) := hM.below ((Below.refl _ _).alloc (Nat.le_refl _) _)
      have hC2 : (wr.alloc (.cells (setC 0) 59)).heap[cx]? = some (.cells (setC 0) 59 (0, 0)) := by rw [← hcx]; exact blk_new wr _
      have HCX := Lib.hid (show w.heap.size + 1 < cx by have := blk_lt hM.res; omega)
      rw [← setC_zero] at hM2 hC2
      rw [hcx]
      clear hM hcx
      generalize World.alloc wr _ = W1 at *
      go_wp2_with fail
      go_loopw [28] (fun iv wr => ∃ (k y : Nat), iv = .int .i64 k ∧ k ≤ xs.length ∧ MgA w B g cp ((xs.take k).foldl tX R) wr ∧ wr.heap[cx]? = some (.cells (setC y) 59 (0, 0))) (fun iv _ => xs.length - (intOf iv).toNat)
      case atStart => exact ⟨0, 0, rfl, by omega, hM2, by have := hC2; rwa [setC_zero] at this⟩
      case round =>
        obtain ⟨k, y, rfl, hk, hM, hC⟩ := hrel
        clear hM2 hC2
        by_cases hlt : k < xs.length
        · obtain ⟨o, t, d, gx, ox, cap', hx, hv, r0, r1, r2⟩ := rows3 (HRW.out _ hM.low) hlt
          injection hv with hv1 hv2 hv3
          subst hv1 hv3
          have i1 : (k : Int) < (xs.length : Int) := by omega
          have i2 : (0 : Int) ≤ (k : Int) := by omega
          have i3 : (k : Int).toNat = k := Int.toNat_natCast k
          have hvx : vN (R.length : Int) o t d = true := by
            have := List.all_eq_true.1 HALL.out _ (List.mem_of_getElem? hx)
            exact this
          obtain ⟨i, r, rfl, rfl, rfl, hi, hr, _⟩ := vN_nat hvx
          have HT := Lib.hid (show (xs.take (k + 1)).foldl tX R = tkR ((xs.take k).foldl tX R) i r by
            rw [take_succ3 hx, List.foldl_append]
            show tkR _ (i : Int).toNat (rkI (tgN r : Nat) (kdN r : Nat)).toNat = _
            rw [rkI_nat hr, Int.toNat_natCast, Int.toNat_natCast])
          have HRL := Lib.hid (foldX_len (xs.take k) R)
          generalize (xs.take k).foldl tX R = S at *
          have hi2 : i < S.length := by have := HRL.out; omega
          have HI2 := Lib.hid hi2
          have HR2 := Lib.hid hr
          have HM := Lib.hid hM
          have HC := Lib.hid hC
          clear hM hC hx hvx hi hr hi2
          go_upto_region 12 with fail
          have HB : Hid (MgB w B g cp S wr.heap.size (i : Int) (tgN r : Nat) (kdN r : Nat) (wr.alloc (.cells #[.int .i64 (i : Int), .int .i64 (tgN r : Nat), .int .i64 (kdN r : Nat)] 24))) := Lib.hid ⟨HM.out.below ((Below.refl _ _).alloc (Nat.le_refl _) _), blk_new wr _⟩
          have HC := Lib.hid (blk_old HC.out (.cells #[.int .i64 (i : Int), .int .i64 (tgN r : Nat), .int .i64 (kdN r : Nat)] 24))
          clear HM r0 r1 r2
          generalize World.alloc wr _ = W3 at *
          obtain ⟨m0, m1, m2, m3⟩ := HB.out.c4
          go_wp2_with fail
          have HN : Hid (w.heap.size ≠ g ∧ w.heap.size ≠ cx ∧ cx ≠ g ∧ cx ≠ B) := by have := HB.out.a.lt; have := HCX.out; exact Lib.hid ⟨by omega, by omega, by omega, by omega⟩
          refine (merge1_any i r w.heap.size cx y HB.out.a.book HB.out.a.box HC.out HN.out HI2.out HR2.out).mono ?_
          rintro e w5 ⟨rfl, hT5, ⟨y5, hC5⟩, hch⟩
          have HA := Lib.hid (HB.out.a.chg hch hT5 HCX.out)
          rw [← HT.out] at HA
          have HC := Lib.hid hC5
          clear hT5 hch hC5 m0 m1 m2 m3
          go_wp2_with fail
          go_roundw
          case rel => exact ⟨k + 1, y5, by go_num, by omega, HA.out, HC.out⟩
          case measure => simp [intOf]; omega
        · obtain rfl : k = xs.length := by omega
          rw [List.take_of_length_le (Nat.le_refl _), ← HR.out] at hM
          have i1 : ¬ (xs.length : Int) < (xs.length : Int) := by omega
          obtain ⟨q0, q1, q2, q3, _⟩ := set_cells hC
          obtain ⟨u0, u1, u2, u3, f0, f1, f2, f3⟩ := set_cells hM.res
          have HM := Lib.hid hM
          clear hM hC hlt hk
          go_wp2_with fail
          refine bodyPost_ret (v := .tuple #[.agg (setC y), .int .i64 0]) ?_ rfl ⟨⟨y, 0, rfl⟩, res_keep HM.out _ _ _ _, res_keep' HM.out _ _ _ _⟩
          simp [results, Tryd.results21, go_sem, setC, q0, q1, q2, q3, u0, u1, u2, u3]
end Go.Proofs.YtppmiggkknhdkaaDoor
namespace Go.Proofs.YtppmiggkknhdkaaDoor
set_option linter.unusedVariables false
set_option linter.unusedSimpArgs false
open Go.RowKit

theorem refFresh_any (o : Int) (w : World) :
    Calls Tryd.prog 37 #[.int .i64 o] w fun e w' => e = .returned (nV o 0 1) ∧ Below w.heap.size w w' := by
  unfold nV
  go_enter Tryd.func37, Tryd.ntmps37
  go_wp2_with fail
  have h0 := blk_new w (.cells #[.int .i64 o, .int .i64 0, .int .i64 1] 24)
  exact bodyPost_ret (v := .agg #[.int .i64 o, .int .i64 0, .int .i64 1]) (results_cell_row rfl _ _ w.heap.size _ _ _ _ rfl h0 Tryd.underlying24 rfl (by kernel_rfl)) rfl ⟨rfl, (Below.refl _ _).alloc (Nat.le_refl _) _⟩
theorem refValid_any (n o t k : Int) (w : World) :
    Calls Tryd.prog 40 #[.int .i64 n, nV o t k] w fun e w' => e = .returned (.bool (vN n o t k)) ∧ Below w.heap.size w w' := by
  unfold nV
  by_cases h1 : n < 1
  · skip
    have hv : vN n o t k = false := decide_eq_false (by omega)
    rw [hv]
    clear hv
    go_enter Tryd.func40, Tryd.ntmps40
    go_wp2_with fail
    go_ret
    exact ⟨rfl, (Below.refl _ _).alloc (Nat.le_refl _) _⟩
  by_cases h2 : 100 < n
  · skip
    have hv : vN n o t k = false := decide_eq_false (by omega)
    rw [hv]
    clear hv
    have d1 : 1 ≤ n := by omega
    clear h1
    go_enter Tryd.func40, Tryd.ntmps40
    go_wp2_with fail
    go_ret
    exact ⟨rfl, (Below.refl _ _).alloc (Nat.le_refl _) _⟩
  by_cases h3 : o < 0
  · skip
    have hv : vN n o t k = false := decide_eq_false (by omega)
    rw [hv]
    clear hv
    have d1 : 1 ≤ n := by omega
    have d2 : n ≤ 100 := by omega
    clear h1 h2
    go_enter Tryd.func40, Tryd.ntmps40
    go_wp2_with fail
    go_ret
    exact ⟨rfl, (Below.refl _ _).alloc (Nat.le_refl _) _⟩
  by_cases h4 : n ≤ o
  · skip
    have hv : vN n o t k = false := decide_eq_false (by omega)
    rw [hv]
    clear hv
    have d1 : 1 ≤ n := by omega
    have d2 : n ≤ 100 := by omega
    have d3 : 0 ≤ o := by omega
    clear h1 h2 h3
    go_enter Tryd.func40, Tryd.ntmps40
    go_wp2_with fail
    go_ret
    exact ⟨rfl, (Below.refl _ _).alloc (Nat.le_refl _) _⟩
  by_cases h5 : t < 0
  · skip
    have hv : vN n o t k = false := decide_eq_false (by omega)
    rw [hv]
    clear hv
    have d1 : 1 ≤ n := by omega
    have d2 : n ≤ 100 := by omega
    have d3 : 0 ≤ o := by omega
    have d4 : o < n := by omega
    clear h1 h2 h3 h4
    go_enter Tryd.func40, Tryd.ntmps40
    go_wp2_with fail
    go_ret
    exact ⟨rfl, (Below.refl _ _).alloc (Nat.le_refl _) _⟩
  by_cases h6 : 1048576 < t
  · skip
    have hv : vN n o t k = false := decide_eq_false (by omega)
    rw [hv]
    clear hv
    have d1 : 1 ≤ n := by omega
    have d2 : n ≤ 100 := by omega
    have d3 : 0 ≤ o := by omega
    have d4 : o < n := by omega
    have d5 : 0 ≤ t := by omega
    clear h1 h2 h3 h4 h5
    go_enter Tryd.func40, Tryd.ntmps40
    go_wp2_with fail
    go_ret
    exact ⟨rfl, (Below.refl _ _).alloc (Nat.le_refl _) _⟩
  have d1 : 1 ≤ n := by omega
  have d2 : n ≤ 100 := by omega
  have d3 : 0 ≤ o := by omega
  have d4 : o < n := by omega
  have d5 : 0 ≤ t := by omega
  have d6 : t ≤ 1048576 := by omega
  clear h1 h2 h3 h4 h5 h6
  by_cases h7 : k = 1
  · have hv : vN n o t k = true := decide_eq_true (by omega)
    rw [hv]
    have e1 : (k == 1) = true := by simp [h7]
    clear hv h7
    go_enter Tryd.func40, Tryd.ntmps40
    go_wp2_with fail
    go_ret
    exact ⟨rfl, (Below.refl _ _).alloc (Nat.le_refl _) _⟩
  by_cases h8 : k = 2
  · have hv : vN n o t k = true := decide_eq_true (by omega)
    rw [hv]
    have e1 : (k == 1) = false := by simp [h7]
    have e2 : (k == 2) = true := by simp [h8]
    clear hv h7 h8
    go_enter Tryd.func40, Tryd.ntmps40
    go_wp2_with fail
    go_ret
    exact ⟨rfl, (Below.refl _ _).alloc (Nat.le_refl _) _⟩
  · have hv : vN n o t k = false := decide_eq_false (by omega)
    rw [hv]
    have e1 : (k == 1) = false := by simp [h7]
    have e2 : (k == 2) = false := by simp [h8]
    clear hv h7 h8
    go_enter Tryd.func40, Tryd.ntmps40
    go_wp2_with fail
    go_ret
    exact ⟨rfl, (Below.refl _ _).alloc (Nat.le_refl _) _⟩
set_option maxRecDepth 100000 in
theorem refRank_nat (o : Int) (r : Nat) (w : World) (hr : r ≤ 2097153) :
    Calls Tryd.prog 58 #[nV o (tgN r : Nat) (kdN r : Nat)] w fun e w' => e = .returned (.int .i64 (r : Int)) ∧ Below w.heap.size w w' := by
  have ht := tg_le hr
  obtain ⟨hk1, hk2⟩ := kd_le r
  have hrt : 2 * ((tgN r : Nat) : Int) + ((kdN r : Nat) : Int) - 1 = (r : Int) := by unfold tgN kdN; omega
  have d1 : ¬ ((tgN r : Nat) : Int) < 0 := by omega
  have d2 : ¬ (1048576 : Int) < ((tgN r : Nat) : Int) := by omega
  have d3 : IntKind.i64.wrap (2 * ((tgN r : Nat) : Int)) = 2 * ((tgN r : Nat) : Int) := IntWalk.i64_in _ (by omega)
  have d4 : IntKind.i64.wrap (2 * ((tgN r : Nat) : Int) + ((kdN r : Nat) : Int)) = 2 * ((tgN r : Nat) : Int) + ((kdN r : Nat) : Int) := IntWalk.i64_in _ (by omega)
  have d5 : IntKind.i64.wrap (2 * ((tgN r : Nat) : Int) + ((kdN r : Nat) : Int) - 1) = 2 * ((tgN r : Nat) : Int) + ((kdN r : Nat) : Int) - 1 := IntWalk.i64_in _ (by omega)
  have d6 : ((((kdN r : Nat) : Int) != 1) = true ∧ (((kdN r : Nat) : Int) != 2) = false) ∨ (((kdN r : Nat) : Int) != 1) = false := by
    by_cases h : kdN r = 1
    · exact .inr (by simp; omega)
    · exact .inl ⟨by simp; omega, by simp; omega⟩
  unfold nV
  rw [← hrt]
  generalize ((tgN r : Nat) : Int) = T at *
  generalize ((kdN r : Nat) : Int) = K at *
  clear hr ht hk1 hk2 hrt
  rcases d6 with ⟨e1, e2⟩ | e1
  · go_enter Tryd.func58, Tryd.ntmps58
    go_wp2_with fail
    go_ret
    exact ⟨rfl, (Below.refl _ _).alloc (Nat.le_refl _) _⟩
  · go_enter Tryd.func58, Tryd.ntmps58
    go_wp2_with fail
    go_ret
    exact ⟨rfl, (Below.refl _ _).alloc (Nat.le_refl _) _⟩
set_option maxRecDepth 100000 in
theorem refBeats_nat (i r q : Nat) (hr : r ≤ 2097153) (hq : q ≤ 2097153) (w : World) :
    Calls Tryd.prog 42 #[nV (i : Int) (tgN r : Nat) (kdN r : Nat), nV (i : Int) (tgN q : Nat) (kdN q : Nat)] w fun e w' => e = .returned (.bool (decide (q < r))) ∧ Below w.heap.size w w' := by
  have HR : Hid (∀ (o : Int) (r : Nat) (w : World), r ≤ 2097153 → Calls Tryd.prog 58 #[.agg #[.int .i64 o, .int .i64 (tgN r : Nat), .int .i64 (kdN r : Nat)]] w fun e w' => e = .returned (.int .i64 (r : Int)) ∧ Below w.heap.size w w') := Lib.hid refRank_nat
  unfold nV
  go_enter Tryd.func42, Tryd.ntmps42
  go_upto_region 1 with fail
  have hk := (Bx2.new w (.cells #[.int .i64 (i : Int), .int .i64 (tgN r : Nat), .int .i64 (kdN r : Nat)] 24) (.cells #[.int .i64 (i : Int), .int .i64 (tgN q : Nat), .int .i64 (kdN q : Nat)] 24)).drew
  refine wp_region_early (Six w i r q) (fun _ => false) (by kernel_rfl) ?_
  simp only [List.size_toArray, List.length_cons, List.length_nil, Nat.reduceAdd, Array.replicate_succ, Array.replicate_zero, List.push_toArray, List.nil_append, List.cons_append]
  generalize World.drew _ = W at *
  have hSS := Bx2.six hk.cells
  refine wpAnyE_take (i := 0) (v := ?_) rfl (by kernel_rfl) (by kernel_rfl) (by kernel_rfl) (by kernel_rfl) (fun _ _ _ h => h) (Or.inl ⟨by rfl, ?_⟩) hSS ?_
  rotate_left
  · intro w hSw
    obtain ⟨⟨j0, j1, j2⟩, ⟨j3, j4, j5⟩, _⟩ := hSw
    go_simp
    all_goals with_reducible rfl
  simp only [Act.put, List.setIfInBounds_toArray, List.set_cons_zero, List.set_cons_succ, List.getElem_toArray, List.getElem_cons_zero, List.getElem_cons_succ]
  refine wpAnyE_take (i := 1) (v := ?_) rfl (by kernel_rfl) (by kernel_rfl) (by kernel_rfl) (by kernel_rfl) (fun _ _ _ h => h) (Or.inl ⟨by rfl, ?_⟩) hSS ?_
  rotate_left
  · intro w hSw
    obtain ⟨⟨j0, j1, j2⟩, ⟨j3, j4, j5⟩, _⟩ := hSw
    go_simp
    all_goals with_reducible rfl
  simp only [Act.put, List.setIfInBounds_toArray, List.set_cons_zero, List.set_cons_succ, List.getElem_toArray, List.getElem_cons_zero, List.getElem_cons_succ]
  refine wpAnyE_take (i := 2) (v := ?_) rfl (by kernel_rfl) (by kernel_rfl) (by kernel_rfl) (by kernel_rfl) (fun _ _ _ h => h) (Or.inl ⟨by rfl, ?_⟩) hSS ?_
  rotate_left
  · intro w hSw
    obtain ⟨⟨j0, j1, j2⟩, ⟨j3, j4, j5⟩, _⟩ := hSw
    go_simp
    all_goals with_reducible rfl
  simp only [Act.put, List.setIfInBounds_toArray, List.set_cons_zero, List.set_cons_succ, List.getElem_toArray, List.getElem_cons_zero, List.getElem_cons_succ]
  refine wpAnyE_take (i := 3) (v := ?_) rfl (by kernel_rfl) (by kernel_rfl) (by kernel_rfl) (by kernel_rfl) (fun _ _ _ h => h) (Or.inl ⟨by rfl, ?_⟩) hSS ?_
  rotate_left
  · intro w hSw
    obtain ⟨⟨j0, j1, j2⟩, ⟨j3, j4, j5⟩, _⟩ := hSw
    go_simp
    all_goals with_reducible rfl
  simp only [Act.put, List.setIfInBounds_toArray, List.set_cons_zero, List.set_cons_succ, List.getElem_toArray, List.getElem_cons_zero, List.getElem_cons_succ]
  refine wpAnyE_take (i := 4) (v := ?_) rfl (by kernel_rfl) (by kernel_rfl) (by kernel_rfl) (by kernel_rfl) (fun _ _ _ h => h) (Or.inl ⟨by rfl, ?_⟩) hSS ?_
  rotate_left
  · intro w hSw
    obtain ⟨⟨j0, j1, j2⟩, ⟨j3, j4, j5⟩, _⟩ := hSw
    go_simp
    all_goals with_reducible rfl
  simp only [Act.put, List.setIfInBounds_toArray, List.set_cons_zero, List.set_cons_succ, List.getElem_toArray, List.getElem_cons_zero, List.getElem_cons_succ]
  refine wpAnyE_take (i := 5) (v := ?_) rfl (by kernel_rfl) (by kernel_rfl) (by kernel_rfl) (by kernel_rfl) (fun _ _ _ h => h) (Or.inl ⟨by rfl, ?_⟩) hSS ?_
  rotate_left
  · intro w hSw
    obtain ⟨⟨j0, j1, j2⟩, ⟨j3, j4, j5⟩, _⟩ := hSw
    go_simp
    all_goals with_reducible rfl
  simp only [Act.put, List.setIfInBounds_toArray, List.set_cons_zero, List.set_cons_succ, List.getElem_toArray, List.getElem_cons_zero, List.getElem_cons_succ]
  refine wpAnyE_take (i := 6) (v := ?_) rfl (by kernel_rfl) (by kernel_rfl) (by kernel_rfl) (by kernel_rfl) (fun _ _ _ h => h) (Or.inl ⟨by rfl, ?_⟩) hSS ?_
  rotate_left
  · intro w hSw
    obtain ⟨⟨j0, j1, j2⟩, ⟨j3, j4, j5⟩, _⟩ := hSw
    go_simp
    all_goals with_reducible rfl
  simp only [Act.put, List.setIfInBounds_toArray, List.set_cons_zero, List.set_cons_succ, List.getElem_toArray, List.getElem_cons_zero, List.getElem_cons_succ]
  refine wpAnyE_one (i := 7) (by kernel_rfl) rfl ?_
  change wpList _ _ (Exit.then _ _) [_] _ _
  try simp only [List.setIfInBounds_toArray, List.set_cons_zero, List.set_cons_succ, List.getElem_toArray, List.getElem_cons_zero, List.getElem_cons_succ]
  go_wp2_with (go_at_call 58; refine (HR.out _ r _ hr).mono ?_; rintro e w1 ⟨rfl, hB⟩; have hk := hk.below hB; clear hB; have hSS := Bx2.six hk.cells)
  refine ⟨fun _ => hSS, ?_⟩
  try simp only [List.setIfInBounds_toArray, List.set_cons_zero, List.set_cons_succ, List.getElem_toArray, List.getElem_cons_zero, List.getElem_cons_succ]
  refine wpAnyE_take (i := 8) (v := ?_) rfl (by kernel_rfl) (by kernel_rfl) (by kernel_rfl) (by kernel_rfl) (fun _ _ _ h => h) (Or.inl ⟨by rfl, ?_⟩) hSS ?_
  rotate_left
  · intro w hSw
    obtain ⟨⟨j0, j1, j2⟩, ⟨j3, j4, j5⟩, _⟩ := hSw
    go_simp
    all_goals with_reducible rfl
  simp only [Act.put, List.setIfInBounds_toArray, List.set_cons_zero, List.set_cons_succ, List.getElem_toArray, List.getElem_cons_zero, List.getElem_cons_succ]
  refine wpAnyE_take (i := 9) (v := ?_) rfl (by kernel_rfl) (by kernel_rfl) (by kernel_rfl) (by kernel_rfl) (fun _ _ _ h => h) (Or.inl ⟨by rfl, ?_⟩) hSS ?_
  rotate_left
  · intro w hSw
    obtain ⟨⟨j0, j1, j2⟩, ⟨j3, j4, j5⟩, _⟩ := hSw
    go_simp
    all_goals with_reducible rfl
  simp only [Act.put, List.setIfInBounds_toArray, List.set_cons_zero, List.set_cons_succ, List.getElem_toArray, List.getElem_cons_zero, List.getElem_cons_succ]
  refine wpAnyE_take (i := 10) (v := ?_) rfl (by kernel_rfl) (by kernel_rfl) (by kernel_rfl) (by kernel_rfl) (fun _ _ _ h => h) (Or.inl ⟨by rfl, ?_⟩) hSS ?_
  rotate_left
  · intro w hSw
    obtain ⟨⟨j0, j1, j2⟩, ⟨j3, j4, j5⟩, _⟩ := hSw
    go_simp
    all_goals with_reducible rfl
  simp only [Act.put, List.setIfInBounds_toArray, List.set_cons_zero, List.set_cons_succ, List.getElem_toArray, List.getElem_cons_zero, List.getElem_cons_succ]
  refine wpAnyE_take (i := 11) (v := ?_) rfl (by kernel_rfl) (by kernel_rfl) (by kernel_rfl) (by kernel_rfl) (fun _ _ _ h => h) (Or.inl ⟨by rfl, ?_⟩) hSS ?_
  rotate_left
  · intro w hSw
    obtain ⟨⟨j0, j1, j2⟩, ⟨j3, j4, j5⟩, _⟩ := hSw
    go_simp
    all_goals with_reducible rfl
  simp only [Act.put, List.setIfInBounds_toArray, List.set_cons_zero, List.set_cons_succ, List.getElem_toArray, List.getElem_cons_zero, List.getElem_cons_succ]
  refine wpAnyE_one (i := 12) (by kernel_rfl) rfl ?_
  change wpList _ _ (Exit.then _ _) [_] _ _
  try simp only [List.setIfInBounds_toArray, List.set_cons_zero, List.set_cons_succ, List.getElem_toArray, List.getElem_cons_zero, List.getElem_cons_succ]
  go_wp2_with (go_at_call 58; refine (HR.out _ q _ hq).mono ?_; rintro e w1 ⟨rfl, hB⟩; have hk := hk.below hB; clear hB; have hSS := Bx2.six hk.cells)
  refine ⟨fun _ => hSS, ?_⟩
  try simp only [List.setIfInBounds_toArray, List.set_cons_zero, List.set_cons_succ, List.getElem_toArray, List.getElem_cons_zero, List.getElem_cons_succ]
  refine wpAnyE_take (i := 13) (v := ?_) rfl (by kernel_rfl) (by kernel_rfl) (by kernel_rfl) (by kernel_rfl) (fun _ _ _ h => h) (Or.inl ⟨by rfl, ?_⟩) hSS ?_
  rotate_left
  · intro w hSw
    obtain ⟨⟨j0, j1, j2⟩, ⟨j3, j4, j5⟩, _⟩ := hSw
    go_simp
    all_goals with_reducible rfl
  simp only [Act.put, List.setIfInBounds_toArray, List.set_cons_zero, List.set_cons_succ, List.getElem_toArray, List.getElem_cons_zero, List.getElem_cons_succ]
  refine wpAnyE_take (i := 14) (v := ?_) rfl (by kernel_rfl) (by kernel_rfl) (by kernel_rfl) (by kernel_rfl) (fun _ _ _ h => h) (Or.inl ⟨by rfl, ?_⟩) hSS ?_
  rotate_left
  · intro w hSw
    obtain ⟨⟨j0, j1, j2⟩, ⟨j3, j4, j5⟩, _⟩ := hSw
    go_simp
    all_goals with_reducible rfl
  simp only [Act.put, List.setIfInBounds_toArray, List.set_cons_zero, List.set_cons_succ, List.getElem_toArray, List.getElem_cons_zero, List.getElem_cons_succ]
  refine wpAnyE_take (i := 15) (v := ?_) rfl (by kernel_rfl) (by kernel_rfl) (by kernel_rfl) (by kernel_rfl) (fun _ _ _ h => h) (Or.inl ⟨by rfl, ?_⟩) hSS ?_
  rotate_left
  · intro w hSw
    obtain ⟨⟨j0, j1, j2⟩, ⟨j3, j4, j5⟩, _⟩ := hSw
    go_simp
    all_goals with_reducible rfl
  simp only [Act.put, List.setIfInBounds_toArray, List.set_cons_zero, List.set_cons_succ, List.getElem_toArray, List.getElem_cons_zero, List.getElem_cons_succ]
  refine wpAnyE_take (i := 16) (v := ?_) rfl (by kernel_rfl) (by kernel_rfl) (by kernel_rfl) (by kernel_rfl) (fun _ _ _ h => h) (Or.inl ⟨by rfl, ?_⟩) hSS ?_
  rotate_left
  · intro w hSw
    obtain ⟨⟨j0, j1, j2⟩, ⟨j3, j4, j5⟩, _⟩ := hSw
    go_simp
    all_goals with_reducible rfl
  simp only [Act.put, List.setIfInBounds_toArray, List.set_cons_zero, List.set_cons_succ, List.getElem_toArray, List.getElem_cons_zero, List.getElem_cons_succ]
  refine wpAnyE_take (i := 18) (v := ?_) rfl (by kernel_rfl) (by kernel_rfl) (by kernel_rfl) (by kernel_rfl) (fun _ _ _ h => h) (Or.inl ⟨by rfl, ?_⟩) hSS ?_
  rotate_left
  · intro w hSw
    obtain ⟨⟨j0, j1, j2⟩, ⟨j3, j4, j5⟩, _⟩ := hSw
    go_simp
    all_goals with_reducible rfl
  simp only [Act.put, List.setIfInBounds_toArray, List.set_cons_zero, List.set_cons_succ, List.getElem_toArray, List.getElem_cons_zero, List.getElem_cons_succ]
  refine wpAnyE_one (i := 17) (by kernel_rfl) rfl ?_
  change wpList _ _ (Exit.then _ _) [_] _ _
  try simp only [List.setIfInBounds_toArray, List.set_cons_zero, List.set_cons_succ, List.getElem_toArray, List.getElem_cons_zero, List.getElem_cons_succ]
  go_wp2_with (go_at_call 58; refine (HR.out _ r _ hr).mono ?_; rintro e w1 ⟨rfl, hB⟩; have hk := hk.below hB; clear hB; have hSS := Bx2.six hk.cells)
  refine ⟨fun _ => hSS, ?_⟩
  try simp only [List.setIfInBounds_toArray, List.set_cons_zero, List.set_cons_succ, List.getElem_toArray, List.getElem_cons_zero, List.getElem_cons_succ]
  refine wpAnyE_one (i := 19) (by kernel_rfl) rfl ?_
  change wpList _ _ (Exit.then _ _) [_] _ _
  try simp only [List.setIfInBounds_toArray, List.set_cons_zero, List.set_cons_succ, List.getElem_toArray, List.getElem_cons_zero, List.getElem_cons_succ]
  go_wp2_with (go_at_call 58; refine (HR.out _ q _ hq).mono ?_; rintro e w1 ⟨rfl, hB⟩; have hk := hk.below hB; clear hB; have hSS := Bx2.six hk.cells)
  refine ⟨fun _ => hSS, ?_⟩
  try simp only [List.setIfInBounds_toArray, List.set_cons_zero, List.set_cons_succ, List.getElem_toArray, List.getElem_cons_zero, List.getElem_cons_succ]
  refine wpAnyE_take (i := 20) (v := ?_) rfl (by kernel_rfl) (by kernel_rfl) (by kernel_rfl) (by kernel_rfl) (fun _ _ _ h => h) (Or.inl ⟨by rfl, ?_⟩) hSS ?_
  rotate_left
  · intro w hSw
    obtain ⟨⟨j0, j1, j2⟩, ⟨j3, j4, j5⟩, _⟩ := hSw
    go_simp
    all_goals with_reducible rfl
  simp only [Act.put, List.setIfInBounds_toArray, List.set_cons_zero, List.set_cons_succ, List.getElem_toArray, List.getElem_cons_zero, List.getElem_cons_succ]
  refine wpAnyE_take (i := 21) (v := ?_) rfl (by kernel_rfl) (by kernel_rfl) (by kernel_rfl) (by kernel_rfl) (fun _ _ _ h => h) (Or.inl ⟨by rfl, ?_⟩) hSS ?_
  rotate_left
  · intro w hSw
    obtain ⟨⟨j0, j1, j2⟩, ⟨j3, j4, j5⟩, _⟩ := hSw
    go_simp
    all_goals with_reducible rfl
  simp only [Act.put, List.setIfInBounds_toArray, List.set_cons_zero, List.set_cons_succ, List.getElem_toArray, List.getElem_cons_zero, List.getElem_cons_succ]
  refine wpAnyE_one (i := 22) (by kernel_rfl) rfl ?_
  change wpList _ _ (Exit.then _ _) [_] _ _
  try simp only [List.setIfInBounds_toArray, List.set_cons_zero, List.set_cons_succ, List.getElem_toArray, List.getElem_cons_zero, List.getElem_cons_succ]
  go_wp2_with fail
  refine ⟨fun _ => hSS, ?_⟩
  try simp only [List.setIfInBounds_toArray, List.set_cons_zero, List.set_cons_succ, List.getElem_toArray, List.getElem_cons_zero, List.getElem_cons_succ]
  refine wpAnyE_end (by kernel_rfl) ?_
  go_wp2_with fail
  go_ret
  exact ⟨ret_b (by simp), hk.2.2⟩
end Go.Proofs.YtppmiggkknhdkaaDoor
namespace Go.Proofs.YtppmiggkknhdkaaDoor
set_option linter.unusedVariables false
set_option linter.unusedSimpArgs false
open Go.RowKit

/-- The document's list of ranks in the block g. -/
structure Nb (W : World) (g cp : Nat) (R : List Nat) : Prop where
  list : NL W (.slice (some ⟨g, 0, none⟩) R.length cp) g R
  le : ∀ x ∈ R, x ≤ 2097153
  n : 1 ≤ R.length ∧ R.length ≤ 100
theorem Nb.below {W X : World} {g cp : Nat} {R : List Nat} (h : Nb W g cp R) (hb : Below W.heap.size W X) : Nb X g cp R := ⟨h.list.below hb, h.le, h.n⟩
theorem Nb.other {W X : World} {g cp k : Nat} {R : List Nat} (h : Nb W g cp R) (hg : W.grownBy X (some k)) (h2 : g ≠ k) : Nb X g cp R := ⟨h.list.other hg h2, h.le, h.n⟩
theorem Nb.get {W : World} {g cp : Nat} {R : List Nat} (h : Nb W g cp R) {i : Nat} (hi : i < R.length) : ∃ q, R[i]? = some q ∧ R.getD i 0 = q ∧ q ≤ 2097153 :=
  ⟨R[i], List.getElem?_eq_getElem hi, by simp [List.getD, List.getElem?_eq_getElem hi], h.le _ (List.getElem_mem hi)⟩
theorem Nb.set {W : World} {g cp : Nat} {R : List Nat} (h : Nb W g cp R) {i r : Nat} (hi : i < R.length) (hr : r ≤ 2097153) :
    Nb (((W.setCell ⟨g, i * 3, none⟩ (.int .i64 (i : Int))).setCell ⟨g, i * 3 + 1, none⟩ (.int .i64 (tgN r : Nat))).setCell ⟨g, i * 3 + 2, none⟩ (.int .i64 (kdN r : Nat))) g cp (R.set i r) ∧
    W.grownBy (((W.setCell ⟨g, i * 3, none⟩ (.int .i64 (i : Int))).setCell ⟨g, i * 3 + 1, none⟩ (.int .i64 (tgN r : Nat))).setCell ⟨g, i * 3 + 2, none⟩ (.int .i64 (kdN r : Nat))) (some g) := by
  refine ⟨⟨by rw [List.length_set]; exact h.list.set hi r, fun x hx => ?_, by rw [List.length_set]; exact h.n⟩, ?_⟩
  · rcases List.mem_or_eq_of_mem_set hx with h' | rfl
    · exact h.le x h'
    · exact hr
  · have hl := h.list.lt
    exact but_set (but_set (but_set (but_refl W _) hl _ _) hl _ _) hl _ _
/-- Out of what is owned. -/
theorem nl_own {W : World} {base : Nat} {v : Value} {R : List Nat} (h : W.ownsRow base 24 3 v R.length (ntC 0 R)) (hn : 1 ≤ R.length) : ∃ g cap, v = .slice (some ⟨g, 0, none⟩) R.length cap ∧ base ≤ g ∧ NL W (.slice (some ⟨g, 0, none⟩) R.length cap) g R := by
  rcases h.2 with ⟨_, h0⟩ | ⟨g, cap, cur, rfl, hb, hh, hnc, _, hsz, htk⟩
  · omega
  · refine ⟨g, cap, rfl, hb, cap, cur.toList.drop (R.length * 3), rfl, ?_⟩
    rw [hh]
    congr 2
    apply Array.ext'
    show cur.toList = ntC 0 R ++ cur.toList.drop (R.length * 3)
    rw [← htk, List.take_append_drop]
set_option maxRecDepth 100000 in
theorem refNew_no (n s t : Int) (h : nwE n s t ≠ 0) (w : World) :
    Calls Tryd.prog 20 #[.int .i64 n, .int .i64 s, .int .i64 t] w fun e w' => e = .returned (.tuple #[.agg #[.slice none 0 0], .int .i64 (nwE n s t)]) ∧ Below w.heap.size w w' := by
  have hb := (Below.refl w.heap.size w).alloc (Nat.le_refl _) (.cells #[.slice none 0 0] 54)
  have b0 := blk_new w (.cells #[.slice none 0 0] 54)
  have k0 := blk_cell b0 0
  have f0 := blk_free b0 0
  clear b0
  by_cases hn1 : n < 1
  · rw [show nwE n s t = 1 from if_neg (by omega)]
    clear h
    go_enter Tryd.func20, Tryd.ntmps20
    go_wp2_with fail
    refine bodyPost_ret (v := .tuple #[.agg #[.slice none 0 0], .int .i64 1]) ?_ rfl ⟨rfl, by first | exact hb | exact hb.setCell (Nat.le_refl _) _⟩
    simp [results, Tryd.results20, go_sem, k0]
  by_cases hn2 : 100 < n
  · rw [show nwE n s t = 1 from if_neg (by omega)]
    clear h
    go_enter Tryd.func20, Tryd.ntmps20
    go_wp2_with fail
    refine bodyPost_ret (v := .tuple #[.agg #[.slice none 0 0], .int .i64 1]) ?_ rfl ⟨rfl, by first | exact hb | exact hb.setCell (Nat.le_refl _) _⟩
    simp [results, Tryd.results20, go_sem, k0]
  by_cases hs1 : s < 0
  · rw [show nwE n s t = 30 from by unfold nwE; rw [if_pos (by omega), if_neg (by omega)]]
    have d1 : 1 ≤ n := by omega
    have d2 : n ≤ 100 := by omega
    clear hn1 hn2
    clear h
    go_enter Tryd.func20, Tryd.ntmps20
    go_wp2_with fail
    refine bodyPost_ret (v := .tuple #[.agg #[.slice none 0 0], .int .i64 30]) ?_ rfl ⟨rfl, by first | exact hb | exact hb.setCell (Nat.le_refl _) _⟩
    simp [results, Tryd.results20, go_sem, k0]
  by_cases hs2 : n ≤ s
  · rw [show nwE n s t = 30 from by unfold nwE; rw [if_pos (by omega), if_neg (by omega)]]
    have a1 : 0 ≤ s := by omega
    have a2 : 1 ≤ n := by omega
    have a3 : n ≤ 100 := by omega
    clear hn1 hn2 hs1
    clear h
    go_enter Tryd.func20, Tryd.ntmps20
    go_wp2_with fail
    refine bodyPost_ret (v := .tuple #[.agg #[.slice none 0 0], .int .i64 30]) ?_ rfl ⟨rfl, by first | exact hb | exact hb.setCell (Nat.le_refl _) _⟩
    simp [results, Tryd.results20, go_sem, k0]
  have ht : ¬ (0 ≤ t ∧ t ≤ 1048576) := by
    intro ht; apply h
    unfold nwE
    rw [if_pos (by omega), if_pos (by omega), if_pos ht]
  rw [show nwE n s t = 50 from by unfold nwE; rw [if_pos (by omega), if_pos (by omega), if_neg ht]]
  have a0 : 0 ≤ s := by omega
  have a1 : s < n := by omega
  have a2 : 1 ≤ n := by omega
  have a3 : n ≤ 100 := by omega
  by_cases ht1 : t < 0
  · clear hn1 hn2 hs1 hs2 ht
    clear h
    go_enter Tryd.func20, Tryd.ntmps20
    go_wp2_with fail
    refine bodyPost_ret (v := .tuple #[.agg #[.slice none 0 0], .int .i64 50]) ?_ rfl ⟨rfl, by first | exact hb | exact hb.setCell (Nat.le_refl _) _⟩
    simp [results, Tryd.results20, go_sem, k0]
  · have ht2 : 1048576 < t := by omega
    clear hn1 hn2 hs1 hs2 ht ht1
    clear h
    go_enter Tryd.func20, Tryd.ntmps20
    go_wp2_with fail
    refine bodyPost_ret (v := .tuple #[.agg #[.slice none 0 0], .int .i64 50]) ?_ rfl ⟨rfl, by first | exact hb | exact hb.setCell (Nat.le_refl _) _⟩
    simp [results, Tryd.results20, go_sem, k0]
theorem own_ge {W : World} {base : Nat} {e : TypeId} {size : Nat} {v : Value} {n : Nat} {xs : List Value} (h : W.ownsRow base e size v n xs) {j : Nat} (hj : v.ownBlock = some j) : base ≤ j := by
  rcases h.2 with ⟨rfl, _⟩ | ⟨g, cap, cur, rfl, hb, _⟩
  · simp [Value.ownBlock] at hj
  · have : g = j := by simpa [Value.ownBlock] using hj
    omega
theorem ntC_tag : ∀ (R : List Nat) (i k r q : Nat), R[k]? = some r → kdN q = kdN r → (ntC i R).set (k * 3 + 1) (.int .i64 (tgN q : Nat)) = ntC i (R.set k q)
  | [], _, _, _, _, h, _ => by simp at h
  | r' :: R, i, 0, r, q, h, hk => by
    obtain rfl : r' = r := by simpa using h
    simp only [ntC, List.set_cons_zero, Nat.zero_mul, Nat.zero_add, List.set_cons_succ, hk]
  | r' :: R, i, k + 1, r, q, h, hk => by
    have := ntC_tag R (i + 1) k r q (by simpa using h) hk
    have e : (k + 1) * 3 + 1 = k * 3 + 1 + 1 + 1 + 1 := by omega
    rw [e]
    simp only [ntC, List.set_cons_succ] at this ⊢
    rw [← this]
theorem ntC_snoc (k : Nat) : ntC 0 (List.replicate k 0) ++ [.int .i64 (k : Int), .int .i64 0, .int .i64 1] = ntC 0 (List.replicate (k + 1) 0) := by
  rw [List.replicate_succ', ntC_app, List.length_replicate, Nat.zero_add]; rfl
theorem cells3 (W : World) (a b c : Value) (t : TypeId) : ∀ j u, [a, b, c][j]? = some u → (W.alloc (.cells #[a, b, c] t)).cell? ((⟨W.heap.size, 0, none⟩ : Addr).add j) = some u := by
  intro j u hu
  rw [add_mid', Nat.zero_add, blk_cell (blk_new W _)]
  rw [← hu]; simp
set_option maxRecDepth 100000 in
set_option maxHeartbeats 1000000 in
theorem refNew_yes (n s t : Nat) (hn : 1 ≤ n ∧ n ≤ 100) (hs : s < n) (ht : t ≤ 1048576) (w : World) :
    Calls Tryd.prog 20 #[.int .i64 (n : Int), .int .i64 (s : Int), .int .i64 (t : Int)] w fun e w' => ∃ g cp, e = .returned (.tuple #[.agg #[.slice (some ⟨g, 0, none⟩) n cp], .int .i64 0]) ∧ Nb w' g cp (bk0 n s t) ∧ w.heap.size ≤ g ∧ Below w.heap.size w w' := by
  obtain ⟨i0, hi, hz⟩ := Option.map_eq_some_iff.1 Tryd.infoNotice
  simp only [Prod.mk.injEq] at hz
  obtain ⟨hz0, hz1, hz2⟩ := hz
  have HF := Lib.hid refFresh_any
  unfold nV at HF
  have HN := Lib.hid hn
  have HS := Lib.hid hs
  have HT := Lib.hid ht
  have a1 : (1 : Int) ≤ (n : Int) := by omega
  have a2 : (n : Int) ≤ 100 := by omega
  have a3 : (0 : Int) ≤ (s : Int) := by omega
  have a4 : (s : Int) < (n : Int) := by omega
  have a6 : (0 : Int) ≤ (t : Int) := by omega
  obtain ⟨T, hTe⟩ : ∃ T : Int, (t : Int) = T := ⟨_, rfl⟩
  have a7 : T ≤ 1048576 := by omega
  rw [hTe] at a6 ⊢
  have HTE := Lib.hid hTe
  have hb0 := (Below.refl w.heap.size w).alloc (Nat.le_refl _) (.cells #[.slice none 0 0] 54)
  have r0 := blk_new w (.cells #[.slice none 0 0] 54)
  clear hn hs ht hTe
  go_enter Tryd.func20, Tryd.ntmps20
  go_wp2_with fail
  generalize World.alloc w _ = W0 at *
  go_loopw [8, 9] (fun lv iv wr => ∃ k : Nat, iv = .int .i64 k ∧ k ≤ n ∧ wr.ownsRow (w.heap.size + 1) 24 3 lv k (ntC 0 (List.replicate k 0)) ∧ wr.heap[w.heap.size]? = some (.cells #[.slice none 0 0] 54 (0, 0)) ∧ Below w.heap.size w wr) (fun _ iv _ => n - (intOf iv).toNat)
  case atStart => exact ⟨0, rfl, by omega, World.ownsRow_nil _ _ _ _, r0, hb0⟩
  case round =>
    obtain ⟨k, rfl, hk, hown, hr, hb⟩ := hrel
    clear r0 hb0
    by_cases hlt : k < n
    · have i1 : (k : Int) < (n : Int) := by omega
      have HO := Lib.hid hown
      have HR := Lib.hid hr
      have HB := Lib.hid hb
      have HK := Lib.hid hlt
      clear hown hr hb hlt hk
      go_wp2_with fail
      refine (HF.out _ _).mono ?_
      rintro e w1 ⟨rfl, hB1⟩
      have HO1 := Lib.hid (ownsRow_below HO.out hB1)
      have HR1 := Lib.hid (blk_below' hB1 HR.out)
      have HB1 := Lib.hid (below_then HB.out hB1)
      clear HO HR HB hB1
      go_wp2_with (at_builtin; refine wpList_append_own _ rfl _ _ 45 rfl (w.heap.size + 1) 24 i0 (.agg #[.int .i64 0, .int .i64 0, .int .i64 0]) 3 24 Tryd.underlying45 hi hz0 hz1 hz2 rfl (by decide) _ _ _ rfl (HO1.out.alloc _) ⟨w1.heap.size, 0, none⟩ 1 1 [.int .i64 (k : Int), .int .i64 0, .int .i64 1] rfl rfl ?a2 ?a3 ?a4 ?a5 ?a6 ?_)
      case a2 => exact cells3 w1 _ _ _ _
      case a3 => intro u hu; simp only [List.mem_cons, List.not_mem_nil, or_false] at hu; rcases hu with rfl | rfl | rfl <;> rfl
      case a4 => unfold maxLen; have := HN.out; have := HK.out; omega
      case a5 => have := HN.out; have := HK.out; omega
      case a6 => have := blk_lt HR1.out; simp; omega
      intro v' w4 hown4 hg4 hv4
      have hown5 : w4.ownsRow (w.heap.size + 1) 24 3 v' (k + 1) (ntC 0 (List.replicate (k + 1) 0)) := by rw [← ntC_snoc]; exact hown4
      have HO4 := Lib.hid hown5
      have HR4 : Hid (w4.heap[w.heap.size]? = some (.cells #[.slice none 0 0] 54 (0, 0))) := by
        refine Lib.hid (blk_grown hg4 (blk_old HR1.out _) fun e => ?_)
        have := own_ge HO1.out e.symm
        omega
      have HB4 := Lib.hid ((HB1.out.alloc HB1.out.size (.cells #[.int .i64 (k : Int), .int .i64 0, .int .i64 1] 24)).grown hg4 (by have := HB1.out.size; simp; omega) (fun j hj => by have := own_ge HO1.out hj; omega))
      clear HO1 HR1 HB1 hown4 hown5 hg4 hv4
      go_wp2_with fail
      go_roundw
      case rel => exact ⟨k + 1, by go_num, HK.out, HO4.out, HR4.out, HB4.out⟩
      case measure => have := HK.out; simp [intOf]; omega
    · obtain rfl : k = n := by omega
      have i1 : ¬ (k : Int) < (k : Int) := by omega
      obtain ⟨g, cp, rfl, hg1, hNL⟩ := nl_own (R := List.replicate k 0) (by rw [List.length_replicate]; exact hown) (by rw [List.length_replicate]; exact HN.out.1)
      rw [List.length_replicate] at hNL ⊢
      obtain ⟨cp', sp, he, hblk⟩ := hNL
      rw [List.length_replicate] at he
      injection he with e1 e2 e3
      subst e3
      obtain ⟨⟨g0, g1, g2⟩, ⟨f0, f1, f2⟩⟩ := NL.cells (R := List.replicate k 0) (v := .slice (some ⟨g, 0, none⟩) k cp) ⟨cp, sp, by rw [List.length_replicate], hblk⟩ (k := s) (r := 0) (by simp [HS.out])
      have i3 : (s : Int).toNat = s := Int.toNat_natCast s
      have HBK := Lib.hid hblk
      have HR := Lib.hid hr
      have HB := Lib.hid hb
      have HG := Lib.hid hg1
      have hr0 := blk_set hr ⟨g, s * 3 + 1, none⟩ (.int .i64 T) (by simp; omega)
      have fr0 := blk_free hr0 0
      have cr0 := blk_cell hr0 0
      clear hown hr hb hblk hg1 hlt hk hr0
      go_wp2_with fail
      have hfin : Nb (((wr.setCell ⟨g, s * 3 + 1, none⟩ (.int .i64 T)).setCell ⟨w.heap.size, 0, none⟩ (.slice (some ⟨g, 0, none⟩) k cp))) g cp (bk0 k s t) := by
        refine ⟨⟨cp, sp, by rw [bk0_len], ?_⟩, fun x hx => ?_, by rw [bk0_len]; exact HN.out⟩
        · have h1 := blk_store HBK.out (s * 3 + 1) (.int .i64 T)
          have h2 := blk_set h1 ⟨w.heap.size, 0, none⟩ (.slice (some ⟨g, 0, none⟩) k cp) (by have := HG.out; simp; omega)
          rw [h2]
          congr 2
          have hl := ntC_len (List.replicate k 0) 0
          rw [List.length_replicate] at hl
          simp only [List.setIfInBounds_toArray]
          rw [List.set_append_left _ _ (by have := HS.out; omega)]
          congr 2
          have h3 := ntC_tag (List.replicate k 0) 0 s 0 (2 * t) (by simp [HS.out]) (by unfold kdN; omega)
          rw [show tgN (2 * t) = t from by unfold tgN; omega, HTE.out] at h3
          exact h3
        · unfold bk0 at hx
          rcases List.mem_or_eq_of_mem_set hx with h' | rfl
          · rw [(List.mem_replicate.1 h').2]; omega
          · have := HT.out; omega
      refine bodyPost_ret (v := .tuple #[.agg #[.slice (some ⟨g, 0, none⟩) k cp], .int .i64 0]) ?_ rfl ⟨g, cp, rfl, hfin, by have := HG.out; omega, (HB.out.setCell (by have := HG.out; simp; omega) _).setCell (Nat.le_refl _) _⟩
      simp [results, Tryd.results20, go_sem, cr0]
/-- A copy of a book of the document's. -/
theorem refCopy_any {w : World} {g cp : Nat} {R : List Nat} (h : Nb w g cp R) :
    Calls Tryd.prog 41 #[.agg #[.slice (some ⟨g, 0, none⟩) R.length cp]] w fun e w' => ∃ g' cp', e = .returned (.agg #[.slice (some ⟨g', 0, none⟩) R.length cp']) ∧ Nb w' g' cp' R ∧ w.heap.size ≤ g' ∧ Below w.heap.size w w' := by
  obtain ⟨i0, hi, hz⟩ := Option.map_eq_some_iff.1 Tryd.infoNotice
  simp only [Prod.mk.injEq] at hz
  obtain ⟨hz0, hz1, hz2⟩ := hz
  have HC := Lib.hid h.list.at
  have HG := Lib.hid h.list.lt
  have HN := Lib.hid h.n
  have HLE := Lib.hid h.le
  have hb := ((Below.refl w.heap.size w).alloc (Nat.le_refl _) (.cells #[.slice (some ⟨g, 0, none⟩) R.length cp] 54)).alloc (by simp) (.cells #[.slice none 0 0] 54)
  have hx := blk_old (blk_new w (.cells #[.slice (some ⟨g, 0, none⟩) R.length cp] 54)) (.cells #[.slice none 0 0] 54)
  have hr := b1 w (.cells #[.slice (some ⟨g, 0, none⟩) R.length cp] 54) (.cells #[.slice none 0 0] 54)
  clear h
  go_enter Tryd.func41, Tryd.ntmps41
  go_upto_region 1 with fail
  generalize World.alloc (World.alloc w _) _ = W at *
  have x0 := blk_cell hx 0
  have HB := Lib.hid hb
  have HR := Lib.hid hr
  clear hb hr hx
  go_wp2_with (at_builtin; refine wpList_append_own _ rfl _ _ 45 rfl (w.heap.size + 2) 24 i0 (.agg #[.int .i64 0, .int .i64 0, .int .i64 0]) 3 24 Tryd.underlying45 hi hz0 hz1 hz2 rfl (by decide) _ 0 [] rfl (World.ownsRow_nil _ _ _ _) ⟨g, 0, none⟩ R.length cp (ntC 0 R) rfl ?a1 ?a2 ?a3 ?a4 ?a5 ?a6 ?_)
  case a1 => rw [ntC_len]
  case a2 => intro j u hu; rw [add_mid', Nat.zero_add]; exact (HB.out.cell HG.out).trans (HC.out j u hu)
  case a3 => exact ntC_one R 0
  case a4 => unfold maxLen; have := HN.out; omega
  case a5 => have := HN.out; omega
  case a6 => have := blk_lt HR.out; omega
  intro v' w4 hown4 hg4 hv4
  have hown5 : w4.ownsRow (w.heap.size + 2) 24 3 v' R.length (ntC 0 R) := by simpa using hown4
  obtain ⟨g', cp', rfl, hge, hNL⟩ := nl_own hown5 HN.out.1
  have hr4 := blk_grown hg4 HR.out (by simp [Value.ownBlock])
  have HB4 := HB.out.grown hg4 HB.out.size (fun j hj => by simp [Value.ownBlock] at hj)
  have fr0 := blk_free hr4 0
  have cr0 := blk_cell hr4 0
  have HNL := Lib.hid hNL
  clear hown4 hown5 hg4 hv4 hNL hr4
  go_wp2_with fail
  have hfin : Nb (w4.setCell ⟨w.heap.size + 1, 0, none⟩ (.slice (some ⟨g', 0, none⟩) R.length cp')) g' cp' R := by
    obtain ⟨c, sp, he, hblk⟩ := HNL.out
    exact ⟨⟨c, sp, he, blk_set hblk _ _ (by simp; omega)⟩, HLE.out, HN.out⟩
  refine bodyPost_ret (v := .agg #[.slice (some ⟨g', 0, none⟩) R.length cp']) ?_ rfl ⟨g', cp', rfl, hfin, by omega, HB4.setCell (Nat.le_succ _) _⟩
  simp [results, Tryd.results41, go_sem, cr0]
end Go.Proofs.YtppmiggkknhdkaaDoor
namespace Go.Proofs.YtppmiggkknhdkaaDoor
set_option linter.unusedVariables false
set_option linter.unusedSimpArgs false
open Go.RowKit

/-- A book without a list. -/
def Zb (W : World) (B : Nat) : Prop := W.heap[B]? = some (.cells #[.slice none 0 0] 66 (0, 0))
theorem list_zero {w : World} {B : Nat} (h : Zb w B) : Calls Tryd.prog 53 #[.pointer (some ⟨B, 0, none⟩)] w fun e w' => e = .returned (.slice none 0 0) ∧ w' = w := by
  have b0 := blk_cell h 0
  clear h
  go_enter Tryd.func53, Tryd.ntmps53
  go_wp2
  go_ret
  exact ⟨rfl, rfl⟩
theorem size_zero {w : World} {B : Nat} (h : Zb w B) : Calls Tryd.prog 33 #[.pointer (some ⟨B, 0, none⟩)] w fun e w' => e = .returned (.int .i64 0) ∧ w' = w := by
  have HL := Lib.hid (list_zero h)
  clear h
  go_enter Tryd.func33, Tryd.ntmps33
  go_wp2_with (go_at_call 53; refine HL.out.mono ?_; rintro e w1 ⟨rfl, rfl⟩)
  go_ret
  exact ⟨rfl, rfl⟩
set_option maxRecDepth 100000 in
theorem at_zero {w : World} {B : Nat} (h : Zb w B) (id : Int) :
    Calls Tryd.prog 11 #[.pointer (some ⟨B, 0, none⟩), .int .i64 id] w fun e w' => e = .returned (.tuple #[nV 0 0 0, .int .i64 30]) ∧ Below w.heap.size w w' := by
  have HZ : Hid (∀ W : World, Zb W B → Calls Tryd.prog 33 #[.pointer (some ⟨B, 0, none⟩)] W fun e w' => e = .returned (.int .i64 0) ∧ w' = W) := Lib.hid fun W hW => size_zero hW
  have HT : Hid (Zb (w.alloc (.cells #[.int .i64 0, .int .i64 0, .int .i64 0] 24)) B) := Lib.hid (blk_old h _)
  clear h
  by_cases h : id < 0
  · skip
    have b0 := blk_new w (.cells #[.int .i64 0, .int .i64 0, .int .i64 0] 24)
    have k0 := blk_cell b0 0
    have k1 := blk_cell b0 1
    have k2 := blk_cell b0 2
    have f0 := blk_free b0 0
    have f1 := blk_free b0 1
    have f2 := blk_free b0 2
    unfold nV
    go_enter Tryd.func11, Tryd.ntmps11
    go_wp2_with (go_at_call 33; refine (HZ.out _ HT.out).mono ?_; rintro e w1 ⟨rfl, rfl⟩)
    refine bodyPost_ret (v := .tuple #[.agg #[.int .i64 0, .int .i64 0, .int .i64 0], .int .i64 30]) ?_ rfl ⟨rfl, (Below.refl _ _).alloc (Nat.le_refl _) _⟩
    simp [results, Tryd.results11, go_sem, k0, k1, k2, f0, f1, f2]
  · have h1 : 0 ≤ id := by omega
    clear h
    have b0 := blk_new w (.cells #[.int .i64 0, .int .i64 0, .int .i64 0] 24)
    have k0 := blk_cell b0 0
    have k1 := blk_cell b0 1
    have k2 := blk_cell b0 2
    have f0 := blk_free b0 0
    have f1 := blk_free b0 1
    have f2 := blk_free b0 2
    unfold nV
    go_enter Tryd.func11, Tryd.ntmps11
    go_wp2_with (go_at_call 33; refine (HZ.out _ HT.out).mono ?_; rintro e w1 ⟨rfl, rfl⟩)
    refine bodyPost_ret (v := .tuple #[.agg #[.int .i64 0, .int .i64 0, .int .i64 0], .int .i64 30]) ?_ rfl ⟨rfl, (Below.refl _ _).alloc (Nat.le_refl _) _⟩
    simp [results, Tryd.results11, go_sem, k0, k1, k2, f0, f1, f2]
theorem rdue_zero {w : World} {B : Nat} {a : Addr} (h : Zb w B) (hg : Gl a w) (sf : Int) :
    Calls Tryd.prog 7 #[.pointer (some ⟨B, 0, none⟩), .int .i64 sf] w fun e w' => e = .returned (.tuple #[nV 0 0 0, .bool false]) ∧ Below w.heap.size w w' :=
  rdue_of _ sf 0 0 0 false fun W hW => found_no (hg.of hW) _ sf 0 0 0 fun X hX => due_at X a _ sf 0 0 0 30 (hg.of (below_then hW hX)) (by decide) fun Y hY => at_zero (blk_below' (below_then (below_then hW hX) hY) h) sf
set_option maxRecDepth 100000 in
set_option maxHeartbeats 1000000 in
theorem merge_nil {w : World} (v : Value) (xs : List (List Int)) (hrow : RowsOf w 3 v xs) :
    Calls Tryd.prog 21 #[.pointer none, v] w fun e w' => (∃ (y : Nat) (er : Int), e = .returned (.tuple #[setV y, .int .i64 er])) ∧ Below w.heap.size w w' := by
  have hb0 := ((Below.refl w.heap.size w).alloc (Nat.le_refl _) (.cells #[.pointer none] 22)).alloc (by simp) (.cells (setC 0) 59)
  have hx0 := blk_old (blk_new w (.cells #[.pointer none] 22)) (.cells (setC 0) 59)
  have hr0 := b1 w (.cells #[.pointer none] 22) (.cells (setC 0) 59)
  rw [← setC_zero] at hb0 hx0 hr0
  cases xs with
  | nil =>
    obtain ⟨p, cap, rfl, hm1, hm2, _⟩ := hrow
    clear hm1 hm2
    have hmf : ∀ (fn : Fn) (first cap : Array Value) (w : World), (Instr.makeFunc fn first cap).run Tryd.prog w = .ok (.func fn first cap) w := fun _ _ _ _ => rfl
    go_enter Tryd.func21, Tryd.ntmps21
    go_wp2_with fail
    generalize World.alloc (World.alloc w _) _ = W0 at *
    go_loopw [14] (fun iv wr => iv = .int .i64 0 ∧ wr = W0) (fun iv _ => 0)
    case atStart => exact ⟨rfl, rfl⟩
    case round =>
      obtain ⟨rfl, rfl⟩ := hrel
      have hal := blk_old hr0 (.cells #[.int .u32 0, .int .u32 0, .int .u32 0, .int .u32 0] 59)
      have hs := blk_new wr (.cells #[.int .u32 0, .int .u32 0, .int .u32 0, .int .u32 0] 59)
      have hbl := hb0.alloc hb0.size (.cells #[.int .u32 0, .int .u32 0, .int .u32 0, .int .u32 0] 59)
      clear hx0 hr0 hb0
      go_upto_region 9 with fail
      obtain ⟨cx, hcx⟩ : ∃ cx, wr.heap.size = cx := ⟨_, rfl⟩
      rw [hcx] at hs
      (try rw [hcx])
      clear hcx
      generalize World.alloc wr _ = W1 at *
      go_wp2_with fail
      go_loopw [28] (fun iv wr => iv = .int .i64 0 ∧ wr = W1) (fun iv _ => 0)
      case atStart => exact ⟨rfl, rfl⟩
      case round =>
        obtain ⟨rfl, rfl⟩ := hrel
        rw [setC_zero] at hal hs
        obtain ⟨q0, q1, q2, q3, _⟩ := set_cells hs
        obtain ⟨u0, u1, u2, u3, f0, f1, f2, f3⟩ := set_cells hal
        have HBL := Lib.hid hbl
        clear hbl hs hal
        go_wp2_with fail
        refine bodyPost_ret (v := .tuple #[.agg (setC 0), .int .i64 0]) ?_ rfl ⟨⟨0, 0, rfl⟩, (((HBL.out.setCell (Nat.le_succ _) _).setCell (Nat.le_succ _) _).setCell (Nat.le_succ _) _).setCell (Nat.le_succ _) _⟩
        simp [results, Tryd.results21, go_sem, setC, q0, q1, q2, q3, u0, u1, u2, u3]
  | cons x xs =>
    obtain ⟨o, t, d, gx, ox, cap', hx, hv, r0, r1, r2⟩ := rows3 (hrow.below hb0) (show 0 < (x :: xs).length by simp)
    obtain ⟨p, cap, rfl, hm1, hm2, _⟩ := hrow
    injection hv with hv1 hv2 hv3
    subst hv1 hv3
    clear hm1 hm2 hx
    have hlen : (0 : Int) < ((x :: xs).length : Int) := Int.natCast_pos.2 (by simp)
    generalize (x :: xs).length = N at *
    have HZ := Lib.hid size_nil
    have HV := Lib.hid (fun w => valid_any 0 o t d w)
    rw [show vN 0 o t d = false from decide_eq_false (by omega)] at HV
    unfold nV at HV
    go_enter Tryd.func21, Tryd.ntmps21
    go_wp2_with fail
    generalize World.alloc (World.alloc w _) _ = W0 at *
    go_loopw [14] (fun iv wr => iv = .int .i64 0 ∧ wr = W0) (fun iv _ => 0)
    case atStart => exact ⟨rfl, rfl⟩
    case round =>
      obtain ⟨rfl, rfl⟩ := hrel
      simp only [Nat.zero_mul, Nat.add_zero] at r0 r1 r2
      have hal := (Below.refl wr.heap.size wr).alloc (Nat.le_refl _) (.cells #[.int .i64 o, .int .i64 t, .int .i64 d] 24)
      have hxb := blk_old hx0 (.cells #[.int .i64 o, .int .i64 t, .int .i64 d] 24)
      have hrb := blk_old hr0 (.cells #[.int .i64 o, .int .i64 t, .int .i64 d] 24)
      have hnb := blk_new wr (.cells #[.int .i64 o, .int .i64 t, .int .i64 d] 24)
      have HB := Lib.hid (below_then hb0 hal)
      go_upto_region 4 with fail
      obtain ⟨px, hpx⟩ : ∃ px, wr.heap.size = px := ⟨_, rfl⟩
      rw [hpx] at hnb
      (try rw [hpx])
      clear hpx r0 r1 r2 hx0 hr0 hb0 hal
      generalize World.alloc wr _ = W1 at *
      refine wp_region_early (fun w' => w'.cell? ⟨w.heap.size, 0, none⟩ = some (.pointer none) ∧ Bx3 px o t d w') (fun _ => false) (by kernel_rfl) ?_
      simp only [List.size_toArray, List.length_cons, List.length_nil, Nat.reduceAdd, Array.replicate_succ, Array.replicate_zero, List.push_toArray, List.nil_append, List.cons_append]
      have HB := Lib.hid (below_then HB.out ((Below.refl _ W1).drew))
      have HX := Lib.hid (blk_below' ((Below.refl _ W1).drew) hxb)
      have HR := Lib.hid (blk_below' ((Below.refl _ W1).drew) hrb)
      have HN := Lib.hid (blk_below' ((Below.refl _ W1).drew) hnb)
      clear hxb hrb hnb
      generalize World.drew W1 = W2 at *
      have hSS : W2.cell? ⟨w.heap.size, 0, none⟩ = some (.pointer none) ∧ Bx3 px o t d W2 := ⟨blk_cell HX.out 0, blk_cell HN.out 0, blk_cell HN.out 1, blk_cell HN.out 2⟩
      refine wpAnyE_take (i := 0) (v := ?_) rfl (by kernel_rfl) (by kernel_rfl) (by kernel_rfl) (by kernel_rfl) (fun _ _ _ h => h) (Or.inl ⟨by rfl, ?_⟩) hSS ?_
      rotate_left
      · intro w hSw
        obtain ⟨j0, j1, j2, j3⟩ := hSw
        go_simp
        all_goals with_reducible rfl
      simp only [Act.put, List.setIfInBounds_toArray, List.set_cons_zero, List.set_cons_succ, List.getElem_toArray, List.getElem_cons_zero, List.getElem_cons_succ]
      refine wpAnyE_take (i := 2) (v := ?_) rfl (by kernel_rfl) (by kernel_rfl) (by kernel_rfl) (by kernel_rfl) (fun _ _ _ h => h) (Or.inl ⟨by rfl, ?_⟩) hSS ?_
      rotate_left
      · intro w hSw
        obtain ⟨j0, j1, j2, j3⟩ := hSw
        go_simp
        all_goals with_reducible rfl
      simp only [Act.put, List.setIfInBounds_toArray, List.set_cons_zero, List.set_cons_succ, List.getElem_toArray, List.getElem_cons_zero, List.getElem_cons_succ]
      refine wpAnyE_one (i := 1) (by kernel_rfl) rfl ?_
      change wpList _ _ (Exit.then _ _) [_] _ _
      try simp only [List.setIfInBounds_toArray, List.set_cons_zero, List.set_cons_succ, List.getElem_toArray, List.getElem_cons_zero, List.getElem_cons_succ]
      go_wp2_with (go_at_call 33; refine (HZ.out _).mono ?_; rintro e w1 ⟨rfl, rfl⟩)
      refine ⟨fun _ => hSS, ?_⟩
      try simp only [List.setIfInBounds_toArray, List.set_cons_zero, List.set_cons_succ, List.getElem_toArray, List.getElem_cons_zero, List.getElem_cons_succ]
      refine wpAnyE_one (i := 3) (by kernel_rfl) rfl ?_
      change wpList _ _ (Exit.then _ _) [_] _ _
      try simp only [List.setIfInBounds_toArray, List.set_cons_zero, List.set_cons_succ, List.getElem_toArray, List.getElem_cons_zero, List.getElem_cons_succ]
      go_wp2_with (go_at_call 31; refine (HV.out _).mono ?_; rintro e w3 ⟨rfl, hB⟩)
      have HB := Lib.hid (below_then HB.out hB)
      have HR := Lib.hid (blk_below' hB HR.out)
      have hSS : w3.cell? ⟨w.heap.size, 0, none⟩ = some (.pointer none) ∧ Bx3 px o t d w3 := ⟨blk_cell (blk_below' hB HX.out) 0, blk_cell (blk_below' hB HN.out) 0, blk_cell (blk_below' hB HN.out) 1, blk_cell (blk_below' hB HN.out) 2⟩
      clear hB
      refine ⟨fun _ => hSS, ?_⟩
      try simp only [List.setIfInBounds_toArray, List.set_cons_zero, List.set_cons_succ, List.getElem_toArray, List.getElem_cons_zero, List.getElem_cons_succ]
      refine wpAnyE_take (i := 4) (v := ?_) rfl (by kernel_rfl) (by kernel_rfl) (by kernel_rfl) (by kernel_rfl) (fun _ _ _ h => h) (Or.inl ⟨by rfl, ?_⟩) hSS ?_
      rotate_left
      · intro w hSw
        obtain ⟨j0, j1, j2, j3⟩ := hSw
        go_simp
        all_goals with_reducible rfl
      simp only [Act.put, List.setIfInBounds_toArray, List.set_cons_zero, List.set_cons_succ, List.getElem_toArray, List.getElem_cons_zero, List.getElem_cons_succ]
      refine wpAnyE_end (by kernel_rfl) ?_
      have hr := HR.out
      rw [setC_zero] at hr
      obtain ⟨q0, q1, q2, q3, f0, f1, f2, f3⟩ := set_cells hr
      clear hr hSS
      go_wp2_with fail
      refine bodyPost_ret (v := .tuple #[.agg (setC 0), .int .i64 50]) ?_ rfl ⟨⟨0, 50, rfl⟩, (((HB.out.setCell (Nat.le_succ _) _).setCell (Nat.le_succ _) _).setCell (Nat.le_succ _) _).setCell (Nat.le_succ _) _⟩
      rw [← setC_zero]
      simp [results, Tryd.results21, go_sem, q0, q1, q2, q3]
theorem due_one {R : List Nat} {s : Nat} (hs : s < R.length) (h : kdN (R.getD s 0) = 1 ∨ tgN (R.getD s 0) = 1048576) : dueN R (s : Int) = none := by
  unfold dueN
  rw [if_pos ⟨by omega, by omega⟩, Int.toNat_natCast, if_neg]
  rintro ⟨h1, h2⟩
  rcases h with h | h <;> omega
theorem due_two {R : List Nat} {s q : Nat} (hs : s < R.length) (hq : R.getD s 0 = q) (h : kdN q = 2) (ht : tgN q ≠ 1048576) : dueN R (s : Int) = some (q + 1) := by
  unfold dueN
  rw [if_pos ⟨by omega, by omega⟩, Int.toNat_natCast, hq, if_pos ⟨h, ht⟩]
/-- The frame of the document's Due. -/
structure R15 (w : World) (g cp : Nat) (R : List Nat) (W : World) : Prop where
  b : W.heap[w.heap.size]? = some (.cells #[.slice (some ⟨g, 0, none⟩) R.length cp] 54 (0, 0))
  r : W.heap[w.heap.size + 1]? = some (.cells #[.int .i64 0, .int .i64 0, .int .i64 0] 24 (0, 0))
  nb : Nb W g cp R
  low : Below w.heap.size w W
theorem R15.new {w : World} {g cp : Nat} {R : List Nat} (h : Nb w g cp R) : R15 w g cp R ((w.alloc (.cells #[.slice (some ⟨g, 0, none⟩) R.length cp] 54)).alloc (.cells #[.int .i64 0, .int .i64 0, .int .i64 0] 24)) := by
  have hb := ((Below.refl w.heap.size w).alloc (Nat.le_refl _) (.cells #[.slice (some ⟨g, 0, none⟩) R.length cp] 54)).alloc (by simp) (.cells #[.int .i64 0, .int .i64 0, .int .i64 0] 24)
  exact ⟨blk_old (blk_new w _) _, b1 w _ _, h.below hb, hb⟩
theorem R15.below {w W X : World} {g cp : Nat} {R : List Nat} (h : R15 w g cp R W) (hb : Below W.heap.size W X) : R15 w g cp R X := ⟨blk_below' hb h.b, blk_below' hb h.r, h.nb.below hb, below_then h.low hb⟩
set_option maxRecDepth 100000 in
theorem r15_any {w : World} {g cp : Nat} {R : List Nat} (h : Nb w g cp R) (sf : Int) :
    Calls Tryd.prog 23 #[.agg #[.slice (some ⟨g, 0, none⟩) R.length cp], .int .i64 sf] w fun e w' => e = .returned (.tuple #[dueV (dueN R sf) sf, .bool (dueN R sf).isSome]) ∧ Below w.heap.size w w' := by
  have HS := Lib.hid (R15.new h)
  by_cases h1 : sf < 0
  · have hd : dueN R sf = none := if_neg (by omega)
    rw [hd]
    show Calls _ _ _ _ fun e w' => e = .returned (.tuple #[nV 0 0 0, .bool false]) ∧ _
    clear h hd
    have k0 := blk_cell HS.out.b 0
    have c0 := blk_cell HS.out.r 0
    have c1 := blk_cell HS.out.r 1
    have c2 := blk_cell HS.out.r 2
    have f0 := blk_free HS.out.r 0
    have f1 := blk_free HS.out.r 1
    have f2 := blk_free HS.out.r 2
    unfold nV
    go_enter Tryd.func23, Tryd.ntmps23
    go_upto_region 1 with fail
    generalize World.alloc (World.alloc w _) _ = W at *
    go_wp2_with fail
    refine bodyPost_ret (v := .tuple #[.agg #[.int .i64 0, .int .i64 0, .int .i64 0], .bool false]) ?_ rfl ⟨rfl, ((HS.out.low.setCell (Nat.le_succ _) _).setCell (Nat.le_succ _) _).setCell (Nat.le_succ _) _⟩
    simp [results, Tryd.results23, go_sem, c0, c1, c2]
  by_cases h2 : (R.length : Int) ≤ sf
  · have hd : dueN R sf = none := if_neg (by omega)
    rw [hd]
    show Calls _ _ _ _ fun e w' => e = .returned (.tuple #[nV 0 0 0, .bool false]) ∧ _
    have a1 : 0 ≤ sf := by omega
    clear h hd h1
    have k0 := blk_cell HS.out.b 0
    have c0 := blk_cell HS.out.r 0
    have c1 := blk_cell HS.out.r 1
    have c2 := blk_cell HS.out.r 2
    have f0 := blk_free HS.out.r 0
    have f1 := blk_free HS.out.r 1
    have f2 := blk_free HS.out.r 2
    unfold nV
    go_enter Tryd.func23, Tryd.ntmps23
    go_upto_region 1 with fail
    generalize World.alloc (World.alloc w _) _ = W at *
    go_wp2_with fail
    refine bodyPost_ret (v := .tuple #[.agg #[.int .i64 0, .int .i64 0, .int .i64 0], .bool false]) ?_ rfl ⟨rfl, ((HS.out.low.setCell (Nat.le_succ _) _).setCell (Nat.le_succ _) _).setCell (Nat.le_succ _) _⟩
    simp [results, Tryd.results23, go_sem, c0, c1, c2]
  obtain ⟨i, rfl⟩ : ∃ i : Nat, sf = (i : Int) := ⟨sf.toNat, by omega⟩
  have hi : i < R.length := by omega
  obtain ⟨q, hq, hqd, hql⟩ := h.get hi
  have HQ := Lib.hid hq
  have i1 : (i : Int) < (R.length : Int) := by omega
  have i2 : (0 : Int) ≤ (i : Int) := by omega
  have i3 : (i : Int).toNat = i := Int.toNat_natCast i
  have htl := tg_le hql
  have htI : ((tgN q : Nat) : Int) ≤ 1048576 := by omega
  have htI0 : (0 : Int) ≤ ((tgN q : Nat) : Int) := by omega
  by_cases hk : kdN q = 2
  · have c0 : (((kdN q : Nat) : Int) != 2) = false := by simp; omega
    by_cases ht : tgN q = 1048576
    · have hd : dueN R (i : Int) = none := due_one hi (.inr (by rw [hqd]; exact ht))
      rw [hd]
      show Calls _ _ _ _ fun e w' => e = .returned (.tuple #[nV 0 0 0, .bool false]) ∧ _
      have e1 : (1048576 : Int) ≤ ((tgN q : Nat) : Int) := by omega
      clear hk ht hd h hq hqd hql h1 h2 hi htl
      generalize hT : ((tgN q : Nat) : Int) = T at *
      generalize hK : ((kdN q : Nat) : Int) = K at *
      have k0 := blk_cell HS.out.b 0
      obtain ⟨⟨g0, g1, g2⟩, _⟩ := HS.out.nb.list.cells HQ.out
      unfold nV
      go_enter Tryd.func23, Tryd.ntmps23
      go_upto_region 1 with fail
      generalize World.alloc (World.alloc w _) _ = W at *
      go_upto_region 4 with fail
      have hal := (Below.refl W.heap.size W).alloc (Nat.le_refl _) (.cells #[.int .i64 (i : Int), .int .i64 T, .int .i64 K] 24)
      have HS := Lib.hid (HS.out.below hal)
      have hx := blk_new W (.cells #[.int .i64 (i : Int), .int .i64 T, .int .i64 K] 24)
      have x1 := blk_cell hx 1
      have x2 := blk_cell hx 2
      have c0 := blk_cell HS.out.r 0
      have c1 := blk_cell HS.out.r 1
      have c2 := blk_cell HS.out.r 2
      have f0 := blk_free HS.out.r 0
      have f1 := blk_free HS.out.r 1
      have f2 := blk_free HS.out.r 2
      clear hal hx k0 g0 g1 g2
      generalize World.alloc W _ = W2 at *
      go_wp2_with fail
      refine bodyPost_ret (v := .tuple #[.agg #[.int .i64 0, .int .i64 0, .int .i64 0], .bool false]) ?_ rfl ⟨rfl, ((HS.out.low.setCell (Nat.le_succ _) _).setCell (Nat.le_succ _) _).setCell (Nat.le_succ _) _⟩
      simp [results, Tryd.results23, go_sem, c0, c1, c2]
    · have hd : dueN R (i : Int) = some (q + 1) := due_two hi hqd hk ht
      rw [hd]
      have e1 : ((tgN (q + 1) : Nat) : Int) = ((tgN q : Nat) : Int) + 1 := by unfold tgN kdN at *; omega
      have e2 : ((kdN (q + 1) : Nat) : Int) = 1 := by unfold tgN kdN at *; omega
      show Calls _ _ _ _ fun e w' => e = .returned (.tuple #[nV (i : Int) (tgN (q + 1) : Nat) (kdN (q + 1) : Nat), .bool true]) ∧ _
      rw [e1, e2]
      have e3 : ¬ (1048576 : Int) ≤ ((tgN q : Nat) : Int) := by omega
      clear e1 e2 hk ht hd h hq hqd hql h1 h2 hi htl
      generalize hT : ((tgN q : Nat) : Int) = T at *
      generalize hK : ((kdN q : Nat) : Int) = K at *
      have e5 : IntKind.i64.wrap (T + 1) = T + 1 := IntWalk.i64_in _ (by omega)
      have k0 := blk_cell HS.out.b 0
      obtain ⟨⟨g0, g1, g2⟩, _⟩ := HS.out.nb.list.cells HQ.out
      unfold nV
      go_enter Tryd.func23, Tryd.ntmps23
      go_upto_region 1 with fail
      generalize World.alloc (World.alloc w _) _ = W at *
      go_upto_region 4 with fail
      have hal := (Below.refl W.heap.size W).alloc (Nat.le_refl _) (.cells #[.int .i64 (i : Int), .int .i64 T, .int .i64 K] 24)
      have HS := Lib.hid (HS.out.below hal)
      have hx := blk_new W (.cells #[.int .i64 (i : Int), .int .i64 T, .int .i64 K] 24)
      have x1 := blk_cell hx 1
      have x2 := blk_cell hx 2
      have c0 := blk_cell HS.out.r 0
      have c1 := blk_cell HS.out.r 1
      have c2 := blk_cell HS.out.r 2
      have f0 := blk_free HS.out.r 0
      have f1 := blk_free HS.out.r 1
      have f2 := blk_free HS.out.r 2
      clear hal hx k0 g0 g1 g2
      generalize World.alloc W _ = W2 at *
      go_wp2_with fail
      refine bodyPost_ret (v := .tuple #[.agg #[.int .i64 (i : Int), .int .i64 (T + 1), .int .i64 1], .bool true]) ?_ rfl ⟨rfl, ((HS.out.low.setCell (Nat.le_succ _) _).setCell (Nat.le_succ _) _).setCell (Nat.le_succ _) _⟩
      simp [results, Tryd.results23, go_sem, c0, c1, c2]
  · have hd : dueN R (i : Int) = none := due_one hi (.inl (by have := kd_le q; rw [hqd]; omega))
    rw [hd]
    show Calls _ _ _ _ fun e w' => e = .returned (.tuple #[nV 0 0 0, .bool false]) ∧ _
    have c0 : (((kdN q : Nat) : Int) != 2) = true := by simp; omega
    clear hk hd h hq hqd hql h1 h2 hi htl
    generalize hT : ((tgN q : Nat) : Int) = T at *
    generalize hK : ((kdN q : Nat) : Int) = K at *
    have k0 := blk_cell HS.out.b 0
    obtain ⟨⟨g0, g1, g2⟩, _⟩ := HS.out.nb.list.cells HQ.out
    unfold nV
    go_enter Tryd.func23, Tryd.ntmps23
    go_upto_region 1 with fail
    generalize World.alloc (World.alloc w _) _ = W at *
    go_upto_region 4 with fail
    have hal := (Below.refl W.heap.size W).alloc (Nat.le_refl _) (.cells #[.int .i64 (i : Int), .int .i64 T, .int .i64 K] 24)
    have HS := Lib.hid (HS.out.below hal)
    have hx := blk_new W (.cells #[.int .i64 (i : Int), .int .i64 T, .int .i64 K] 24)
    have x1 := blk_cell hx 1
    have x2 := blk_cell hx 2
    have c0 := blk_cell HS.out.r 0
    have c1 := blk_cell HS.out.r 1
    have c2 := blk_cell HS.out.r 2
    have f0 := blk_free HS.out.r 0
    have f1 := blk_free HS.out.r 1
    have f2 := blk_free HS.out.r 2
    clear hal hx k0 g0 g1 g2
    generalize World.alloc W _ = W2 at *
    go_wp2_with fail
    refine bodyPost_ret (v := .tuple #[.agg #[.int .i64 0, .int .i64 0, .int .i64 0], .bool false]) ?_ rfl ⟨rfl, ((HS.out.low.setCell (Nat.le_succ _) _).setCell (Nat.le_succ _) _).setCell (Nat.le_succ _) _⟩
    simp [results, Tryd.results23, go_sem, c0, c1, c2]
set_option maxRecDepth 100000 in
theorem r15_zero (sf : Int) (w : World) :
    Calls Tryd.prog 23 #[.agg #[.slice none 0 0], .int .i64 sf] w fun e w' => e = .returned (.tuple #[nV 0 0 0, .bool false]) ∧ Below w.heap.size w w' := by
  have hb := ((Below.refl w.heap.size w).alloc (Nat.le_refl _) (.cells #[.slice none 0 0] 54)).alloc (by simp) (.cells #[.int .i64 0, .int .i64 0, .int .i64 0] 24)
  have h0 := blk_old (blk_new w (.cells #[.slice none 0 0] 54)) (.cells #[.int .i64 0, .int .i64 0, .int .i64 0] 24)
  have h1 := b1 w (.cells #[.slice none 0 0] 54) (.cells #[.int .i64 0, .int .i64 0, .int .i64 0] 24)
  have k0 := blk_cell h0 0
  have c0 := blk_cell h1 0
  have c1 := blk_cell h1 1
  have c2 := blk_cell h1 2
  have f0 := blk_free h1 0
  have f1 := blk_free h1 1
  have f2 := blk_free h1 2
  have HB := Lib.hid hb
  clear hb h0 h1
  unfold nV
  by_cases h1 : sf < 0
  · go_enter Tryd.func23, Tryd.ntmps23
    go_upto_region 1 with fail
    generalize World.alloc (World.alloc w _) _ = W at *
    go_wp2_with fail
    refine bodyPost_ret (v := .tuple #[.agg #[.int .i64 0, .int .i64 0, .int .i64 0], .bool false]) ?_ rfl ⟨rfl, ((HB.out.setCell (Nat.le_succ _) _).setCell (Nat.le_succ _) _).setCell (Nat.le_succ _) _⟩
    simp [results, Tryd.results23, go_sem, c0, c1, c2]
  · have h2 : 0 ≤ sf := by omega
    clear h1
    go_enter Tryd.func23, Tryd.ntmps23
    go_upto_region 1 with fail
    generalize World.alloc (World.alloc w _) _ = W at *
    go_wp2_with fail
    refine bodyPost_ret (v := .tuple #[.agg #[.int .i64 0, .int .i64 0, .int .i64 0], .bool false]) ?_ rfl ⟨rfl, ((HB.out.setCell (Nat.le_succ _) _).setCell (Nat.le_succ _) _).setCell (Nat.le_succ _) _⟩
    simp [results, Tryd.results23, go_sem, c0, c1, c2]
end Go.Proofs.YtppmiggkknhdkaaDoor
namespace Go.Proofs.YtppmiggkknhdkaaDoor
set_option linter.unusedVariables false
set_option linter.unusedSimpArgs false
open Go.RowKit

/-- With the power on, and no fuse, the first raise never fails. -/
theorem raise0 {W : World} {b c : Nat} {d : Dk} (hs : Saved Dk.new d none ⟨1, 16, 4, 1⟩) (hlt : ∀ x ∈ d.bs, x < 256) (h : BtAt W b c ⟨1, 16, 4, 0, 0⟩ d) (t : Nat) (h1 : 1 ≤ t) (h2 : t ≤ 1048576) :
    Calls Tryd.prog 30 #[.pointer (some ⟨b, 0, none⟩), .int .i64 (t : Int)] W fun e w' => e = .returned (.int .i64 0) ∧ Ch2 W w' b c := by
  have hfz : d.fuse ≤ 9223372036854775807 := by rw [hs.un rfl]; exact Nat.zero_le _
  have hwr : d.writes ≤ 4611686018427387903 := by rw [hs.writes]; decide
  by_cases h4 : t ≤ 4
  · exact (raise_covered b c _ d t W h hs.on h2 h1 h4).mono fun e w' ⟨e1, _, e3⟩ => ⟨e1, e3⟩
  · refine (raise_save b c _ d t W h hs.on h2 h1 h4 hlt hwr hfz).mono ?_
    rintro e w' ⟨h0, _, hC⟩
    have hz := capZ_le t
    have hz2 := capZ_ge h2
    rcases save_law (x := ((1 : Nat) : Int)) (y := ((16 : Nat) : Int)) (z := ((capZ t : Nat) : Int)) hs.slots hs.len hs.on ⟨by omega, by omega, by omega, by omega, by omega, by omega⟩ (by show (1 : Nat) < _; omega) with ⟨s0, _⟩ | ⟨_, hf⟩
    · exact ⟨(h0 s0).1, hC⟩
    · have := hf.fused; rw [hs.fused] at this; cases this
/-- Boxes with notices, from a block on. -/
def BL (W : World) (L : Nat) (ps : List (Nat × Int × Int × Int)) : Prop := ∀ x ∈ ps, L ≤ x.1 ∧ W.heap[x.1]? = some (.cells #[.int .i64 x.2.1, .int .i64 x.2.2.1, .int .i64 x.2.2.2] 24 (0, 0))
theorem BL.below {W X : World} {L : Nat} {ps : List (Nat × Int × Int × Int)} (h : BL W L ps) (hb : Below W.heap.size W X) : BL X L ps := fun x hx => ⟨(h x hx).1, blk_below' hb (h x hx).2⟩
theorem BL.nil (W : World) (L : Nat) : BL W L [] := fun x hx => by simp at hx
theorem BL.box {W : World} {L : Nat} {ps : List (Nat × Int × Int × Int)} (h : BL W L ps) (hL : L ≤ W.heap.size) (o t k : Int) : BL (W.alloc (.cells #[.int .i64 o, .int .i64 t, .int .i64 k] 24)) L ((W.heap.size, o, t, k) :: ps) := by
  intro x hx
  rcases List.mem_cons.1 hx with rfl | hx
  · exact ⟨hL, blk_new W _⟩
  · exact ⟨(h x hx).1, blk_old (h x hx).2 _⟩
theorem BL.chg {W X : World} {L b c g : Nat} {ps : List (Nat × Int × Int × Int)} (h : BL W L ps) (hc : Ch3 W X b c g) (hl : b < L ∧ c < L ∧ g < L) : BL X L ps := fun x hx => by
  have := (h x hx).1
  exact ⟨this, hc.blk (h x hx).2 (by omega) (by omega) (by omega)⟩
theorem BL.at {W : World} {L : Nat} {ps : List (Nat × Int × Int × Int)} (h : BL W L ps) {p : Nat} {o t k : Int} (hm : (p, o, t, k) ∈ ps) : Bx3 p o t k W := ⟨blk_cell (h _ hm).2 0, blk_cell (h _ hm).2 1, blk_cell (h _ hm).2 2⟩
theorem set_at {R : List Nat} {s r : Nat} (h : s < R.length) : (R.set s r).getD s 0 = r := by simp [List.getD, h]
set_option maxRecDepth 100000 in
set_option maxHeartbeats 4000000 in
theorem refuteFree_in (n s : Nat) (hn : 1 ≤ n ∧ n ≤ 100) (hs : s < n) (v : Value) (xs : List (List Int)) (w : World) {a : Addr} (hg : Gl a w) (hrow : RowsOf w 3 v xs) (hlen : xs.length ≤ 300) :
    Calls Tryd.prog 6 #[.int .i64 (n : Int), .int .i64 (s : Int), v] w fun e w' => e = .returned (.bool true) ∧ Below w.heap.size w w' := by
  have hlt0 : ∀ c ∈ Dk.new.bs, c < 256 := tnS_new.lt
  obtain ⟨s0, hsv⟩ := first_save15
  have hlt1 := saveW_lt tnS_new.lt ((1 : Nat) : Int) (capR 0 : Nat) (capT 0 : Nat)
  obtain ⟨D, hDe⟩ : ∃ D, saveW Dk.new ((1 : Nat) : Int) (capR 0 : Nat) (capT 0 : Nat) = D := ⟨_, rfl⟩
  rw [hDe] at s0 hsv hlt1
  have HDE := Lib.hid hDe
  obtain ⟨d1, er⟩ := D
  simp only at s0 hsv hlt1
  subst s0
  have HSV := Lib.hid hsv
  have HLT1 := Lib.hid hlt1
  have HG := Lib.hid hg
  have HR := Lib.hid hrow
  have HN := Lib.hid hn
  have HS := Lib.hid hs
  obtain ⟨p, cap, rfl, hm1, hm2, _⟩ := hrow
  have a1 : ¬ (300 : Int) < (xs.length : Int) := by omega
  clear hDe hsv hg hm1 hm2 hn hs hlt1
  go_enter Tryd.func6, Tryd.ntmps6
  go_wp2_with fail
  refine (new_any _).mono ?_
  rintro e w1 ⟨rfl, hD1, hB1⟩
  go_wp2_with fail
  refine (open_none w.heap.size Dk.new w1 hD1 hlt0 (by decide) (by decide) (loadA_none slSt_new rfl)).mono ?_
  rintro e w2 ⟨h0, _, hg2⟩
  rw [HDE.out] at h0
  obtain ⟨b, rfl, hb, hT2⟩ := h0 rfl
  have hb2 := hB1.grown hg2 hB1.size (fun j h => by cases h; exact Nat.le_refl _)
  have hbw : w.heap.size ≤ b := Nat.le_trans hB1.size hb
  clear h0 hg2 hD1 hlt0
  go_wp2_with fail
  refine (tnew_yes n s 0 HN.out HS.out (by decide) w2).mono ?_
  rintro e w3 ⟨B, g, rfl, hT3, hB3, hg3, hb3⟩
  have hK3 : BtAt w3 b w.heap.size ⟨1, 16, 4, 0, 0⟩ d1 := hT2.below hb3
  have hlow3 := below_then hb2 hb3
  have HNE : Hid ((b ≠ B ∧ b ≠ g ∧ w.heap.size ≠ B ∧ w.heap.size ≠ g) ∧ w.heap.size ≤ b ∧ w.heap.size ≤ g ∧ w.heap.size ≤ B) := by have := blk_lt hT2.disk.1; have := blk_lt hT2.boot; exact Lib.hid ⟨⟨by omega, by omega, by omega, by omega⟩, by omega, by omega, by omega⟩
  clear hT2 hb3 hB1 hb2 hb
  go_wp2_with fail
  refine (merge_any (.slice p xs.length cap) xs hT3 (fun W hW => HR.out.below (hlow3.grown hW hlow3.size (fun j hj => by cases hj; exact HNE.out.2.2.1)))).mono ?_
  rintro e w4 ⟨⟨ym, em, rfl⟩, hT4, hg4⟩
  have HT := Lib.hid hT4
  have HK := Lib.hid (hK3.same (hg4.5 b (blk_lt hK3.boot) (by have := HNE.out; simp; omega)) (hg4.5 _ (blk_lt hK3.disk.1) (by have := HNE.out; simp; omega)))
  have HL := Lib.hid (hlow3.grown hg4 hlow3.size (fun j hj => by cases hj; exact HNE.out.2.2.1))
  have HRL := Lib.hid ((mgR_len (bk0 n s 0) xs).trans (bk0_len n s 0))
  generalize mgR (bk0 n s 0) xs = R at *
  have hsR : s < R.length := by have := HRL.out; have := HS.out; omega
  obtain ⟨q, _, hqd, hql⟩ := hT4.get hsR
  have HQ := Lib.hid hqd
  have HQL := Lib.hid hql
  have HSR := Lib.hid hsR
  clear hT4 hg4 hT3 hK3 hlow3 hqd hql hsR
  go_wp2_with fail
  refine (at_nat HT.out s HSR.out).mono ?_
  rintro e w5 ⟨rfl, hB⟩
  rw [HQ.out]
  have HT := Lib.hid (HT.out.below hB)
  have HK := Lib.hid (HK.out.below hB)
  have HL := Lib.hid (below_then HL.out hB)
  clear hB
  go_wp2_with fail
  have hal := (Below.refl w5.heap.size w5).alloc (Nat.le_refl _) (.cells #[.int .i64 (s : Int), .int .i64 (tgN q : Nat), .int .i64 (kdN q : Nat)] 24)
  have HLL : Hid (b < w5.heap.size ∧ w.heap.size < w5.heap.size ∧ g < w5.heap.size) := Lib.hid ⟨blk_lt HK.out.boot, blk_lt HK.out.disk.1, HT.out.lt.2⟩
  have HBX := Lib.hid ((BL.nil w5 w5.heap.size).box (Nat.le_refl _) (s : Int) (tgN q : Nat) (kdN q : Nat))
  have HT := Lib.hid (HT.out.below hal)
  have HK := Lib.hid (HK.out.below hal)
  have HL := Lib.hid (below_then HL.out hal)
  have HSZ := Lib.hid hal.size
  clear hal
  obtain ⟨L, hLe⟩ : ∃ L, w5.heap.size = L := ⟨_, rfl⟩
  rw [hLe] at HBX HLL HSZ
  (try rw [hLe])
  clear hLe
  generalize World.alloc w5 _ = w6 at *
  by_cases hno : kdN q = 1 ∨ tgN q = 1048576
  · have HD := Lib.hid (due_one HSR.out (by rw [HQ.out]; exact hno))
    refine (defend_none HT.out (HG.out.of HL.out) (s : Int) (some ⟨b, 0, none⟩) HD.out).mono ?_
    rintro e w7 ⟨rfl, hB⟩
    unfold nV
    have HBX := Lib.hid (HBX.out.below hB)
    have HT := Lib.hid (HT.out.below hB)
    have HL := Lib.hid (below_then HL.out hB)
    have HSZ := Lib.hid (Nat.le_trans HSZ.out hB.size)
    clear hB
    go_wp2_with fail
    have hal := (Below.refl (w7).heap.size w7).alloc (Nat.le_refl _) (.cells #[.int .i64 0, .int .i64 0, .int .i64 0] 24)
    have HBX := Lib.hid (HBX.out.box HSZ.out 0 0 0)
    have HT := Lib.hid (HT.out.below hal)
    have HL := Lib.hid (below_then HL.out hal)
    have HSZ := Lib.hid (Nat.le_trans HSZ.out hal.size)
    clear hal
    obtain ⟨pw8, hpw8⟩ : ∃ p, (w7).heap.size = p := ⟨_, rfl⟩
    rw [hpw8] at HBX
    (try rw [hpw8])
    clear hpw8
    generalize World.alloc w7 _ = w8 at *
    refine (at_nat HT.out s HSR.out).mono ?_
    rintro e w9 ⟨rfl, hB⟩
    rw [HQ.out]
    have HBX := Lib.hid (HBX.out.below hB)
    have HT := Lib.hid (HT.out.below hB)
    have HL := Lib.hid (below_then HL.out hB)
    have HSZ := Lib.hid (Nat.le_trans HSZ.out (hB).size)
    clear hB
    go_upto_region 10 with fail
    have hal := (Below.refl (w9).heap.size w9).alloc (Nat.le_refl _) (.cells #[.int .i64 (s : Int), .int .i64 (tgN q : Nat), .int .i64 (kdN q : Nat)] 24)
    have HBX := Lib.hid (HBX.out.box HSZ.out (s : Int) (tgN q : Nat) (kdN q : Nat))
    have HT := Lib.hid (HT.out.below hal)
    have HL := Lib.hid (below_then HL.out hal)
    have HSZ := Lib.hid (Nat.le_trans HSZ.out hal.size)
    clear hal
    obtain ⟨pw10, hpw10⟩ : ∃ p, (w9).heap.size = p := ⟨_, rfl⟩
    rw [hpw10] at HBX
    (try rw [hpw10])
    clear hpw10
    generalize World.alloc w9 _ = w10 at *
    obtain ⟨x0, x1, x2⟩ := HBX.out.at (p := L) (o := (s : Int)) (t := (tgN q : Nat)) (k := (kdN q : Nat)) (by simp)
    have hE : (((kdN q : Nat) : Int) == 1) = true ∨ (((kdN q : Nat) : Int) == 1) = false ∧ (((tgN q : Nat) : Int) == 1048576) = true := by
      rcases hno with h | h
      · exact .inl (by simp; omega)
      · by_cases h1 : kdN q = 1
        · exact .inl (by simp; omega)
        · exact .inr ⟨by simp; omega, by simp; omega⟩
    clear hno
    rcases hE with c1 | ⟨c1, c2⟩
    · skip
      go_wp2_with fail
      refine (alive15_any (HG.out.of HL.out)).mono ?_
      rintro e w11 ⟨rfl, hB⟩
      clear x0 x1 x2
      have HBX := Lib.hid (HBX.out.below hB)
      have HT := Lib.hid (HT.out.below hB)
      have HL := Lib.hid (below_then HL.out hB)
      have HSZ := Lib.hid (Nat.le_trans HSZ.out (hB).size)
      clear hB
      obtain ⟨x0, x1, x2⟩ := HBX.out.at (p := L) (o := (s : Int)) (t := (tgN q : Nat)) (k := (kdN q : Nat)) (by simp)
      obtain ⟨y0, y1, y2⟩ := HBX.out.at (p := pw10) (o := (s : Int)) (t := (tgN q : Nat)) (k := (kdN q : Nat)) (by simp)
      go_wp2_with fail
      go_ret
      exact ⟨rfl, HL.out⟩
    · skip
      go_wp2_with fail
      refine (alive15_any (HG.out.of HL.out)).mono ?_
      rintro e w11 ⟨rfl, hB⟩
      clear x0 x1 x2
      have HBX := Lib.hid (HBX.out.below hB)
      have HT := Lib.hid (HT.out.below hB)
      have HL := Lib.hid (below_then HL.out hB)
      have HSZ := Lib.hid (Nat.le_trans HSZ.out (hB).size)
      clear hB
      obtain ⟨x0, x1, x2⟩ := HBX.out.at (p := L) (o := (s : Int)) (t := (tgN q : Nat)) (k := (kdN q : Nat)) (by simp)
      obtain ⟨y0, y1, y2⟩ := HBX.out.at (p := pw10) (o := (s : Int)) (t := (tgN q : Nat)) (k := (kdN q : Nat)) (by simp)
      go_wp2_with fail
      go_ret
      exact ⟨rfl, HL.out⟩
  · have hk : kdN q = 2 := by have := kd_le q; omega
    have ht : tgN q ≠ 1048576 := fun h => hno (.inr h)
    have htl := tg_le HQL.out
    obtain ⟨r, hr⟩ : ∃ r, q + 1 = r := ⟨_, rfl⟩
    have hrb : r ≤ 2097153 ∧ kdN r = 1 ∧ tgN r = tgN q + 1 ∧ 1 ≤ tgN r ∧ tgN r ≤ 1048576 ∧ q < r := by unfold kdN tgN at *; omega
    have HRB := Lib.hid hrb
    have hdue : dueN R (s : Int) = some r := by rw [← hr]; exact due_two HSR.out HQ.out hk ht
    have HRP : Hid (∀ W, Calls Tryd.prog 24 #[.agg #[.int .i64 (s : Int), .int .i64 (tgN q : Nat), .int .i64 (kdN q : Nat)]] W fun e w' => e = .returned (.tuple #[.agg #[.int .i64 (s : Int), .int .i64 (tgN r : Nat), .int .i64 (kdN r : Nat)], .int .i64 0]) ∧ Below W.heap.size W w') := Lib.hid fun W => by
      have := reply_nat s q HQL.out W
      rw [show rpV s q = .tuple #[nV (s : Int) (tgN r : Nat) (kdN r : Nat), .int .i64 0] from by
        unfold rpV; rw [if_pos hk, if_neg ht, HRB.out.2.1, HRB.out.2.2.1]; rfl] at this
      exact this
    have HDU := Lib.hid hdue
    have HDN : Hid (dueN (R.set s r) (s : Int) = none) := Lib.hid (due_one (by rw [List.length_set]; exact HSR.out) (.inl (by rw [set_at HSR.out]; exact HRB.out.2.1)))
    have c1 : (((kdN q : Nat) : Int) == 1) = false := by simp; omega
    have c2 : (((tgN q : Nat) : Int) == 1048576) = false := by simp; omega
    clear hno hk ht htl hr hrb hdue
    refine (defend_some HT.out (HG.out.of HL.out) (s : Int) (some ⟨b, 0, none⟩) r HDU.out b w.heap.size (fun er W => er = 0) ⟨blk_lt HK.out.boot, blk_lt HK.out.disk.1⟩ HNE.out.1
      (fun W hW => (raise0 HSV.out HLT1.out (HK.out.below hW) (tgN r) HRB.out.2.2.2.1 HRB.out.2.2.2.2.1).mono (fun e w' ⟨h1, h2⟩ => ⟨0, h1, h2, rfl⟩))
      (fun er W X _ _ h => h)).mono ?_
    rintro e w7 ⟨er, rfl, hC, (⟨hne, _⟩ | ⟨_, rfl, hT7⟩)⟩
    · exact absurd rfl hne
    rw [Int.toNat_natCast] at hT7
    unfold nV
    have HBX := Lib.hid (HBX.out.chg hC HLL.out)
    have HL := Lib.hid (hC.back HL.out HL.out.size HNE.out.2.1 (Nat.le_refl _) HNE.out.2.2.1)
    have HSZ := Lib.hid (Nat.le_trans HSZ.out hC.size)
    have HT := Lib.hid hT7
    clear hT7 hC HK
    go_wp2_with fail
    have hal := (Below.refl (w7).heap.size w7).alloc (Nat.le_refl _) (.cells #[.int .i64 (s : Int), .int .i64 (tgN r : Nat), .int .i64 (kdN r : Nat)] 24)
    have HBX := Lib.hid (HBX.out.box HSZ.out (s : Int) (tgN r : Nat) (kdN r : Nat))
    have HT := Lib.hid (HT.out.below hal)
    have HL := Lib.hid (below_then HL.out hal)
    have HSZ := Lib.hid (Nat.le_trans HSZ.out hal.size)
    clear hal
    obtain ⟨pw8, hpw8⟩ : ∃ p, (w7).heap.size = p := ⟨_, rfl⟩
    rw [hpw8] at HBX
    (try rw [hpw8])
    clear hpw8
    generalize World.alloc w7 _ = w8 at *
    refine (at_nat HT.out s (by rw [List.length_set]; exact HSR.out)).mono ?_
    rintro e w9 ⟨rfl, hB⟩
    rw [set_at HSR.out]
    have HBX := Lib.hid (HBX.out.below hB)
    have HT := Lib.hid (HT.out.below hB)
    have HL := Lib.hid (below_then HL.out hB)
    have HSZ := Lib.hid (Nat.le_trans HSZ.out (hB).size)
    clear hB
    go_upto_region 10 with fail
    have hal := (Below.refl (w9).heap.size w9).alloc (Nat.le_refl _) (.cells #[.int .i64 (s : Int), .int .i64 (tgN r : Nat), .int .i64 (kdN r : Nat)] 24)
    have HBX := Lib.hid (HBX.out.box HSZ.out (s : Int) (tgN r : Nat) (kdN r : Nat))
    have HT := Lib.hid (HT.out.below hal)
    have HL := Lib.hid (below_then HL.out hal)
    have HSZ := Lib.hid (Nat.le_trans HSZ.out hal.size)
    clear hal
    obtain ⟨pw10, hpw10⟩ : ∃ p, (w9).heap.size = p := ⟨_, rfl⟩
    rw [hpw10] at HBX
    (try rw [hpw10])
    clear hpw10
    generalize World.alloc w9 _ = w10 at *
    obtain ⟨x0, x1, x2⟩ := HBX.out.at (p := L) (o := (s : Int)) (t := (tgN q : Nat)) (k := (kdN q : Nat)) (by simp)
    go_wp2_with fail
    refine (HRP.out _).mono ?_
    rintro e w11 ⟨rfl, hB⟩
    have HBX := Lib.hid (HBX.out.below hB)
    have HT := Lib.hid (HT.out.below hB)
    have HL := Lib.hid (below_then HL.out hB)
    have HSZ := Lib.hid (Nat.le_trans HSZ.out (hB).size)
    clear hB
    clear x0 x1 x2
    go_wp2_with fail
    have hal := (Below.refl (w11).heap.size w11).alloc (Nat.le_refl _) (.cells #[.int .i64 (s : Int), .int .i64 (tgN r : Nat), .int .i64 (kdN r : Nat)] 24)
    have HBX := Lib.hid (HBX.out.box HSZ.out (s : Int) (tgN r : Nat) (kdN r : Nat))
    have HT := Lib.hid (HT.out.below hal)
    have HL := Lib.hid (below_then HL.out hal)
    have HSZ := Lib.hid (Nat.le_trans HSZ.out hal.size)
    clear hal
    obtain ⟨pw12, hpw12⟩ : ∃ p, (w11).heap.size = p := ⟨_, rfl⟩
    rw [hpw12] at HBX
    (try rw [hpw12])
    clear hpw12
    generalize World.alloc w11 _ = w12 at *
    refine (defend_none HT.out (HG.out.of HL.out) (s : Int) (some ⟨b, 0, none⟩) HDN.out).mono ?_
    rintro e w13 ⟨rfl, hB⟩
    unfold nV
    have HBX := Lib.hid (HBX.out.below hB)
    have HT := Lib.hid (HT.out.below hB)
    have HL := Lib.hid (below_then HL.out hB)
    have HSZ := Lib.hid (Nat.le_trans HSZ.out (hB).size)
    clear hB
    go_wp2_with fail
    have hal := (Below.refl (w13).heap.size w13).alloc (Nat.le_refl _) (.cells #[.int .i64 0, .int .i64 0, .int .i64 0] 24)
    have HBX := Lib.hid (HBX.out.box HSZ.out 0 0 0)
    have HT := Lib.hid (HT.out.below hal)
    have HL := Lib.hid (below_then HL.out hal)
    have HSZ := Lib.hid (Nat.le_trans HSZ.out hal.size)
    clear hal
    obtain ⟨pw14, hpw14⟩ : ∃ p, (w13).heap.size = p := ⟨_, rfl⟩
    rw [hpw14] at HBX
    (try rw [hpw14])
    clear hpw14
    generalize World.alloc w13 _ = w14 at *
    refine (alive15_any (HG.out.of HL.out)).mono ?_
    rintro e w15 ⟨rfl, hB⟩
    have HBX := Lib.hid (HBX.out.below hB)
    have HT := Lib.hid (HT.out.below hB)
    have HL := Lib.hid (below_then HL.out hB)
    have HSZ := Lib.hid (Nat.le_trans HSZ.out (hB).size)
    clear hB
    obtain ⟨x0, x1, x2⟩ := HBX.out.at (p := L) (o := (s : Int)) (t := (tgN q : Nat)) (k := (kdN q : Nat)) (by simp)
    obtain ⟨y0, y1, y2⟩ := HBX.out.at (p := pw8) (o := (s : Int)) (t := (tgN r : Nat)) (k := (kdN r : Nat)) (by simp)
    obtain ⟨z0, z1, z2⟩ := HBX.out.at (p := pw10) (o := (s : Int)) (t := (tgN r : Nat)) (k := (kdN r : Nat)) (by simp)
    obtain ⟨v0, v1, v2⟩ := HBX.out.at (p := pw12) (o := (s : Int)) (t := (tgN r : Nat)) (k := (kdN r : Nat)) (by simp)
    go_wp2_with fail
    have HBT := Lib.hid (fun w => beats_nat s r q HRB.out.1 HQL.out w)
    unfold nV at HBT
    refine (HBT.out _).mono ?_
    rintro e w16 ⟨rfl, hB⟩
    rw [decide_eq_true HRB.out.2.2.2.2.2]
    have HBX := Lib.hid (HBX.out.below hB)
    have HT := Lib.hid (HT.out.below hB)
    have HL := Lib.hid (below_then HL.out hB)
    have HSZ := Lib.hid (Nat.le_trans HSZ.out (hB).size)
    clear hB
    clear x0 x1 x2 y0 y1 y2 z0 z1 z2 v0 v1 v2
    go_wp2_with fail
    refine (susp_any HT.out).mono ?_
    rintro e w17 ⟨ys, rfl, hsb, hB⟩
    have HBX := Lib.hid (HBX.out.below hB)
    have HT := Lib.hid (HT.out.below hB)
    have HL := Lib.hid (below_then HL.out hB)
    have HSZ := Lib.hid (Nat.le_trans HSZ.out (hB).size)
    clear hB
    have HHS := Lib.hid (fun w => has_any ys (s : Int) w)
    rw [show hasB ys (s : Int) = false from by
      unfold hasB
      rw [Int.toNat_natCast]
      cases hb : ys.testBit s with
      | false => simp
      | true =>
        have h1 := hsb s hb
        rw [set_at HSR.out, HRB.out.2.1] at h1
        cases h1] at HHS
    clear hsb
    go_wp2_with fail
    refine (HHS.out _).mono ?_
    rintro e w18 ⟨rfl, hB⟩
    have HBX := Lib.hid (HBX.out.below hB)
    have HT := Lib.hid (HT.out.below hB)
    have HL := Lib.hid (below_then HL.out hB)
    have HSZ := Lib.hid (Nat.le_trans HSZ.out (hB).size)
    clear hB
    go_wp2_with fail
    go_ret
    exact ⟨rfl, HL.out⟩
end Go.Proofs.YtppmiggkknhdkaaDoor
namespace Go.Proofs.YtppmiggkknhdkaaDoor
set_option linter.unusedVariables false
set_option linter.unusedSimpArgs false
open Go.RowKit

/-- The variables of the document's Merge: b, the two results. -/
structure RmA (w : World) (g cp : Nat) (R : List Nat) (W : World) : Prop where
  b : W.heap[w.heap.size]? = some (.cells #[.slice (some ⟨g, 0, none⟩) R.length cp] 54 (0, 0))
  r1 : W.heap[w.heap.size + 1]? = some (.cells #[.slice none 0 0] 54 (0, 0))
  r2 : W.heap[w.heap.size + 2]? = some (.cells (setC 0) 59 (0, 0))
  low : Below w.heap.size w W
theorem RmA.below {w W X : World} {g cp : Nat} {R : List Nat} (h : RmA w g cp R W) (hb : Below W.heap.size W X) : RmA w g cp R X := ⟨blk_below' hb h.b, blk_below' hb h.r1, blk_below' hb h.r2, below_then h.low hb⟩
theorem RmA.other {w W X : World} {g cp k : Nat} {R : List Nat} (h : RmA w g cp R W) (hg : W.grownBy X (some k)) (hk : w.heap.size + 2 < k) : RmA w g cp R X :=
  ⟨blk_grown hg h.b (by simp; omega), blk_grown hg h.r1 (by simp; omega), blk_grown hg h.r2 (by simp; omega), h.low.grown hg h.low.size (fun j hj => by cases hj; omega)⟩
structure RmB (w : World) (g cp : Nat) (R : List Nat) (ps pc g2 cp2 : Nat) (S : List Nat) (y : Nat) (W : World) : Prop where
  a : RmA w g cp R W
  s : W.heap[ps]? = some (.cells (setC y) 59 (0, 0))
  c : W.heap[pc]? = some (.cells #[.slice (some ⟨g2, 0, none⟩) R.length cp2] 54 (0, 0))
  nb : Nb W g2 cp2 S
  len : S.length = R.length
  l1 : w.heap.size + 2 < ps
  l2 : w.heap.size + 2 < pc
  l3 : w.heap.size + 2 < g2
  n1 : ps ≠ pc
  n2 : ps ≠ g2
  n3 : pc ≠ g2
theorem RmB.below {w W X : World} {g cp : Nat} {R : List Nat} {ps pc g2 cp2 : Nat} {S : List Nat} {y : Nat} (h : RmB w g cp R ps pc g2 cp2 S y W) (hb : Below W.heap.size W X) : RmB w g cp R ps pc g2 cp2 S y X :=
  ⟨h.a.below hb, blk_below' hb h.s, blk_below' hb h.c, h.nb.below hb, h.len, h.l1, h.l2, h.l3, h.n1, h.n2, h.n3⟩
theorem RmB.set {w W : World} {g cp : Nat} {R : List Nat} {ps pc g2 cp2 : Nat} {S : List Nat} {y : Nat} (h : RmB w g cp R ps pc g2 cp2 S y W) {i r : Nat} (hi : i < S.length) (hr : r ≤ 2097153) :
    RmB w g cp R ps pc g2 cp2 (S.set i r) y (((W.setCell ⟨g2, i * 3, none⟩ (.int .i64 (i : Int))).setCell ⟨g2, i * 3 + 1, none⟩ (.int .i64 (tgN r : Nat))).setCell ⟨g2, i * 3 + 2, none⟩ (.int .i64 (kdN r : Nat))) := by
  obtain ⟨h1, hg⟩ := h.nb.set hi hr
  exact ⟨h.a.other hg h.l3, blk_grown hg h.s (by have := h.n2; simp; omega), blk_grown hg h.c (by have := h.n3; simp; omega), h1, by rw [List.length_set]; exact h.len, h.l1, h.l2, h.l3, h.n1, h.n2, h.n3⟩
theorem RmB.put {w W X : World} {g cp : Nat} {R : List Nat} {ps pc g2 cp2 : Nat} {S : List Nat} {y z : Nat} (h : RmB w g cp R ps pc g2 cp2 S y W) (hg : W.grownBy X (some ps)) (hz : X.heap[ps]? = some (.cells (setC z) 59 (0, 0))) : RmB w g cp R ps pc g2 cp2 S z X :=
  ⟨h.a.other hg h.l1, hz, blk_grown hg h.c (by have := h.n1; simp; omega), h.nb.other hg (by have := h.n2; omega), h.len, h.l1, h.l2, h.l3, h.n1, h.n2, h.n3⟩
def Rm7 (pc g2 cp2 n gx px : Nat) (o t d : Int) (i q : Nat) (W : World) : Prop := W.cell? ⟨pc, 0, none⟩ = some (.slice (some ⟨g2, 0, none⟩) n cp2) ∧ (W.cell? ⟨gx, px, none⟩ = some (.int .i64 o) ∧ W.cell? ⟨gx, px + 1, none⟩ = some (.int .i64 t) ∧ W.cell? ⟨gx, px + 2, none⟩ = some (.int .i64 d)) ∧ (W.cell? ⟨g2, i * 3, none⟩ = some (.int .i64 (i : Int)) ∧ W.cell? ⟨g2, i * 3 + 1, none⟩ = some (.int .i64 (tgN q : Nat)) ∧ W.cell? ⟨g2, i * 3 + 2, none⟩ = some (.int .i64 (kdN q : Nat)))
def Rm5 (ps gx px : Nat) (o : Int) (y : Nat) (W : World) : Prop := W.cell? ⟨gx, px, none⟩ = some (.int .i64 o) ∧ (W.cell? ⟨ps, 0, none⟩ = some (.int .u32 (sw y 0 : Nat)) ∧ W.cell? ⟨ps, 1, none⟩ = some (.int .u32 (sw y 1 : Nat)) ∧ W.cell? ⟨ps, 2, none⟩ = some (.int .u32 (sw y 2 : Nat)) ∧ W.cell? ⟨ps, 3, none⟩ = some (.int .u32 (sw y 3 : Nat)))
def Rm6 (pc g2 cp2 n ps y : Nat) (W : World) : Prop := W.cell? ⟨pc, 0, none⟩ = some (.slice (some ⟨g2, 0, none⟩) n cp2) ∧ (W.cell? ⟨ps, 0, none⟩ = some (.int .u32 (sw y 0 : Nat)) ∧ W.cell? ⟨ps, 1, none⟩ = some (.int .u32 (sw y 1 : Nat)) ∧ W.cell? ⟨ps, 2, none⟩ = some (.int .u32 (sw y 2 : Nat)) ∧ W.cell? ⟨ps, 3, none⟩ = some (.int .u32 (sw y 3 : Nat)))
def Rm4 (b g cp n gx px : Nat) (o t k : Int) (W : World) : Prop := W.cell? ⟨b, 0, none⟩ = some (.slice (some ⟨g, 0, none⟩) n cp) ∧ (W.cell? ⟨gx, px, none⟩ = some (.int .i64 o) ∧ W.cell? ⟨gx, px + 1, none⟩ = some (.int .i64 t) ∧ W.cell? ⟨gx, px + 2, none⟩ = some (.int .i64 k))
set_option maxRecDepth 100000 in
set_option maxHeartbeats 1000000 in
theorem refMerge_any {w : World} {g cp : Nat} {R : List Nat} (v : Value) (xs : List (List Int)) (h : Nb w g cp R) (hrow : RowsOf w 3 v xs) :
    Calls Tryd.prog 22 #[.agg #[.slice (some ⟨g, 0, none⟩) R.length cp], v] w fun e w' => (∃ (g' cp' y : Nat) (er : Int), e = .returned (.tuple #[.agg #[.slice (some ⟨g', 0, none⟩) R.length cp'], setV y, .int .i64 er]) ∧ Nb w' g' cp' (mgR R xs) ∧ (g' = g ∨ w.heap.size ≤ g')) ∧ Below w.heap.size w w' := by
  have HRW := Lib.hid hrow
  obtain ⟨p, cap, rfl, hm1, hm2, _⟩ := hrow
  have hmax : xs.length ≤ 9223372036854775807 := by unfold maxLen at hm2; omega
  clear hm1 hm2
  have hA : RmA w g cp R (((w.alloc (.cells #[.slice (some ⟨g, 0, none⟩) R.length cp] 54)).alloc (.cells #[.slice none 0 0] 54)).alloc (.cells (setC 0) 59)) :=
    ⟨blk_old (blk_old (blk_new w _) _) _, blk_old (b1 w _ _) _, b2 w _ _ _, (((Below.refl w.heap.size w).alloc (Nat.le_refl _) _).alloc (by simp) _).alloc (by simp; omega) _⟩
  have HNB := Lib.hid h
  rw [← setC_zero] at hA
  clear h
  go_enter Tryd.func22, Tryd.ntmps22
  go_wp2_with fail
  generalize World.alloc (World.alloc (World.alloc w _) _) _ = W0 at *
  go_loopw [7] (fun iv wr => ∃ k : Nat, iv = .int .i64 k ∧ k ≤ xs.length ∧ (xs.take k).all (vX R.length) = true ∧ RmA w g cp R wr) (fun iv _ => xs.length - (intOf iv).toNat)
  case atStart => exact ⟨0, rfl, by omega, rfl, hA⟩
  case round =>
    obtain ⟨k, rfl, hk, hall, hM⟩ := hrel
    clear hA
    by_cases hlt : k < xs.length
    · obtain ⟨o, t, d, gx, ox, cap', hx, hv, r0, r1, r2⟩ := rows3 (HRW.out.below hM.low) hlt
      injection hv with hv1 hv2 hv3
      subst hv1 hv3
      have i1 : (k : Int) < (xs.length : Int) := by omega
      have i2 : (0 : Int) ≤ (k : Int) := by omega
      have i3 : (k : Int).toNat = k := Int.toNat_natCast k
      have HX := Lib.hid hx
      have HALL := Lib.hid hall
      have HV := Lib.hid (fun w => refValid_any (R.length : Int) o t d w)
      unfold nV at HV
      have HM := Lib.hid hM
      have HK := Lib.hid hlt
      have HCC : Hid (∀ W, RmA w g cp R W → Rm4 w.heap.size g cp R.length gx (ox + k * 3) o t d W) := Lib.hid fun W hW => by
        obtain ⟨o', t', d', gx', ox', cap'', hx', hv', c0, c1, c2⟩ := rows3 (HRW.out.below hW.low) hlt
        injection hv' with e1 e2 e3
        injection e1 with e1
        injection e1 with e1 e4
        subst e1 e4
        rw [hx] at hx'
        injection hx' with hx'
        simp only [List.cons.injEq, and_true] at hx'
        obtain ⟨rfl, rfl, rfl⟩ := hx'
        exact ⟨blk_cell hW.b 0, c0, c1, c2⟩
      clear hx hall hM hlt r0 r1 r2 hk
      go_upto_region 4 with fail
      refine wp_region_early (Rm4 w.heap.size g cp R.length gx (ox + k * 3) o t d) (fun _ => false) (by kernel_rfl) ?_
      simp only [List.size_toArray, List.length_cons, List.length_nil, Nat.reduceAdd, Array.replicate_succ, Array.replicate_zero, List.push_toArray, List.nil_append, List.cons_append]
      have HM := Lib.hid (HM.out.below ((Below.refl _ wr).drew))
      generalize World.drew wr = W2 at *
      have hSS := HCC.out _ HM.out
      refine wpAnyE_take (i := 0) (v := ?_) rfl (by kernel_rfl) (by kernel_rfl) (by kernel_rfl) (by kernel_rfl) (fun _ _ _ h => h) (Or.inl ⟨by rfl, ?_⟩) hSS ?_
      rotate_left
      · intro w hSw
        obtain ⟨j0, j1, j2, j3⟩ := hSw
        go_simp
        all_goals with_reducible rfl
      simp only [Act.put, List.setIfInBounds_toArray, List.set_cons_zero, List.set_cons_succ, List.getElem_toArray, List.getElem_cons_zero, List.getElem_cons_succ]
      refine wpAnyE_take (i := 1) (v := ?_) rfl (by kernel_rfl) (by kernel_rfl) (by kernel_rfl) (by kernel_rfl) (fun _ _ _ h => h) (Or.inl ⟨by rfl, ?_⟩) hSS ?_
      rotate_left
      · intro w hSw
        obtain ⟨j0, j1, j2, j3⟩ := hSw
        go_simp
        all_goals with_reducible rfl
      simp only [Act.put, List.setIfInBounds_toArray, List.set_cons_zero, List.set_cons_succ, List.getElem_toArray, List.getElem_cons_zero, List.getElem_cons_succ]
      refine wpAnyE_take (i := 2) (v := ?_) rfl (by kernel_rfl) (by kernel_rfl) (by kernel_rfl) (by kernel_rfl) (fun _ _ _ h => h) (Or.inl ⟨by rfl, ?_⟩) hSS ?_
      rotate_left
      · intro w hSw
        obtain ⟨j0, j1, j2, j3⟩ := hSw
        go_simp
        all_goals with_reducible rfl
      simp only [Act.put, List.setIfInBounds_toArray, List.set_cons_zero, List.set_cons_succ, List.getElem_toArray, List.getElem_cons_zero, List.getElem_cons_succ]
      refine wpAnyE_take (i := 3) (v := ?_) rfl (by kernel_rfl) (by kernel_rfl) (by kernel_rfl) (by kernel_rfl) (fun _ _ _ h => h) (Or.inl ⟨by rfl, ?_⟩) hSS ?_
      rotate_left
      · intro w hSw
        obtain ⟨j0, j1, j2, j3⟩ := hSw
        go_simp
        all_goals with_reducible rfl
      simp only [Act.put, List.setIfInBounds_toArray, List.set_cons_zero, List.set_cons_succ, List.getElem_toArray, List.getElem_cons_zero, List.getElem_cons_succ]
      refine wpAnyE_take (i := 4) (v := ?_) rfl (by kernel_rfl) (by kernel_rfl) (by kernel_rfl) (by kernel_rfl) (fun _ _ _ h => h) (Or.inl ⟨by rfl, ?_⟩) hSS ?_
      rotate_left
      · intro w hSw
        obtain ⟨j0, j1, j2, j3⟩ := hSw
        go_simp
        all_goals with_reducible rfl
      simp only [Act.put, List.setIfInBounds_toArray, List.set_cons_zero, List.set_cons_succ, List.getElem_toArray, List.getElem_cons_zero, List.getElem_cons_succ]
      refine wpAnyE_take (i := 5) (v := ?_) rfl (by kernel_rfl) (by kernel_rfl) (by kernel_rfl) (by kernel_rfl) (fun _ _ _ h => h) (Or.inl ⟨by rfl, ?_⟩) hSS ?_
      rotate_left
      · intro w hSw
        obtain ⟨j0, j1, j2, j3⟩ := hSw
        go_simp
        all_goals with_reducible rfl
      simp only [Act.put, List.setIfInBounds_toArray, List.set_cons_zero, List.set_cons_succ, List.getElem_toArray, List.getElem_cons_zero, List.getElem_cons_succ]
      refine wpAnyE_take (i := 6) (v := ?_) rfl (by kernel_rfl) (by kernel_rfl) (by kernel_rfl) (by kernel_rfl) (fun _ _ _ h => h) (Or.inl ⟨by rfl, ?_⟩) hSS ?_
      rotate_left
      · intro w hSw
        obtain ⟨j0, j1, j2, j3⟩ := hSw
        go_simp
        all_goals with_reducible rfl
      simp only [Act.put, List.setIfInBounds_toArray, List.set_cons_zero, List.set_cons_succ, List.getElem_toArray, List.getElem_cons_zero, List.getElem_cons_succ]
      refine wpAnyE_one (i := 7) (by kernel_rfl) rfl ?_
      change wpList _ _ (Exit.then _ _) [_] _ _
      try simp only [List.setIfInBounds_toArray, List.set_cons_zero, List.set_cons_succ, List.getElem_toArray, List.getElem_cons_zero, List.getElem_cons_succ]
      cases hv : vN (R.length : Int) o t d with
      | true =>
        rw [hv] at HV
        have HALL2 := Lib.hid (show (xs.take (k + 1)).all (vX R.length) = true by rw [take_succ3 HX.out, List.all_append, HALL.out]; simp [vX, hv])
        clear hv
        go_wp2_with (go_at_call 40; refine (HV.out _).mono ?_; rintro e w2 ⟨rfl, hB⟩)
        have HM := Lib.hid (HM.out.below hB)
        clear hB hSS
        have hSS := HCC.out _ HM.out
        refine ⟨fun _ => hSS, ?_⟩
        try simp only [List.setIfInBounds_toArray, List.set_cons_zero, List.set_cons_succ, List.getElem_toArray, List.getElem_cons_zero, List.getElem_cons_succ]
        refine wpAnyE_take (i := 8) (v := ?_) rfl (by kernel_rfl) (by kernel_rfl) (by kernel_rfl) (by kernel_rfl) (fun _ _ _ h => h) (Or.inl ⟨by rfl, ?_⟩) hSS ?_
        rotate_left
        · intro w hSw
          obtain ⟨j0, j1, j2, j3⟩ := hSw
          go_simp
          all_goals with_reducible rfl
        simp only [Act.put, List.setIfInBounds_toArray, List.set_cons_zero, List.set_cons_succ, List.getElem_toArray, List.getElem_cons_zero, List.getElem_cons_succ]
        refine wpAnyE_end (by kernel_rfl) ?_
        go_wp2_with fail
        go_roundw
        case rel => exact ⟨k + 1, by go_num, HK.out, HALL2.out, HM.out⟩
        case measure => have := HK.out; simp [intOf]; omega
      | false =>
        rw [hv] at HV
        have HALL2 := Lib.hid (show ¬ (xs.all (vX R.length) = true) by
          intro hh
          have := List.all_eq_true.1 hh _ (List.mem_of_getElem? HX.out)
          rw [show vX R.length [o, t, d] = vN (R.length : Int) o t d from rfl, hv] at this
          cases this)
        clear hv
        go_wp2_with (go_at_call 40; refine (HV.out _).mono ?_; rintro e w2 ⟨rfl, hB⟩)
        have HM := Lib.hid (HM.out.below hB)
        clear hB hSS
        have hSS := HCC.out _ HM.out
        refine ⟨fun _ => hSS, ?_⟩
        try simp only [List.setIfInBounds_toArray, List.set_cons_zero, List.set_cons_succ, List.getElem_toArray, List.getElem_cons_zero, List.getElem_cons_succ]
        refine wpAnyE_take (i := 8) (v := ?_) rfl (by kernel_rfl) (by kernel_rfl) (by kernel_rfl) (by kernel_rfl) (fun _ _ _ h => h) (Or.inl ⟨by rfl, ?_⟩) hSS ?_
        rotate_left
        · intro w hSw
          obtain ⟨j0, j1, j2, j3⟩ := hSw
          go_simp
          all_goals with_reducible rfl
        simp only [Act.put, List.setIfInBounds_toArray, List.set_cons_zero, List.set_cons_succ, List.getElem_toArray, List.getElem_cons_zero, List.getElem_cons_succ]
        refine wpAnyE_end (by kernel_rfl) ?_
        clear hSS
        have k0 := blk_cell HM.out.b 0
        have k1 := blk_cell HM.out.r1 0
        have f1 := blk_free HM.out.r1 0
        obtain ⟨q0, q1, q2, q3, f4, f5, f6, f7⟩ := set_cells HM.out.r2
        go_wp2_with fail
        have hb5 := ((((HM.out.low.setCell (p := ⟨w.heap.size + 1, 0, none⟩) (Nat.le_succ _) (.slice (some ⟨g, 0, none⟩) R.length cp)).setCell (p := ⟨w.heap.size + 2, 0, none⟩) (Nat.le_add_right _ _) (.int .u32 0)).setCell (p := ⟨w.heap.size + 2, 1, none⟩) (Nat.le_add_right _ _) (.int .u32 0)).setCell (p := ⟨w.heap.size + 2, 2, none⟩) (Nat.le_add_right _ _) (.int .u32 0)).setCell (p := ⟨w.heap.size + 2, 3, none⟩) (Nat.le_add_right _ _) (.int .u32 0)
        refine bodyPost_ret (v := .tuple #[.agg #[.slice (some ⟨g, 0, none⟩) R.length cp], .agg (setC 0), .int .i64 50]) ?_ rfl ⟨⟨g, cp, 0, 50, rfl, by rw [show mgR R xs = R from if_neg HALL2.out]; exact HNB.out.below hb5, .inl rfl⟩, hb5⟩
        rw [← setC_zero]
        simp [results, Tryd.results22, go_sem, k1, q0, q1, q2, q3]
    · have HR := Lib.hid (show mgR R xs = xs.foldl tX R by
        unfold mgR; rw [if_pos]
        rw [List.take_of_length_le (by omega)] at hall; exact hall)
      obtain rfl : k = xs.length := by omega
      have HALL := Lib.hid (show xs.all (vX R.length) = true by rw [List.take_of_length_le (Nat.le_refl _)] at hall; exact hall)
      have i1 : ¬ (xs.length : Int) < (xs.length : Int) := by omega
      have HM := Lib.hid hM
      clear hall hlt hk hM
      have k0 := blk_cell (HM.out.below ((Below.refl _ _).alloc (Nat.le_refl _) (.cells (setC 0) 59))).b 0
      have hps := blk_new wr (.cells (setC 0) 59)
      have HM2 := Lib.hid (HM.out.below ((Below.refl _ wr).alloc (Nat.le_refl _) (.cells (setC 0) 59)))
      have hpl := blk_lt HM.out.r2
      rw [← setC_zero] at k0 hps HM2
      obtain ⟨ps, hpse⟩ : ∃ ps, wr.heap.size = ps := ⟨_, rfl⟩
      rw [hpse] at hps hpl
      go_upto_region 7 with fail
      (try rw [hpse])
      clear hpse HM
      generalize World.alloc wr _ = W1 at *
      have HPS := Lib.hid hps
      have HPL := Lib.hid hpl
      clear hps hpl
      go_wp2_with fail
      refine (refCopy_any (HNB.out.below HM2.out.low)).mono ?_
      rintro e w3 ⟨g2, cp2, rfl, hN2, hg2, hB3⟩
      go_wp2_with fail
      have hB2 : Hid (RmB w g cp R ps w3.heap.size g2 cp2 R 0 (w3.alloc (.cells #[.slice (some ⟨g2, 0, none⟩) R.length cp2] 54))) := by
        have h1 := HM2.out.below hB3
        have h2 := blk_lt HPS.out
        have h3 := blk_lt (blk_below' hB3 HPS.out)
        have h4 := hN2.list.lt
        have hal := (Below.refl w3.heap.size w3).alloc (Nat.le_refl _) (.cells #[.slice (some ⟨g2, 0, none⟩) R.length cp2] 54)
        have hpl := HPL.out
        exact Lib.hid ⟨h1.below hal, by rw [← setC_zero]; exact blk_old (blk_below' hB3 HPS.out) _, blk_new _ _, hN2.below hal, rfl, by omega, by omega, by omega, by omega, by omega, by omega⟩
      obtain ⟨pc, hpc⟩ : ∃ pc, w3.heap.size = pc := ⟨_, rfl⟩
      rw [hpc] at hB2
      (try rw [hpc])
      clear hpc hN2 hB3 HM2 HPS HPL hg2
      generalize World.alloc w3 _ = W4 at *
      go_loopw [10] (fun iv wr => ∃ (k y : Nat), iv = .int .i64 k ∧ k ≤ xs.length ∧ RmB w g cp R ps pc g2 cp2 ((xs.take k).foldl tX R) y wr) (fun iv _ => xs.length - (intOf iv).toNat)
      case atStart => exact ⟨0, 0, rfl, by omega, hB2.out⟩
      case round =>
        obtain ⟨k, y, rfl, hk, hB⟩ := hrel
        clear hB2
        by_cases hlt : k < xs.length
        · obtain ⟨o, t, d, gx, ox, cap', hx, hv, r0, r1, r2⟩ := rows3 (HRW.out.below hB.a.low) hlt
          injection hv with hv1 hv2 hv3
          subst hv1 hv3
          have i1 : (k : Int) < (xs.length : Int) := by omega
          have i2 : (0 : Int) ≤ (k : Int) := by omega
          have i3 : (k : Int).toNat = k := Int.toNat_natCast k
          have hvx : vN (R.length : Int) o t d = true := by
            have := List.all_eq_true.1 HALL.out _ (List.mem_of_getElem? hx)
            exact this
          have HCC : Hid (∀ W, Below w.heap.size w W → W.cell? ⟨gx, ox + k * 3, none⟩ = some (.int .i64 o) ∧ W.cell? ⟨gx, ox + k * 3 + 1, none⟩ = some (.int .i64 t) ∧ W.cell? ⟨gx, ox + k * 3 + 2, none⟩ = some (.int .i64 d)) := Lib.hid fun W hW => by
            obtain ⟨o', t', d', gx', ox', cap'', hx', hv', c0, c1, c2⟩ := rows3 (HRW.out.below hW) hlt
            injection hv' with e1 e2 e3
            injection e1 with e1
            injection e1 with e1 e4
            subst e1 e4
            rw [hx] at hx'
            injection hx' with hx'
            simp only [List.cons.injEq, and_true] at hx'
            obtain ⟨rfl, rfl, rfl⟩ := hx'
            exact ⟨c0, c1, c2⟩
          obtain ⟨i, r, rfl, rfl, rfl, hi, hr, _⟩ := vN_nat hvx
          have HT := Lib.hid (show (xs.take (k + 1)).foldl tX R = tkR ((xs.take k).foldl tX R) i r by
            rw [take_succ3 hx, List.foldl_append]
            show tkR _ (i : Int).toNat (rkI (tgN r : Nat) (kdN r : Nat)).toNat = _
            rw [rkI_nat hr, Int.toNat_natCast, Int.toNat_natCast])
          have HSL := Lib.hid (foldX_len (xs.take k) R)
          generalize (xs.take k).foldl tX R = S at *
          have hi2 : i < S.length := by have := HSL.out; omega
          obtain ⟨q, hq, hqd, hql⟩ := hB.nb.get hi2
          have HQ := Lib.hid hq
          have HQL := Lib.hid hql
          have HI := Lib.hid hi2
          have HRR := Lib.hid hr
          have j1 : (i : Int) < (S.length : Int) := by omega
          have j2 : (0 : Int) ≤ (i : Int) := by omega
          have j3 : (i : Int).toNat = i := Int.toNat_natCast i
          have HK := Lib.hid hlt
          have HBB := Lib.hid hB
          have HBT := Lib.hid (fun w => refBeats_nat i r q hr hql w)
          have HTT : Hid (tkR S i r = if q < r then S.set i r else S) := Lib.hid (by unfold tkR; rw [hqd])
          unfold nV at HBT
          have HSS : Hid (∀ W, RmB w g cp R ps pc g2 cp2 S y W → Rm7 pc g2 cp2 S.length gx (ox + k * 3) (i : Int) (tgN r : Nat) (kdN r : Nat) i q W) := Lib.hid fun W hW =>
            ⟨by rw [HSL.out]; exact blk_cell hW.c 0, HCC.out W hW.a.low, (hW.nb.list.cells HQ.out).1⟩
          rw [← HSL.out]
          clear hx hvx hi hr hq hqd hql hlt hB r0 r1 r2 hi2 hk
          go_upto_region 11 with fail
          refine wp_region_early (Rm7 pc g2 cp2 S.length gx (ox + k * 3) (i : Int) (tgN r : Nat) (kdN r : Nat) i q) (fun _ => false) (by kernel_rfl) ?_
          simp only [List.size_toArray, List.length_cons, List.length_nil, Nat.reduceAdd, Array.replicate_succ, Array.replicate_zero, List.push_toArray, List.nil_append, List.cons_append]
          have HBB := Lib.hid (HBB.out.below ((Below.refl _ wr).drew))
          generalize World.drew wr = W5 at *
          have hSS := HSS.out _ HBB.out
          refine wpAnyE_take (i := 0) (v := ?_) rfl (by kernel_rfl) (by kernel_rfl) (by kernel_rfl) (by kernel_rfl) (fun _ _ _ h => h) (Or.inl ⟨by rfl, ?_⟩) hSS ?_
          rotate_left
          · intro w hSw
            obtain ⟨j0, ⟨j1, j2, j3⟩, j4, j5, j6⟩ := hSw
            go_simp
            all_goals with_reducible rfl
          simp only [Act.put, List.setIfInBounds_toArray, List.set_cons_zero, List.set_cons_succ, List.getElem_toArray, List.getElem_cons_zero, List.getElem_cons_succ]
          refine wpAnyE_take (i := 1) (v := ?_) rfl (by kernel_rfl) (by kernel_rfl) (by kernel_rfl) (by kernel_rfl) (fun _ _ _ h => h) (Or.inl ⟨by rfl, ?_⟩) hSS ?_
          rotate_left
          · intro w hSw
            obtain ⟨j0, ⟨j1, j2, j3⟩, j4, j5, j6⟩ := hSw
            go_simp
            all_goals with_reducible rfl
          simp only [Act.put, List.setIfInBounds_toArray, List.set_cons_zero, List.set_cons_succ, List.getElem_toArray, List.getElem_cons_zero, List.getElem_cons_succ]
          refine wpAnyE_take (i := 2) (v := ?_) rfl (by kernel_rfl) (by kernel_rfl) (by kernel_rfl) (by kernel_rfl) (fun _ _ _ h => h) (Or.inl ⟨by rfl, ?_⟩) hSS ?_
          rotate_left
          · intro w hSw
            obtain ⟨j0, ⟨j1, j2, j3⟩, j4, j5, j6⟩ := hSw
            go_simp
            all_goals with_reducible rfl
          simp only [Act.put, List.setIfInBounds_toArray, List.set_cons_zero, List.set_cons_succ, List.getElem_toArray, List.getElem_cons_zero, List.getElem_cons_succ]
          refine wpAnyE_take (i := 3) (v := ?_) rfl (by kernel_rfl) (by kernel_rfl) (by kernel_rfl) (by kernel_rfl) (fun _ _ _ h => h) (Or.inl ⟨by rfl, ?_⟩) hSS ?_
          rotate_left
          · intro w hSw
            obtain ⟨j0, ⟨j1, j2, j3⟩, j4, j5, j6⟩ := hSw
            go_simp
            all_goals with_reducible rfl
          simp only [Act.put, List.setIfInBounds_toArray, List.set_cons_zero, List.set_cons_succ, List.getElem_toArray, List.getElem_cons_zero, List.getElem_cons_succ]
          refine wpAnyE_take (i := 4) (v := ?_) rfl (by kernel_rfl) (by kernel_rfl) (by kernel_rfl) (by kernel_rfl) (fun _ _ _ h => h) (Or.inl ⟨by rfl, ?_⟩) hSS ?_
          rotate_left
          · intro w hSw
            obtain ⟨j0, ⟨j1, j2, j3⟩, j4, j5, j6⟩ := hSw
            go_simp
            all_goals with_reducible rfl
          simp only [Act.put, List.setIfInBounds_toArray, List.set_cons_zero, List.set_cons_succ, List.getElem_toArray, List.getElem_cons_zero, List.getElem_cons_succ]
          refine wpAnyE_take (i := 5) (v := ?_) rfl (by kernel_rfl) (by kernel_rfl) (by kernel_rfl) (by kernel_rfl) (fun _ _ _ h => h) (Or.inl ⟨by rfl, ?_⟩) hSS ?_
          rotate_left
          · intro w hSw
            obtain ⟨j0, ⟨j1, j2, j3⟩, j4, j5, j6⟩ := hSw
            go_simp
            all_goals with_reducible rfl
          simp only [Act.put, List.setIfInBounds_toArray, List.set_cons_zero, List.set_cons_succ, List.getElem_toArray, List.getElem_cons_zero, List.getElem_cons_succ]
          refine wpAnyE_take (i := 6) (v := ?_) rfl (by kernel_rfl) (by kernel_rfl) (by kernel_rfl) (by kernel_rfl) (fun _ _ _ h => h) (Or.inl ⟨by rfl, ?_⟩) hSS ?_
          rotate_left
          · intro w hSw
            obtain ⟨j0, ⟨j1, j2, j3⟩, j4, j5, j6⟩ := hSw
            go_simp
            all_goals with_reducible rfl
          simp only [Act.put, List.setIfInBounds_toArray, List.set_cons_zero, List.set_cons_succ, List.getElem_toArray, List.getElem_cons_zero, List.getElem_cons_succ]
          refine wpAnyE_take (i := 7) (v := ?_) rfl (by kernel_rfl) (by kernel_rfl) (by kernel_rfl) (by kernel_rfl) (fun _ _ _ h => h) (Or.inl ⟨by rfl, ?_⟩) hSS ?_
          rotate_left
          · intro w hSw
            obtain ⟨j0, ⟨j1, j2, j3⟩, j4, j5, j6⟩ := hSw
            go_simp
            all_goals with_reducible rfl
          simp only [Act.put, List.setIfInBounds_toArray, List.set_cons_zero, List.set_cons_succ, List.getElem_toArray, List.getElem_cons_zero, List.getElem_cons_succ]
          refine wpAnyE_take (i := 8) (v := ?_) rfl (by kernel_rfl) (by kernel_rfl) (by kernel_rfl) (by kernel_rfl) (fun _ _ _ h => h) (Or.inl ⟨by rfl, ?_⟩) hSS ?_
          rotate_left
          · intro w hSw
            obtain ⟨j0, ⟨j1, j2, j3⟩, j4, j5, j6⟩ := hSw
            go_simp
            all_goals with_reducible rfl
          simp only [Act.put, List.setIfInBounds_toArray, List.set_cons_zero, List.set_cons_succ, List.getElem_toArray, List.getElem_cons_zero, List.getElem_cons_succ]
          refine wpAnyE_take (i := 9) (v := ?_) rfl (by kernel_rfl) (by kernel_rfl) (by kernel_rfl) (by kernel_rfl) (fun _ _ _ h => h) (Or.inl ⟨by rfl, ?_⟩) hSS ?_
          rotate_left
          · intro w hSw
            obtain ⟨j0, ⟨j1, j2, j3⟩, j4, j5, j6⟩ := hSw
            go_simp
            all_goals with_reducible rfl
          simp only [Act.put, List.setIfInBounds_toArray, List.set_cons_zero, List.set_cons_succ, List.getElem_toArray, List.getElem_cons_zero, List.getElem_cons_succ]
          refine wpAnyE_take (i := 10) (v := ?_) rfl (by kernel_rfl) (by kernel_rfl) (by kernel_rfl) (by kernel_rfl) (fun _ _ _ h => h) (Or.inl ⟨by rfl, ?_⟩) hSS ?_
          rotate_left
          · intro w hSw
            obtain ⟨j0, ⟨j1, j2, j3⟩, j4, j5, j6⟩ := hSw
            go_simp
            all_goals with_reducible rfl
          simp only [Act.put, List.setIfInBounds_toArray, List.set_cons_zero, List.set_cons_succ, List.getElem_toArray, List.getElem_cons_zero, List.getElem_cons_succ]
          refine wpAnyE_take (i := 11) (v := ?_) rfl (by kernel_rfl) (by kernel_rfl) (by kernel_rfl) (by kernel_rfl) (fun _ _ _ h => h) (Or.inl ⟨by rfl, ?_⟩) hSS ?_
          rotate_left
          · intro w hSw
            obtain ⟨j0, ⟨j1, j2, j3⟩, j4, j5, j6⟩ := hSw
            go_simp
            all_goals with_reducible rfl
          simp only [Act.put, List.setIfInBounds_toArray, List.set_cons_zero, List.set_cons_succ, List.getElem_toArray, List.getElem_cons_zero, List.getElem_cons_succ]
          refine wpAnyE_take (i := 12) (v := ?_) rfl (by kernel_rfl) (by kernel_rfl) (by kernel_rfl) (by kernel_rfl) (fun _ _ _ h => h) (Or.inl ⟨by rfl, ?_⟩) hSS ?_
          rotate_left
          · intro w hSw
            obtain ⟨j0, ⟨j1, j2, j3⟩, j4, j5, j6⟩ := hSw
            go_simp
            all_goals with_reducible rfl
          simp only [Act.put, List.setIfInBounds_toArray, List.set_cons_zero, List.set_cons_succ, List.getElem_toArray, List.getElem_cons_zero, List.getElem_cons_succ]
          refine wpAnyE_one (i := 13) (by kernel_rfl) rfl ?_
          change wpList _ _ (Exit.then _ _) [_] _ _
          try simp only [List.setIfInBounds_toArray, List.set_cons_zero, List.set_cons_succ, List.getElem_toArray, List.getElem_cons_zero, List.getElem_cons_succ]
          go_wp2_with (go_at_call 42; refine (HBT.out _).mono ?_; rintro e w6 ⟨rfl, hB⟩)
          have HBB := Lib.hid (HBB.out.below hB)
          clear hB hSS
          have hSS := HSS.out _ HBB.out
          refine ⟨fun _ => hSS, ?_⟩
          try simp only [List.setIfInBounds_toArray, List.set_cons_zero, List.set_cons_succ, List.getElem_toArray, List.getElem_cons_zero, List.getElem_cons_succ]
          refine wpAnyE_end (by kernel_rfl) ?_
          by_cases hqr : q < r
          · rw [decide_eq_true hqr]
            have HT2 := Lib.hid (HT.out.trans (HTT.out.trans (if_pos hqr)))
            clear hqr hSS
            go_upto_region 12 with fail
            refine wp_region_early (Rm7 pc g2 cp2 S.length gx (ox + k * 3) (i : Int) (tgN r : Nat) (kdN r : Nat) i q) (fun j => j == 12) (by kernel_rfl) ?_
            simp only [List.size_toArray, List.length_cons, List.length_nil, Nat.reduceAdd, Array.replicate_succ, Array.replicate_zero, List.push_toArray, List.nil_append, List.cons_append]
            have HBB := Lib.hid (HBB.out.below ((Below.refl _ w6).drew))
            generalize World.drew w6 = W7 at *
            have hSS := HSS.out _ HBB.out
            refine wpAnyE_take (i := 0) (v := ?_) rfl (by kernel_rfl) (by kernel_rfl) (by kernel_rfl) (by kernel_rfl) (fun _ _ _ h => h) (Or.inl ⟨by rfl, ?_⟩) hSS ?_
            rotate_left
            · intro w hSw
              obtain ⟨j0, ⟨j1, j2, j3⟩, j4, j5, j6⟩ := hSw
              go_simp
              all_goals with_reducible rfl
            simp only [Act.put, List.setIfInBounds_toArray, List.set_cons_zero, List.set_cons_succ, List.getElem_toArray, List.getElem_cons_zero, List.getElem_cons_succ]
            refine wpAnyE_take (i := 1) (v := ?_) rfl (by kernel_rfl) (by kernel_rfl) (by kernel_rfl) (by kernel_rfl) (fun _ _ _ h => h) (Or.inl ⟨by rfl, ?_⟩) hSS ?_
            rotate_left
            · intro w hSw
              obtain ⟨j0, ⟨j1, j2, j3⟩, j4, j5, j6⟩ := hSw
              go_simp
              all_goals with_reducible rfl
            simp only [Act.put, List.setIfInBounds_toArray, List.set_cons_zero, List.set_cons_succ, List.getElem_toArray, List.getElem_cons_zero, List.getElem_cons_succ]
            refine wpAnyE_take (i := 2) (v := ?_) rfl (by kernel_rfl) (by kernel_rfl) (by kernel_rfl) (by kernel_rfl) (fun _ _ _ h => h) (Or.inl ⟨by rfl, ?_⟩) hSS ?_
            rotate_left
            · intro w hSw
              obtain ⟨j0, ⟨j1, j2, j3⟩, j4, j5, j6⟩ := hSw
              go_simp
              all_goals with_reducible rfl
            simp only [Act.put, List.setIfInBounds_toArray, List.set_cons_zero, List.set_cons_succ, List.getElem_toArray, List.getElem_cons_zero, List.getElem_cons_succ]
            refine wpAnyE_take (i := 3) (v := ?_) rfl (by kernel_rfl) (by kernel_rfl) (by kernel_rfl) (by kernel_rfl) (fun _ _ _ h => h) (Or.inl ⟨by rfl, ?_⟩) hSS ?_
            rotate_left
            · intro w hSw
              obtain ⟨j0, ⟨j1, j2, j3⟩, j4, j5, j6⟩ := hSw
              go_simp
              all_goals with_reducible rfl
            simp only [Act.put, List.setIfInBounds_toArray, List.set_cons_zero, List.set_cons_succ, List.getElem_toArray, List.getElem_cons_zero, List.getElem_cons_succ]
            refine wpAnyE_take (i := 4) (v := ?_) rfl (by kernel_rfl) (by kernel_rfl) (by kernel_rfl) (by kernel_rfl) (fun _ _ _ h => h) (Or.inl ⟨by rfl, ?_⟩) hSS ?_
            rotate_left
            · intro w hSw
              obtain ⟨j0, ⟨j1, j2, j3⟩, j4, j5, j6⟩ := hSw
              go_simp
              all_goals with_reducible rfl
            simp only [Act.put, List.setIfInBounds_toArray, List.set_cons_zero, List.set_cons_succ, List.getElem_toArray, List.getElem_cons_zero, List.getElem_cons_succ]
            refine wpAnyE_take (i := 5) (v := ?_) rfl (by kernel_rfl) (by kernel_rfl) (by kernel_rfl) (by kernel_rfl) (fun _ _ _ h => h) (Or.inl ⟨by rfl, ?_⟩) hSS ?_
            rotate_left
            · intro w hSw
              obtain ⟨j0, ⟨j1, j2, j3⟩, j4, j5, j6⟩ := hSw
              go_simp
              all_goals with_reducible rfl
            simp only [Act.put, List.setIfInBounds_toArray, List.set_cons_zero, List.set_cons_succ, List.getElem_toArray, List.getElem_cons_zero, List.getElem_cons_succ]
            refine wpAnyE_take (i := 6) (v := ?_) rfl (by kernel_rfl) (by kernel_rfl) (by kernel_rfl) (by kernel_rfl) (fun _ _ _ h => h) (Or.inl ⟨by rfl, ?_⟩) hSS ?_
            rotate_left
            · intro w hSw
              obtain ⟨j0, ⟨j1, j2, j3⟩, j4, j5, j6⟩ := hSw
              go_simp
              all_goals with_reducible rfl
            simp only [Act.put, List.setIfInBounds_toArray, List.set_cons_zero, List.set_cons_succ, List.getElem_toArray, List.getElem_cons_zero, List.getElem_cons_succ]
            refine wpAnyE_take (i := 7) (v := ?_) rfl (by kernel_rfl) (by kernel_rfl) (by kernel_rfl) (by kernel_rfl) (fun _ _ _ h => h) (Or.inl ⟨by rfl, ?_⟩) hSS ?_
            rotate_left
            · intro w hSw
              obtain ⟨j0, ⟨j1, j2, j3⟩, j4, j5, j6⟩ := hSw
              go_simp
              all_goals with_reducible rfl
            simp only [Act.put, List.setIfInBounds_toArray, List.set_cons_zero, List.set_cons_succ, List.getElem_toArray, List.getElem_cons_zero, List.getElem_cons_succ]
            refine wpAnyE_take (i := 8) (v := ?_) rfl (by kernel_rfl) (by kernel_rfl) (by kernel_rfl) (by kernel_rfl) (fun _ _ _ h => h) (Or.inl ⟨by rfl, ?_⟩) hSS ?_
            rotate_left
            · intro w hSw
              obtain ⟨j0, ⟨j1, j2, j3⟩, j4, j5, j6⟩ := hSw
              go_simp
              all_goals with_reducible rfl
            simp only [Act.put, List.setIfInBounds_toArray, List.set_cons_zero, List.set_cons_succ, List.getElem_toArray, List.getElem_cons_zero, List.getElem_cons_succ]
            refine wpAnyE_take (i := 9) (v := ?_) rfl (by kernel_rfl) (by kernel_rfl) (by kernel_rfl) (by kernel_rfl) (fun _ _ _ h => h) (Or.inl ⟨by rfl, ?_⟩) hSS ?_
            rotate_left
            · intro w hSw
              obtain ⟨j0, ⟨j1, j2, j3⟩, j4, j5, j6⟩ := hSw
              go_simp
              all_goals with_reducible rfl
            simp only [Act.put, List.setIfInBounds_toArray, List.set_cons_zero, List.set_cons_succ, List.getElem_toArray, List.getElem_cons_zero, List.getElem_cons_succ]
            refine wpAnyE_take (i := 10) (v := ?_) rfl (by kernel_rfl) (by kernel_rfl) (by kernel_rfl) (by kernel_rfl) (fun _ _ _ h => h) (Or.inl ⟨by rfl, ?_⟩) hSS ?_
            rotate_left
            · intro w hSw
              obtain ⟨j0, ⟨j1, j2, j3⟩, j4, j5, j6⟩ := hSw
              go_simp
              all_goals with_reducible rfl
            simp only [Act.put, List.setIfInBounds_toArray, List.set_cons_zero, List.set_cons_succ, List.getElem_toArray, List.getElem_cons_zero, List.getElem_cons_succ]
            refine wpAnyE_take (i := 11) (v := ?_) rfl (by kernel_rfl) (by kernel_rfl) (by kernel_rfl) (by kernel_rfl) (fun _ _ _ h => h) (Or.inl ⟨by rfl, ?_⟩) hSS ?_
            rotate_left
            · intro w hSw
              obtain ⟨j0, ⟨j1, j2, j3⟩, j4, j5, j6⟩ := hSw
              go_simp
              all_goals with_reducible rfl
            simp only [Act.put, List.setIfInBounds_toArray, List.set_cons_zero, List.set_cons_succ, List.getElem_toArray, List.getElem_cons_zero, List.getElem_cons_succ]
            refine wpAnyE_one (i := 12) (by kernel_rfl) rfl ?_
            change wpList _ _ (Exit.then _ _) [_] _ _
            try simp only [List.setIfInBounds_toArray, List.set_cons_zero, List.set_cons_succ, List.getElem_toArray, List.getElem_cons_zero, List.getElem_cons_succ]
            obtain ⟨_, _, c0, c1, c2⟩ := hSS
            obtain ⟨f0, f1, f2⟩ := (HBB.out.nb.list.cells HQ.out).2
            go_wp2_with fail
            first
              | refine ⟨by kernel_rfl, ?_⟩
              | (refine ⟨(fun h => by cases h), ?_⟩; refine wpAnyE_end (by kernel_rfl) ?_)
            have HBB := Lib.hid (HBB.out.set HI.out HRR.out)
            rw [← HT2.out] at HBB
            clear c0 c1 c2 f0 f1 f2
            generalize ((World.setCell W7 _ _).setCell _ _).setCell _ _ = W8 at *
            go_upto_region 13 with fail
            have HPUT := Lib.hid (fun w => refPut_any y i (by have := HI.out; have := HBB.out.nb.n; have := HBB.out.len; have := HSL.out; omega) w)
            unfold setV setC at HPUT
            refine wp_region_early (Rm5 ps gx (ox + k * 3) (i : Int) y) (fun j => j == 7) (by kernel_rfl) ?_
            simp only [List.size_toArray, List.length_cons, List.length_nil, Nat.reduceAdd, Array.replicate_succ, Array.replicate_zero, List.push_toArray, List.nil_append, List.cons_append]
            have HBB := Lib.hid (HBB.out.below ((Below.refl _ W8).drew))
            generalize World.drew W8 = W9 at *
            have hSS : Rm5 ps gx (ox + k * 3) (i : Int) y W9 := ⟨(HCC.out _ HBB.out.a.low).1, by obtain ⟨q0, q1, q2, q3, _⟩ := set_cells HBB.out.s; exact ⟨q0, q1, q2, q3⟩⟩
            refine wpAnyE_take (i := 0) (v := ?_) rfl (by kernel_rfl) (by kernel_rfl) (by kernel_rfl) (by kernel_rfl) (fun _ _ _ h => h) (Or.inl ⟨by rfl, ?_⟩) hSS ?_
            rotate_left
            · intro w hSw
              obtain ⟨j0, j1, j2, j3, j4⟩ := hSw
              go_simp
              all_goals with_reducible rfl
            simp only [Act.put, List.setIfInBounds_toArray, List.set_cons_zero, List.set_cons_succ, List.getElem_toArray, List.getElem_cons_zero, List.getElem_cons_succ]
            refine wpAnyE_take (i := 1) (v := ?_) rfl (by kernel_rfl) (by kernel_rfl) (by kernel_rfl) (by kernel_rfl) (fun _ _ _ h => h) (Or.inl ⟨by rfl, ?_⟩) hSS ?_
            rotate_left
            · intro w hSw
              obtain ⟨j0, j1, j2, j3, j4⟩ := hSw
              go_simp
              all_goals with_reducible rfl
            simp only [Act.put, List.setIfInBounds_toArray, List.set_cons_zero, List.set_cons_succ, List.getElem_toArray, List.getElem_cons_zero, List.getElem_cons_succ]
            refine wpAnyE_take (i := 2) (v := ?_) rfl (by kernel_rfl) (by kernel_rfl) (by kernel_rfl) (by kernel_rfl) (fun _ _ _ h => h) (Or.inl ⟨by rfl, ?_⟩) hSS ?_
            rotate_left
            · intro w hSw
              obtain ⟨j0, j1, j2, j3, j4⟩ := hSw
              go_simp
              all_goals with_reducible rfl
            simp only [Act.put, List.setIfInBounds_toArray, List.set_cons_zero, List.set_cons_succ, List.getElem_toArray, List.getElem_cons_zero, List.getElem_cons_succ]
            refine wpAnyE_take (i := 3) (v := ?_) rfl (by kernel_rfl) (by kernel_rfl) (by kernel_rfl) (by kernel_rfl) (fun _ _ _ h => h) (Or.inl ⟨by rfl, ?_⟩) hSS ?_
            rotate_left
            · intro w hSw
              obtain ⟨j0, j1, j2, j3, j4⟩ := hSw
              go_simp
              all_goals with_reducible rfl
            simp only [Act.put, List.setIfInBounds_toArray, List.set_cons_zero, List.set_cons_succ, List.getElem_toArray, List.getElem_cons_zero, List.getElem_cons_succ]
            refine wpAnyE_take (i := 4) (v := ?_) rfl (by kernel_rfl) (by kernel_rfl) (by kernel_rfl) (by kernel_rfl) (fun _ _ _ h => h) (Or.inl ⟨by rfl, ?_⟩) hSS ?_
            rotate_left
            · intro w hSw
              obtain ⟨j0, j1, j2, j3, j4⟩ := hSw
              go_simp
              all_goals with_reducible rfl
            simp only [Act.put, List.setIfInBounds_toArray, List.set_cons_zero, List.set_cons_succ, List.getElem_toArray, List.getElem_cons_zero, List.getElem_cons_succ]
            refine wpAnyE_take (i := 5) (v := ?_) rfl (by kernel_rfl) (by kernel_rfl) (by kernel_rfl) (by kernel_rfl) (fun _ _ _ h => h) (Or.inl ⟨by rfl, ?_⟩) hSS ?_
            rotate_left
            · intro w hSw
              obtain ⟨j0, j1, j2, j3, j4⟩ := hSw
              go_simp
              all_goals with_reducible rfl
            simp only [Act.put, List.setIfInBounds_toArray, List.set_cons_zero, List.set_cons_succ, List.getElem_toArray, List.getElem_cons_zero, List.getElem_cons_succ]
            refine wpAnyE_one (i := 6) (by kernel_rfl) rfl ?_
            change wpList _ _ (Exit.then _ _) [_] _ _
            try simp only [List.setIfInBounds_toArray, List.set_cons_zero, List.set_cons_succ, List.getElem_toArray, List.getElem_cons_zero, List.getElem_cons_succ]
            go_wp2_with (go_at_call 43; refine (HPUT.out _).mono ?_; rintro e w10 ⟨rfl, hB⟩)
            have HBB := Lib.hid (HBB.out.below hB)
            clear hB hSS
            have hSS : Rm5 ps gx (ox + k * 3) (i : Int) y w10 := ⟨(HCC.out _ HBB.out.a.low).1, by obtain ⟨q0, q1, q2, q3, _⟩ := set_cells HBB.out.s; exact ⟨q0, q1, q2, q3⟩⟩
            refine ⟨fun _ => hSS, ?_⟩
            try simp only [List.setIfInBounds_toArray, List.set_cons_zero, List.set_cons_succ, List.getElem_toArray, List.getElem_cons_zero, List.getElem_cons_succ]
            refine wpAnyE_one (i := 7) (by kernel_rfl) rfl ?_
            change wpList _ _ (Exit.then _ _) [_] _ _
            try simp only [List.setIfInBounds_toArray, List.set_cons_zero, List.set_cons_succ, List.getElem_toArray, List.getElem_cons_zero, List.getElem_cons_succ]
            obtain ⟨q0, q1, q2, q3, f0, f1, f2, f3⟩ := set_cells HBB.out.s
            have hcl := blk_lt HBB.out.s
            have hg := Lib.hid (but_set (but_set (but_set (but_set (but_refl w10 (some ps)) hcl 0 (.int .u32 (sw (y % 2 ^ 100 ||| 2 ^ i) 0 : Nat))) hcl 1 (.int .u32 (sw (y % 2 ^ 100 ||| 2 ^ i) 1 : Nat))) hcl 2 (.int .u32 (sw (y % 2 ^ 100 ||| 2 ^ i) 2 : Nat))) hcl 3 (.int .u32 (sw (y % 2 ^ 100 ||| 2 ^ i) 3 : Nat)))
            have hs := Lib.hid (blk_store (blk_store (blk_store (blk_store HBB.out.s 0 (.int .u32 (sw (y % 2 ^ 100 ||| 2 ^ i) 0 : Nat))) 1 (.int .u32 (sw (y % 2 ^ 100 ||| 2 ^ i) 1 : Nat))) 2 (.int .u32 (sw (y % 2 ^ 100 ||| 2 ^ i) 2 : Nat))) 3 (.int .u32 (sw (y % 2 ^ 100 ||| 2 ^ i) 3 : Nat)))
            have HBF := Lib.hid (HBB.out.put (z := y % 2 ^ 100 ||| 2 ^ i) hg.out (by have := hs.out; simpa [setC] using this))
            clear hcl hg hs hSS
            go_wp2_with fail
            first
              | refine ⟨by kernel_rfl, ?_⟩
              | (refine ⟨(fun h => by cases h), ?_⟩; refine wpAnyE_end (by kernel_rfl) ?_)
            go_wp2_with fail
            go_roundw
            case rel => exact ⟨k + 1, _, by go_num, HK.out, HBF.out⟩
            case measure => have := HK.out; simp [intOf]; omega
          · rw [decide_eq_false hqr]
            have HT2 := Lib.hid (HT.out.trans (HTT.out.trans (if_neg hqr)))
            clear hqr hSS
            go_wp2_with fail
            go_roundw
            case rel => exact ⟨k + 1, y, by go_num, HK.out, by rw [HT2.out]; exact HBB.out⟩
            case measure => have := HK.out; simp [intOf]; omega
        · obtain rfl : k = xs.length := by omega
          rw [List.take_of_length_le (Nat.le_refl _), ← HR.out] at hB
          have i1 : ¬ (xs.length : Int) < (xs.length : Int) := by omega
          have HBB := Lib.hid hB
          clear hB hlt hk
          go_upto_region 14 with fail
          refine wp_region_early (Rm6 pc g2 cp2 R.length ps y) (fun _ => false) (by kernel_rfl) ?_
          simp only [List.size_toArray, List.length_cons, List.length_nil, Nat.reduceAdd, Array.replicate_succ, Array.replicate_zero, List.push_toArray, List.nil_append, List.cons_append]
          have HBB := Lib.hid (HBB.out.below ((Below.refl _ wr).drew))
          generalize World.drew wr = W9 at *
          have hSS : Rm6 pc g2 cp2 R.length ps y W9 := ⟨blk_cell HBB.out.c 0, by obtain ⟨q0, q1, q2, q3, _⟩ := set_cells HBB.out.s; exact ⟨q0, q1, q2, q3⟩⟩
          refine wpAnyE_take (i := 0) (v := ?_) rfl (by kernel_rfl) (by kernel_rfl) (by kernel_rfl) (by kernel_rfl) (fun _ _ _ h => h) (Or.inl ⟨by rfl, ?_⟩) hSS ?_
          rotate_left
          · intro w hSw
            obtain ⟨j0, j1, j2, j3, j4⟩ := hSw
            go_simp
            all_goals with_reducible rfl
          simp only [Act.put, List.setIfInBounds_toArray, List.set_cons_zero, List.set_cons_succ, List.getElem_toArray, List.getElem_cons_zero, List.getElem_cons_succ]
          refine wpAnyE_take (i := 1) (v := ?_) rfl (by kernel_rfl) (by kernel_rfl) (by kernel_rfl) (by kernel_rfl) (fun _ _ _ h => h) (Or.inl ⟨by rfl, ?_⟩) hSS ?_
          rotate_left
          · intro w hSw
            obtain ⟨j0, j1, j2, j3, j4⟩ := hSw
            go_simp
            all_goals with_reducible rfl
          simp only [Act.put, List.setIfInBounds_toArray, List.set_cons_zero, List.set_cons_succ, List.getElem_toArray, List.getElem_cons_zero, List.getElem_cons_succ]
          refine wpAnyE_one (i := 2) (by kernel_rfl) rfl ?_
          change wpList _ _ (Exit.then _ _) [_] _ _
          try simp only [List.setIfInBounds_toArray, List.set_cons_zero, List.set_cons_succ, List.getElem_toArray, List.getElem_cons_zero, List.getElem_cons_succ]
          have hl1 := HBB.out.l1
          have hl2 := HBB.out.l2
          have k1 := blk_cell HBB.out.a.r1 0
          have f1 := blk_free HBB.out.a.r1 0
          have c2 := blk_set HBB.out.c ⟨w.heap.size + 1, 0, none⟩ (.slice (some ⟨g2, 0, none⟩) R.length cp2) (by simp; omega)
          have s2 := blk_set HBB.out.s ⟨w.heap.size + 1, 0, none⟩ (.slice (some ⟨g2, 0, none⟩) R.length cp2) (by simp; omega)
          have r2 := blk_set HBB.out.a.r2 ⟨w.heap.size + 1, 0, none⟩ (.slice (some ⟨g2, 0, none⟩) R.length cp2) (by simp)
          have q2 := blk_store HBB.out.a.r1 0 (.slice (some ⟨g2, 0, none⟩) R.length cp2)
          have L2 := Lib.hid (HBB.out.a.low.setCell (p := ⟨w.heap.size + 1, 0, none⟩) (Nat.le_succ _) (.slice (some ⟨g2, 0, none⟩) R.length cp2))
          have N2 : Hid (Nb (W9.setCell ⟨w.heap.size + 1, 0, none⟩ (.slice (some ⟨g2, 0, none⟩) R.length cp2)) g2 cp2 (mgR R xs)) := Lib.hid (HBB.out.nb.other (but_set (but_refl W9 _) (blk_lt HBB.out.a.r1) 0 _) (by have := HBB.out.l3; omega))
          go_wp2_with fail
          clear hSS k1 f1
          generalize World.setCell W9 _ _ = WA at *
          have hSS : Rm6 pc g2 cp2 R.length ps y WA := ⟨blk_cell c2 0, by obtain ⟨q0, q1, q2, q3, _⟩ := set_cells s2; exact ⟨q0, q1, q2, q3⟩⟩
          first | refine ⟨fun _ => hSS, ?_⟩ | refine ⟨hSS, ?_⟩
          try simp only [List.setIfInBounds_toArray, List.set_cons_zero, List.set_cons_succ, List.getElem_toArray, List.getElem_cons_zero, List.getElem_cons_succ]
          refine wpAnyE_one (i := 3) (by kernel_rfl) rfl ?_
          change wpList _ _ (Exit.then _ _) [_] _ _
          try simp only [List.setIfInBounds_toArray, List.set_cons_zero, List.set_cons_succ, List.getElem_toArray, List.getElem_cons_zero, List.getElem_cons_succ]
          obtain ⟨u0, u1, u2, u3, f0, f1, f2, f3⟩ := set_cells r2
          have hcl := blk_lt r2
          have hg := but_set (but_set (but_set (but_set (but_refl WA (some (w.heap.size + 2))) hcl 0 (.int .u32 (sw y 0 : Nat))) hcl 1 (.int .u32 (sw y 1 : Nat))) hcl 2 (.int .u32 (sw y 2 : Nat))) hcl 3 (.int .u32 (sw y 3 : Nat))
          have hs := blk_store (blk_store (blk_store (blk_store r2 0 (.int .u32 (sw y 0 : Nat))) 1 (.int .u32 (sw y 1 : Nat))) 2 (.int .u32 (sw y 2 : Nat))) 3 (.int .u32 (sw y 3 : Nat))
          have c3 := Lib.hid (blk_grown hg c2 (by simp; omega))
          have s3 := Lib.hid (blk_grown hg s2 (by simp; omega))
          have q3 := Lib.hid (blk_grown hg q2 (by simp))
          have L3 := Lib.hid (L2.out.grown hg L2.out.size (fun j hj => by cases hj; omega))
          have N3 := Lib.hid (N2.out.other hg (by have := HBB.out.l3; omega))
          have hs3 := Lib.hid hs
          clear hg hs hcl c2 s2 q2 r2 L2 N2
          go_wp2_with fail
          clear hSS u0 u1 u2 u3 f0 f1 f2 f3
          generalize (((World.setCell WA _ _).setCell _ _).setCell _ _).setCell _ _ = WB at *
          have hSS : Rm6 pc g2 cp2 R.length ps y WB := ⟨blk_cell c3.out 0, by obtain ⟨q0, q1, q2, q3, _⟩ := set_cells s3.out; exact ⟨q0, q1, q2, q3⟩⟩
          first | refine ⟨fun _ => hSS, ?_⟩ | refine ⟨hSS, ?_⟩
          try simp only [List.setIfInBounds_toArray, List.set_cons_zero, List.set_cons_succ, List.getElem_toArray, List.getElem_cons_zero, List.getElem_cons_succ]
          refine wpAnyE_one (i := 4) (by kernel_rfl) rfl ?_
          change wpList _ _ (Exit.then _ _) [_] _ _
          try simp only [List.setIfInBounds_toArray, List.set_cons_zero, List.set_cons_succ, List.getElem_toArray, List.getElem_cons_zero, List.getElem_cons_succ]
          go_wp2_with fail
          first | refine ⟨fun _ => hSS, ?_⟩ | refine ⟨hSS, ?_⟩
          try simp only [List.setIfInBounds_toArray, List.set_cons_zero, List.set_cons_succ, List.getElem_toArray, List.getElem_cons_zero, List.getElem_cons_succ]
          refine wpAnyE_end (by kernel_rfl) ?_
          clear hSS
          have z1 : WB.cell? ⟨w.heap.size + 1, 0, none⟩ = some (.slice (some ⟨g2, 0, none⟩) R.length cp2) := blk_cell q3.out 0
          obtain ⟨v0, v1, v2, v3, _⟩ := set_cells (x := y) (show WB.heap[w.heap.size + 2]? = some (.cells (setC y) 59 (0, 0)) from by have := hs3.out; simpa [setC] using this)
          go_wp2_with fail
          refine bodyPost_ret (v := .tuple #[.agg #[.slice (some ⟨g2, 0, none⟩) R.length cp2], .agg (setC y), .int .i64 0]) ?_ rfl ⟨⟨g2, cp2, y, 0, rfl, N3.out, .inr (by have := HBB.out.l3; omega)⟩, L3.out⟩
          unfold setC
          simp [results, Tryd.results22, go_sem, z1, v0, v1, v2, v3]
end Go.Proofs.YtppmiggkknhdkaaDoor
namespace Go.Proofs.YtppmiggkknhdkaaDoor
set_option linter.unusedVariables false
set_option linter.unusedSimpArgs false
open Go.RowKit

theorem dueV_form (o : Option Nat) (s : Int) : ∃ O T K : Int, dueV o s = .agg #[.int .i64 O, .int .i64 T, .int .i64 K] := by
  cases o with
  | none => exact ⟨0, 0, 0, rfl⟩
  | some r => exact ⟨_, _, _, rfl⟩
set_option maxRecDepth 100000 in
set_option maxHeartbeats 4000000 in
theorem refuteDues_yes (n s t : Nat) (of_ : Int) (hn : 1 ≤ n ∧ n ≤ 100) (hs : s < n) (ht : t ≤ 1048576) (v : Value) (xs : List (List Int)) (w : World) {a : Addr} (hg : Gl a w) (hrow : RowsOf w 3 v xs) (hlen : xs.length ≤ 300) :
    Calls Tryd.prog 5 #[.int .i64 (n : Int), .int .i64 (s : Int), .int .i64 (t : Int), v, .int .i64 of_] w fun e w' => e = .returned (.bool true) ∧ Below w.heap.size w w' := by
  have HG := Lib.hid hg
  have HR := Lib.hid hrow
  obtain ⟨p, cap, rfl, hm1, hm2, _⟩ := hrow
  have a1 : ¬ (300 : Int) < (xs.length : Int) := by omega
  have HN := Lib.hid (And.intro hn (And.intro hs ht))
  clear hg hm1 hm2 hn hs ht
  go_enter Tryd.func5, Tryd.ntmps5
  go_wp2_with fail
  refine (tnew_yes n s t HN.out.1 HN.out.2.1 HN.out.2.2 w).mono ?_
  rintro e w1 ⟨B, g, rfl, hT, hB, hgg, hb1⟩
  go_wp2_with fail
  refine (refNew_yes n s t HN.out.1 HN.out.2.1 HN.out.2.2 w1).mono ?_
  rintro e w2 ⟨g2, cp2, rfl, hN, hg2, hb2⟩
  have hlt := hT.lt
  have hT := hT.below hb2
  have hl2 := below_then hb1 hb2
  go_wp2_with fail
  have hal := (Below.refl w2.heap.size w2).alloc (Nat.le_refl _) (.cells #[.slice (some ⟨g2, 0, none⟩) n cp2] 54)
  have hg2l := hN.list.lt
  have hT := hT.below hal
  have hN := hN.below hal
  have hl3 := below_then hl2 hal
  have hbx := blk_new w2 (.cells #[.slice (some ⟨g2, 0, none⟩) n cp2] 54)
  obtain ⟨pr, hpr⟩ : ∃ p, w2.heap.size = p := ⟨_, rfl⟩
  have hne : B ≠ g ∧ g2 ≠ g ∧ pr ≠ g ∧ pr ≠ B ∧ w.heap.size ≤ pr ∧ w.heap.size ≤ g := by
    have := hT.ne; have h9 := hb2.size; have h8 := hb1.size; refine ⟨this, by omega, by omega, by omega, by omega, by omega⟩
  have hg2p : g2 < pr := by omega
  rw [hpr] at hbx
  (try rw [hpr])
  clear hpr hal hb1 hb2 hl2 hlt hg2l
  generalize World.alloc w2 _ = w3 at *
  refine (merge_any (.slice p xs.length cap) xs hT (fun W hW => HR.out.below (hl3.grown hW hl3.size (fun j hj => by cases hj; exact hne.2.2.2.2.2)))).mono ?_
  rintro e w4 ⟨⟨ym, em, rfl⟩, hT4, hg4⟩
  have hN := hN.other hg4 hne.2.1
  have hbx := blk_grown hg4 hbx (by simp; exact hne.2.2.1)
  have hl4 := hl3.grown hg4 hl3.size (fun j hj => by cases hj; exact hne.2.2.2.2.2)
  have c0 := blk_cell hbx 0
  clear hT hl3 hg4
  go_wp2_with fail
  have HMR := Lib.hid (refMerge_any (.slice p xs.length cap) xs hN (HR.out.below hl4))
  rw [bk0_len] at HMR
  refine HMR.out.mono ?_
  rintro e w5 ⟨⟨g3, cp3, y, er, rfl, hN5, hg3⟩, hB5⟩
  have hR := bk0_len n s t
  have HRL := Lib.hid ((mgR_len (bk0 n s t) xs).trans (bk0_len n s t))
  have hT5 := hT4.below hB5
  have hbx5 := blk_below' hB5 hbx
  have hl5 := below_then hl4 hB5
  have hsz5 := blk_lt hbx
  clear HMR hT4 hN hl4 hbx c0 hB5
  generalize mgR (bk0 n s t) xs = R at *
  have fr := blk_free hbx5 0
  have c0 := blk_cell hbx5 0
  have hbx6 := blk_store hbx5 0 (.slice (some ⟨g3, 0, none⟩) n cp3)
  have hgb := but_set (but_refl w5 (some pr)) (blk_lt hbx5) 0 (.slice (some ⟨g3, 0, none⟩) n cp3)
  have hT6 := hT5.other hgb (Ne.symm hne.2.2.2.1) (Ne.symm hne.2.2.1)
  have hN6 := hN5.other hgb (by omega)
  have hl6 := hl5.grown hgb hl5.size (fun j hj => by cases hj; exact hne.2.2.2.2.1)
  clear hT5 hN5 hl5 hgb
  go_upto_region 8 with fail
  clear fr c0 hbx5
  generalize World.setCell w5 _ _ = w6 at *
  have hbx6 : w6.heap[pr]? = some (.cells #[.slice (some ⟨g3, 0, none⟩) n cp3] 54 (0, 0)) := by simpa using hbx6
  have HT := Lib.hid hT6
  have HL := Lib.hid hl6
  have HNB := Lib.hid hN6
  have HBR := Lib.hid hbx6
  clear hT6 hl6 hN6 hbx6
  have HD1 : Hid (∀ W, Below w6.heap.size w6 W → Calls Tryd.prog 7 #[.pointer (some ⟨B, 0, none⟩), .int .i64 of_] W fun e w' => e = .returned (.tuple #[dueV (dueN R of_) of_, .bool (dueN R of_).isSome]) ∧ Below W.heap.size W w') := Lib.hid fun W hW => rdue_any (HT.out.below hW) (HG.out.of (below_then HL.out hW)) of_
  have HD2 : Hid (∀ W, Below w6.heap.size w6 W → Calls Tryd.prog 23 #[.agg #[.slice (some ⟨g3, 0, none⟩) n cp3], .int .i64 of_] W fun e w' => e = .returned (.tuple #[dueV (dueN R of_) of_, .bool (dueN R of_).isSome]) ∧ Below W.heap.size W w') := Lib.hid fun W hW => by
    have := r15_any (HNB.out.below hW) of_
    rwa [HRL.out] at this
  obtain ⟨O, T, K, hdv⟩ := dueV_form (dueN R of_) of_
  generalize (dueN R of_).isSome = bv at *
  rw [hdv] at HD1 HD2
  clear hdv
  have HBX := Lib.hid (BL.nil w6 w6.heap.size)
  have HSZ : Hid (w6.heap.size ≤ w6.heap.size) := Lib.hid (Nat.le_refl _)
  have HW6 := Lib.hid (Below.refl w6.heap.size w6)
  obtain ⟨L, hLe⟩ : ∃ L, w6.heap.size = L := ⟨_, rfl⟩
  rw [hLe] at HBX
  have HSZ : Hid (L ≤ w6.heap.size) := Lib.hid (by omega)
  go_wp2_with fail
  refine (HD1.out _ HW6.out).mono ?_
  rintro e w7 ⟨rfl, hB⟩
  have HBX := Lib.hid (HBX.out.below hB)
  have HL := Lib.hid (below_then HL.out hB)
  have HSZ := Lib.hid (Nat.le_trans HSZ.out (hB).size)
  have HW6 := Lib.hid (hLe ▸ hB)
  clear hB
  go_upto_region 9 with fail
  have hal := (Below.refl (w7).heap.size w7).alloc (Nat.le_refl _) (.cells #[.int .i64 O, .int .i64 T, .int .i64 K] 24)
  have HBX := Lib.hid (HBX.out.box HSZ.out O T K)
  have HL := Lib.hid (below_then HL.out hal)
  have HSZ := Lib.hid (Nat.le_trans HSZ.out hal.size)
  have HW7 : Hid (Below w6.heap.size w6 (w7.alloc (.cells #[.int .i64 O, .int .i64 T, .int .i64 K] 24))) := Lib.hid (by have h := HW6.out; subst hLe; exact below_then h hal)
  have HBR2 := Lib.hid (blk_below' HW7.out HBR.out)
  clear hal
  obtain ⟨pwx, hpwx⟩ : ∃ p, (w7).heap.size = p := ⟨_, rfl⟩
  rw [hpwx] at HBX
  (try rw [hpwx])
  clear hpwx
  generalize World.alloc w7 _ = wx at *
  have b0 := blk_cell HBR2.out 0
  go_wp2_with fail
  refine (HD2.out _ HW7.out).mono ?_
  rintro e w9 ⟨rfl, hB⟩
  have HBX := Lib.hid (HBX.out.below hB)
  have HL := Lib.hid (below_then HL.out hB)
  have HSZ := Lib.hid (Nat.le_trans HSZ.out (hB).size)
  clear hB b0
  go_upto_region 10 with fail
  have hal := (Below.refl (w9).heap.size w9).alloc (Nat.le_refl _) (.cells #[.int .i64 O, .int .i64 T, .int .i64 K] 24)
  have HBX := Lib.hid (HBX.out.box HSZ.out O T K)
  have HL := Lib.hid (below_then HL.out hal)
  have HSZ := Lib.hid (Nat.le_trans HSZ.out hal.size)
  clear hal
  obtain ⟨pwy, hpwy⟩ : ∃ p, (w9).heap.size = p := ⟨_, rfl⟩
  rw [hpwy] at HBX
  (try rw [hpwy])
  clear hpwy
  generalize World.alloc w9 _ = wy at *
  go_wp2_with fail
  have hzb : Zb (_ : World) _ := blk_new wy (.cells #[.slice none 0 0] 66)
  have hal := (Below.refl wy.heap.size wy).alloc (Nat.le_refl _) (.cells #[.slice none 0 0] 66)
  have HZB := Lib.hid hzb
  have HBX := Lib.hid (HBX.out.below hal)
  have HL := Lib.hid (below_then HL.out hal)
  have HSZ := Lib.hid (Nat.le_trans HSZ.out (hal).size)
  clear hal hzb
  obtain ⟨pz, hpz⟩ : ∃ p, wy.heap.size = p := ⟨_, rfl⟩
  rw [hpz] at HZB
  (try rw [hpz])
  clear hpz
  generalize World.alloc wy _ = wz at *
  refine (rdue_zero HZB.out (HG.out.of HL.out) of_).mono ?_
  rintro e wq ⟨rfl, hB⟩
  unfold nV
  have HBX := Lib.hid (HBX.out.below hB)
  have HL := Lib.hid (below_then HL.out hB)
  have HSZ := Lib.hid (Nat.le_trans HSZ.out (hB).size)
  clear hB
  go_wp2_with fail
  have hal := (Below.refl (wq).heap.size wq).alloc (Nat.le_refl _) (.cells #[.int .i64 0, .int .i64 0, .int .i64 0] 24)
  have HBX := Lib.hid (HBX.out.box HSZ.out 0 0 0)
  have HL := Lib.hid (below_then HL.out hal)
  have HSZ := Lib.hid (Nat.le_trans HSZ.out hal.size)
  clear hal
  obtain ⟨pwr, hpwr⟩ : ∃ p, (wq).heap.size = p := ⟨_, rfl⟩
  rw [hpwr] at HBX
  (try rw [hpwr])
  clear hpwr
  generalize World.alloc wq _ = wr at *
  refine (alive15_any (HG.out.of HL.out)).mono ?_
  rintro e wt ⟨rfl, hB⟩
  have HBX := Lib.hid (HBX.out.below hB)
  have HL := Lib.hid (below_then HL.out hB)
  have HSZ := Lib.hid (Nat.le_trans HSZ.out (hB).size)
  clear hB
  obtain ⟨x0, x1, x2⟩ := HBX.out.at (p := pwx) (o := O) (t := T) (k := K) (by simp)
  obtain ⟨y0, y1, y2⟩ := HBX.out.at (p := pwy) (o := O) (t := T) (k := K) (by simp)
  obtain ⟨z0, z1, z2⟩ := HBX.out.at (p := pwr) (o := 0) (t := 0) (k := 0) (by simp)
  go_wp2_with fail
  go_ret
  exact ⟨rfl, HL.out⟩
set_option maxRecDepth 100000 in
set_option maxHeartbeats 4000000 in
theorem refuteDues_no (n s t : Int) (of_ : Int) (hE : nwE n s t ≠ 0) (v : Value) (xs : List (List Int)) (w : World) {a : Addr} (hg : Gl a w) (hrow : RowsOf w 3 v xs) (hlen : xs.length ≤ 300) :
    Calls Tryd.prog 5 #[.int .i64 n, .int .i64 s, .int .i64 t, v, .int .i64 of_] w fun e w' => e = .returned (.bool true) ∧ Below w.heap.size w w' := by
  have HG := Lib.hid hg
  have HR := Lib.hid hrow
  obtain ⟨p, cap, rfl, hm1, hm2, _⟩ := hrow
  have a1 : ¬ (300 : Int) < (xs.length : Int) := by omega
  have HN1 := Lib.hid (fun w => tnew_no n s t hE w)
  have HN2 := Lib.hid (fun w => refNew_no n s t hE w)
  have a2 : (nwE n s t == 0) = false := by simpa using hE
  generalize nwE n s t = E at *
  clear hg hm1 hm2 hE
  go_enter Tryd.func5, Tryd.ntmps5
  go_wp2_with fail
  refine (HN1.out _).mono ?_
  rintro e w1 ⟨rfl, hb1⟩
  go_wp2_with fail
  refine (HN2.out _).mono ?_
  rintro e w2 ⟨rfl, hb2⟩
  have hl2 := below_then hb1 hb2
  go_wp2_with fail
  have hal := (Below.refl w2.heap.size w2).alloc (Nat.le_refl _) (.cells #[.slice none 0 0] 54)
  have hl3 := below_then hl2 hal
  have hbx := blk_new w2 (.cells #[.slice none 0 0] 54)
  obtain ⟨pr, hpr⟩ : ∃ p, w2.heap.size = p := ⟨_, rfl⟩
  rw [hpr] at hbx
  (try rw [hpr])
  clear hpr hal hb1 hb2 hl2
  generalize World.alloc w2 _ = w3 at *
  refine (merge_nil (.slice p xs.length cap) xs (HR.out.below hl3)).mono ?_
  rintro e w6 ⟨⟨ym, em, rfl⟩, hB⟩
  have HL := Lib.hid (below_then hl3 hB)
  have HBR := Lib.hid (blk_below' hB hbx)
  clear hl3 hbx hB
  have HD1 : Hid (∀ W, Below w6.heap.size w6 W → Calls Tryd.prog 7 #[.pointer none, .int .i64 of_] W fun e w' => e = .returned (.tuple #[.agg #[.int .i64 0, .int .i64 0, .int .i64 0], .bool false]) ∧ Below W.heap.size W w') := Lib.hid fun W hW => rdue_nil (HG.out.of (below_then HL.out hW)) of_
  have HD2 : Hid (∀ W, Below w6.heap.size w6 W → Calls Tryd.prog 23 #[.agg #[.slice none 0 0], .int .i64 of_] W fun e w' => e = .returned (.tuple #[.agg #[.int .i64 0, .int .i64 0, .int .i64 0], .bool false]) ∧ Below W.heap.size W w') := Lib.hid fun W hW => r15_zero of_ W
  obtain ⟨O, hO⟩ : ∃ O : Int, (0 : Int) = O := ⟨_, rfl⟩
  obtain ⟨T, hT⟩ : ∃ O : Int, (0 : Int) = O := ⟨_, rfl⟩
  obtain ⟨K, hK⟩ : ∃ O : Int, (0 : Int) = O := ⟨_, rfl⟩
  obtain ⟨bv, hbv⟩ : ∃ b : Bool, false = b := ⟨_, rfl⟩
  have HD1 : Hid (∀ W, Below w6.heap.size w6 W → Calls Tryd.prog 7 #[.pointer none, .int .i64 of_] W fun e w' => e = .returned (.tuple #[.agg #[.int .i64 O, .int .i64 T, .int .i64 K], .bool bv]) ∧ Below W.heap.size W w') := by rw [← hO, ← hT, ← hK, ← hbv]; exact HD1
  have HD2 : Hid (∀ W, Below w6.heap.size w6 W → Calls Tryd.prog 23 #[.agg #[.slice none 0 0], .int .i64 of_] W fun e w' => e = .returned (.tuple #[.agg #[.int .i64 O, .int .i64 T, .int .i64 K], .bool bv]) ∧ Below W.heap.size W w') := by rw [← hO, ← hT, ← hK, ← hbv]; exact HD2
  clear hO hT hK hbv
  have HBX := Lib.hid (BL.nil w6 w6.heap.size)
  have HSZ : Hid (w6.heap.size ≤ w6.heap.size) := Lib.hid (Nat.le_refl _)
  have HW6 := Lib.hid (Below.refl w6.heap.size w6)
  obtain ⟨L, hLe⟩ : ∃ L, w6.heap.size = L := ⟨_, rfl⟩
  rw [hLe] at HBX
  have HSZ : Hid (L ≤ w6.heap.size) := Lib.hid (by omega)
  go_wp2_with fail
  refine (HD1.out _ HW6.out).mono ?_
  rintro e w7 ⟨rfl, hB⟩
  have HBX := Lib.hid (HBX.out.below hB)
  have HL := Lib.hid (below_then HL.out hB)
  have HSZ := Lib.hid (Nat.le_trans HSZ.out (hB).size)
  have HW6 := Lib.hid (hLe ▸ hB)
  clear hB
  go_upto_region 9 with fail
  have hal := (Below.refl (w7).heap.size w7).alloc (Nat.le_refl _) (.cells #[.int .i64 O, .int .i64 T, .int .i64 K] 24)
  have HBX := Lib.hid (HBX.out.box HSZ.out O T K)
  have HL := Lib.hid (below_then HL.out hal)
  have HSZ := Lib.hid (Nat.le_trans HSZ.out hal.size)
  have HW7 : Hid (Below w6.heap.size w6 (w7.alloc (.cells #[.int .i64 O, .int .i64 T, .int .i64 K] 24))) := Lib.hid (by have h := HW6.out; subst hLe; exact below_then h hal)
  have HBR2 := Lib.hid (blk_below' HW7.out HBR.out)
  clear hal
  obtain ⟨pwx, hpwx⟩ : ∃ p, (w7).heap.size = p := ⟨_, rfl⟩
  rw [hpwx] at HBX
  (try rw [hpwx])
  clear hpwx
  generalize World.alloc w7 _ = wx at *
  have b0 := blk_cell HBR2.out 0
  go_wp2_with fail
  refine (HD2.out _ HW7.out).mono ?_
  rintro e w9 ⟨rfl, hB⟩
  have HBX := Lib.hid (HBX.out.below hB)
  have HL := Lib.hid (below_then HL.out hB)
  have HSZ := Lib.hid (Nat.le_trans HSZ.out (hB).size)
  clear hB b0
  go_upto_region 10 with fail
  have hal := (Below.refl (w9).heap.size w9).alloc (Nat.le_refl _) (.cells #[.int .i64 O, .int .i64 T, .int .i64 K] 24)
  have HBX := Lib.hid (HBX.out.box HSZ.out O T K)
  have HL := Lib.hid (below_then HL.out hal)
  have HSZ := Lib.hid (Nat.le_trans HSZ.out hal.size)
  clear hal
  obtain ⟨pwy, hpwy⟩ : ∃ p, (w9).heap.size = p := ⟨_, rfl⟩
  rw [hpwy] at HBX
  (try rw [hpwy])
  clear hpwy
  generalize World.alloc w9 _ = wy at *
  go_wp2_with fail
  have hzb : Zb (_ : World) _ := blk_new wy (.cells #[.slice none 0 0] 66)
  have hal := (Below.refl wy.heap.size wy).alloc (Nat.le_refl _) (.cells #[.slice none 0 0] 66)
  have HZB := Lib.hid hzb
  have HBX := Lib.hid (HBX.out.below hal)
  have HL := Lib.hid (below_then HL.out hal)
  have HSZ := Lib.hid (Nat.le_trans HSZ.out (hal).size)
  clear hal hzb
  obtain ⟨pz, hpz⟩ : ∃ p, wy.heap.size = p := ⟨_, rfl⟩
  rw [hpz] at HZB
  (try rw [hpz])
  clear hpz
  generalize World.alloc wy _ = wz at *
  refine (rdue_zero HZB.out (HG.out.of HL.out) of_).mono ?_
  rintro e wq ⟨rfl, hB⟩
  unfold nV
  have HBX := Lib.hid (HBX.out.below hB)
  have HL := Lib.hid (below_then HL.out hB)
  have HSZ := Lib.hid (Nat.le_trans HSZ.out (hB).size)
  clear hB
  go_wp2_with fail
  have hal := (Below.refl (wq).heap.size wq).alloc (Nat.le_refl _) (.cells #[.int .i64 0, .int .i64 0, .int .i64 0] 24)
  have HBX := Lib.hid (HBX.out.box HSZ.out 0 0 0)
  have HL := Lib.hid (below_then HL.out hal)
  have HSZ := Lib.hid (Nat.le_trans HSZ.out hal.size)
  clear hal
  obtain ⟨pwr, hpwr⟩ : ∃ p, (wq).heap.size = p := ⟨_, rfl⟩
  rw [hpwr] at HBX
  (try rw [hpwr])
  clear hpwr
  generalize World.alloc wq _ = wr at *
  refine (alive15_any (HG.out.of HL.out)).mono ?_
  rintro e wt ⟨rfl, hB⟩
  have HBX := Lib.hid (HBX.out.below hB)
  have HL := Lib.hid (below_then HL.out hB)
  have HSZ := Lib.hid (Nat.le_trans HSZ.out (hB).size)
  clear hB
  obtain ⟨x0, x1, x2⟩ := HBX.out.at (p := pwx) (o := O) (t := T) (k := K) (by simp)
  obtain ⟨y0, y1, y2⟩ := HBX.out.at (p := pwy) (o := O) (t := T) (k := K) (by simp)
  obtain ⟨z0, z1, z2⟩ := HBX.out.at (p := pwr) (o := 0) (t := 0) (k := 0) (by simp)
  go_wp2_with fail
  go_ret
  exact ⟨rfl, HL.out⟩
set_option maxRecDepth 100000 in
set_option maxHeartbeats 1000000 in
theorem refuteDues_w (w : World) (n sf tg : Int) (v : Value) (of_ : Int) (hn : (Lit.int .i64 n).wf = true) (hsf : (Lit.int .i64 sf).wf = true) (htg : (Lit.int .i64 tg).wf = true) (xs : List (List Int)) (hrow : RowsOf w 3 v xs) (hwf : ∀ x ∈ xs, ∀ y ∈ x, (Lit.int .i64 y).wf = true) (hof : (Lit.int .i64 of_).wf = true) {a : Addr} (hg : Gl a w) :
    Calls Tryd.prog 5 #[.int .i64 n, .int .i64 sf, .int .i64 tg, v, .int .i64 of_] w fun e w' => e = .returned (.bool true) ∧ Below w.heap.size w w' := by
  clear hn hsf htg hwf hof
  by_cases hl : xs.length ≤ 300
  · by_cases hE : nwE n sf tg = 0
    · have hb : (1 ≤ n ∧ n ≤ 100) ∧ (0 ≤ sf ∧ sf < n) ∧ 0 ≤ tg ∧ tg ≤ 1048576 := by
        unfold nwE at hE
        split at hE
        · split at hE
          · split at hE
            · omega
            · cases hE
          · cases hE
        · cases hE
      obtain ⟨N, rfl⟩ : ∃ N : Nat, n = N := ⟨n.toNat, by omega⟩
      obtain ⟨S, rfl⟩ : ∃ S : Nat, sf = S := ⟨sf.toNat, by omega⟩
      obtain ⟨T, rfl⟩ : ∃ T : Nat, tg = T := ⟨tg.toNat, by omega⟩
      exact refuteDues_yes N S T of_ ⟨by omega, by omega⟩ (by omega) (by omega) v xs w hg hrow hl
    · exact refuteDues_no n sf tg of_ hE v xs w hg hrow hl
  · have HG := Lib.hid hg
    obtain ⟨p, cap, rfl, hm1, hm2, _⟩ := hrow
    have a1 : (300 : Int) < (xs.length : Int) := by omega
    clear hg hm1 hm2 hl
    go_enter Tryd.func5, Tryd.ntmps5
    go_wp2_with (go_at_call 12; refine (alive15_any HG.out).mono ?_; rintro e w9 ⟨rfl, hB9⟩)
    go_ret
    exact ⟨rfl, hB9⟩
end Go.Proofs.YtppmiggkknhdkaaDoor
namespace Go.Proofs.YtppmiggkknhdkaaDoor.refuteDues
open Go.ChangeShapes Go.WideShapes Go.ChangeAt Go.RowKit
open Go.ChangeMaps (open_string shut_string)
set_option linter.unusedVariables false

theorem own : ownKnob Tryd.prog.godebug = none := by kernel_rfl

set_option maxRecDepth 100000 in
set_option maxHeartbeats 1000000 in
theorem lifted (os : Os) (started : os.Started) (H : Type) (enc : TypeId × Value → H) :
    ReturnsInHanded {} Tryd.checked os 5 .any (fun w args => (Rows.refuteDuesSpec.pre enc Tryd.prog Tryd.f5 [] false w args ∧ laidMetH Tryd.prog Rows.refuteDuesRow.laid w) ∧ sizedMet enc Tryd.prog Tryd.f5 (OpenSpec.ofChange Rows.refuteDuesSpec) false w args) (Rows.refuteDuesSpec.post enc Tryd.prog Tryd.f5 false true false false) := by
  refine returnsInHanded_of_change_and (C := Tryd.checked) (X := fun w _ => laidMetH Tryd.prog Rows.refuteDuesRow.laid w) (fun _ _ _ hh h => h.of_heap hh) own started (by kernel_rfl) Tryd.func5
    (ChangeSpec.witness_shaped (enc := enc) (C := Tryd.checked) (os := os) (X := fun w _ => laidMetH Tryd.prog Rows.refuteDuesRow.laid w) false (World.laidAll Tryd.prog os Rows.refuteDuesRow.laid) #[.int .i64 0, .int .i64 0, .int .i64 0, .slice none 0 0, .int .i64 0] 8 (World.laidAll_os _ _ _)
      (World.shaped_of_ZipB (by kernel_rfl) (by kernel_rfl)) (by kernel_rfl) (by kernel_rfl) (by kernel_rfl)
      (by rw [MakeChecks.laidMetH_plain _ _ _ (by kernel_rfl)]; exact laidMet_laidAll _ (by kernel_rfl) (by kernel_rfl))) ?_
  intro W base args ds gs before hval0 hW _ hsz0 hL _
  have hval : ∀ (j : Nat) t v, Tryd.f5.params[j]? = some t → args[j]? = some v → Value.okWide Tryd.prog W .any base t v := hval0
  have hW' := hW
  obtain ⟨p, q, hA0, hV, rfl, hfz, hnd⟩ := hW
  have hA : DataW.TrodAll enc Tryd.prog W 0 (fun _ => true) true Tryd.f5.params.toList args.toList ds p := hA0
  have hsz : (DataW.weightsEach Tryd.prog (Tryd.f5.params.toList ++ Rows.refuteDuesSpec.plain.varTypes Tryd.prog) (ds ++ gs)).all (· ≤ reachBytes) = true := hsz0
  rw [Tryd.params5] at hA hval hsz
  obtain ⟨v0, vs0, d0, ds0, p0, q0, hargs, rfl, rfl, h0, r0⟩ := trodAll_cons hA
  obtain ⟨v1, vs1, d1, ds1, p1, q1, rfl, rfl, rfl, h1, r1⟩ := trodAll_cons r0
  obtain ⟨v2, vs2, d2, ds2, p2, q2, rfl, rfl, rfl, h2, r2⟩ := trodAll_cons r1
  obtain ⟨v3, vs3, d3, ds3, p3, q3, rfl, rfl, rfl, h3, r3⟩ := trodAll_cons r2
  obtain ⟨v4, vs4, d4, ds4, p4, q4, rfl, rfl, rfl, h4, r4⟩ := trodAll_cons r3
  obtain ⟨rfl, rfl, rfl⟩ := trodAll_nil r4
  obtain rfl : args = #[v0, v1, v2, v3, v4] := by cases args; simp_all
  obtain ⟨rfl, rfl⟩ := trodVars_none hV
  obtain ⟨a0, rfl, rfl, rfl, w0⟩ := open_int Tryd.underlying3 (hval 0 3 v0 rfl rfl) h0
  obtain ⟨a1, rfl, rfl, rfl, w1⟩ := open_int Tryd.underlying3 (hval 1 3 v1 rfl rfl) h1
  obtain ⟨a2, rfl, rfl, rfl, w2⟩ := open_int Tryd.underlying3 (hval 2 3 v2 rfl rfl) h2
  obtain ⟨x3, s3, w3⟩ := open_rows 6 Tryd.underlying45 (by kernel_rfl) (by have h9 : Tryd.prog.cellsOf 24 = 3 := (by kernel_rfl); omega) (hval 3 45 v3 rfl rfl) h3
  rw [show Tryd.prog.cellsOf 24 = 3 from by kernel_rfl] at s3
  obtain ⟨a4, rfl, rfl, rfl, w4⟩ := open_int Tryd.underlying3 (hval 4 3 v4 rfl rfl) h4
  clear hval0
  simp only [List.append_nil] at hW'
  obtain ⟨aSent, hSent⟩ := sent_of hL
  refine (refuteDues_w W a0 a1 a2 v3 a4 w0 w1 w2 x3 s3 w3 w4 hSent).mono fun e W' ⟨he, hg⟩ => ?_
  subst he
  exact ⟨_, rfl, post_of_below (pa := _) (pv := []) hW' (fun _ _ _ => (trodAll_cons_mk (shut_bool Tryd.underlying4 _) trodAll_mk0)) (fun sp hsp => trodAll_stays (by kernel_rfl) _ _ _ _ (readAll_spec (by kernel_rfl)) hA0 (fun q hq => hg.same (hW'.lt q (by simpa using hq))) (fun q hq => hsp q (by simpa using hq))) (fun _ _ => rfl) (by simp)
    hg (ok_one (by kernel_rfl) rfl (okWide_bool_mk Tryd.underlying4 _))⟩

theorem row : Rows.RefuteDuesSaid :=
  OpenClaim.holds_of_wide 5 Tryd.f5 rfl rfl rfl rfl rfl rfl rfl ⟨rfl, rfl, rfl, rfl, rfl⟩ rfl rfl rfl rfl rfl (by kernel_rfl) Tryd.func5 (by kernel_rfl)
    (of_decide_eq_true (by kernel_rfl)) (by unfold Func.isWrapper; rw [if_neg (of_decide_eq_false (by kernel_rfl))]; exact ⟨rfl, rfl⟩)
    (fun os started H enc _ => lifted os started H enc)
theorem proved : Rows.RefuteDuesCardSaid :=
  Claim7.holds_tied_plain_at .later [] [.sentinel] true (true, "9a015f91aaefea97dfe46f3c82ce70cf0da7a94997d7ed30d4118a0e457f8054") true
    row (fun _ h => by cases h) (by kernel_rfl) (fun _ h => by cases h) refuteDues_row_tie rfl ⟨rfl, rfl⟩ (by kernel_rfl) rfl
    (fun f fn hf hfn => by
      obtain rfl : f = 5 := Option.some.inj ((show Tryd.prog.funcNamed "earshot/earshotlaw15.RefuteDues" = some 5 by kernel_rfl).symm.trans hf) |>.symm
      obtain rfl : fn = Tryd.f5 := (Option.some.inj (Tryd.func5.symm.trans hfn)).symm
      exact ⟨by kernel_rfl, fun j t ht => by
        rw [Tryd.params5] at ht
        have hm : t ∈ [3, 3, 3, 45, 3] := by simpa using Array.mem_of_getElem? ht
        have hall : ([3, 3, 3, 45, 3].all fun u => !Tryd.prog.wantsStandIn u) = true := by kernel_rfl
        exact (show Tryd.prog.wantsStandIn t = false by simpa using List.all_eq_true.1 hall t hm)⟩)
    (by kernel_rfl)
end Go.Proofs.YtppmiggkknhdkaaDoor.refuteDues
