/- Walks: idset.Within; idset.All and its iterator. -/
import Derived.Test.YthbejpgeohhppaaSetEq
import Derived.Test.YthbejpgeohhppaaRef3b
import Derived.Deep.RegionHeld3
import Derived.RangeFuncNested
import Derived.RangeFuncBound
import Derived.RangeFuncBox
import Derived.RangeFuncCalls
import Derived.RangeFuncLeaves
import Derived.Shelf.Abstract
import Derived.Shelf.RegionOpen
import Derived.OwnWalkIn
import Derived.TacticsInMore
import Derived.LoopNIn
import Derived.LoopIn
import Derived.Test.YthbejpgeohhppaaRows
namespace Go.Proofs.Ythbejpgeohhppaa
set_option linter.unusedVariables false
set_option linter.unusedSimpArgs false
open Go.RowKit Go.Shelf

theorem and2_any (a b : Nat) (ha : a < 4294967296) (hb : b < 4294967296) (w : World) :
    Calls Try.prog 51 #[.int .u32 a, .int .u32 b] w fun e w' => e = .returned (.int .u32 (a &&& b : Nat)) ∧ w' = w := by
  have h := bits_and_u32 a b ha hb
  go_enter Try.func51, Try.ntmps51
  go_wp2
  go_ret
  exact ⟨rfl, rfl⟩
set_option maxRecDepth 100000 in
set_option maxHeartbeats 1000000 in
theorem each2_any (x y : Nat) (w : World) :
    Calls Try.prog 49 #[setV x, setV y, .func (.func 51) #[] #[]] w fun e w' => e = .returned (setV (x &&& y)) ∧ Below w.heap.size w w' := by
  unfold setV setC
  go_enter Try.func49, Try.ntmps49
  go_wp2_with fail
  go_loopw [8] (fun i wr => ∃ k : Nat, i = .int .i64 k ∧ k ≤ 4 ∧ wr.heap[w.heap.size]? = some (.cells (mixC x y k) 47 (0, 0)) ∧ wr.heap[w.heap.size + 1]? = some (.cells (setC y) 47 (0, 0)) ∧
      wr.heap[w.heap.size + 1 + 1]? = some (.cells #[.int .u32 0, .int .u32 0, .int .u32 0, .int .u32 0] 47 (0, 0)) ∧ Below w.heap.size w wr) (fun i _ => 4 - (intOf i).toNat)
  case atStart =>
    refine ⟨0, rfl, by omega, blk_old (blk_old (blk_new w _) _) _, blk_old (b1 w _ _) _, b2 w _ _ _, (((Below.refl _ w).alloc (Nat.le_refl _) _).alloc (by simp) _).alloc (by simp; omega) _⟩
  case round =>
    obtain ⟨k, rfl, hk, b0, b1, b2, hb⟩ := hrel
    by_cases hlt : k < 4
    · have c0 : wr.cell? ⟨w.heap.size, k, none⟩ = some (.int .u32 (sw x k : Nat)) := (blk_cell b0 k).trans (mixC_get x y k hlt)
      have c1 : wr.cell? ⟨w.heap.size + 1, k, none⟩ = some (.int .u32 (sw y k : Nat)) := (blk_cell b1 k).trans (setC_get y k hlt)
      have f0 := blk_free b0 k
      have hk4 : (k : Int) < 4 := by omega
      go_wp2_with fail
      refine wp_region_still_tail 10 (by kernel_rfl) (by kernel_rfl) ?_
      simp only [List.take_succ_cons, List.take_zero, List.drop_succ_cons, List.drop_zero]
      repeat (first | still_call (and2_any _ _ (sw_lt x k) (sw_lt y k) _) | still_step)
      try refine wpStill_nil ?_
      change wpList _ _ _ _ _ wr.drew
      go_wp2
      go_roundw
      case rel =>
        refine ⟨k + 1, by go_num, by omega, ?_, blk_set (blk_drewN b1 1) _ _ (by simp <;> omega), blk_set (blk_drewN b2 1) _ _ (by simp <;> omega), (below_drewN hb 1).setCell (by simp) _⟩
        have := blk_store (blk_drewN b0 1) k (.int .u32 (sw x k &&& sw y k : Nat))
        rwa [mixC_set x y k hlt] at this
      case measure => simp [intOf]; omega
    · obtain rfl : k = 4 := by omega
      have c0 := fun i => blk_cell b0 i
      simp only [mixC] at c0
      have q0 := c0 0
      have q1 := c0 1
      have q2 := c0 2
      have q3 := c0 3
      have d0 := blk_cell b2 0
      have d1 := blk_cell b2 1
      have d2 := blk_cell b2 2
      have d3 := blk_cell b2 3
      have f0 := blk_free b2 0
      have f1 := blk_free b2 1
      have f2 := blk_free b2 2
      have f3 := blk_free b2 3
      simp at q0 q1 q2 q3 d0 d1 d2 d3
      clear c0
      go_wp2
      refine bodyPost_ret (v := setV (x &&& y)) ?_ rfl ⟨rfl, ?_⟩
      · unfold setV setC
        simp [results, Try.results49, go_sem, d0, d1, d2, d3]
      · exact (((hb.setCell (by simp; omega) _).setCell (by simp; omega) _).setCell (by simp; omega) _).setCell (by simp; omega) _
theorem within_iff {x n : Nat} : (x &&& (2 ^ n - 1) = x) = (x < 2 ^ n) := by
  rw [Nat.and_two_pow_sub_one_eq_mod, eq_iff_iff]
  constructor
  · intro h; rw [← h]; exact Nat.mod_lt _ (Nat.pow_pos (by decide))
  · exact Nat.mod_eq_of_lt

/-- A set in a variable. -/
def SetIn (w0 : World) (b x : Nat) (W : World) : Prop := W.heap[b]? = some (.cells (setC x) 47 (0, 0)) ∧ Below w0.heap.size w0 W
theorem SetIn.below {w0 : World} {b x : Nat} {W W' : World} (h : SetIn w0 b x W) (hb : Below W.heap.size W W') : SetIn w0 b x W' := ⟨blk_below' hb h.1, below_then h.2 hb⟩
theorem SetIn.drew {w0 : World} {b x : Nat} {W : World} (h : SetIn w0 b x W) : SetIn w0 b x W.drew := ⟨h.1, below_drewN h.2 1⟩
theorem SetIn.all {w0 : World} {b x : Nat} {W : World} (h : SetIn w0 b x W) : (W.cell? ⟨b, 0, none⟩ = some (.int .u32 (sw x 0 : Nat)) ∧ W.cell? ⟨b, 1, none⟩ = some (.int .u32 (sw x 1 : Nat)) ∧ W.cell? ⟨b, 2, none⟩ = some (.int .u32 (sw x 2 : Nat)) ∧ W.cell? ⟨b, 3, none⟩ = some (.int .u32 (sw x 3 : Nat))) ∧ SetIn w0 b x W := by
  obtain ⟨c0, c1, c2, c3, _⟩ := set_cells h.1
  exact ⟨⟨c0, c1, c2, c3⟩, h⟩

set_option maxRecDepth 100000 in
set_option maxHeartbeats 400000 in
theorem within_any (x n : Nat) (hx : x < 2 ^ 128) (hn : n ≤ 100) (w : World) :
    Calls Try.prog 35 #[setV x, .int .i64 n] w fun e w' => e = .returned (.bool (decide (x < 2 ^ n))) ∧ Below w.heap.size w w' := by
  have HU := Lib.hid (fun w => upTo_any n hn w)
  have HE := Lib.hid (fun w => each2_any x (2 ^ n - 1) w)
  have hq : ∀ w, (Op.equalIn 10000 47 (.agg (setC (x &&& (2 ^ n - 1)))) (.agg (setC x))).run Try.prog w = .ok (decide (x < 2 ^ n)) w := fun w => by
    have h1 : x &&& (2 ^ n - 1) < 2 ^ 128 := Nat.lt_of_le_of_lt Nat.and_le_left hx
    rw [eq_sets h1 hx]
    congr 1
    exact decide_eq_decide.2 (by rw [within_iff])
  generalize x &&& (2 ^ n - 1) = y at *
  generalize 2 ^ n - 1 = M at *
  generalize decide (x < 2 ^ n) = r at *
  clear hx
  have i0 : (0 : Int) ≤ (n : Int) := by omega
  have i1 : (n : Int) ≤ 100 := by omega
  have hif := Lib.hid (show (if (100 : Int) < if (n : Int) < 0 then 0 else (n : Int) then 100 else if (n : Int) < 0 then 0 else (n : Int)) = (n : Int) by rw [if_neg (by omega), if_neg (by omega)])
  have hS : SetIn w w.heap.size x (w.alloc (.cells (setC x) 47)) := ⟨blk_new w _, (Below.refl _ w).alloc (Nat.le_refl _) _⟩
  unfold setV at HU HE ⊢
  unfold setC at hq
  go_enter Try.func35, Try.ntmps35
  go_wp2_with fail
  obtain ⟨W, hW⟩ : ∃ W, w.alloc (.cells (setC x) 47) = W := ⟨_, rfl⟩
  rw [hW] at hS ⊢
  clear hW
  go_region_held3 (fun w' => (w'.cell? ⟨w.heap.size, 0, none⟩ = some (.int .u32 (sw x 0 : Nat)) ∧ w'.cell? ⟨w.heap.size, 1, none⟩ = some (.int .u32 (sw x 1 : Nat)) ∧ w'.cell? ⟨w.heap.size, 2, none⟩ = some (.int .u32 (sw x 2 : Nat)) ∧ w'.cell? ⟨w.heap.size, 3, none⟩ = some (.int .u32 (sw x 3 : Nat))) ∧ SetIn w w.heap.size x w')
    (exact SetIn.all (by first | with_reducible exact hS.drew | with_reducible exact hK2 | with_reducible exact hK))
    (first
      | (go_at_call 50; rw [hif.out]; have hk := (‹_ ∧ SetIn _ _ _ _›).2; refine (HU.out _).mono ?_; rintro e w' ⟨rfl, hB⟩; have hK := hk.below hB)
      | (go_at_call 49; have hk := (‹_ ∧ SetIn _ _ _ _›).2; refine (HE.out _).mono ?_; rintro e w' ⟨rfl, hB⟩; have hK2 := hk.below hB; unfold setC))
  all_goals
    have hk := (‹_ ∧ SetIn _ _ _ _›).2
    go_wp2
    go_ret
    exact ⟨rfl, hk.2⟩

abbrev idEnc (x : Nat) (i : { i : Nat // i ∈ idsL x 100 }) : Array Value := #[.int .i64 i.1]
/-- A round keeps the variable with the set. -/
def KeepsAt (b : Nat) (A B : World) : Prop := ∀ o, A.heap[b]? = some o → B.heap[b]? = some o
theorem KeepsAt.trans {b : Nat} {A B C : World} (h : KeepsAt b A B) (k : KeepsAt b B C) : KeepsAt b A C := fun o ho => k o (h o ho)
theorem KeepsAt.refl (b : Nat) (A : World) : KeepsAt b A A := fun _ h => h
theorem KeepsAt.of_below {b : Nat} {A B : World} (h : Below A.heap.size A B) : KeepsAt b A B := fun _ ho => blk_below' h ho
theorem KeepsAt.put {b : Nat} {w : World} (hb : b < w.heap.size) (W : World) (l : Nat) (o o' : Obj) (hl : w.heap.size ≤ l) (h : W.heap[l]? = some o) (_ : o.isCells = false) (_ : o.isWalk = false) : KeepsAt b W (W.putObj l o') := fun q hq => by
  have hne : l ≠ b := by omega
  simp only [World.putObj]
  rw [Array.getElem?_setIfInBounds_ne hne]
  exact hq

set_option maxHeartbeats 400000 in
theorem idAll_any (x : Nat) (w : World) :
    Calls Try.prog 36 #[setV x] w fun e w' => e = .returned (.func (.func 52) #[] #[.pointer (some ⟨w.heap.size, 0, none⟩)]) ∧ w.alloc (.cells (setC x) 47) = w' := by
  unfold setV
  go_enter Try.func36, Try.ntmps36
  go_wp2
  go_ret
  exact ⟨rfl, rfl⟩

theorem idsL_pre {x j k : Nat} (h : j ≤ k) : idsL x j <+: idsL x k := by
  induction k with
  | zero => obtain rfl : j = 0 := by omega
            exact List.prefix_refl _
  | succ k ih =>
    by_cases e : j = k + 1
    · subst e; exact List.prefix_refl _
    · rw [idsL_succ]
      split
      · exact (ih (by omega)).trans (List.prefix_append _ _)
      · exact ih (by omega)
theorem idsL_step {x k : Nat} (hk : k < 100) (h : x.testBit k = true) : idsL x k ++ [k] <+: idsL x 100 := by
  have h1 := idsL_succ x k
  rw [h, if_pos rfl] at h1
  rw [← h1]
  exact idsL_pre (by omega)

set_option maxRecDepth 100000 in
set_option maxHeartbeats 1000000 in
theorem idAll1_stops (x : Nat) (n : Nat) (hn : 1 ≤ n) (w : World) (Bs : Nat) (hs : w.heap[Bs]? = some (.cells (setC x) 47 (0, 0))) :
    SeqStopsK Fence.wide n Try.prog 52 #[.pointer (some ⟨Bs, 0, none⟩)] (idEnc x) (KeepsAt Bs) (fun xs => xs.map (·.1) = idsL x 100) (fun pre => pre.map (·.1) <+: idsL x 100) (idsL x 100).length w := fun l J Jx W hW hJ hJx hY h0 => by
  have hs1 := blk_below hW hs (blk_lt hs)
  have hBs := blk_lt hs1
  have HH := Lib.hid (fun k w => has_any x k w)
  unfold setV at HH
  refine callsIn_of_wp Try.func52 rfl trivial ?_ rfl
  simp only [Try.ntmps52, List.size_toArray, List.length_cons, List.length_nil, Nat.reduceAdd, Nat.reduceSub, Array.replicate_succ, Array.replicate_zero, List.push_toArray, List.append_toArray, List.nil_append, List.cons_append]
  gi_wp2
  gi_loopw [4] (fun i wr => ∃ (k : Nat) (pre : List { i : Nat // i ∈ idsL x 100 }), i = .int .i64 k ∧ k ≤ 100 ∧ pre.map (·.1) = idsL x k ∧ J pre wr ∧ wr.heap[Bs]? = some (.cells (setC x) 47 (0, 0))) (fun i _ => 100 - (intOf i).toNat)
  case atStart => exact ⟨0, [], rfl, by omega, rfl, h0, hs1⟩
  case round =>
    obtain ⟨k, pre, rfl, hk, hpre, hJs, hb⟩ := hrel
    have HPRE := Lib.hid hpre
    clear hpre
    by_cases hlt : k < 100
    · obtain ⟨q0, q1, q2, q3, _⟩ := set_cells hb
      have i1 : (k : Int) < 100 := by omega
      have hkb : hasB x k = x.testBit k := by unfold hasB; rw [show decide ((0 : Int) ≤ k ∧ (k : Int) < 100) = true from by simp; omega]; simp
      have H := Lib.hid (HH.out k)
      simp only [hkb] at H
      have hid := idsL_succ x k
      cases ht : x.testBit k with
      | false =>
        rw [ht] at H hid
        have HID := Lib.hid hid
        clear hid ht hkb
        gi_wp2_with (first
          | (refine ⟨trivial, ?_⟩; gi_at_call 31; refine (callsIn_wide.2 (H.out _)).mono ?_; rintro e w1 ⟨rfl, hB1⟩; have hb1 := blk_below' hB1 hb; have hJ1 := hJ _ wr w1 none hJs ⟨hB1.os, hB1.tape, hB1.output, hB1.size, fun k hk _ => hB1.block k hk⟩ (fun r e => by cases e)))
        refine ⟨(fun _ h => by cases h), ?_⟩
        gi_wp2
        go_roundw
        case rel => exact ⟨k + 1, pre, by go_num, by omega, by rw [HPRE.out, HID.out]; simp, hJ1, hb1⟩
        case measure => simp [intOf]; omega
      | true =>
        rw [ht] at H hid
        have hmem : k ∈ idsL x 100 := (idsL_step hlt ht).subset (by simp)
        have hlen : pre.length < (idsL x 100).length := by
          have h1 := (idsL_step hlt ht).length_le
          have h2 := congrArg List.length HPRE.out
          rw [List.length_map] at h2
          simp at h1; omega
        have HST := Lib.hid (idsL_step hlt ht)
        have HID := Lib.hid hid
        clear hid ht hkb
        gi_wp2_with (first
          | (refine ⟨trivial, ?_⟩; gi_at_call 31; refine (callsIn_wide.2 (H.out _)).mono ?_; rintro e w1 ⟨rfl, hB1⟩; have hb1 := blk_below' hB1 hb; have hJ1 := hJ _ wr w1 none hJs ⟨hB1.os, hB1.tape, hB1.output, hB1.size, fun k hk _ => hB1.block k hk⟩ (fun r e => by cases e); obtain ⟨fn, tmps, assign, body, hy, hR⟩ := hY pre ⟨k, hmem⟩ w1 hJ1 hlen; dsimp only [idEnc] at hy; have HR := Lib.hid hR; clear hR))
        refine HR.out.mono ?_
        rintro e W' (⟨rfl, hJ', hk'⟩ | ⟨rfl, hJx'⟩)
        · have hb' := hk' _ hb1
          gi_wp2
          go_roundw
          case rel => exact ⟨k + 1, pre ++ [⟨k, hmem⟩], by go_num, by omega, by rw [HID.out]; simp [HPRE.out], hJ', hb'⟩
          case measure => simp [intOf]; omega
        · gi_wp2
          refine bodyPost_ret (results_none rfl _ _ _) rfl ?_
          refine ⟨⟨_, rfl⟩, .inr ⟨pre ++ [⟨k, hmem⟩], ?_, hJx'⟩⟩
          rw [List.map_append, HPRE.out]
          exact HST.out
    · obtain rfl : k = 100 := by omega
      clear hY hJ hJx h0
      gi_wp2
      go_end0
      exact ⟨⟨_, rfl⟩, .inl ⟨pre, HPRE.out, hJs⟩⟩
end Go.Proofs.Ythbejpgeohhppaa
