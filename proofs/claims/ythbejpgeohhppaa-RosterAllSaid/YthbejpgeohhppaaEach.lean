/- Walks: idset.each with the conjunction, upTo, Clean. -/
import Derived.Test.YthbejpgeohhppaaIdset
import Derived.Test.YthbejpgeohhppaaEarly
namespace Go.Proofs.Ythbejpgeohhppaa
set_option linter.unusedVariables false
set_option linter.unusedSimpArgs false
open Go.RowKit

theorem b1 (w : World) (a b : Obj) : ((w.alloc a).alloc b).heap[w.heap.size + 1]? = some b := by have := blk_new (w.alloc a) b; rwa [World.size_alloc] at this
theorem b2 (w : World) (a b c : Obj) : (((w.alloc a).alloc b).alloc c).heap[w.heap.size + 1 + 1]? = some c := by have := blk_new ((w.alloc a).alloc b) c; rwa [World.size_alloc, World.size_alloc] at this

/-- The words, the first k of them met with the mask's. -/
def mixC (x y k : Nat) : Array Value := #[.int .u32 (sw (if 0 < k then x &&& y else x) 0 : Nat), .int .u32 (sw (if 1 < k then x &&& y else x) 1 : Nat), .int .u32 (sw (if 2 < k then x &&& y else x) 2 : Nat), .int .u32 (sw (if 3 < k then x &&& y else x) 3 : Nat)]
theorem mixC_get (x y k : Nat) (hk : k < 4) : (mixC x y k)[k]? = some (.int .u32 (sw x k : Nat)) := by
  match k, hk with
  | 0, _ => rfl
  | 1, _ => rfl
  | 2, _ => rfl
  | 3, _ => rfl
theorem mixC_set (x y k : Nat) (hk : k < 4) : (mixC x y k).setIfInBounds k (.int .u32 (sw x k &&& sw y k : Nat)) = mixC x y (k + 1) := by
  rw [← sw_and]
  match k, hk with
  | 0, _ => rfl
  | 1, _ => rfl
  | 2, _ => rfl
  | 3, _ => rfl

theorem and1_any (a b : Nat) (ha : a < 4294967296) (hb : b < 4294967296) (w : World) :
    Calls Try.prog 55 #[.int .u32 a, .int .u32 b] w fun e w' => e = .returned (.int .u32 (a &&& b : Nat)) ∧ w' = w := by
  have h := bits_and_u32 a b ha hb
  go_enter Try.func55, Try.ntmps55
  go_wp2
  go_ret
  exact ⟨rfl, rfl⟩
set_option maxRecDepth 100000 in
set_option maxHeartbeats 1000000 in
theorem each1_any (x y : Nat) (w : World) :
    Calls Try.prog 49 #[setV x, setV y, .func (.func 55) #[] #[]] w fun e w' => e = .returned (setV (x &&& y)) ∧ Below w.heap.size w w' := by
  unfold setV setC
  go_enter Try.func49, Try.ntmps49
  go_wp2_with fail
  go_loopw [8] (fun i wr => ∃ k : Nat, i = .int .i64 k ∧ k ≤ 4 ∧ wr.heap[w.heap.size]? = some (.cells (mixC x y k) 47 (0, 0)) ∧ wr.heap[w.heap.size + 1]? = some (.cells (setC y) 47 (0, 0)) ∧
      wr.heap[w.heap.size + 1 + 1]? = some (.cells #[.int .u32 0, .int .u32 0, .int .u32 0, .int .u32 0] 47 (0, 0)) ∧ Below w.heap.size w wr) (fun i _ => 4 - (intOf i).toNat)
  case atStart =>
    refine ⟨0, rfl, by omega, blk_old (blk_old (blk_new w _) _) _, blk_old (b1 w _ _) _, b2 w _ _ _, (((Below.refl _ w).alloc (Nat.le_refl _) _).alloc (by simp) _).alloc (by simp; omega) _⟩
  case round =>
    obtain ⟨k, rfl, hk, b0, b1, b2, hb⟩ := hrel
    by_cases hlt : k < 4
    · have c0 : wr.cell? ⟨w.heap.size, k, none⟩ = some (.int .u32 (sw x k : Nat)) := (blk_cell b0 k).trans (mixC_get x y k hlt)
      have c1 : wr.cell? ⟨w.heap.size + 1, k, none⟩ = some (.int .u32 (sw y k : Nat)) := (blk_cell b1 k).trans (setC_get y k hlt)
      have f0 := blk_free b0 k
      have hk4 : (k : Int) < 4 := by omega
      go_wp2_with fail
      refine wp_region_still_tail 10 (by kernel_rfl) (by kernel_rfl) ?_
      simp only [List.take_succ_cons, List.take_zero, List.drop_succ_cons, List.drop_zero]
      repeat (first | still_call (and1_any _ _ (sw_lt x k) (sw_lt y k) _) | still_step)
      try refine wpStill_nil ?_
      change wpList _ _ _ _ _ wr.drew
      go_wp2
      go_roundw
      case rel =>
        refine ⟨k + 1, by go_num, by omega, ?_, blk_set (blk_drewN b1 1) _ _ (by simp <;> omega), blk_set (blk_drewN b2 1) _ _ (by simp <;> omega), (below_drewN hb 1).setCell (by simp) _⟩
        have := blk_store (blk_drewN b0 1) k (.int .u32 (sw x k &&& sw y k : Nat))
        rwa [mixC_set x y k hlt] at this
      case measure => simp [intOf]; omega
    · obtain rfl : k = 4 := by omega
      have c0 := fun i => blk_cell b0 i
      simp only [mixC] at c0
      have q0 := c0 0
      have q1 := c0 1
      have q2 := c0 2
      have q3 := c0 3
      have d0 := blk_cell b2 0
      have d1 := blk_cell b2 1
      have d2 := blk_cell b2 2
      have d3 := blk_cell b2 3
      have f0 := blk_free b2 0
      have f1 := blk_free b2 1
      have f2 := blk_free b2 2
      have f3 := blk_free b2 3
      simp at q0 q1 q2 q3 d0 d1 d2 d3
      clear c0
      go_wp2
      refine bodyPost_ret (v := setV (x &&& y)) ?_ rfl ⟨rfl, ?_⟩
      · unfold setV setC
        simp [results, Try.results49, go_sem, d0, d1, d2, d3]
      · exact (((hb.setCell (by simp; omega) _).setCell (by simp; omega) _).setCell (by simp; omega) _).setCell (by simp; omega) _

/-- The mask's words, the first k of them laid. -/
def upC (n k : Nat) : Array Value := #[.int .u32 (if 0 < k then sw (2 ^ n - 1) 0 else 0 : Nat), .int .u32 (if 1 < k then sw (2 ^ n - 1) 1 else 0 : Nat), .int .u32 (if 2 < k then sw (2 ^ n - 1) 2 else 0 : Nat), .int .u32 (if 3 < k then sw (2 ^ n - 1) 3 else 0 : Nat)]
theorem upC_set (n k : Nat) (hk : k < 4) : (upC n k).setIfInBounds k (.int .u32 (sw (2 ^ n - 1) k : Nat)) = upC n (k + 1) := by
  match k, hk with
  | 0, _ => rfl
  | 1, _ => rfl
  | 2, _ => rfl
  | 3, _ => rfl
theorem up_word (n k : Nat) : ((2 ^ (if (32 : Int) < if (n : Int) - (k : Int) * 32 < 0 then 0 else (n : Int) - (k : Int) * 32 then 32 else if (n : Int) - (k : Int) * 32 < 0 then 0 else (n : Int) - (k : Int) * 32).toNat - 1) % 4294967296 : Int) = ((sw (2 ^ n - 1) k : Nat) : Int) := by
  have h : (if (32 : Int) < if (n : Int) - (k : Int) * 32 < 0 then 0 else (n : Int) - (k : Int) * 32 then 32 else if (n : Int) - (k : Int) * 32 < 0 then 0 else (n : Int) - (k : Int) * 32).toNat = min (n - 32 * k) 32 := by
    split <;> split at * <;> omega
  rw [h, sw_mask]
  have h1 : 2 ^ (min (n - 32 * k) 32) ≤ 2 ^ 32 := Nat.pow_le_pow_right (by decide) (by omega)
  have h2 : 0 < 2 ^ (min (n - 32 * k) 32) := Nat.pow_pos (by decide)
  generalize min (n - 32 * k) 32 = m at *
  have h3 : (2 : Int) ^ m = ((2 ^ m : Nat) : Int) := by push_cast; rfl
  rw [h3]
  generalize 2 ^ m = q at *
  omega
theorem upC_get (n k : Nat) (hk : k < 4) : ∃ v : Nat, (upC n k)[k]? = some (.int .u32 v) := by
  match k, hk with
  | 0, _ => exact ⟨_, rfl⟩
  | 1, _ => exact ⟨_, rfl⟩
  | 2, _ => exact ⟨_, rfl⟩
  | 3, _ => exact ⟨_, rfl⟩

set_option maxRecDepth 100000 in
set_option maxHeartbeats 1000000 in
theorem upTo_any (n : Nat) (hn : n ≤ 100) (w : World) :
    Calls Try.prog 50 #[.int .i64 n] w fun e w' => e = .returned (setV (2 ^ n - 1)) ∧ Below w.heap.size w w' := by
  go_enter Try.func50, Try.ntmps50
  go_wp2_with fail
  go_loopw [6] (fun i wr => ∃ k : Nat, i = .int .i64 k ∧ k ≤ 4 ∧ wr.heap[w.heap.size + 1]? = some (.cells (upC n k) 47 (0, 0)) ∧
      wr.heap[w.heap.size]? = some (.cells #[.int .u32 0, .int .u32 0, .int .u32 0, .int .u32 0] 47 (0, 0)) ∧ Below w.heap.size w wr) (fun i _ => 4 - (intOf i).toNat)
  case atStart =>
    refine ⟨0, rfl, by omega, b1 w _ _, blk_old (blk_new w _) _, ((Below.refl _ w).alloc (Nat.le_refl _) _).alloc (by simp) _⟩
  case round =>
    obtain ⟨k, rfl, hk, b0, b2, hb⟩ := hrel
    by_cases hlt : k < 4
    · obtain ⟨v0, hv0⟩ := upC_get n k hlt
      have c0 : wr.cell? ⟨w.heap.size + 1, k, none⟩ = some (.int .u32 v0) := (blk_cell b0 k).trans hv0
      have f0 := blk_free b0 k
      have hk4 : (k : Int) < 4 := by omega
      have HV := Lib.hid hv0
      clear hv0
      go_wp2_with fail
      rw [up_word]
      refine ⟨⟨k + 1, by go_num, by omega, ?_, blk_set b2 _ _ (by simp), hb.setCell (by simp) _⟩, by simp [intOf]; omega⟩
      have := blk_store b0 k (.int .u32 (sw (2 ^ n - 1) k : Nat))
      rwa [upC_set n k hlt] at this
    · obtain rfl : k = 4 := by omega
      have c0 := fun i => blk_cell b0 i
      simp only [upC] at c0
      have q0 := c0 0
      have q1 := c0 1
      have q2 := c0 2
      have q3 := c0 3
      have d0 := blk_cell b2 0
      have d1 := blk_cell b2 1
      have d2 := blk_cell b2 2
      have d3 := blk_cell b2 3
      have f0 := blk_free b2 0
      have f1 := blk_free b2 1
      have f2 := blk_free b2 2
      have f3 := blk_free b2 3
      simp only [List.getElem?_toArray, List.getElem?_cons_zero, List.getElem?_cons_succ, show (0 : Nat) < 4 from by decide, show (1 : Nat) < 4 from by decide, show (2 : Nat) < 4 from by decide, show (3 : Nat) < 4 from by decide, if_true] at q0 q1 q2 q3 d0 d1 d2 d3
      clear c0
      go_wp2
      refine bodyPost_ret (v := setV (2 ^ n - 1)) ?_ rfl ⟨rfl, ?_⟩
      · unfold setV setC
        simp [results, Try.results50, go_sem, d0, d1, d2, d3]
      · exact (((hb.setCell (by simp) _).setCell (by simp) _).setCell (by simp) _).setCell (by simp) _

theorem set_cells {W : World} {b x : Nat} {T : TypeId} (h : W.heap[b]? = some (.cells (setC x) T (0, 0))) :
    W.cell? ⟨b, 0, none⟩ = some (.int .u32 (sw x 0 : Nat)) ∧ W.cell? ⟨b, 1, none⟩ = some (.int .u32 (sw x 1 : Nat)) ∧ W.cell? ⟨b, 2, none⟩ = some (.int .u32 (sw x 2 : Nat)) ∧ W.cell? ⟨b, 3, none⟩ = some (.int .u32 (sw x 3 : Nat)) ∧
    W.frozen? ⟨b, 0, none⟩ = false ∧ W.frozen? ⟨b, 1, none⟩ = false ∧ W.frozen? ⟨b, 2, none⟩ = false ∧ W.frozen? ⟨b, 3, none⟩ = false :=
  ⟨(blk_cell h 0).trans (setC_get x 0 (by decide)), (blk_cell h 1).trans (setC_get x 1 (by decide)), (blk_cell h 2).trans (setC_get x 2 (by decide)), (blk_cell h 3).trans (setC_get x 3 (by decide)), blk_free h 0, blk_free h 1, blk_free h 2, blk_free h 3⟩
theorem setC_zero : (#[.int .u32 0, .int .u32 0, .int .u32 0, .int .u32 0] : Array Value) = setC 0 := by kernel_rfl

set_option maxRecDepth 100000 in
set_option maxHeartbeats 1000000 in
theorem clean_any (x : Nat) (w : World) :
    Calls Try.prog 46 #[setV x] w fun e w' => e = .returned (setV (x % 2 ^ 100)) ∧ Below w.heap.size w w' := by
  have HU := Lib.hid (fun w => upTo_any 100 (by decide) w)
  have HE := Lib.hid (fun w => each1_any x (2 ^ 100 - 1) w)
  rw [clean_mod] at HE
  generalize x % 2 ^ 100 = y at *
  generalize (2 ^ 100 - 1 : Nat) = M at *
  unfold setV
  unfold setV at HU HE
  have b0 : ((w.alloc (.cells (setC x) 47)).alloc (.cells (setC 0) 47)).heap[w.heap.size]? = some (.cells (setC x) 47 (0, 0)) := blk_old (blk_new w _) _
  have z0 : ((w.alloc (.cells (setC x) 47)).alloc (.cells (setC 0) 47)).heap[w.heap.size + 1]? = some (.cells (setC 0) 47 (0, 0)) := b1 w _ _
  have hB : Below w.heap.size w ((w.alloc (.cells (setC x) 47)).alloc (.cells (setC 0) 47)) := ((Below.refl _ w).alloc (Nat.le_refl _) _).alloc (by simp) _
  go_enter Try.func46, Try.ntmps46
  go_wp2_with fail
  rw [setC_zero]
  obtain ⟨W, hW⟩ : ∃ W, ((w.alloc (.cells (setC x) 47)).alloc (.cells (setC 0) 47)) = W := ⟨_, rfl⟩
  rw [hW] at b0 z0 hB ⊢
  clear hW
  refine wp_region_early (fun W' => W'.heap[w.heap.size]? = some (.cells (setC x) 47 (0, 0))) (fun j => j == 2 || j == 3) (by kernel_rfl) ?_
  have d0 : W.drew.heap[w.heap.size]? = some (.cells (setC x) 47 (0, 0)) := b0
  have dz : W.drew.heap[w.heap.size + 1]? = some (.cells (setC 0) 47 (0, 0)) := z0
  have dB : Below w.heap.size w W.drew := hB.drew
  clear b0 z0 hB
  generalize W.drew = W2 at *
  simp only [List.size_toArray, List.length_cons, List.length_nil, Nat.reduceAdd, Array.replicate_succ, Array.replicate_zero, List.push_toArray, List.nil_append, List.cons_append]
  refine wpAnyE_take (i := 0) (v := ?_) rfl (by kernel_rfl) (by kernel_rfl) (by kernel_rfl) (by kernel_rfl) (fun _ _ _ h => h) (Or.inl ⟨by rfl, ?_⟩) d0 ?_
  rotate_left
  · intro w hSw
    obtain ⟨q0, q1, q2, q3, _⟩ := set_cells hSw
    go_simp
    all_goals with_reducible rfl
  simp only [Act.put, List.setIfInBounds_toArray, List.set_cons_zero, List.set_cons_succ, List.getElem_toArray, List.getElem_cons_zero, List.getElem_cons_succ]
  refine wpAnyE_tail 1 rfl (by kernel_rfl) ?_
  simp only [List.drop_succ_cons, List.drop_zero]
  change wpList _ _ (Exit.then _ _) [_] _ _
  go_wp2_with (go_at_call 50; refine (HU.out _).mono ?_; rintro e w3 ⟨rfl, hB3⟩)
  refine ⟨fun _ => blk_below' hB3 d0, wpListE_late _ _ _ _ (fun j hj => by rcases j with _ | _ | j <;> first | rfl | exact absurd hj (by simp only [List.length_cons, List.length_nil]; omega)) ?_⟩
  go_wp2_with (go_at_call 49; refine (HE.out _).mono ?_; rintro e w4 ⟨rfl, hB4⟩; obtain ⟨e0, e1, e2, e3, g0, g1, g2, g3⟩ := set_cells (blk_below' hB4 (blk_below' hB3 dz)))
  have hb := (below_then (below_then dB hB3) hB4)
  unfold setC
  go_wp2
  refine bodyPost_ret (v := .agg (setC y)) ?_ rfl ⟨rfl, (((hb.setCell (by simp) _).setCell (by simp) _).setCell (by simp) _).setCell (by simp) _⟩
  unfold setC
  simp [results, Try.results46, go_sem, e0, e1, e2, e3]

theorem or_word (a m : Nat) (x : Nat) : bits .or .u32 ((sw a x : Nat) : Int) (IntKind.u32.wrap (2 ^ (m % 32))) = ((sw a x ||| 2 ^ (m % 32) : Nat) : Int) := by
  have h1 : 2 ^ (m % 32) < 2 ^ 32 := Nat.pow_lt_pow_right (by decide) (by omega)
  have h2 : IntKind.u32.wrap (2 ^ (m % 32)) = ((2 ^ (m % 32) : Nat) : Int) := by
    rw [show (2 : Int) ^ (m % 32) = ((2 ^ (m % 32) : Nat) : Int) from by push_cast; rfl, IntKind.wrap_u32]
    generalize 2 ^ (m % 32) = q at *
    omega
  rw [h2, bits_or_u32 _ _ (sw_lt a x) (by omega)]
theorem withC_set (y i : Nat) (hi : i < 128) : (setC y).setIfInBounds (i / 32) (.int .u32 (sw y (i / 32) ||| 2 ^ (i % 32) : Nat)) = setC (y ||| 2 ^ i) := by
  unfold setC
  rw [sw_with, sw_with, sw_with, sw_with]
  have h : i / 32 = 0 ∨ i / 32 = 1 ∨ i / 32 = 2 ∨ i / 32 = 3 := by omega
  rcases h with h | h | h | h <;> rw [h] <;> rfl

set_option maxRecDepth 100000 in
set_option maxHeartbeats 1000000 in
theorem with_no (x : Nat) (i : Int) (h : ¬ (0 ≤ i ∧ i < 100)) (w : World) :
    Calls Try.prog 32 #[setV x, .int .i64 i] w fun e w' => e = .returned (.tuple #[setV 0, .int .i64 30]) ∧ Below w.heap.size w w' := by
  have H := Lib.hid (fun w => isId_no i h w)
  clear h
  unfold setV setC
  go_enter Try.func32, Try.ntmps32
  go_wp2_with (go_at_call 45; refine (H.out _).mono ?_; rintro e w1 ⟨rfl, rfl⟩)
  exact bodyPost_ret (v := .tuple #[.agg (setC 0), .int .i64 30]) (by rw [← setC_zero]; simp [results, Try.results32, go_sem]) rfl ⟨rfl, ((Below.refl _ w).alloc (Nat.le_refl _) _).alloc (by simp) _⟩
set_option maxRecDepth 100000 in
set_option maxHeartbeats 1000000 in
theorem with_yes (x i : Nat) (h : i < 100) (w : World) :
    Calls Try.prog 32 #[setV x, .int .i64 i] w fun e w' => e = .returned (.tuple #[setV (x % 2 ^ 100 ||| 2 ^ i), .int .i64 0]) ∧ Below w.heap.size w w' := by
  have H := Lib.hid (fun w => isId_yes i (by omega) (by omega) w)
  have HC := Lib.hid (fun w => clean_any x w)
  generalize x % 2 ^ 100 = y at *
  generalize hy2 : y ||| 2 ^ i = y2
  have HY2 := Lib.hid hy2
  clear hy2
  unfold setV at HC ⊢
  have b0 : ((w.alloc (.cells (setC x) 47)).alloc (.cells (setC 0) 47)).heap[w.heap.size]? = some (.cells (setC x) 47 (0, 0)) := blk_old (blk_new w _) _
  have z0 : ((w.alloc (.cells (setC x) 47)).alloc (.cells (setC 0) 47)).heap[w.heap.size + 1]? = some (.cells (setC 0) 47 (0, 0)) := b1 w _ _
  have hB : Below w.heap.size w ((w.alloc (.cells (setC x) 47)).alloc (.cells (setC 0) 47)) := ((Below.refl _ w).alloc (Nat.le_refl _) _).alloc (by simp) _
  go_enter Try.func32, Try.ntmps32
  go_wp2_with fail
  refine (H.out _).mono ?_
  rintro e w1 ⟨rfl, rfl⟩
  rw [setC_zero]
  obtain ⟨W, hW⟩ : ∃ W, ((w.alloc (.cells (setC x) 47)).alloc (.cells (setC 0) 47)) = W := ⟨_, rfl⟩
  rw [hW] at b0 z0 hB ⊢
  clear hW
  obtain ⟨q0, q1, q2, q3, _⟩ := set_cells b0
  go_wp2_with fail
  refine (HC.out _).mono ?_
  rintro e w3 ⟨rfl, hB3⟩
  have b3 := blk_below' hB3 b0
  have z3 := blk_below' hB3 z0
  have hb3 := below_then hB hB3
  clear b0 z0 hB hB3 q0 q1 q2 q3
  obtain ⟨q0, q1, q2, q3, f0, f1, f2, f3⟩ := set_cells b3
  have b4 := blk_store (blk_store (blk_store (blk_store b3 0 (.int .u32 (sw y 0 : Nat))) 1 (.int .u32 (sw y 1 : Nat))) 2 (.int .u32 (sw y 2 : Nat))) 3 (.int .u32 (sw y 3 : Nat))
  have z4 := blk_set (blk_set (blk_set (blk_set z3 ⟨w.heap.size, 0, none⟩ (.int .u32 (sw y 0 : Nat)) (by simp)) ⟨w.heap.size, 1, none⟩ (.int .u32 (sw y 1 : Nat)) (by simp)) ⟨w.heap.size, 2, none⟩ (.int .u32 (sw y 2 : Nat)) (by simp)) ⟨w.heap.size, 3, none⟩ (.int .u32 (sw y 3 : Nat)) (by simp)
  have hb4 := (((hb3.setCell (p := ⟨w.heap.size, 0, none⟩) (by simp) (.int .u32 (sw y 0 : Nat))).setCell (p := ⟨w.heap.size, 1, none⟩) (by simp) (.int .u32 (sw y 1 : Nat))).setCell (p := ⟨w.heap.size, 2, none⟩) (by simp) (.int .u32 (sw y 2 : Nat))).setCell (p := ⟨w.heap.size, 3, none⟩) (by simp) (.int .u32 (sw y 3 : Nat))
  unfold setC
  go_wp2_with fail
  generalize (((w3.setCell _ _).setCell _ _).setCell _ _).setCell _ _ = W5 at b4 z4 hb4 ⊢
  have b5 : W5.heap[w.heap.size]? = some (.cells (setC y) 47 (0, 0)) := by simpa [setC] using b4
  clear b4 b3 z3 hb3 q0 q1 q2 q3 f0 f1 f2 f3
  have c0 : W5.cell? ⟨w.heap.size, i / 32, none⟩ = some (.int .u32 (sw y (i / 32) : Nat)) := (blk_cell b5 (i / 32)).trans (setC_get y _ (by omega))
  have f0 := blk_free b5 (i / 32)
  have i1 : (i : Int) < 100 := by omega
  have i2 : IntKind.i64.wrap ((i : Int) / 32) = (i : Int) / 32 := IntWalk.i64_in _ (by omega)
  have i3 : (i : Int) / 32 < 4 := by omega
  have i4 : (0 : Int) ≤ (i : Int) / 32 := by omega
  have i8 : ((i : Int) / 32).toNat = i / 32 := by omega
  have i5 : (i : Int).tmod 32 = (i : Int) % 32 := Int.tmod_eq_emod_of_nonneg (by omega)
  have i6 : IntKind.i64.wrap ((i : Int) % 32) = (i : Int) % 32 := IntWalk.i64_in _ (by omega)
  have i7 : (0 : Int) ≤ (i : Int) % 32 := by omega
  have i9 : ((i : Int) % 32).toNat = i % 32 := by omega
  refine wp_region_still_tail 9 (by kernel_rfl) (by kernel_rfl) ?_
  simp only [List.take_succ_cons, List.take_zero, List.drop_succ_cons, List.drop_zero]
  repeat still_step
  try refine wpStill_nil ?_
  change wpList _ _ _ _ _ W5.drew
  rw [or_word]
  have b6 : W5.drew.heap[w.heap.size]? = some (.cells (setC y) 47 (0, 0)) := b5
  have z6 : W5.drew.heap[w.heap.size + 1]? = some (.cells (setC 0) 47 (0, 0)) := z4
  have hb6 : Below w.heap.size w W5.drew := hb4.drew
  generalize W5.drew = W6 at b6 z6 hb6 ⊢
  have c6 : W6.cell? ⟨w.heap.size, i / 32, none⟩ = some (.int .u32 (sw y (i / 32) : Nat)) := (blk_cell b6 (i / 32)).trans (setC_get y _ (by omega))
  have f6 := blk_free b6 (i / 32)
  clear b5 z4 hb4 c0 f0 i1 i2 i3 i4 i5 i6 i7 i8 i9
  have b7 := blk_store b6 (i / 32) (.int .u32 (sw y (i / 32) ||| 2 ^ (i % 32) : Nat))
  rw [withC_set y i (by omega), HY2.out] at b7
  have z7 := blk_set z6 ⟨w.heap.size, i / 32, none⟩ (.int .u32 (sw y (i / 32) ||| 2 ^ (i % 32) : Nat)) (by simp)
  have hb7 := hb6.setCell (p := ⟨w.heap.size, i / 32, none⟩) (by simp) (.int .u32 (sw y (i / 32) ||| 2 ^ (i % 32) : Nat))
  obtain ⟨r0, r1, r2, r3, _⟩ := set_cells b7
  obtain ⟨s0, s1, s2, s3, g0, g1, g2, g3⟩ := set_cells z7
  go_wp2
  refine bodyPost_ret (v := .tuple #[.agg (setC y2), .int .i64 0]) ?_ rfl ⟨rfl, (((hb7.setCell (by simp) _).setCell (by simp) _).setCell (by simp) _).setCell (by simp) _⟩
  unfold setC
  simp [results, Try.results32, go_sem, s0, s1, s2, s3]
end Go.Proofs.Ythbejpgeohhppaa
