/- Lemmas of this chapter, laid one behind the other. -/
import Derived.Test.YtppmiggkknhdkaaDoorBaseB
import Derived.Laws.MakeOwn
import Derived.Deep.DeepCutAuto
import Derived.Test.YtppmiggkknhdkaaDoorChecked
import Derived.WalkKit
import Derived.LaidEql
import Derived.Stop.Asserts
import Derived.RowKitTokens
import Derived.BigQuiet
import Derived.OpenShut
import Derived.Deep.Slices
import Derived.Deep.RegionHeld3
namespace Go.Proofs.YtppmiggkknhdkaaDoor
set_option linter.unusedVariables false
set_option linter.unusedSimpArgs false
open Go.RowKit

theorem Tryd.infoNotice : (Tryd.prog.info? 24).map (fun i => (i.zero, i.size, i.bytes)) = some (some (.agg #[.int .i64 0, .int .i64 0, .int .i64 0]), 3, 24) := by kernel_rfl
theorem madeCells_nots (n : Nat) : madeCells #[Value.int .i64 0, .int .i64 0, .int .i64 0] n = (List.replicate n (Value.int .i64 0)).toArray := by
  apply Array.ext
  · simp [size_madeCells]
  · intro i h1 h2
    simp only [madeCells, Array.getElem_map, Array.getElem_range, List.getElem_toArray, List.getElem_replicate]
    have : i % 3 = 0 ∨ i % 3 = 1 ∨ i % 3 = 2 := by omega
    simp only [List.size_toArray, List.length_cons, List.length_nil, Nat.reduceAdd]
    rcases this with h | h | h <;> rw [h] <;> rfl
theorem make_nots (n : Nat) (hn : n ≤ 1000) (w : World) : (Instr.makeSlice 45 (.int .i64 (n : Int)) (.int .i64 (n : Int))).run Tryd.prog w = .ok (.slice (some ⟨w.heap.size, 0, none⟩) n n) (w.alloc (.cells (Array.replicate (n * 3) (Value.int .i64 0)) 24)) := by
  obtain ⟨i, hi, hz⟩ := Option.map_eq_some_iff.1 Tryd.infoNotice
  simp only [Prod.mk.injEq] at hz
  obtain ⟨h1, h2, h3⟩ := hz
  have := run_make (P := Tryd.prog) w 45 24 i _ Tryd.underlying45 hi h1 .i64 .i64 (n : Int) (n : Int) (by omega) (Int.le_refl _) (by rw [h3]; omega) (by omega)
  rw [h2, Int.toNat_natCast] at this
  rw [this, show (Value.agg #[Value.int .i64 0, .int .i64 0, .int .i64 0]).cells = #[Value.int .i64 0, .int .i64 0, .int .i64 0] from rfl, madeCells_nots, List.toArray_replicate]
/-- A list that is being filled with fresh notices. -/
def filC (n k : Nat) : Array Value := (ntC 0 (List.replicate k 0) ++ List.replicate ((n - k) * 3) (Value.int .i64 0)).toArray
theorem filC_step (n k : Nat) (h : k < n) : (((filC n k).setIfInBounds (k * 3) (.int .i64 (k : Int))).setIfInBounds (k * 3 + 1) (.int .i64 0)).setIfInBounds (k * 3 + 2) (.int .i64 1) = filC n (k + 1) := by
  unfold filC
  have e : (n - k) * 3 = (n - (k + 1)) * 3 + 1 + 1 + 1 := by omega
  have := ntC_next (List.replicate k 0) 0 (.int .i64 0) (.int .i64 0) (.int .i64 0) (List.replicate ((n - (k + 1)) * 3) (Value.int .i64 0))
  rw [List.length_replicate] at this
  rw [e, List.replicate_succ, List.replicate_succ, List.replicate_succ]
  rw [show List.replicate (k + 1) 0 = List.replicate k 0 ++ [0] from List.replicate_succ']
  exact this
theorem filC_zero (n : Nat) : filC n 0 = Array.replicate (n * 3) (Value.int .i64 0) := by unfold filC; simp [ntC]
theorem filC_end (n : Nat) : filC n n = (ntC 0 (List.replicate n 0) ++ []).toArray := by unfold filC; rw [Nat.sub_self]; rfl
structure FilS (w : World) (p B g n k : Nat) (o t d : Int) (W : World) : Prop where
  book : W.heap[B]? = some (.cells #[.slice (some ⟨g, 0, none⟩) n n] 66 (0, 0))
  list : W.heap[g]? = some (.cells (filC n k) 24 (0, 0))
  box : W.heap[p]? = some (.cells #[.int .i64 o, .int .i64 t, .int .i64 d] 24 (0, 0))
  low : Below w.heap.size w W
  ne : B ≠ g ∧ p ≠ g ∧ w.heap.size ≤ g ∧ w.heap.size ≤ B
theorem FilS.below {w W X : World} {p B g n k : Nat} {o t d : Int} (h : FilS w p B g n k o t d W) (hb : Below W.heap.size W X) : FilS w p B g n k o t d X :=
  ⟨blk_below' hb h.book, blk_below' hb h.list, blk_below' hb h.box, below_then h.low hb, h.ne⟩
def Fil4 (B g n p : Nat) (o t d : Int) (W : World) : Prop := W.cell? ⟨B, 0, none⟩ = some (.slice (some ⟨g, 0, none⟩) n n) ∧ Bx3 p o t d W
theorem FilS.c4 {w W : World} {p B g n k : Nat} {o t d : Int} (h : FilS w p B g n k o t d W) : Fil4 B g n p o t d W := ⟨blk_cell h.book 0, blk_cell h.box 0, blk_cell h.box 1, blk_cell h.box 2⟩
theorem FilS.at {w W : World} {p B g n k : Nat} {o t d : Int} (h : FilS w p B g n k o t d W) (j : Nat) (hj : j < n * 3) (hk : k ≤ n) : ∃ v, W.cell? ⟨g, j, none⟩ = some v := by
  rw [blk_cell h.list j]
  have hl : (filC n k).size = n * 3 := by unfold filC; simp [ntC_len]; omega
  exact ⟨_, Array.getElem?_eq_getElem (by omega)⟩
theorem FilS.step {w W : World} {p B g n k : Nat} {o t d : Int} (h : FilS w p B g n k o t d W) (hk : k < n) :
    FilS w p B g n (k + 1) o t d (((W.setCell ⟨g, k * 3, none⟩ (.int .i64 (k : Int))).setCell ⟨g, k * 3 + 1, none⟩ (.int .i64 0)).setCell ⟨g, k * 3 + 2, none⟩ (.int .i64 1)) := by
  obtain ⟨n1, n2, n3, n4⟩ := h.ne
  refine ⟨blk_set (blk_set (blk_set h.book _ _ n1) _ _ n1) _ _ n1, ?_, blk_set (blk_set (blk_set h.box _ _ n2) _ _ n2) _ _ n2, ((h.low.setCell n3 _).setCell n3 _).setCell n3 _, h.ne⟩
  have := blk_store (blk_store (blk_store h.list (k * 3) (.int .i64 (k : Int))) (k * 3 + 1) (.int .i64 0)) (k * 3 + 2) (.int .i64 1)
  rwa [filC_step n k hk] at this
theorem FilS.last {w W : World} {p B g n : Nat} {o t d : Int} (h : FilS w p B g n n o t d W) (hn : 1 ≤ n ∧ n ≤ 100) : Tb W B g n (List.replicate n 0) := by
  have hl := h.list
  rw [filC_end] at hl
  exact ⟨by rw [List.length_replicate]; exact h.book, ⟨n, [], rfl, hl⟩, h.ne.1, fun x hx => by rw [(List.mem_replicate.1 hx).2]; omega, by rw [List.length_replicate]; exact hn⟩
/-- A new book. -/
def bk0 (n s t : Nat) : List Nat := (List.replicate n 0).set s (2 * t)
theorem bk0_len (n s t : Nat) : (bk0 n s t).length = n := by unfold bk0; simp
set_option maxRecDepth 100000 in
set_option maxHeartbeats 1000000 in
theorem tnew_yes (n s t : Nat) (hn : 1 ≤ n ∧ n ≤ 100) (hs : s < n) (ht : t ≤ 1048576) (w : World) :
    Calls Tryd.prog 9 #[.int .i64 (n : Int), .int .i64 (s : Int), .int .i64 (t : Int)] w fun e w' => ∃ B g, e = .returned (.tuple #[.pointer (some ⟨B, 0, none⟩), .int .i64 0]) ∧ Tb w' B g n (bk0 n s t) ∧ w.heap.size ≤ B ∧ w.heap.size ≤ g ∧ Below w.heap.size w w' := by
  have hv : vN (n : Int) (s : Int) (t : Int) 1 = true := decide_eq_true (by omega)
  have HV := Lib.hid (fun w => valid_any (n : Int) (s : Int) (t : Int) 1 w)
  rw [hv] at HV
  have HF := Lib.hid fresh_any
  unfold nV at HV HF
  have HN := Lib.hid hn
  have HS := Lib.hid hs
  have HT := Lib.hid ht
  have hmk := make_nots n (by omega)
  have a1 : (1 : Int) ≤ (n : Int) := by omega
  have a2 : (n : Int) ≤ 100 := by omega
  have a3 : (0 : Int) ≤ (s : Int) := by omega
  have a4 : (s : Int) < (n : Int) := by omega
  have a5 : (n : Int).toNat = n := Int.toNat_natCast n
  clear hv hn hs ht
  go_enter Tryd.func9, Tryd.ntmps9
  go_upto_region 6 with fail
  obtain ⟨p, hp⟩ : ∃ p, w.heap.size = p := ⟨_, rfl⟩
  have h0 : (w.alloc (.cells #[.int .i64 (s : Int), .int .i64 (t : Int), .int .i64 1] 24)).heap[p]? = some (.cells #[.int .i64 (s : Int), .int .i64 (t : Int), .int .i64 1] 24 (0, 0)) := by rw [← hp]; exact blk_new w _
  have hb0 : Below w.heap.size w (w.alloc (.cells #[.int .i64 (s : Int), .int .i64 (t : Int), .int .i64 1] 24)) := (Below.refl _ _).alloc (Nat.le_refl _) _
  have HP := Lib.hid hp
  rw [hp]
  clear hp
  generalize World.alloc w _ = W0 at *
  have c0 := blk_cell h0 0
  have c1 := blk_cell h0 1
  have c2 := blk_cell h0 2
  go_wp2_with (go_at_call 31; refine (HV.out _).mono ?_; rintro e w1 ⟨rfl, hB1⟩)
  have hF : FilS w p (w1.heap.size + 1) w1.heap.size n 0 (s : Int) (t : Int) 1 ((w1.alloc (.cells (Array.replicate (n * 3) (Value.int .i64 0)) 24)).alloc (.cells #[.slice (some ⟨w1.heap.size, 0, none⟩) n n] 66)) := by
    have hl := blk_lt (blk_below' hB1 h0)
    have hb := below_then hb0 hB1
    have hz := hb.size
    exact ⟨b1 w1 _ _, by rw [filC_zero]; exact blk_old (blk_new w1 _) _, blk_old (blk_old (blk_below' hB1 h0) _) _, (hb.alloc hz _).alloc (by simp; omega) _, by omega, by omega, by omega, by omega⟩
  obtain ⟨g, hg⟩ : ∃ g, w1.heap.size = g := ⟨_, rfl⟩
  rw [hg] at hF
  (try rw [hg])
  clear hg h0 hb0 hB1 c0 c1 c2 hmk
  generalize World.alloc (World.alloc w1 _) _ = W2 at *
  go_wp2_with fail
  go_loopw [42] (fun iv wr => ∃ k : Nat, iv = .int .i64 k ∧ k ≤ n ∧ FilS w p (g + 1) g n k (s : Int) (t : Int) 1 wr) (fun iv _ => n - (intOf iv).toNat)
  case atStart => exact ⟨0, rfl, by omega, hF⟩
  case round =>
    obtain ⟨k, rfl, hk, hFk⟩ := hrel
    clear hF
    by_cases hlt : k < n
    · have i1 : (k : Int) < (n : Int) := by omega
      have i2 : (0 : Int) ≤ (k : Int) := by omega
      have i3 : (k : Int).toNat = k := Int.toNat_natCast k
      have HF2 := Lib.hid hFk
      have HK := Lib.hid hlt
      clear hFk hlt hk
      go_upto_region 12 with fail
      refine wp_region_early (Fil4 (g + 1) g n p (s : Int) (t : Int) 1) (fun j => j == 8) (by kernel_rfl) ?_
      simp only [List.size_toArray, List.length_cons, List.length_nil, Nat.reduceAdd, Array.replicate_succ, Array.replicate_zero, List.push_toArray, List.nil_append, List.cons_append]
      have HF2 := Lib.hid (HF2.out.below ((Below.refl _ wr).drew))
      generalize World.drew wr = W3 at *
      have hSS := HF2.out.c4
      refine wpAnyE_take (i := 0) (v := ?_) rfl (by kernel_rfl) (by kernel_rfl) (by kernel_rfl) (by kernel_rfl) (fun _ _ _ h => h) (Or.inl ⟨by rfl, ?_⟩) hSS ?_
      rotate_left
      · intro w hSw
        obtain ⟨j0, j1, j2, j3⟩ := hSw
        go_simp
        all_goals with_reducible rfl
      simp only [Act.put, List.setIfInBounds_toArray, List.set_cons_zero, List.set_cons_succ, List.getElem_toArray, List.getElem_cons_zero, List.getElem_cons_succ]
      refine wpAnyE_take (i := 1) (v := ?_) rfl (by kernel_rfl) (by kernel_rfl) (by kernel_rfl) (by kernel_rfl) (fun _ _ _ h => h) (Or.inl ⟨by rfl, ?_⟩) hSS ?_
      rotate_left
      · intro w hSw
        obtain ⟨j0, j1, j2, j3⟩ := hSw
        go_simp
        all_goals with_reducible rfl
      simp only [Act.put, List.setIfInBounds_toArray, List.set_cons_zero, List.set_cons_succ, List.getElem_toArray, List.getElem_cons_zero, List.getElem_cons_succ]
      refine wpAnyE_take (i := 2) (v := ?_) rfl (by kernel_rfl) (by kernel_rfl) (by kernel_rfl) (by kernel_rfl) (fun _ _ _ h => h) (Or.inl ⟨by rfl, ?_⟩) hSS ?_
      rotate_left
      · intro w hSw
        obtain ⟨j0, j1, j2, j3⟩ := hSw
        go_simp
        all_goals with_reducible rfl
      simp only [Act.put, List.setIfInBounds_toArray, List.set_cons_zero, List.set_cons_succ, List.getElem_toArray, List.getElem_cons_zero, List.getElem_cons_succ]
      refine wpAnyE_take (i := 3) (v := ?_) rfl (by kernel_rfl) (by kernel_rfl) (by kernel_rfl) (by kernel_rfl) (fun _ _ _ h => h) (Or.inl ⟨by rfl, ?_⟩) hSS ?_
      rotate_left
      · intro w hSw
        obtain ⟨j0, j1, j2, j3⟩ := hSw
        go_simp
        all_goals with_reducible rfl
      simp only [Act.put, List.setIfInBounds_toArray, List.set_cons_zero, List.set_cons_succ, List.getElem_toArray, List.getElem_cons_zero, List.getElem_cons_succ]
      refine wpAnyE_take (i := 4) (v := ?_) rfl (by kernel_rfl) (by kernel_rfl) (by kernel_rfl) (by kernel_rfl) (fun _ _ _ h => h) (Or.inl ⟨by rfl, ?_⟩) hSS ?_
      rotate_left
      · intro w hSw
        obtain ⟨j0, j1, j2, j3⟩ := hSw
        go_simp
        all_goals with_reducible rfl
      simp only [Act.put, List.setIfInBounds_toArray, List.set_cons_zero, List.set_cons_succ, List.getElem_toArray, List.getElem_cons_zero, List.getElem_cons_succ]
      refine wpAnyE_take (i := 5) (v := ?_) rfl (by kernel_rfl) (by kernel_rfl) (by kernel_rfl) (by kernel_rfl) (fun _ _ _ h => h) (Or.inl ⟨by rfl, ?_⟩) hSS ?_
      rotate_left
      · intro w hSw
        obtain ⟨j0, j1, j2, j3⟩ := hSw
        go_simp
        all_goals with_reducible rfl
      simp only [Act.put, List.setIfInBounds_toArray, List.set_cons_zero, List.set_cons_succ, List.getElem_toArray, List.getElem_cons_zero, List.getElem_cons_succ]
      refine wpAnyE_one (i := 6) (by kernel_rfl) rfl ?_
      change wpList _ _ (Exit.then _ _) [_] _ _
      try simp only [List.setIfInBounds_toArray, List.set_cons_zero, List.set_cons_succ, List.getElem_toArray, List.getElem_cons_zero, List.getElem_cons_succ]
      go_wp2_with (go_at_call 32; refine (HF.out _ _).mono ?_; rintro e w4 ⟨rfl, hB4⟩)
      have HF2 := Lib.hid (HF2.out.below hB4)
      clear hB4 hSS
      have hSS := HF2.out.c4
      refine ⟨fun _ => hSS, ?_⟩
      try simp only [List.setIfInBounds_toArray, List.set_cons_zero, List.set_cons_succ, List.getElem_toArray, List.getElem_cons_zero, List.getElem_cons_succ]
      refine wpAnyE_take (i := 7) (v := ?_) rfl (by kernel_rfl) (by kernel_rfl) (by kernel_rfl) (by kernel_rfl) (fun _ _ _ h => h) (Or.inl ⟨by rfl, ?_⟩) hSS ?_
      rotate_left
      · intro w hSw
        obtain ⟨j0, j1, j2, j3⟩ := hSw
        go_simp
        all_goals with_reducible rfl
      simp only [Act.put, List.setIfInBounds_toArray, List.set_cons_zero, List.set_cons_succ, List.getElem_toArray, List.getElem_cons_zero, List.getElem_cons_succ]
      refine wpAnyE_one (i := 8) (by kernel_rfl) rfl ?_
      change wpList _ _ (Exit.then _ _) [_] _ _
      try simp only [List.setIfInBounds_toArray, List.set_cons_zero, List.set_cons_succ, List.getElem_toArray, List.getElem_cons_zero, List.getElem_cons_succ]
      obtain ⟨v0, c0⟩ := HF2.out.at (k * 3) (by have := HK.out; omega) (Nat.le_of_lt HK.out)
      obtain ⟨v1, c1⟩ := HF2.out.at (k * 3 + 1) (by have := HK.out; omega) (Nat.le_of_lt HK.out)
      obtain ⟨v2, c2⟩ := HF2.out.at (k * 3 + 2) (by have := HK.out; omega) (Nat.le_of_lt HK.out)
      have f0 := blk_free HF2.out.list (k * 3)
      have f1 := blk_free HF2.out.list (k * 3 + 1)
      have f2 := blk_free HF2.out.list (k * 3 + 2)
      go_wp2_with fail
      refine ⟨(fun h => by cases h), ?_⟩
      try simp only [List.setIfInBounds_toArray, List.set_cons_zero, List.set_cons_succ, List.getElem_toArray, List.getElem_cons_zero, List.getElem_cons_succ]
      refine wpAnyE_end (by kernel_rfl) ?_
      have HF3 := Lib.hid (HF2.out.step HK.out)
      clear c0 c1 c2 f0 f1 f2 hSS
      generalize ((World.setCell w4 _ _).setCell _ _).setCell _ _ = W5 at *
      go_wp2_with fail
      go_roundw
      case rel => exact ⟨k + 1, by go_num, HK.out, HF3.out⟩
      case measure => have := HK.out; simp [intOf]; omega
    · obtain rfl : k = n := by omega
      have i1 : ¬ (k : Int) < (k : Int) := by omega
      have HT2 := Lib.hid (hFk.last HN.out)
      have HF2 := Lib.hid hFk
      clear hFk hlt hk
      go_upto_region 14 with fail
      refine wp_region_early (Fil4 (g + 1) g k p (s : Int) (t : Int) 1) (fun j => j == 7) (by kernel_rfl) ?_
      simp only [List.size_toArray, List.length_cons, List.length_nil, Nat.reduceAdd, Array.replicate_succ, Array.replicate_zero, List.push_toArray, List.nil_append, List.cons_append]
      have HF2 := Lib.hid (HF2.out.below ((Below.refl _ wr).drew))
      have HT2 := Lib.hid (HT2.out.below ((Below.refl _ wr).drew))
      generalize World.drew wr = W3 at *
      have hSS := HF2.out.c4
      have i3 : (s : Int).toNat = s := Int.toNat_natCast s
      refine wpAnyE_take (i := 0) (v := ?_) rfl (by kernel_rfl) (by kernel_rfl) (by kernel_rfl) (by kernel_rfl) (fun _ _ _ h => h) (Or.inl ⟨by rfl, ?_⟩) hSS ?_
      rotate_left
      · intro w hSw
        obtain ⟨j0, j1, j2, j3⟩ := hSw
        go_simp
        all_goals with_reducible rfl
      simp only [Act.put, List.setIfInBounds_toArray, List.set_cons_zero, List.set_cons_succ, List.getElem_toArray, List.getElem_cons_zero, List.getElem_cons_succ]
      refine wpAnyE_take (i := 1) (v := ?_) rfl (by kernel_rfl) (by kernel_rfl) (by kernel_rfl) (by kernel_rfl) (fun _ _ _ h => h) (Or.inl ⟨by rfl, ?_⟩) hSS ?_
      rotate_left
      · intro w hSw
        obtain ⟨j0, j1, j2, j3⟩ := hSw
        go_simp
        all_goals with_reducible rfl
      simp only [Act.put, List.setIfInBounds_toArray, List.set_cons_zero, List.set_cons_succ, List.getElem_toArray, List.getElem_cons_zero, List.getElem_cons_succ]
      refine wpAnyE_take (i := 2) (v := ?_) rfl (by kernel_rfl) (by kernel_rfl) (by kernel_rfl) (by kernel_rfl) (fun _ _ _ h => h) (Or.inl ⟨by rfl, ?_⟩) hSS ?_
      rotate_left
      · intro w hSw
        obtain ⟨j0, j1, j2, j3⟩ := hSw
        go_simp
        all_goals with_reducible rfl
      simp only [Act.put, List.setIfInBounds_toArray, List.set_cons_zero, List.set_cons_succ, List.getElem_toArray, List.getElem_cons_zero, List.getElem_cons_succ]
      refine wpAnyE_take (i := 3) (v := ?_) rfl (by kernel_rfl) (by kernel_rfl) (by kernel_rfl) (by kernel_rfl) (fun _ _ _ h => h) (Or.inl ⟨by rfl, ?_⟩) hSS ?_
      rotate_left
      · intro w hSw
        obtain ⟨j0, j1, j2, j3⟩ := hSw
        go_simp
        all_goals with_reducible rfl
      simp only [Act.put, List.setIfInBounds_toArray, List.set_cons_zero, List.set_cons_succ, List.getElem_toArray, List.getElem_cons_zero, List.getElem_cons_succ]
      refine wpAnyE_take (i := 4) (v := ?_) rfl (by kernel_rfl) (by kernel_rfl) (by kernel_rfl) (by kernel_rfl) (fun _ _ _ h => h) (Or.inl ⟨by rfl, ?_⟩) hSS ?_
      rotate_left
      · intro w hSw
        obtain ⟨j0, j1, j2, j3⟩ := hSw
        go_simp
        all_goals with_reducible rfl
      simp only [Act.put, List.setIfInBounds_toArray, List.set_cons_zero, List.set_cons_succ, List.getElem_toArray, List.getElem_cons_zero, List.getElem_cons_succ]
      refine wpAnyE_take (i := 5) (v := ?_) rfl (by kernel_rfl) (by kernel_rfl) (by kernel_rfl) (by kernel_rfl) (fun _ _ _ h => h) (Or.inl ⟨by rfl, ?_⟩) hSS ?_
      rotate_left
      · intro w hSw
        obtain ⟨j0, j1, j2, j3⟩ := hSw
        go_simp
        all_goals with_reducible rfl
      simp only [Act.put, List.setIfInBounds_toArray, List.set_cons_zero, List.set_cons_succ, List.getElem_toArray, List.getElem_cons_zero, List.getElem_cons_succ]
      refine wpAnyE_take (i := 6) (v := ?_) rfl (by kernel_rfl) (by kernel_rfl) (by kernel_rfl) (by kernel_rfl) (fun _ _ _ h => h) (Or.inl ⟨by rfl, ?_⟩) hSS ?_
      rotate_left
      · intro w hSw
        obtain ⟨j0, j1, j2, j3⟩ := hSw
        go_simp
        all_goals with_reducible rfl
      simp only [Act.put, List.setIfInBounds_toArray, List.set_cons_zero, List.set_cons_succ, List.getElem_toArray, List.getElem_cons_zero, List.getElem_cons_succ]
      refine wpAnyE_one (i := 7) (by kernel_rfl) rfl ?_
      change wpList _ _ (Exit.then _ _) [_] _ _
      try simp only [List.setIfInBounds_toArray, List.set_cons_zero, List.set_cons_succ, List.getElem_toArray, List.getElem_cons_zero, List.getElem_cons_succ]
      obtain ⟨v0, c0⟩ := HF2.out.at (s * 3) (by have := HS.out; omega) (Nat.le_refl _)
      obtain ⟨v1, c1⟩ := HF2.out.at (s * 3 + 1) (by have := HS.out; omega) (Nat.le_refl _)
      obtain ⟨v2, c2⟩ := HF2.out.at (s * 3 + 2) (by have := HS.out; omega) (Nat.le_refl _)
      have f0 := blk_free HF2.out.list (s * 3)
      have f1 := blk_free HF2.out.list (s * 3 + 1)
      have f2 := blk_free HF2.out.list (s * 3 + 2)
      go_wp2_with fail
      refine ⟨by kernel_rfl, ?_⟩
      obtain ⟨hs1, hs2⟩ := HT2.out.set (i := s) (r := 2 * t) (by rw [List.length_replicate]; exact HS.out) (by have := HT.out; omega)
      rw [show tgN (2 * t) = t from by unfold tgN; omega, show kdN (2 * t) = 1 from by unfold kdN; omega] at hs1 hs2
      have HF4 := Lib.hid hs1
      have HL := Lib.hid (HF2.out.low.grown hs2 HF2.out.low.size (fun j h => by cases h; exact HF2.out.ne.2.2.1))
      have HNE := Lib.hid HF2.out.ne
      clear hs1 hs2 c0 c1 c2 f0 f1 f2 hSS
      go_wp2_with fail
      go_ret2
      exact ⟨g + 1, g, rfl, HF4.out, HNE.out.2.2.2, HNE.out.2.2.1, HL.out⟩
end Go.Proofs.YtppmiggkknhdkaaDoor
namespace Go.Proofs.YtppmiggkknhdkaaDoor
set_option linter.unusedVariables false
set_option linter.unusedSimpArgs false
open Go.RowKit

/-- New's error. -/
def nwE (n s t : Int) : Int := if 1 ≤ n ∧ n ≤ 100 then if 0 ≤ s ∧ s < n then if 0 ≤ t ∧ t ≤ 1048576 then 0 else 50 else 30 else 1
set_option maxRecDepth 100000 in
theorem tnew_no (n s t : Int) (h : nwE n s t ≠ 0) (w : World) :
    Calls Tryd.prog 9 #[.int .i64 n, .int .i64 s, .int .i64 t] w fun e w' => e = .returned (.tuple #[.pointer none, .int .i64 (nwE n s t)]) ∧ Below w.heap.size w w' := by
  by_cases hn1 : n < 1
  · rw [show nwE n s t = 1 from if_neg (by omega)]
    clear h
    go_enter Tryd.func9, Tryd.ntmps9
    go_wp2_with fail
    go_ret2
    exact ⟨rfl, Below.refl _ _⟩
  by_cases hn2 : 100 < n
  · rw [show nwE n s t = 1 from if_neg (by omega)]
    clear h
    go_enter Tryd.func9, Tryd.ntmps9
    go_wp2_with fail
    go_ret2
    exact ⟨rfl, Below.refl _ _⟩
  by_cases hs1 : s < 0
  · rw [show nwE n s t = 30 from by unfold nwE; rw [if_pos (by omega), if_neg (by omega)]]
    clear h
    go_enter Tryd.func9, Tryd.ntmps9
    go_wp2_with fail
    go_ret2
    exact ⟨rfl, Below.refl _ _⟩
  by_cases hs2 : n ≤ s
  · rw [show nwE n s t = 30 from by unfold nwE; rw [if_pos (by omega), if_neg (by omega)]]
    clear h
    have a1 : 0 ≤ s := by omega
    have a2 : 1 ≤ n := by omega
    have a3 : n ≤ 100 := by omega
    clear hn1 hn2 hs1
    go_enter Tryd.func9, Tryd.ntmps9
    go_wp2_with fail
    go_ret2
    exact ⟨rfl, Below.refl _ _⟩
  have ht : ¬ (0 ≤ t ∧ t ≤ 1048576) := by
    intro ht; apply h
    unfold nwE
    rw [if_pos (by omega), if_pos (by omega), if_pos ht]
  rw [show nwE n s t = 50 from by unfold nwE; rw [if_pos (by omega), if_pos (by omega), if_neg ht]]
  have hv : vN n s t 1 = false := decide_eq_false (by omega)
  have HV := Lib.hid (fun w => valid_any n s t 1 w)
  rw [hv] at HV
  unfold nV at HV
  have a0 : 0 ≤ s := by omega
  have a1 : s < n := by omega
  have a2 : 1 ≤ n := by omega
  have a3 : n ≤ 100 := by omega
  clear h hv ht hn1 hn2 hs1 hs2
  have c0 := blk_cell (blk_new w (.cells #[.int .i64 s, .int .i64 t, .int .i64 1] 24)) 0
  have c1 := blk_cell (blk_new w (.cells #[.int .i64 s, .int .i64 t, .int .i64 1] 24)) 1
  have c2 := blk_cell (blk_new w (.cells #[.int .i64 s, .int .i64 t, .int .i64 1] 24)) 2
  go_enter Tryd.func9, Tryd.ntmps9
  go_wp2_with (go_at_call 31; refine (HV.out _).mono ?_; rintro e w1 ⟨rfl, hB1⟩)
  go_ret2
  exact ⟨rfl, below_then ((Below.refl _ _).alloc (Nat.le_refl _) _) hB1⟩
/-- At's answer. -/
def atV (R : List Nat) (id : Int) : Value := if 0 ≤ id ∧ id < (R.length : Int) then .tuple #[nV id (tgN (R.getD id.toNat 0) : Nat) (kdN (R.getD id.toNat 0) : Nat), .int .i64 0] else .tuple #[nV 0 0 0, .int .i64 30]
set_option maxRecDepth 100000 in
theorem at_nil (id : Int) (w : World) :
    Calls Tryd.prog 11 #[.pointer none, .int .i64 id] w fun e w' => e = .returned (.tuple #[nV 0 0 0, .int .i64 30]) ∧ Below w.heap.size w w' := by
  have HZ : Hid (∀ W : World, True → Calls Tryd.prog 33 #[.pointer none] W fun e w' => e = .returned (.int .i64 0) ∧ w' = W) := Lib.hid fun W _ => size_nil W
  by_cases h : id < 0
  · skip
    have b0 := blk_new w (.cells #[.int .i64 0, .int .i64 0, .int .i64 0] 24)
    have k0 := blk_cell b0 0
    have k1 := blk_cell b0 1
    have k2 := blk_cell b0 2
    have f0 := blk_free b0 0
    have f1 := blk_free b0 1
    have f2 := blk_free b0 2
    unfold nV
    go_enter Tryd.func11, Tryd.ntmps11
    go_wp2_with (go_at_call 33; refine (HZ.out _ trivial).mono ?_; rintro e w1 ⟨rfl, rfl⟩)
    refine bodyPost_ret (v := .tuple #[.agg #[.int .i64 0, .int .i64 0, .int .i64 0], .int .i64 30]) ?_ rfl ⟨rfl, (Below.refl _ _).alloc (Nat.le_refl _) _⟩
    simp [results, Tryd.results11, go_sem, k0, k1, k2, f0, f1, f2]
  · have h1 : 0 ≤ id := by omega
    clear h
    have b0 := blk_new w (.cells #[.int .i64 0, .int .i64 0, .int .i64 0] 24)
    have k0 := blk_cell b0 0
    have k1 := blk_cell b0 1
    have k2 := blk_cell b0 2
    have f0 := blk_free b0 0
    have f1 := blk_free b0 1
    have f2 := blk_free b0 2
    unfold nV
    go_enter Tryd.func11, Tryd.ntmps11
    go_wp2_with (go_at_call 33; refine (HZ.out _ trivial).mono ?_; rintro e w1 ⟨rfl, rfl⟩)
    refine bodyPost_ret (v := .tuple #[.agg #[.int .i64 0, .int .i64 0, .int .i64 0], .int .i64 30]) ?_ rfl ⟨rfl, (Below.refl _ _).alloc (Nat.le_refl _) _⟩
    simp [results, Tryd.results11, go_sem, k0, k1, k2, f0, f1, f2]
set_option maxRecDepth 100000 in
theorem at_any {w : World} {B g cp : Nat} {R : List Nat} (h : Tb w B g cp R) (id : Int) :
    Calls Tryd.prog 11 #[.pointer (some ⟨B, 0, none⟩), .int .i64 id] w fun e w' => e = .returned (atV R id) ∧ Below w.heap.size w w' := by
  have HZ : Hid (∀ W, Tb W B g cp R → Calls Tryd.prog 33 #[.pointer (some ⟨B, 0, none⟩)] W fun e w' => e = .returned (.int .i64 (R.length : Int)) ∧ w' = W) := Lib.hid fun W hW => size_any hW
  have HT := Lib.hid (h.below ((Below.refl _ _).alloc (Nat.le_refl _) (.cells #[.int .i64 0, .int .i64 0, .int .i64 0] 24)))
  by_cases hlo : id < 0
  · rw [show atV R id = .tuple #[nV 0 0 0, .int .i64 30] from if_neg (by omega)]
    clear h
    have b0 := blk_new w (.cells #[.int .i64 0, .int .i64 0, .int .i64 0] 24)
    have k0 := blk_cell b0 0
    have k1 := blk_cell b0 1
    have k2 := blk_cell b0 2
    have f0 := blk_free b0 0
    have f1 := blk_free b0 1
    have f2 := blk_free b0 2
    unfold nV
    go_enter Tryd.func11, Tryd.ntmps11
    go_wp2_with (go_at_call 33; refine (HZ.out _ HT.out).mono ?_; rintro e w1 ⟨rfl, rfl⟩)
    refine bodyPost_ret (v := .tuple #[.agg #[.int .i64 0, .int .i64 0, .int .i64 0], .int .i64 30]) ?_ rfl ⟨rfl, (Below.refl _ _).alloc (Nat.le_refl _) _⟩
    simp [results, Tryd.results11, go_sem, k0, k1, k2, f0, f1, f2]
  by_cases hhi : (R.length : Int) ≤ id
  · rw [show atV R id = .tuple #[nV 0 0 0, .int .i64 30] from if_neg (by omega)]
    have h1 : 0 ≤ id := by omega
    clear h hlo
    have b0 := blk_new w (.cells #[.int .i64 0, .int .i64 0, .int .i64 0] 24)
    have k0 := blk_cell b0 0
    have k1 := blk_cell b0 1
    have k2 := blk_cell b0 2
    have f0 := blk_free b0 0
    have f1 := blk_free b0 1
    have f2 := blk_free b0 2
    unfold nV
    go_enter Tryd.func11, Tryd.ntmps11
    go_wp2_with (go_at_call 33; refine (HZ.out _ HT.out).mono ?_; rintro e w1 ⟨rfl, rfl⟩)
    refine bodyPost_ret (v := .tuple #[.agg #[.int .i64 0, .int .i64 0, .int .i64 0], .int .i64 30]) ?_ rfl ⟨rfl, (Below.refl _ _).alloc (Nat.le_refl _) _⟩
    simp [results, Tryd.results11, go_sem, k0, k1, k2, f0, f1, f2]
  obtain ⟨i, rfl⟩ : ∃ i : Nat, id = (i : Int) := ⟨id.toNat, by omega⟩
  have hi : i < R.length := by omega
  obtain ⟨q, hq, hqd, hql⟩ := h.get hi
  have hv : atV R (i : Int) = .tuple #[nV (i : Int) (tgN q : Nat) (kdN q : Nat), .int .i64 0] := by unfold atV; rw [if_pos (by omega), Int.toNat_natCast, hqd]
  rw [hv]
  have i1 : (i : Int) < (R.length : Int) := by omega
  have i2 : (0 : Int) ≤ (i : Int) := by omega
  have i3 : (i : Int).toNat = i := Int.toNat_natCast i
  obtain ⟨⟨g0, g1, g2⟩, _⟩ := HT.out.list.cells hq
  have c0 := blk_cell HT.out.cell 0
  have b0 := blk_new w (.cells #[.int .i64 0, .int .i64 0, .int .i64 0] 24)
  have k0 := blk_cell b0 0
  have k1 := blk_cell b0 1
  have k2 := blk_cell b0 2
  have f0 := blk_free b0 0
  have f1 := blk_free b0 1
  have f2 := blk_free b0 2
  have hb : Below w.heap.size w (w.alloc (.cells #[.int .i64 0, .int .i64 0, .int .i64 0] 24)) := (Below.refl _ _).alloc (Nat.le_refl _) _
  unfold nV
  clear h hv hq hqd hql hlo hhi hi b0
  go_enter Tryd.func11, Tryd.ntmps11
  go_upto_region 1 with fail
  generalize World.alloc w _ = W at *
  go_wp2_with (go_at_call 33; refine (HZ.out _ HT.out).mono ?_; rintro e w1 ⟨rfl, rfl⟩)
  refine bodyPost_ret (v := .tuple #[.agg #[.int .i64 (i : Int), .int .i64 (tgN q : Nat), .int .i64 (kdN q : Nat)], .int .i64 0]) ?_ rfl ⟨rfl, ((hb.setCell (Nat.le_refl _) _).setCell (Nat.le_refl _) _).setCell (Nat.le_refl _) _⟩
  simp [results, Tryd.results11, go_sem, k0, k1, k2]
end Go.Proofs.YtppmiggkknhdkaaDoor
namespace Go.Proofs.YtppmiggkknhdkaaDoor
open Go.RowKit Go.Extern.Stop Go.Stop Go.Extern

theorem isTypeOf (v : Value) (w : World) : (Extern.ReflectliteType.typeOf #[.iface 148 v]).run Tryd.prog w = .ok (.iface 136 (.agg #[.pointer (some ⟨1, 148, none⟩)])) w := by kernel_rfl
def compF : TypeId → Sem Value := fun t => do Go.Extern.Rtype.noPackHeld "Comparable" t; pure (.bool (← typeInfo t).comparable)
theorem isComparable (w : World) : (Extern.ReflectliteType.method compF #[.agg #[.pointer (some ⟨1, 148, none⟩)]]).run Tryd.prog w = .ok (.bool true) w := by kernel_rfl
theorem isMethod (n : Nat) (v : Value) (w : World) : (Go.method (n + 1) 136 v "Comparable").run Tryd.prog w = .ok (102, v) w := by kernel_rfl
theorem isComp : (Tryd.prog.info? 148).map (·.comparable) = some true := by kernel_rfl
theorem isSize : (Tryd.prog.info? 172).map (·.size) = some 1 := by kernel_rfl
set_option maxRecDepth 100000 in
/-- errors.Is(x, x), x a pointer to an errors.errorString. -/
theorem is_same (a : Addr) (w : World) :
    Calls Tryd.prog 47 #[.iface 148 (.pointer (some a)), .iface 148 (.pointer (some a))] w fun e w' => e = .returned (.bool true) ∧ w' = w := by
  obtain ⟨i, hi, hcmp⟩ := Option.map_eq_some_iff.1 isComp
  obtain ⟨j, hj, hjs⟩ := Option.map_eq_some_iff.1 isSize
  have h8 := @run_callFunc_extern Tryd.prog 62 _ Extern.ReflectliteType.typeOf Tryd.func62 (by kernel_rfl) (by kernel_rfl) (by kernel_rfl) (by kernel_rfl)
  have h32 := @run_callFunc_extern Tryd.prog 102 _ (Extern.ReflectliteType.method compF) Tryd.func102 (by kernel_rfl) (by kernel_rfl) (by kernel_rfl) (by kernel_rfl)
  have tT := isTypeOf
  have cT := isComparable
  have mR := isMethod
  have heq := run_eql_iface_ptr_same (P := Tryd.prog) w a Tryd.underlying104 Tryd.underlying148 hi hcmp hj
  go_enter Tryd.func47, Tryd.ntmps47
  go_wp2
  refine wp_loop_rounds 1 ?_
  rw [rounds_succ]
  go_wp2
  go_ret
  exact ⟨rfl, rfl⟩
/-- errors.Is(nil, x). -/
theorem is_nil (b : Addr) (w : World) :
    Calls Tryd.prog 47 #[.nilIface, .iface 148 (.pointer (some b))] w fun e w' => e = .returned (.bool false) ∧ w' = w := by
  have hn := run_eql_iface_nil_left (P := Tryd.prog) w 148 (.pointer (some b)) Tryd.underlying104
  go_enter Tryd.func47, Tryd.ntmps47
  go_wp2
  go_ret
  exact ⟨rfl, rfl⟩
end Go.Proofs.YtppmiggkknhdkaaDoor
namespace Go.Proofs.YtppmiggkknhdkaaDoor
set_option linter.unusedVariables false
set_option linter.unusedSimpArgs false
open Go.RowKit

/-- The sentinel. -/
def Gl (a : Addr) (W : World) : Prop := W.cell? ⟨0, 0, none⟩ = some (.iface 148 (.pointer (some a)))
theorem Gl.lt {a : Addr} {W : World} (h : Gl a W) : 0 < W.heap.size := cell_lt h
theorem Gl.below {a : Addr} {W X : World} (h : Gl a W) (hb : Below W.heap.size W X) : Gl a X := (hb.cell (cell_lt h)).trans h
theorem Gl.of {a : Addr} {w W : World} (h : Gl a w) (hb : Below w.heap.size w W) : Gl a W := h.below hb
/-- What is due: the rank of the mistake. -/
def dueN (R : List Nat) (sf : Int) : Option Nat := if 0 ≤ sf ∧ sf < (R.length : Int) then if kdN (R.getD sf.toNat 0) = 2 ∧ tgN (R.getD sf.toNat 0) ≠ 1048576 then some (R.getD sf.toNat 0 + 1) else none else none
def dueV (o : Option Nat) (sf : Int) : Value := match o with | some r => nV sf (tgN r : Nat) (kdN r : Nat) | none => nV 0 0 0
def errV (a : Addr) (o : Option Nat) : Value := match o with | some _ => .nilIface | none => .iface 148 (.pointer (some a))
/-- Frames of due. -/
structure DuS (w : World) (a : Addr) (bp : Option Addr) (sf : Int) (W : World) : Prop where
  d : W.heap[w.heap.size]? = some (.cells #[.pointer bp, .int .i64 sf] 74 (0, 0))
  r : W.heap[w.heap.size + 1]? = some (.cells #[.int .i64 0, .int .i64 0, .int .i64 0] 24 (0, 0))
  gl : Gl a W
  low : Below w.heap.size w W
  pos : 0 < w.heap.size
theorem DuS.below {w W X : World} {a : Addr} {bp : Option Addr} {sf : Int} (h : DuS w a bp sf W) (hb : Below W.heap.size W X) : DuS w a bp sf X :=
  ⟨blk_below' hb h.d, blk_below' hb h.r, h.gl.below hb, below_then h.low hb, h.pos⟩
theorem DuS.new {w : World} {a : Addr} (h : Gl a w) (bp : Option Addr) (sf : Int) : DuS w a bp sf ((w.alloc (.cells #[.pointer bp, .int .i64 sf] 74)).alloc (.cells #[.int .i64 0, .int .i64 0, .int .i64 0] 24)) := by
  have hb := ((Below.refl w.heap.size w).alloc (Nat.le_refl _) (.cells #[.pointer bp, .int .i64 sf] 74)).alloc (by simp) (.cells #[.int .i64 0, .int .i64 0, .int .i64 0] 24)
  exact ⟨blk_old (blk_new w _) _, b1 w _ _, h.below hb, hb, h.lt⟩
theorem gl_set {a : Addr} {W : World} (h : Gl a W) {b : Nat} (hb : 0 ≠ b) (o : Nat) (v : Value) : Gl a (W.setCell ⟨b, o, none⟩ v) := by
  obtain ⟨cs, hcs⟩ : ∃ cs, W.heap[0]? = some cs := ⟨_, Array.getElem?_eq_getElem h.lt⟩
  have h2 := blk_set hcs ⟨b, o, none⟩ v hb
  unfold Gl World.cell? at h ⊢
  rw [h2]
  rw [hcs] at h
  exact h
/-- .. with the box of x. -/
structure DuX (w : World) (a : Addr) (bp : Option Addr) (sf : Int) (p : Nat) (o t k : Int) (W : World) : Prop where
  s : DuS w a bp sf W
  x : W.heap[p]? = some (.cells #[.int .i64 o, .int .i64 t, .int .i64 k] 24 (0, 0))
  p : w.heap.size + 1 < p
theorem DuX.below {w W X : World} {a : Addr} {bp : Option Addr} {sf : Int} {p : Nat} {o t k : Int} (h : DuX w a bp sf p o t k W) (hb : Below W.heap.size W X) : DuX w a bp sf p o t k X := ⟨h.s.below hb, blk_below' hb h.x, h.p⟩
theorem DuX.cells {w W : World} {a : Addr} {bp : Option Addr} {sf : Int} {p : Nat} {o t k : Int} (h : DuX w a bp sf p o t k W) : Bx3 p o t k W ∧ (W.frozen? ⟨p, 0, none⟩ = false ∧ W.frozen? ⟨p, 1, none⟩ = false ∧ W.frozen? ⟨p, 2, none⟩ = false) :=
  ⟨⟨blk_cell h.x 0, blk_cell h.x 1, blk_cell h.x 2⟩, blk_free h.x 0, blk_free h.x 1, blk_free h.x 2⟩
theorem DuX.set {w W : World} {a : Addr} {bp : Option Addr} {sf : Int} {p : Nat} {o t k : Int} (h : DuX w a bp sf p o t k W) (o' t' k' : Int) : DuX w a bp sf p o' t' k' (((W.setCell ⟨p, 0, none⟩ (.int .i64 o')).setCell ⟨p, 1, none⟩ (.int .i64 t')).setCell ⟨p, 2, none⟩ (.int .i64 k')) := by
  have hp := h.p
  have hp1 : w.heap.size ≠ p := by omega
  have hp2 : w.heap.size + 1 ≠ p := by omega
  have hp3 : w.heap.size ≤ p := by omega
  exact ⟨⟨blk_set (blk_set (blk_set h.s.d _ _ hp1) _ _ hp1) _ _ hp1, blk_set (blk_set (blk_set h.s.r _ _ hp2) _ _ hp2) _ _ hp2, gl_set (gl_set (gl_set h.s.gl (by omega) _ _) (by omega) _ _) (by omega) _ _, ((h.s.low.setCell hp3 _).setCell hp3 _).setCell hp3 _, h.s.pos⟩,
    blk_store (blk_store (blk_store h.x 0 (.int .i64 o')) 1 (.int .i64 t')) 2 (.int .i64 k'), h.p⟩
theorem due_at (w : World) (a : Addr) (bp : Option Addr) (sf : Int) (o t k er : Int) (hg : Gl a w) (her : (er != 0) = true)
    (hAt : ∀ W, Below w.heap.size w W → Calls Tryd.prog 11 #[.pointer bp, .int .i64 sf] W fun e w' => e = .returned (.tuple #[nV o t k, .int .i64 er]) ∧ Below W.heap.size W w') :
    Calls Tryd.prog 29 #[.agg #[.pointer bp, .int .i64 sf]] w fun e w' => e = .returned (.tuple #[nV 0 0 0, .iface 148 (.pointer (some a))]) ∧ Below w.heap.size w w' := by
  have HS := Lib.hid (DuS.new hg bp sf)
  have HA := Lib.hid hAt
  unfold nV at HA ⊢
  clear hg hAt
  go_enter Tryd.func29, Tryd.ntmps29
  go_upto_region 1 with fail
  generalize World.alloc (World.alloc w _) _ = W at *
  have d0 := blk_cell HS.out.d 0
  have d1 := blk_cell HS.out.d 1
  go_upto_region 3 with (go_at_call 11; refine (HA.out _ HS.out.low).mono ?_; rintro e w1 ⟨rfl, hB1⟩; have HS := Lib.hid (HS.out.below hB1); clear hB1 d0 d1)
  have HX := Lib.hid (show DuX w a bp sf (w1).heap.size o t k ((w1).alloc (.cells #[.int .i64 o, .int .i64 t, .int .i64 k] 24)) from ⟨HS.out.below ((Below.refl _ _).alloc (Nat.le_refl _) _), blk_new _ _, blk_lt HS.out.r⟩)
  clear HS
  obtain ⟨p, hp⟩ : ∃ p, (w1).heap.size = p := ⟨_, rfl⟩
  rw [hp] at HX
  (try rw [hp])
  clear hp
  generalize World.alloc w1 _ = W2 at *
  obtain ⟨⟨m0, m1, m2⟩, _⟩ := HX.out.cells
  have HS := Lib.hid HX.out.s
  clear m0 m1 m2
  refine wp_region_early (fun w' => w'.cell? ⟨0, 0, none⟩ = some (.iface 148 (.pointer (some a)))) (fun _ => false) (by kernel_rfl) ?_
  simp only [List.size_toArray, List.length_cons, List.length_nil, Nat.reduceAdd, Array.replicate_succ, Array.replicate_zero, List.push_toArray, List.nil_append, List.cons_append]
  have HS := Lib.hid (HS.out.below ((Below.refl _ _).drew))
  generalize World.drew _ = WD at *
  have hSS : World.cell? _ ⟨0, 0, none⟩ = some (.iface 148 (.pointer (some a))) := HS.out.gl
  refine wpAnyE_take (i := 0) (v := ?_) rfl (by kernel_rfl) (by kernel_rfl) (by kernel_rfl) (by kernel_rfl) (fun _ _ _ h => h) (Or.inl ⟨by rfl, ?_⟩) hSS ?_
  rotate_left
  · intro w hSw
    obtain j0 := hSw
    go_simp
    all_goals with_reducible rfl
  simp only [Act.put, List.setIfInBounds_toArray, List.set_cons_zero, List.set_cons_succ, List.getElem_toArray, List.getElem_cons_zero, List.getElem_cons_succ]
  refine wpAnyE_take (i := 1) (v := ?_) rfl (by kernel_rfl) (by kernel_rfl) (by kernel_rfl) (by kernel_rfl) (fun _ _ _ h => h) (Or.inl ⟨by rfl, ?_⟩) hSS ?_
  rotate_left
  · intro w hSw
    obtain j0 := hSw
    go_simp
    all_goals with_reducible rfl
  simp only [Act.put, List.setIfInBounds_toArray, List.set_cons_zero, List.set_cons_succ, List.getElem_toArray, List.getElem_cons_zero, List.getElem_cons_succ]
  refine wpAnyE_one (i := 2) (by kernel_rfl) rfl ?_
  change wpList _ _ (Exit.then _ _) [_] _ _
  try simp only [List.setIfInBounds_toArray, List.set_cons_zero, List.set_cons_succ, List.getElem_toArray, List.getElem_cons_zero, List.getElem_cons_succ]
  have c0 := blk_cell HS.out.r 0
  have c1 := blk_cell HS.out.r 1
  have c2 := blk_cell HS.out.r 2
  have f0 := blk_free HS.out.r 0
  have f1 := blk_free HS.out.r 1
  have f2 := blk_free HS.out.r 2
  have hS3 := gl_set (gl_set (gl_set hSS (b := w.heap.size + 1) (Nat.succ_ne_zero _).symm 0 (.int .i64 0)) (b := w.heap.size + 1) (Nat.succ_ne_zero _).symm 1 (.int .i64 0)) (b := w.heap.size + 1) (Nat.succ_ne_zero _).symm 2 (.int .i64 0)
  go_wp2_with fail
  refine ⟨fun _ => hS3, ?_⟩
  try simp only [List.setIfInBounds_toArray, List.set_cons_zero, List.set_cons_succ, List.getElem_toArray, List.getElem_cons_zero, List.getElem_cons_succ]
  refine wpAnyE_one (i := 3) (by kernel_rfl) rfl ?_
  change wpList _ _ (Exit.then _ _) [_] _ _
  try simp only [List.setIfInBounds_toArray, List.set_cons_zero, List.set_cons_succ, List.getElem_toArray, List.getElem_cons_zero, List.getElem_cons_succ]
  go_wp2_with fail
  refine ⟨fun _ => hS3, ?_⟩
  try simp only [List.setIfInBounds_toArray, List.set_cons_zero, List.set_cons_succ, List.getElem_toArray, List.getElem_cons_zero, List.getElem_cons_succ]
  refine wpAnyE_end (by kernel_rfl) ?_
  go_wp2_with fail
  refine bodyPost_ret (v := .tuple #[.agg #[.int .i64 0, .int .i64 0, .int .i64 0], .iface 148 (.pointer (some a))]) ?_ rfl ⟨rfl, ((HS.out.low.setCell (Nat.le_succ _) _).setCell (Nat.le_succ _) _).setCell (Nat.le_succ _) _⟩
  simp [results, Tryd.results29, go_sem, c0, c1, c2]
theorem due_reply_no (w : World) (a : Addr) (bp : Option Addr) (sf : Int) (o t k er : Int) (v : Value) (hg : Gl a w) (her : (er != 0) = true)
    (hAt : ∀ W, Below w.heap.size w W → Calls Tryd.prog 11 #[.pointer bp, .int .i64 sf] W fun e w' => e = .returned (.tuple #[nV o t k, .int .i64 0]) ∧ Below W.heap.size W w')
    (hRp : ∀ W, Calls Tryd.prog 24 #[nV o t k] W fun e w' => e = .returned (.tuple #[nV 0 0 0, .int .i64 er]) ∧ Below W.heap.size W w') :
    Calls Tryd.prog 29 #[.agg #[.pointer bp, .int .i64 sf]] w fun e w' => e = .returned (.tuple #[nV 0 0 0, .iface 148 (.pointer (some a))]) ∧ Below w.heap.size w w' := by
  have HS := Lib.hid (DuS.new hg bp sf)
  have HA := Lib.hid hAt
  have HP := Lib.hid hRp
  unfold nV at HA HP ⊢
  clear hg hAt hRp
  go_enter Tryd.func29, Tryd.ntmps29
  go_upto_region 1 with fail
  generalize World.alloc (World.alloc w _) _ = W at *
  have d0 := blk_cell HS.out.d 0
  have d1 := blk_cell HS.out.d 1
  go_upto_region 4 with (go_at_call 11; refine (HA.out _ HS.out.low).mono ?_; rintro e w1 ⟨rfl, hB1⟩; have HS := Lib.hid (HS.out.below hB1); clear hB1 d0 d1)
  have HX := Lib.hid (show DuX w a bp sf (w1).heap.size o t k ((w1).alloc (.cells #[.int .i64 o, .int .i64 t, .int .i64 k] 24)) from ⟨HS.out.below ((Below.refl _ _).alloc (Nat.le_refl _) _), blk_new _ _, blk_lt HS.out.r⟩)
  clear HS
  obtain ⟨p, hp⟩ : ∃ p, (w1).heap.size = p := ⟨_, rfl⟩
  rw [hp] at HX
  (try rw [hp])
  clear hp
  generalize World.alloc w1 _ = W2 at *
  obtain ⟨⟨m0, m1, m2⟩, _⟩ := HX.out.cells
  go_upto_region 6 with (go_at_call 24; refine (HP.out _).mono ?_; rintro e w3 ⟨rfl, hB3⟩; have HX := Lib.hid (HX.out.below hB3); clear hB3 m0 m1 m2; obtain ⟨⟨m0, m1, m2⟩, ⟨f0, f1, f2⟩⟩ := HX.out.cells)
  have HX := Lib.hid (HX.out.set 0 0 0)
  clear m0 m1 m2 f0 f1 f2
  generalize ((World.setCell w3 _ _).setCell _ _).setCell _ _ = W3 at *
  have HS := Lib.hid HX.out.s
  refine wp_region_early (fun w' => w'.cell? ⟨0, 0, none⟩ = some (.iface 148 (.pointer (some a)))) (fun _ => false) (by kernel_rfl) ?_
  simp only [List.size_toArray, List.length_cons, List.length_nil, Nat.reduceAdd, Array.replicate_succ, Array.replicate_zero, List.push_toArray, List.nil_append, List.cons_append]
  have HS := Lib.hid (HS.out.below ((Below.refl _ _).drew))
  generalize World.drew _ = WD at *
  have hSS : World.cell? _ ⟨0, 0, none⟩ = some (.iface 148 (.pointer (some a))) := HS.out.gl
  refine wpAnyE_take (i := 0) (v := ?_) rfl (by kernel_rfl) (by kernel_rfl) (by kernel_rfl) (by kernel_rfl) (fun _ _ _ h => h) (Or.inl ⟨by rfl, ?_⟩) hSS ?_
  rotate_left
  · intro w hSw
    obtain j0 := hSw
    go_simp
    all_goals with_reducible rfl
  simp only [Act.put, List.setIfInBounds_toArray, List.set_cons_zero, List.set_cons_succ, List.getElem_toArray, List.getElem_cons_zero, List.getElem_cons_succ]
  refine wpAnyE_take (i := 1) (v := ?_) rfl (by kernel_rfl) (by kernel_rfl) (by kernel_rfl) (by kernel_rfl) (fun _ _ _ h => h) (Or.inl ⟨by rfl, ?_⟩) hSS ?_
  rotate_left
  · intro w hSw
    obtain j0 := hSw
    go_simp
    all_goals with_reducible rfl
  simp only [Act.put, List.setIfInBounds_toArray, List.set_cons_zero, List.set_cons_succ, List.getElem_toArray, List.getElem_cons_zero, List.getElem_cons_succ]
  refine wpAnyE_one (i := 2) (by kernel_rfl) rfl ?_
  change wpList _ _ (Exit.then _ _) [_] _ _
  try simp only [List.setIfInBounds_toArray, List.set_cons_zero, List.set_cons_succ, List.getElem_toArray, List.getElem_cons_zero, List.getElem_cons_succ]
  have c0 := blk_cell HS.out.r 0
  have c1 := blk_cell HS.out.r 1
  have c2 := blk_cell HS.out.r 2
  have f0 := blk_free HS.out.r 0
  have f1 := blk_free HS.out.r 1
  have f2 := blk_free HS.out.r 2
  have hS3 := gl_set (gl_set (gl_set hSS (b := w.heap.size + 1) (Nat.succ_ne_zero _).symm 0 (.int .i64 0)) (b := w.heap.size + 1) (Nat.succ_ne_zero _).symm 1 (.int .i64 0)) (b := w.heap.size + 1) (Nat.succ_ne_zero _).symm 2 (.int .i64 0)
  go_wp2_with fail
  refine ⟨fun _ => hS3, ?_⟩
  try simp only [List.setIfInBounds_toArray, List.set_cons_zero, List.set_cons_succ, List.getElem_toArray, List.getElem_cons_zero, List.getElem_cons_succ]
  refine wpAnyE_one (i := 3) (by kernel_rfl) rfl ?_
  change wpList _ _ (Exit.then _ _) [_] _ _
  try simp only [List.setIfInBounds_toArray, List.set_cons_zero, List.set_cons_succ, List.getElem_toArray, List.getElem_cons_zero, List.getElem_cons_succ]
  go_wp2_with fail
  refine ⟨fun _ => hS3, ?_⟩
  try simp only [List.setIfInBounds_toArray, List.set_cons_zero, List.set_cons_succ, List.getElem_toArray, List.getElem_cons_zero, List.getElem_cons_succ]
  refine wpAnyE_end (by kernel_rfl) ?_
  go_wp2_with fail
  refine bodyPost_ret (v := .tuple #[.agg #[.int .i64 0, .int .i64 0, .int .i64 0], .iface 148 (.pointer (some a))]) ?_ rfl ⟨rfl, ((HS.out.low.setCell (Nat.le_succ _) _).setCell (Nat.le_succ _) _).setCell (Nat.le_succ _) _⟩
  simp [results, Tryd.results29, go_sem, c0, c1, c2]
theorem due_reply_yes (w : World) (a : Addr) (bp : Option Addr) (sf : Int) (o t k o' t' k' : Int) (hg : Gl a w)
    (hAt : ∀ W, Below w.heap.size w W → Calls Tryd.prog 11 #[.pointer bp, .int .i64 sf] W fun e w' => e = .returned (.tuple #[nV o t k, .int .i64 0]) ∧ Below W.heap.size W w')
    (hRp : ∀ W, Calls Tryd.prog 24 #[nV o t k] W fun e w' => e = .returned (.tuple #[nV o' t' k', .int .i64 0]) ∧ Below W.heap.size W w') :
    Calls Tryd.prog 29 #[.agg #[.pointer bp, .int .i64 sf]] w fun e w' => e = .returned (.tuple #[nV o' t' k', .nilIface]) ∧ Below w.heap.size w w' := by
  have HS := Lib.hid (DuS.new hg bp sf)
  have HA := Lib.hid hAt
  have HP := Lib.hid hRp
  unfold nV at HA HP ⊢
  clear hg hAt hRp
  go_enter Tryd.func29, Tryd.ntmps29
  go_upto_region 1 with fail
  generalize World.alloc (World.alloc w _) _ = W at *
  have d0 := blk_cell HS.out.d 0
  have d1 := blk_cell HS.out.d 1
  go_upto_region 4 with (go_at_call 11; refine (HA.out _ HS.out.low).mono ?_; rintro e w1 ⟨rfl, hB1⟩; have HS := Lib.hid (HS.out.below hB1); clear hB1 d0 d1)
  have HX := Lib.hid (show DuX w a bp sf (w1).heap.size o t k ((w1).alloc (.cells #[.int .i64 o, .int .i64 t, .int .i64 k] 24)) from ⟨HS.out.below ((Below.refl _ _).alloc (Nat.le_refl _) _), blk_new _ _, blk_lt HS.out.r⟩)
  clear HS
  obtain ⟨p, hp⟩ : ∃ p, (w1).heap.size = p := ⟨_, rfl⟩
  rw [hp] at HX
  (try rw [hp])
  clear hp
  generalize World.alloc w1 _ = W2 at *
  obtain ⟨⟨m0, m1, m2⟩, _⟩ := HX.out.cells
  go_upto_region 7 with (go_at_call 24; refine (HP.out _).mono ?_; rintro e w3 ⟨rfl, hB3⟩; have HX := Lib.hid (HX.out.below hB3); clear hB3 m0 m1 m2; obtain ⟨⟨m0, m1, m2⟩, ⟨f0, f1, f2⟩⟩ := HX.out.cells)
  have HX := Lib.hid (HX.out.set o' t' k')
  clear m0 m1 m2 f0 f1 f2
  generalize ((World.setCell w3 _ _).setCell _ _).setCell _ _ = W3 at *
  obtain ⟨⟨m0, m1, m2⟩, _⟩ := HX.out.cells
  have c0 := blk_cell HX.out.s.r 0
  have c1 := blk_cell HX.out.s.r 1
  have c2 := blk_cell HX.out.s.r 2
  have f0 := blk_free HX.out.s.r 0
  have f1 := blk_free HX.out.s.r 1
  have f2 := blk_free HX.out.s.r 2
  go_wp2_with fail
  refine bodyPost_ret (v := .tuple #[.agg #[.int .i64 o', .int .i64 t', .int .i64 k'], .nilIface]) ?_ rfl ⟨rfl, ((HX.out.s.low.setCell (Nat.le_succ _) _).setCell (Nat.le_succ _) _).setCell (Nat.le_succ _) _⟩
  simp [results, Tryd.results29, go_sem, c0, c1, c2]
end Go.Proofs.YtppmiggkknhdkaaDoor
namespace Go.Proofs.YtppmiggkknhdkaaDoor
set_option linter.unusedVariables false
set_option linter.unusedSimpArgs false
open Go.RowKit

theorem due_any {w : World} {B g cp : Nat} {R : List Nat} {a : Addr} (h : Tb w B g cp R) (hg : Gl a w) (sf : Int) :
    Calls Tryd.prog 29 #[.agg #[.pointer (some ⟨B, 0, none⟩), .int .i64 sf]] w fun e w' => e = .returned (.tuple #[dueV (dueN R sf) sf, errV a (dueN R sf)]) ∧ Below w.heap.size w w' := by
  by_cases hin : 0 ≤ sf ∧ sf < (R.length : Int)
  · obtain ⟨i, rfl⟩ : ∃ i : Nat, sf = (i : Int) := ⟨sf.toNat, by omega⟩
    have hi : i < R.length := by omega
    obtain ⟨q, hq, hqd, hql⟩ := h.get hi
    have hA : ∀ W, Below w.heap.size w W → Calls Tryd.prog 11 #[.pointer (some ⟨B, 0, none⟩), .int .i64 (i : Int)] W fun e w' => e = .returned (.tuple #[nV (i : Int) (tgN q : Nat) (kdN q : Nat), .int .i64 0]) ∧ Below W.heap.size W w' := by
      intro W hW
      have := at_any (h.below hW) (i : Int)
      unfold atV at this
      rwa [if_pos hin, Int.toNat_natCast, hqd] at this
    by_cases hk : kdN q = 2
    · by_cases ht : tgN q = 1048576
      · have hd : dueN R (i : Int) = none := by unfold dueN; rw [if_pos hin, Int.toNat_natCast, hqd, if_neg (fun hh => hh.2 ht)]
        rw [hd]
        exact due_reply_no w a _ (i : Int) _ _ _ 120 undef hg (by decide) hA (fun W => by have := reply_nat i q hql W; rwa [show rpV i q = .tuple #[nV 0 0 0, .int .i64 120] from by unfold rpV; rw [if_pos hk, if_pos ht]] at this)
      · have hd : dueN R (i : Int) = some (q + 1) := by unfold dueN; rw [if_pos hin, Int.toNat_natCast, hqd, if_pos ⟨hk, ht⟩]
        rw [hd]
        have e1 : ((tgN (q + 1) : Nat) : Int) = ((tgN q : Nat) : Int) + 1 := by unfold tgN kdN at *; omega
        have e2 : ((kdN (q + 1) : Nat) : Int) = 1 := by unfold tgN kdN at *; omega
        show Calls _ _ _ _ fun e w' => e = .returned (.tuple #[nV (i : Int) (tgN (q + 1) : Nat) (kdN (q + 1) : Nat), .nilIface]) ∧ _
        rw [e1, e2]
        exact due_reply_yes w a _ (i : Int) _ _ _ _ _ _ hg hA (fun W => by have := reply_nat i q hql W; rwa [show rpV i q = .tuple #[nV (i : Int) (((tgN q : Nat) : Int) + 1) 1, .int .i64 0] from by unfold rpV; rw [if_pos hk, if_neg ht]] at this)
    · have hd : dueN R (i : Int) = none := by unfold dueN; rw [if_pos hin, Int.toNat_natCast, hqd, if_neg (fun hh => hk hh.1)]
      rw [hd]
      exact due_reply_no w a _ (i : Int) _ _ _ 50 undef hg (by decide) hA (fun W => by have := reply_nat i q hql W; rwa [show rpV i q = .tuple #[nV 0 0 0, .int .i64 50] from by unfold rpV; rw [if_neg hk]] at this)
  · have hd : dueN R sf = none := if_neg hin
    rw [hd]
    exact due_at w a _ sf 0 0 0 30 hg (by decide) (fun W hW => by have := at_any (h.below hW) sf; unfold atV at this; rwa [if_neg hin] at this)
theorem due_nil {w : World} {a : Addr} (hg : Gl a w) (sf : Int) :
    Calls Tryd.prog 29 #[.agg #[.pointer none, .int .i64 sf]] w fun e w' => e = .returned (.tuple #[nV 0 0 0, .iface 148 (.pointer (some a))]) ∧ Below w.heap.size w w' :=
  due_at w a _ sf 0 0 0 30 hg (by decide) (fun W _ => at_nil sf W)
structure FoS (w : World) (a : Addr) (p : Nat) (o t k : Int) (W : World) : Prop where
  r : W.heap[w.heap.size]? = some (.cells #[.int .i64 0, .int .i64 0, .int .i64 0] 24 (0, 0))
  x : W.heap[p]? = some (.cells #[.int .i64 o, .int .i64 t, .int .i64 k] 24 (0, 0))
  gl : Gl a W
  low : Below w.heap.size w W
  pos : 0 < w.heap.size ∧ w.heap.size < p
theorem FoS.below {w W X : World} {a : Addr} {p : Nat} {o t k : Int} (h : FoS w a p o t k W) (hb : Below W.heap.size W X) : FoS w a p o t k X :=
  ⟨blk_below' hb h.r, blk_below' hb h.x, h.gl.below hb, below_then h.low hb, h.pos⟩
def Fo4 (a : Addr) (p : Nat) (o t k : Int) (W : World) : Prop := W.cell? ⟨0, 0, none⟩ = some (.iface 148 (.pointer (some a))) ∧ Bx3 p o t k W
theorem FoS.c4 {w W : World} {a : Addr} {p : Nat} {o t k : Int} (h : FoS w a p o t k W) : Fo4 a p o t k W := ⟨h.gl, blk_cell h.x 0, blk_cell h.x 1, blk_cell h.x 2⟩
theorem FoS.set {w W : World} {a : Addr} {p : Nat} {o t k : Int} (h : FoS w a p o t k W) (a' b' c' : Value) : Fo4 a p o t k (((W.setCell ⟨w.heap.size, 0, none⟩ a').setCell ⟨w.heap.size, 1, none⟩ b').setCell ⟨w.heap.size, 2, none⟩ c') := by
  have hp := h.pos
  have hp1 : p ≠ w.heap.size := by omega
  have hp2 : 0 ≠ w.heap.size := by omega
  have hx := blk_set (blk_set (blk_set h.x ⟨w.heap.size, 0, none⟩ a' hp1) ⟨w.heap.size, 1, none⟩ b' hp1) ⟨w.heap.size, 2, none⟩ c' hp1
  exact ⟨gl_set (gl_set (gl_set h.gl hp2 _ _) hp2 _ _) hp2 _ _, blk_cell hx 0, blk_cell hx 1, blk_cell hx 2⟩
set_option maxRecDepth 100000 in
theorem found_yes {w : World} {a : Addr} (hg : Gl a w) (bp : Option Addr) (sf o t k : Int)
    (hD : ∀ W, Below w.heap.size w W → Calls Tryd.prog 29 #[.agg #[.pointer bp, .int .i64 sf]] W fun e w' => e = .returned (.tuple #[nV o t k, .nilIface]) ∧ Below W.heap.size W w') :
    Calls Tryd.prog 28 #[.func (.func 29) #[.agg #[.pointer bp, .int .i64 sf]] #[]] w fun e w' => e = .returned (.tuple #[nV o t k, .bool true]) ∧ Below w.heap.size w w' := by
  have HI := Lib.hid (fun w => is_nil a w)
  have b0 := blk_new w (.cells #[.int .i64 0, .int .i64 0, .int .i64 0] 24)
  have HB0 := Lib.hid ((Below.refl w.heap.size w).alloc (Nat.le_refl _) (.cells #[.int .i64 0, .int .i64 0, .int .i64 0] 24))
  have HR := Lib.hid b0
  have HG := Lib.hid hg
  have HD := Lib.hid hD
  have HP := Lib.hid hg.lt
  clear hg b0 hD
  unfold nV at HD ⊢
  go_enter Tryd.func28, Tryd.ntmps28
  go_upto_region 1 with fail
  generalize World.alloc w _ = W at *
  go_upto_region 2 with (go_at_call 29; refine (HD.out _ HB0.out).mono ?_; rintro e w1 ⟨rfl, hB1⟩)
  have HS := Lib.hid (show FoS w a w1.heap.size o t k (w1.alloc (.cells #[.int .i64 o, .int .i64 t, .int .i64 k] 24)) from by
    have hb := below_then HB0.out hB1
    have hl := blk_lt (blk_below' hB1 HR.out)
    exact ⟨blk_old (blk_below' hB1 HR.out) _, blk_new _ _, HG.out.of (hb.alloc hb.size _), hb.alloc hb.size _, HP.out, hl⟩)
  obtain ⟨p, hp⟩ : ∃ p, w1.heap.size = p := ⟨_, rfl⟩
  rw [hp] at HS
  (try rw [hp])
  clear hp hB1
  generalize World.alloc w1 _ = W2 at *
  refine wp_region_early (Fo4 a p o t k) (fun _ => false) (by kernel_rfl) ?_
  simp only [List.size_toArray, List.length_cons, List.length_nil, Nat.reduceAdd, Array.replicate_succ, Array.replicate_zero, List.push_toArray, List.nil_append, List.cons_append]
  have HS := Lib.hid (HS.out.below ((Below.refl _ W2).drew))
  generalize World.drew W2 = W3 at *
  have hSS := HS.out.c4
  refine wpAnyE_take (i := 0) (v := ?_) rfl (by kernel_rfl) (by kernel_rfl) (by kernel_rfl) (by kernel_rfl) (fun _ _ _ h => h) (Or.inl ⟨by rfl, ?_⟩) hSS ?_
  rotate_left
  · intro w hSw
    obtain ⟨j0, j1, j2, j3⟩ := hSw
    go_simp
    all_goals with_reducible rfl
  simp only [Act.put, List.setIfInBounds_toArray, List.set_cons_zero, List.set_cons_succ, List.getElem_toArray, List.getElem_cons_zero, List.getElem_cons_succ]
  refine wpAnyE_take (i := 1) (v := ?_) rfl (by kernel_rfl) (by kernel_rfl) (by kernel_rfl) (by kernel_rfl) (fun _ _ _ h => h) (Or.inl ⟨by rfl, ?_⟩) hSS ?_
  rotate_left
  · intro w hSw
    obtain ⟨j0, j1, j2, j3⟩ := hSw
    go_simp
    all_goals with_reducible rfl
  simp only [Act.put, List.setIfInBounds_toArray, List.set_cons_zero, List.set_cons_succ, List.getElem_toArray, List.getElem_cons_zero, List.getElem_cons_succ]
  refine wpAnyE_take (i := 2) (v := ?_) rfl (by kernel_rfl) (by kernel_rfl) (by kernel_rfl) (by kernel_rfl) (fun _ _ _ h => h) (Or.inl ⟨by rfl, ?_⟩) hSS ?_
  rotate_left
  · intro w hSw
    obtain ⟨j0, j1, j2, j3⟩ := hSw
    go_simp
    all_goals with_reducible rfl
  simp only [Act.put, List.setIfInBounds_toArray, List.set_cons_zero, List.set_cons_succ, List.getElem_toArray, List.getElem_cons_zero, List.getElem_cons_succ]
  refine wpAnyE_one (i := 3) (by kernel_rfl) rfl ?_
  change wpList _ _ (Exit.then _ _) [_] _ _
  try simp only [List.setIfInBounds_toArray, List.set_cons_zero, List.set_cons_succ, List.getElem_toArray, List.getElem_cons_zero, List.getElem_cons_succ]
  go_wp2_with (go_at_call 47; refine (HI.out _).mono ?_; rintro e w4 ⟨rfl, rfl⟩)
  refine ⟨fun _ => hSS, ?_⟩
  try simp only [List.setIfInBounds_toArray, List.set_cons_zero, List.set_cons_succ, List.getElem_toArray, List.getElem_cons_zero, List.getElem_cons_succ]
  refine wpAnyE_take (i := 4) (v := ?_) rfl (by kernel_rfl) (by kernel_rfl) (by kernel_rfl) (by kernel_rfl) (fun _ _ _ h => h) (Or.inl ⟨by rfl, ?_⟩) hSS ?_
  rotate_left
  · intro w hSw
    obtain ⟨j0, j1, j2, j3⟩ := hSw
    go_simp
    all_goals with_reducible rfl
  simp only [Act.put, List.setIfInBounds_toArray, List.set_cons_zero, List.set_cons_succ, List.getElem_toArray, List.getElem_cons_zero, List.getElem_cons_succ]
  refine wpAnyE_one (i := 5) (by kernel_rfl) rfl ?_
  change wpList _ _ (Exit.then _ _) [_] _ _
  try simp only [List.setIfInBounds_toArray, List.set_cons_zero, List.set_cons_succ, List.getElem_toArray, List.getElem_cons_zero, List.getElem_cons_succ]
  have c0 := blk_cell HS.out.r 0
  have c1 := blk_cell HS.out.r 1
  have c2 := blk_cell HS.out.r 2
  have f0 := blk_free HS.out.r 0
  have f1 := blk_free HS.out.r 1
  have f2 := blk_free HS.out.r 2
  have hS2 := HS.out.set (.int .i64 o) (.int .i64 t) (.int .i64 k)
  go_wp2_with fail
  refine ⟨fun _ => hS2, ?_⟩
  try simp only [List.setIfInBounds_toArray, List.set_cons_zero, List.set_cons_succ, List.getElem_toArray, List.getElem_cons_zero, List.getElem_cons_succ]
  refine wpAnyE_one (i := 6) (by kernel_rfl) rfl ?_
  change wpList _ _ (Exit.then _ _) [_] _ _
  try simp only [List.setIfInBounds_toArray, List.set_cons_zero, List.set_cons_succ, List.getElem_toArray, List.getElem_cons_zero, List.getElem_cons_succ]
  go_wp2_with fail
  refine ⟨fun _ => hS2, ?_⟩
  try simp only [List.setIfInBounds_toArray, List.set_cons_zero, List.set_cons_succ, List.getElem_toArray, List.getElem_cons_zero, List.getElem_cons_succ]
  refine wpAnyE_end (by kernel_rfl) ?_
  go_wp2_with fail
  refine bodyPost_ret (v := .tuple #[.agg #[.int .i64 o, .int .i64 t, .int .i64 k], .bool true]) ?_ rfl ⟨rfl, ((HS.out.low.setCell (Nat.le_refl _) _).setCell (Nat.le_refl _) _).setCell (Nat.le_refl _) _⟩
  simp [results, Tryd.results28, go_sem, c0, c1, c2]
set_option maxRecDepth 100000 in
theorem found_no {w : World} {a : Addr} (hg : Gl a w) (bp : Option Addr) (sf o t k : Int)
    (hD : ∀ W, Below w.heap.size w W → Calls Tryd.prog 29 #[.agg #[.pointer bp, .int .i64 sf]] W fun e w' => e = .returned (.tuple #[nV o t k, .iface 148 (.pointer (some a))]) ∧ Below W.heap.size W w') :
    Calls Tryd.prog 28 #[.func (.func 29) #[.agg #[.pointer bp, .int .i64 sf]] #[]] w fun e w' => e = .returned (.tuple #[nV o t k, .bool false]) ∧ Below w.heap.size w w' := by
  have HI := Lib.hid (fun w => is_same a w)
  have b0 := blk_new w (.cells #[.int .i64 0, .int .i64 0, .int .i64 0] 24)
  have HB0 := Lib.hid ((Below.refl w.heap.size w).alloc (Nat.le_refl _) (.cells #[.int .i64 0, .int .i64 0, .int .i64 0] 24))
  have HR := Lib.hid b0
  have HG := Lib.hid hg
  have HD := Lib.hid hD
  have HP := Lib.hid hg.lt
  clear hg b0 hD
  unfold nV at HD ⊢
  go_enter Tryd.func28, Tryd.ntmps28
  go_upto_region 1 with fail
  generalize World.alloc w _ = W at *
  go_upto_region 2 with (go_at_call 29; refine (HD.out _ HB0.out).mono ?_; rintro e w1 ⟨rfl, hB1⟩)
  have HS := Lib.hid (show FoS w a w1.heap.size o t k (w1.alloc (.cells #[.int .i64 o, .int .i64 t, .int .i64 k] 24)) from by
    have hb := below_then HB0.out hB1
    have hl := blk_lt (blk_below' hB1 HR.out)
    exact ⟨blk_old (blk_below' hB1 HR.out) _, blk_new _ _, HG.out.of (hb.alloc hb.size _), hb.alloc hb.size _, HP.out, hl⟩)
  obtain ⟨p, hp⟩ : ∃ p, w1.heap.size = p := ⟨_, rfl⟩
  rw [hp] at HS
  (try rw [hp])
  clear hp hB1
  generalize World.alloc w1 _ = W2 at *
  refine wp_region_early (Fo4 a p o t k) (fun _ => false) (by kernel_rfl) ?_
  simp only [List.size_toArray, List.length_cons, List.length_nil, Nat.reduceAdd, Array.replicate_succ, Array.replicate_zero, List.push_toArray, List.nil_append, List.cons_append]
  have HS := Lib.hid (HS.out.below ((Below.refl _ W2).drew))
  generalize World.drew W2 = W3 at *
  have hSS := HS.out.c4
  refine wpAnyE_take (i := 0) (v := ?_) rfl (by kernel_rfl) (by kernel_rfl) (by kernel_rfl) (by kernel_rfl) (fun _ _ _ h => h) (Or.inl ⟨by rfl, ?_⟩) hSS ?_
  rotate_left
  · intro w hSw
    obtain ⟨j0, j1, j2, j3⟩ := hSw
    go_simp
    all_goals with_reducible rfl
  simp only [Act.put, List.setIfInBounds_toArray, List.set_cons_zero, List.set_cons_succ, List.getElem_toArray, List.getElem_cons_zero, List.getElem_cons_succ]
  refine wpAnyE_take (i := 1) (v := ?_) rfl (by kernel_rfl) (by kernel_rfl) (by kernel_rfl) (by kernel_rfl) (fun _ _ _ h => h) (Or.inl ⟨by rfl, ?_⟩) hSS ?_
  rotate_left
  · intro w hSw
    obtain ⟨j0, j1, j2, j3⟩ := hSw
    go_simp
    all_goals with_reducible rfl
  simp only [Act.put, List.setIfInBounds_toArray, List.set_cons_zero, List.set_cons_succ, List.getElem_toArray, List.getElem_cons_zero, List.getElem_cons_succ]
  refine wpAnyE_take (i := 2) (v := ?_) rfl (by kernel_rfl) (by kernel_rfl) (by kernel_rfl) (by kernel_rfl) (fun _ _ _ h => h) (Or.inl ⟨by rfl, ?_⟩) hSS ?_
  rotate_left
  · intro w hSw
    obtain ⟨j0, j1, j2, j3⟩ := hSw
    go_simp
    all_goals with_reducible rfl
  simp only [Act.put, List.setIfInBounds_toArray, List.set_cons_zero, List.set_cons_succ, List.getElem_toArray, List.getElem_cons_zero, List.getElem_cons_succ]
  refine wpAnyE_one (i := 3) (by kernel_rfl) rfl ?_
  change wpList _ _ (Exit.then _ _) [_] _ _
  try simp only [List.setIfInBounds_toArray, List.set_cons_zero, List.set_cons_succ, List.getElem_toArray, List.getElem_cons_zero, List.getElem_cons_succ]
  go_wp2_with (go_at_call 47; refine (HI.out _).mono ?_; rintro e w4 ⟨rfl, rfl⟩)
  refine ⟨fun _ => hSS, ?_⟩
  try simp only [List.setIfInBounds_toArray, List.set_cons_zero, List.set_cons_succ, List.getElem_toArray, List.getElem_cons_zero, List.getElem_cons_succ]
  refine wpAnyE_take (i := 4) (v := ?_) rfl (by kernel_rfl) (by kernel_rfl) (by kernel_rfl) (by kernel_rfl) (fun _ _ _ h => h) (Or.inl ⟨by rfl, ?_⟩) hSS ?_
  rotate_left
  · intro w hSw
    obtain ⟨j0, j1, j2, j3⟩ := hSw
    go_simp
    all_goals with_reducible rfl
  simp only [Act.put, List.setIfInBounds_toArray, List.set_cons_zero, List.set_cons_succ, List.getElem_toArray, List.getElem_cons_zero, List.getElem_cons_succ]
  refine wpAnyE_one (i := 5) (by kernel_rfl) rfl ?_
  change wpList _ _ (Exit.then _ _) [_] _ _
  try simp only [List.setIfInBounds_toArray, List.set_cons_zero, List.set_cons_succ, List.getElem_toArray, List.getElem_cons_zero, List.getElem_cons_succ]
  have c0 := blk_cell HS.out.r 0
  have c1 := blk_cell HS.out.r 1
  have c2 := blk_cell HS.out.r 2
  have f0 := blk_free HS.out.r 0
  have f1 := blk_free HS.out.r 1
  have f2 := blk_free HS.out.r 2
  have hS2 := HS.out.set (.int .i64 o) (.int .i64 t) (.int .i64 k)
  go_wp2_with fail
  refine ⟨fun _ => hS2, ?_⟩
  try simp only [List.setIfInBounds_toArray, List.set_cons_zero, List.set_cons_succ, List.getElem_toArray, List.getElem_cons_zero, List.getElem_cons_succ]
  refine wpAnyE_one (i := 6) (by kernel_rfl) rfl ?_
  change wpList _ _ (Exit.then _ _) [_] _ _
  try simp only [List.setIfInBounds_toArray, List.set_cons_zero, List.set_cons_succ, List.getElem_toArray, List.getElem_cons_zero, List.getElem_cons_succ]
  go_wp2_with fail
  refine ⟨fun _ => hS2, ?_⟩
  try simp only [List.setIfInBounds_toArray, List.set_cons_zero, List.set_cons_succ, List.getElem_toArray, List.getElem_cons_zero, List.getElem_cons_succ]
  refine wpAnyE_end (by kernel_rfl) ?_
  go_wp2_with fail
  refine bodyPost_ret (v := .tuple #[.agg #[.int .i64 o, .int .i64 t, .int .i64 k], .bool false]) ?_ rfl ⟨rfl, ((HS.out.low.setCell (Nat.le_refl _) _).setCell (Nat.le_refl _) _).setCell (Nat.le_refl _) _⟩
  simp [results, Tryd.results28, go_sem, c0, c1, c2]
set_option maxRecDepth 100000 in
theorem rdue_of {w : World} (bp : Option Addr) (sf o t k : Int) (b : Bool)
    (hF : ∀ W, Below w.heap.size w W → Calls Tryd.prog 28 #[.func (.func 29) #[.agg #[.pointer bp, .int .i64 sf]] #[]] W fun e w' => e = .returned (.tuple #[nV o t k, .bool b]) ∧ Below W.heap.size W w') :
    Calls Tryd.prog 7 #[.pointer bp, .int .i64 sf] w fun e w' => e = .returned (.tuple #[nV o t k, .bool b]) ∧ Below w.heap.size w w' := by
  have hmf : ∀ (fn : Fn) (first cap : Array Value) (w : World), (Instr.makeFunc fn first cap).run Tryd.prog w = .ok (.func fn first cap) w := fun _ _ _ _ => rfl
  have HF := Lib.hid hF
  clear hF
  unfold nV at HF ⊢
  have hb := ((Below.refl w.heap.size w).alloc (Nat.le_refl _) (.cells #[.int .i64 0, .int .i64 0, .int .i64 0] 24)).alloc (by simp) (.cells #[.pointer bp, .int .i64 sf] 74)
  have b0 := blk_old (blk_new w (.cells #[.int .i64 0, .int .i64 0, .int .i64 0] 24)) (.cells #[.pointer bp, .int .i64 sf] 74)
  have d0 := blk_cell (b1 w (.cells #[.int .i64 0, .int .i64 0, .int .i64 0] 24) (.cells #[.pointer bp, .int .i64 sf] 74))
  go_enter Tryd.func7, Tryd.ntmps7
  go_upto_region 2 with fail
  generalize World.alloc (World.alloc w _) _ = W at *
  have q0 := d0 0
  have q1 := d0 1
  clear d0
  have HB := Lib.hid hb
  have HR := Lib.hid b0
  clear hb b0
  go_wp2_with fail
  refine (HF.out _ HB.out).mono ?_
  rintro e w1 ⟨rfl, hB1⟩
  have r0 := blk_below' hB1 HR.out
  have c0 := blk_cell r0 0
  have c1 := blk_cell r0 1
  have c2 := blk_cell r0 2
  have f0 := blk_free r0 0
  have f1 := blk_free r0 1
  have f2 := blk_free r0 2
  have hb2 := below_then HB.out hB1
  clear r0 hB1 q0 q1
  go_wp2_with fail
  refine bodyPost_ret (v := .tuple #[.agg #[.int .i64 o, .int .i64 t, .int .i64 k], .bool b]) ?_ rfl ⟨rfl, ((hb2.setCell (Nat.le_refl _) _).setCell (Nat.le_refl _) _).setCell (Nat.le_refl _) _⟩
  simp [results, Tryd.results7, go_sem, c0, c1, c2]
/-- Due's answer. -/
theorem rdue_any {w : World} {B g cp : Nat} {R : List Nat} {a : Addr} (h : Tb w B g cp R) (hg : Gl a w) (sf : Int) :
    Calls Tryd.prog 7 #[.pointer (some ⟨B, 0, none⟩), .int .i64 sf] w fun e w' => e = .returned (.tuple #[dueV (dueN R sf) sf, .bool (dueN R sf).isSome]) ∧ Below w.heap.size w w' := by
  have hD : ∀ W, Below w.heap.size w W → Calls Tryd.prog 29 #[.agg #[.pointer (some ⟨B, 0, none⟩), .int .i64 sf]] W fun e w' => e = .returned (.tuple #[dueV (dueN R sf) sf, errV a (dueN R sf)]) ∧ Below W.heap.size W w' := fun W hW => due_any (h.below hW) (hg.of hW) sf
  cases hd : dueN R sf with
  | none =>
    rw [hd] at hD
    exact rdue_of _ sf 0 0 0 false fun W hW => found_no (hg.of hW) _ sf 0 0 0 fun X hX => hD X (below_then hW hX)
  | some r =>
    rw [hd] at hD
    exact rdue_of _ sf sf (tgN r : Nat) (kdN r : Nat) true fun W hW => found_yes (hg.of hW) _ sf _ _ _ fun X hX => hD X (below_then hW hX)
theorem rdue_nil {w : World} {a : Addr} (hg : Gl a w) (sf : Int) :
    Calls Tryd.prog 7 #[.pointer none, .int .i64 sf] w fun e w' => e = .returned (.tuple #[nV 0 0 0, .bool false]) ∧ Below w.heap.size w w' :=
  rdue_of _ sf 0 0 0 false fun W hW => found_no (hg.of hW) _ sf 0 0 0 fun X hX => due_nil (hg.of (below_then hW hX)) sf
end Go.Proofs.YtppmiggkknhdkaaDoor
namespace Go.Proofs.YtppmiggkknhdkaaDoor
set_option linter.unusedVariables false
set_option linter.unusedSimpArgs false
open Go.RowKit

/-- All but three blocks are as they were. -/
structure Ch3 (w w' : World) (b c g : Nat) : Prop where
  os : w'.os = w.os
  tape : w'.tape = w.tape
  output : w'.output = w.output
  size : w.heap.size ≤ w'.heap.size
  block : ∀ k, k < w.heap.size → k ≠ b → k ≠ c → k ≠ g → w'.heap[k]? = w.heap[k]?
theorem Ch3.two {w x : World} {b c : Nat} (h : Ch2 w x b c) (g : Nat) : Ch3 w x b c g := ⟨h.os, h.tape, h.output, h.size, fun k hk h1 h2 _ => h.block k hk h1 h2⟩
theorem Ch3.one {w x : World} {g : Nat} (h : w.grownBy x (some g)) (b c : Nat) : Ch3 w x b c g := ⟨h.1, h.2, h.3, h.4, fun k hk _ _ hne => h.5 k hk (by simpa using hne)⟩
theorem Ch3.below {w x : World} (h : Below w.heap.size w x) (b c g : Nat) : Ch3 w x b c g := Ch3.two (Ch2.below h b c) g
theorem Ch3.then {w x y : World} {b c g : Nat} (h : Ch3 w x b c g) (k : Ch3 x y b c g) : Ch3 w y b c g :=
  ⟨k.os.trans h.os, k.tape.trans h.tape, k.output.trans h.output, Nat.le_trans h.size k.size, fun j hj h1 h2 h3 => (k.block j (Nat.lt_of_lt_of_le hj h.size) h1 h2 h3).trans (h.block j hj h1 h2 h3)⟩
theorem Ch3.blk {w x : World} {b c g k : Nat} {o : Obj} (h : Ch3 w x b c g) (hk : w.heap[k]? = some o) (h1 : k ≠ b) (h2 : k ≠ c) (h3 : k ≠ g) : x.heap[k]? = some o := (h.block k (blk_lt hk) h1 h2 h3).trans hk
theorem Ch3.back {w x : World} {b c g : Nat} (h : Ch3 w x b c g) {B : Nat} {a : World} (ha : Below B a w) (hB : B ≤ w.heap.size) (h1 : B ≤ b) (h2 : B ≤ c) (h3 : B ≤ g) : Below B a x := by
  refine ⟨h.os.trans ha.os, h.tape.trans ha.tape, h.output.trans ha.output, Nat.le_trans ha.size h.size, fun k hk => ?_⟩
  rw [h.block k (Nat.lt_of_lt_of_le hk hB) (by omega) (by omega) (by omega)]
  exact ha.block k hk
/-- The frame of Defend: the result's box p0, the notice's box p. -/
structure DeS (w : World) (B g cp : Nat) (R : List Nat) (b c p : Nat) (o t k : Int) (W : World) : Prop where
  r : W.heap[w.heap.size]? = some (.cells #[.int .i64 0, .int .i64 0, .int .i64 0] 24 (0, 0))
  x : W.heap[p]? = some (.cells #[.int .i64 o, .int .i64 t, .int .i64 k] 24 (0, 0))
  book : Tb W B g cp R
  ch : Ch3 w W b c g
  p : w.heap.size < p
  lt : B < w.heap.size ∧ g < w.heap.size ∧ b < w.heap.size ∧ c < w.heap.size
  ne : b ≠ B ∧ b ≠ g ∧ c ≠ B ∧ c ≠ g
theorem DeS.chg {w W X : World} {B g cp : Nat} {R : List Nat} {b c p : Nat} {o t k : Int} (h : DeS w B g cp R b c p o t k W) (hc : Ch2 W X b c) : DeS w B g cp R b c p o t k X := by
  obtain ⟨l1, l2, l3, l4⟩ := h.lt
  obtain ⟨n1, n2, n3, n4⟩ := h.ne
  have hp := h.p
  refine ⟨hc.blk h.r (by omega) (by omega), hc.blk h.x (by omega) (by omega), ⟨hc.blk h.book.cell (by omega) (by omega), ?_, h.book.ne, h.book.le, h.book.n⟩, h.ch.then (Ch3.two hc g), h.p, h.lt, h.ne⟩
  obtain ⟨cap, sp, e, h1⟩ := h.book.list
  exact ⟨cap, sp, e, hc.blk h1 (by omega) (by omega)⟩
theorem DeS.turn {w W X : World} {B g cp : Nat} {R R' : List Nat} {b c p : Nat} {o t k : Int} (h : DeS w B g cp R b c p o t k W) (hg : W.grownBy X (some g)) (hT : Tb X B g cp R') : DeS w B g cp R' b c p o t k X := by
  obtain ⟨l1, l2, l3, l4⟩ := h.lt
  have hp := h.p
  exact ⟨blk_grown hg h.r (by simp; omega), blk_grown hg h.x (by simp; omega), hT, h.ch.then (Ch3.one hg b c), h.p, h.lt, h.ne⟩
theorem DeS.c3 {w W : World} {B g cp : Nat} {R : List Nat} {b c p : Nat} {o t k : Int} (h : DeS w B g cp R b c p o t k W) : Bx3 p o t k W ∧ (W.frozen? ⟨w.heap.size, 0, none⟩ = false ∧ W.frozen? ⟨w.heap.size, 1, none⟩ = false ∧ W.frozen? ⟨w.heap.size, 2, none⟩ = false) ∧ Bx3 w.heap.size 0 0 0 W :=
  ⟨⟨blk_cell h.x 0, blk_cell h.x 1, blk_cell h.x 2⟩, ⟨blk_free h.r 0, blk_free h.r 1, blk_free h.r 2⟩, ⟨blk_cell h.r 0, blk_cell h.r 1, blk_cell h.r 2⟩⟩
/-- The result's box is filled: nothing else turns. -/
theorem DeS.fill {w W : World} {B g cp : Nat} {R : List Nat} {b c p : Nat} {o t k : Int} (h : DeS w B g cp R b c p o t k W) (x y z : Value) :
    Tb (((W.setCell ⟨w.heap.size, 0, none⟩ x).setCell ⟨w.heap.size, 1, none⟩ y).setCell ⟨w.heap.size, 2, none⟩ z) B g cp R ∧ Ch3 w (((W.setCell ⟨w.heap.size, 0, none⟩ x).setCell ⟨w.heap.size, 1, none⟩ y).setCell ⟨w.heap.size, 2, none⟩ z) b c g ∧
    ∀ j, j < w.heap.size → (((W.setCell ⟨w.heap.size, 0, none⟩ x).setCell ⟨w.heap.size, 1, none⟩ y).setCell ⟨w.heap.size, 2, none⟩ z).heap[j]? = W.heap[j]? := by
  obtain ⟨l1, l2, l3, l4⟩ := h.lt
  have hl := blk_lt h.r
  have hg := but_set (but_set (but_set (but_refl W (some w.heap.size)) hl 0 x) hl 1 y) hl 2 z
  have hj : ∀ j, j < w.heap.size → (((W.setCell ⟨w.heap.size, 0, none⟩ x).setCell ⟨w.heap.size, 1, none⟩ y).setCell ⟨w.heap.size, 2, none⟩ z).heap[j]? = W.heap[j]? := fun j hj => hg.5 j (by omega) (by simp; omega)
  exact ⟨h.book.other hg (by omega) (by omega), ⟨hg.1.trans h.ch.os, hg.2.trans h.ch.tape, hg.3.trans h.ch.output, Nat.le_trans h.ch.size hg.4, fun k hk h1 h2 h3 => (hj k hk).trans (h.ch.block k hk h1 h2 h3)⟩, hj⟩
set_option maxRecDepth 100000 in
theorem defend_no {w : World} (bp : Option Addr) (sf : Int) (mp : Option Addr) (hD : ∀ W, Below w.heap.size w W → Calls Tryd.prog 7 #[.pointer bp, .int .i64 sf] W fun e w' => e = .returned (.tuple #[nV 0 0 0, .bool false]) ∧ Below W.heap.size W w') :
    Calls Tryd.prog 8 #[.pointer bp, .int .i64 sf, .pointer mp] w fun e w' => e = .returned (.tuple #[nV 0 0 0, .bool false, .int .i64 0]) ∧ Below w.heap.size w w' := by
  have HD := Lib.hid hD
  have r0 := blk_new w (.cells #[.int .i64 0, .int .i64 0, .int .i64 0] 24)
  have hb0 := (Below.refl w.heap.size w).alloc (Nat.le_refl _) (.cells #[.int .i64 0, .int .i64 0, .int .i64 0] 24)
  unfold nV at HD ⊢
  clear hD
  go_enter Tryd.func8, Tryd.ntmps8
  go_upto_region 1 with fail
  generalize World.alloc w _ = W at *
  have HB := Lib.hid hb0
  clear hb0
  go_wp2_with (go_at_call 7; refine (HD.out _ HB.out).mono ?_; rintro e w1 ⟨rfl, hB1⟩; have r1 := blk_old (blk_below' hB1 r0) (.cells #[.int .i64 0, .int .i64 0, .int .i64 0] 24); have c0 := blk_cell r1 0; have c1 := blk_cell r1 1; have c2 := blk_cell r1 2; have f0 := blk_free r1 0; have f1 := blk_free r1 1; have f2 := blk_free r1 2)
  have hb := (below_then HB.out hB1)
  refine bodyPost_ret (v := .tuple #[.agg #[.int .i64 0, .int .i64 0, .int .i64 0], .bool false, .int .i64 0]) ?_ rfl ⟨rfl, (((hb.alloc hb.size _).setCell (Nat.le_refl _) _).setCell (Nat.le_refl _) _).setCell (Nat.le_refl _) _⟩
  simp [results, Tryd.results8, go_sem, c0, c1, c2]
theorem defend_none {w : World} {B g cp : Nat} {R : List Nat} {a : Addr} (h : Tb w B g cp R) (hg : Gl a w) (sf : Int) (mp : Option Addr) (hd : dueN R sf = none) :
    Calls Tryd.prog 8 #[.pointer (some ⟨B, 0, none⟩), .int .i64 sf, .pointer mp] w fun e w' => e = .returned (.tuple #[nV 0 0 0, .bool false, .int .i64 0]) ∧ Below w.heap.size w w' :=
  defend_no _ sf mp fun W hW => by
    have := rdue_any (h.below hW) (hg.of hW) sf
    rwa [hd] at this
theorem defend_nil {w : World} {a : Addr} (hg : Gl a w) (sf : Int) (mp : Option Addr) :
    Calls Tryd.prog 8 #[.pointer none, .int .i64 sf, .pointer mp] w fun e w' => e = .returned (.tuple #[nV 0 0 0, .bool false, .int .i64 0]) ∧ Below w.heap.size w w' :=
  defend_no _ sf mp fun W hW => rdue_nil (hg.of hW) sf
set_option maxRecDepth 100000 in
theorem defend_some {w : World} {B g cp : Nat} {R : List Nat} {a : Addr} (h : Tb w B g cp R) (hg : Gl a w) (sf : Int) (mp : Option Addr) (r : Nat) (hd : dueN R sf = some r) (b c : Nat) (Q : Int → World → Prop)
    (hlt : b < w.heap.size ∧ c < w.heap.size) (hne : b ≠ B ∧ b ≠ g ∧ c ≠ B ∧ c ≠ g)
    (hR : ∀ W, Below w.heap.size w W → Calls Tryd.prog 30 #[.pointer mp, .int .i64 (tgN r : Nat)] W fun e w' => ∃ er : Int, e = .returned (.int .i64 er) ∧ Ch2 W w' b c ∧ Q er w')
    (hst : ∀ er W X, X.heap[b]? = W.heap[b]? → X.heap[c]? = W.heap[c]? → Q er W → Q er X) :
    Calls Tryd.prog 8 #[.pointer (some ⟨B, 0, none⟩), .int .i64 sf, .pointer mp] w fun e w' => ∃ er : Int, Q er w' ∧ Ch3 w w' b c g ∧
      ((er ≠ 0 ∧ e = .returned (.tuple #[nV 0 0 0, .bool false, .int .i64 er]) ∧ Tb w' B g cp R) ∨ (er = 0 ∧ e = .returned (.tuple #[nV sf (tgN r : Nat) (kdN r : Nat), .bool true, .int .i64 0]) ∧ Tb w' B g cp (R.set sf.toNat r))) := by
  have HD : Hid (∀ W, Below w.heap.size w W → Calls Tryd.prog 7 #[.pointer (some ⟨B, 0, none⟩), .int .i64 sf] W fun e w' => e = .returned (.tuple #[nV sf (tgN r : Nat) (kdN r : Nat), .bool true]) ∧ Below W.heap.size W w') := Lib.hid fun W hW => by
    have := rdue_any (h.below hW) (hg.of hW) sf
    rwa [hd] at this
  have r0 := blk_new w (.cells #[.int .i64 0, .int .i64 0, .int .i64 0] 24)
  have hb0 := (Below.refl w.heap.size w).alloc (Nat.le_refl _) (.cells #[.int .i64 0, .int .i64 0, .int .i64 0] 24)
  have HT0 := Lib.hid h
  have HLT := Lib.hid hlt
  have HNE := Lib.hid hne
  have HRS := Lib.hid hR
  have HST := Lib.hid hst
  unfold nV at HD ⊢
  have hir : ∃ i : Nat, sf = (i : Int) ∧ i < R.length ∧ R.getD i 0 < r ∧ r ≤ 2097153 := by
    unfold dueN at hd
    split at hd
    · rename_i hin
      split at hd
      · rename_i h2
        injection hd with hd
        obtain ⟨i, rfl⟩ : ∃ i : Nat, sf = (i : Int) := ⟨sf.toNat, by omega⟩
        obtain ⟨q, hq, hqd, hql⟩ := h.get (i := i) (by omega)
        rw [Int.toNat_natCast, hqd] at hd h2
        exact ⟨i, rfl, by omega, by omega, by unfold kdN tgN at h2; omega⟩
      · cases hd
    · cases hd
  obtain ⟨i, rfl, hi, hq, hr⟩ := hir
  have HI := Lib.hid hi
  have HRR := Lib.hid hr
  have HQ := Lib.hid hq
  clear h hg hd hlt hne hR hst hi hr hq
  go_enter Tryd.func8, Tryd.ntmps8
  go_upto_region 1 with fail
  generalize World.alloc w _ = W at *
  have HB := Lib.hid hb0
  clear hb0
  go_upto_region 4 with (go_at_call 7; refine (HD.out _ HB.out).mono ?_; rintro e w1 ⟨rfl, hB1⟩)
  have HS := Lib.hid (show DeS w B g cp R b c w1.heap.size (i : Int) (tgN r : Nat) (kdN r : Nat) (w1.alloc (.cells #[.int .i64 (i : Int), .int .i64 (tgN r : Nat), .int .i64 (kdN r : Nat)] 24)) from by
    have hb := below_then HB.out hB1
    have hb2 := hb.alloc hb.size (.cells #[.int .i64 (i : Int), .int .i64 (tgN r : Nat), .int .i64 (kdN r : Nat)] 24)
    exact ⟨blk_old (blk_below' hB1 r0) _, blk_new _ _, HT0.out.below hb2, Ch3.below hb2 _ _ _, blk_lt (blk_below' hB1 r0), ⟨HT0.out.lt.1, HT0.out.lt.2, HLT.out.1, HLT.out.2⟩, HNE.out⟩)
  have HBW := Lib.hid (show Below w.heap.size w (w1.alloc (.cells #[.int .i64 (i : Int), .int .i64 (tgN r : Nat), .int .i64 (kdN r : Nat)] 24)) from by have hb := below_then HB.out hB1; exact hb.alloc hb.size _)
  obtain ⟨p, hp⟩ : ∃ p, w1.heap.size = p := ⟨_, rfl⟩
  rw [hp] at HS
  (try rw [hp])
  clear hp hB1 r0
  generalize World.alloc w1 _ = W2 at *
  obtain ⟨⟨m0, m1, m2⟩, _⟩ := HS.out.c3
  go_upto_region 5 with (go_at_call 30; refine (HRS.out _ HBW.out).mono ?_; rintro e w3 ⟨er, rfl, hC, hQ⟩)
  have HS := Lib.hid (HS.out.chg hC)
  have HQ3 := Lib.hid hQ
  have HBC := Lib.hid (show b < w3.heap.size ∧ c < w3.heap.size from ⟨Nat.lt_of_lt_of_le HS.out.lt.2.2.1 HS.out.ch.size, Nat.lt_of_lt_of_le HS.out.lt.2.2.2 HS.out.ch.size⟩)
  clear hC hQ m0 m1 m2
  obtain ⟨⟨m0, m1, m2⟩, ⟨f0, f1, f2⟩, ⟨c0, c1, c2⟩⟩ := HS.out.c3
  by_cases her : er = 0
  · subst her
    clear c0 c1 c2 f0 f1 f2
    go_wp2_with fail
    refine (take_yes HS.out.book i r HI.out HRR.out).mono ?_
    rintro e w4 ⟨rfl, hT4, hg4⟩
    rw [show tkR R i r = R.set i r from if_pos HQ.out] at hT4
    have HS := Lib.hid (HS.out.turn hg4 hT4)
    have HQ4 := Lib.hid (HST.out 0 w3 w4 (hg4.5 b HBC.out.1 (by have := HNE.out; simp; omega)) (hg4.5 c HBC.out.2 (by have := HNE.out; simp; omega)) HQ3.out)
    clear hT4 hg4 m0 m1 m2
    obtain ⟨⟨m0, m1, m2⟩, ⟨f0, f1, f2⟩, ⟨c0, c1, c2⟩⟩ := HS.out.c3
    go_wp2_with fail
    obtain ⟨hf1, hf2, hf3⟩ := HS.out.fill (.int .i64 (i : Int)) (.int .i64 (tgN r : Nat)) (.int .i64 (kdN r : Nat))
    refine bodyPost_ret (v := .tuple #[.agg #[.int .i64 (i : Int), .int .i64 (tgN r : Nat), .int .i64 (kdN r : Nat)], .bool true, .int .i64 0]) ?_ rfl ⟨0, HST.out 0 w4 _ (hf3 b HS.out.lt.2.2.1) (hf3 c HS.out.lt.2.2.2) HQ4.out, hf2, .inr ⟨rfl, rfl, hf1⟩⟩
    simp [results, Tryd.results8, go_sem, c0, c1, c2]
  · have her2 : (er != 0) = true := by simpa using her
    go_wp2_with fail
    obtain ⟨hf1, hf2, hf3⟩ := HS.out.fill (.int .i64 0) (.int .i64 0) (.int .i64 0)
    refine bodyPost_ret (v := .tuple #[.agg #[.int .i64 0, .int .i64 0, .int .i64 0], .bool false, .int .i64 er]) ?_ rfl ⟨er, HST.out er w3 _ (hf3 b HS.out.lt.2.2.1) (hf3 c HS.out.lt.2.2.2) HQ3.out, hf2, .inl ⟨her, rfl, hf1⟩⟩
    simp [results, Tryd.results8, go_sem, c0, c1, c2]
end Go.Proofs.YtppmiggkknhdkaaDoor
namespace Go.Proofs.YtppmiggkknhdkaaDoor
set_option linter.unusedVariables false
set_option linter.unusedSimpArgs false
open Go.RowKit

def capR (n : Nat) : Nat := min (n + 16) 1099511627775
def capT (n : Nat) : Nat := min (n + 4) 1048576
def capZ (n : Nat) : Nat := min (n + 3) 1048576
set_option maxRecDepth 100000 in
theorem clo_open (nb rb : Nat) (x y z : Int) (l r t : Nat) (w : World) (hn : w.heap[nb]? = some (.cells #[.int .i64 x, .int .i64 y, .int .i64 z] 48 (0, 0))) (hr : w.heap[rb]? = some (.cells #[.int .i64 (l : Int), .int .i64 (r : Int), .int .i64 (t : Int)] 48 (0, 0)))
    (hne : ¬ nb = rb) (hl : l ≤ 1073741824) (hr2 : r ≤ 1099511627776) (ht : t ≤ 1048576) :
    Calls Tryd.prog 35 #[.pointer (some ⟨nb, 0, none⟩), .pointer (some ⟨rb, 0, none⟩)] w fun e w' => e = .returned (.tuple #[]) ∧ w'.heap[nb]? = some (.cells #[.int .i64 ((l + 1 : Nat) : Int), .int .i64 (capR r : Int), .int .i64 (capT t : Int)] 48 (0, 0)) ∧ w.grownBy w' (some nb) := by
  obtain ⟨x0, x1, x2, f0, f1, f2⟩ := blk3 hn
  obtain ⟨y0, y1, y2, g0, g1, g2⟩ := blk3 hr
  have hne2 : ¬ rb = nb := fun h => hne h.symm
  have hlt := blk_lt hn
  have l1 : (l : Int) ≤ 1073741824 := by omega
  have l2 : (r : Int) ≤ 1099511627776 := by omega
  have l3 : (t : Int) ≤ 1048576 := by omega
  have HS := Lib.hid (And.intro hl (And.intro hr2 ht))
  have HN := Lib.hid hn
  have HR := Lib.hid hr
  clear hl hr2 ht hn hr
  have m1 : (if (1099511627775 : Int) < (r : Int) + 16 then (1099511627775 : Int) else (r : Int) + 16) = (capR r : Int) := by unfold capR; split <;> omega
  have m2 : (if (1048576 : Int) < (t : Int) + 4 then (1048576 : Int) else (t : Int) + 4) = (capT t : Int) := by unfold capT; split <;> omega
  go_enter Tryd.func35, Tryd.ntmps35
  go_upto_region 1 with fail
  generalize hW1 : World.setCell (World.setCell (World.setCell w _ _) _ _) _ _ = W1
  have hn1 : W1.heap[nb]? = some (.cells #[.int .i64 (l : Int), .int .i64 (r : Int), .int .i64 (t : Int)] 48 (0, 0)) := by
    rw [← hW1]; exact blk_store (blk_store (blk_store HN.out 0 _) 1 _) 2 _
  have hg1 : w.grownBy W1 (some nb) := by
    rw [← hW1]; exact but_set (but_set (but_set (but_refl _ _) hlt _ _) hlt _ _) hlt _ _
  have hr1 : W1.heap[rb]? = some (.cells #[.int .i64 (l : Int), .int .i64 (r : Int), .int .i64 (t : Int)] 48 (0, 0)) := blk_grown hg1 HR.out (by simpa using hne2)
  clear hW1 x0 x1 x2 f0 f1 f2 y0 y1 y2 g0 g1 g2
  obtain ⟨x0, x1, x2, f0, f1, f2⟩ := blk3 hn1
  obtain ⟨y0, y1, y2, g0, g1, g2⟩ := blk3 hr1
  go_wp2_with fail
  go_end0
  have k3 := blk_store (blk_store (blk_store hn1 0 (.int .i64 ((l : Int) + 1))) 1 (.int .i64 (capR r : Int))) 2 (.int .i64 (capT t : Int))
  exact ⟨rfl, k3, but_set (but_set (but_set hg1 hlt _ _) hlt _ _) hlt _ _⟩
set_option maxRecDepth 100000 in
theorem clo_raise (nb tb : Nat) (x y z t : Nat) (w : World) (hn : w.heap[nb]? = some (.cells #[.int .i64 (x : Int), .int .i64 (y : Int), .int .i64 (z : Int)] 48 (0, 0))) (ht : w.heap[tb]? = some (.cells #[.int .i64 (t : Int)] 3 (0, 0))) (hne : ¬ nb = tb) (ht2 : t ≤ 1048576) :
    Calls Tryd.prog 50 #[.pointer (some ⟨nb, 0, none⟩), .pointer (some ⟨tb, 0, none⟩)] w fun e w' => e = .returned (.tuple #[]) ∧ w'.heap[nb]? = some (.cells #[.int .i64 (x : Int), .int .i64 (y : Int), .int .i64 (capZ t : Int)] 48 (0, 0)) ∧ w.grownBy w' (some nb) := by
  obtain ⟨x0, x1, x2, f0, f1, f2⟩ := blk3 hn
  have y0 : w.cell? ⟨tb, 0, none⟩ = some (.int .i64 (t : Int)) := (blk_cell ht 0).trans rfl
  have hlt := blk_lt hn
  have l2 : (t : Int) ≤ 1048576 := by omega
  have m1 : (if (1048576 : Int) < (t : Int) + 4 - 1 then (1048576 : Int) else (t : Int) + 4 - 1) = (capZ t : Int) := by unfold capZ; split <;> omega
  have HN := Lib.hid hn
  clear hn ht2 ht
  go_enter Tryd.func50, Tryd.ntmps50
  go_wp2_with fail
  go_end0
  exact ⟨rfl, blk_store HN.out 2 (.int .i64 (capZ t : Int)), but_set (but_refl _ _) hlt _ _⟩
def resV (B : Bt) : Value := .agg #[.int .i64 (B.life : Int), .int .i64 (B.kround : Int), .int .i64 (B.ktag : Int), .int .i64 (B.round : Int), .int .i64 (B.tag : Int)]
theorem covers_any (B : Bt) (t : Nat) (w : World) : Calls Tryd.prog 49 #[resV B, .int .i64 (t : Int)] w fun e w' => e = .returned (.bool (decide (t ≤ B.ktag))) ∧ Below w.heap.size w w' := by
  unfold resV
  have hal : Below w.heap.size w (w.alloc (.cells #[.int .i64 (B.life : Int), .int .i64 (B.kround : Int), .int .i64 (B.ktag : Int), .int .i64 (B.round : Int), .int .i64 (B.tag : Int)] 85)) := (Below.refl _ w).alloc (Nat.le_refl _) _
  by_cases h : t ≤ B.ktag
  · have h2 : (t : Int) ≤ (B.ktag : Int) := by omega
    rw [decide_eq_true h]
    clear h
    go_enter Tryd.func49, Tryd.ntmps49
    go_wp2_with fail
    go_ret
    exact ⟨rfl, hal⟩
  · have h2 : ¬ (t : Int) ≤ (B.ktag : Int) := by omega
    rw [decide_eq_false h]
    clear h
    go_enter Tryd.func49, Tryd.ntmps49
    go_wp2_with fail
    go_ret
    exact ⟨rfl, hal⟩
theorem bon_any (b c : Nat) (B : Bt) (d : Dk) (w : World) (h : BtAt w b c B d) : Calls Tryd.prog 48 #[.pointer (some ⟨b, 0, none⟩)] w fun e w' => e = .returned (.int .i64 (if d.off then 100 else 0)) ∧ Below w.heap.size w w' := by
  obtain ⟨⟨c0, c1, c2, c3, c4, c5⟩, _⟩ := h.boot.cells
  have HO := Lib.hid (on_any c d w h.disk)
  clear h
  cases ho : d.off with
  | true =>
    rw [ho] at HO
    go_enter Tryd.func48, Tryd.ntmps48
    go_wp2_with (go_at_call 64; refine HO.out.mono ?_; rintro e w1 ⟨rfl, hB1⟩)
    go_ret
    exact ⟨rfl, hB1⟩
  | false =>
    rw [ho] at HO
    go_enter Tryd.func48, Tryd.ntmps48
    go_wp2_with (go_at_call 64; refine HO.out.mono ?_; rintro e w1 ⟨rfl, hB1⟩)
    go_ret
    exact ⟨rfl, hB1⟩
theorem tag_eq (b : Nat) (B : Bt) (dk : Option Addr) (w : World) (h : BtB w b B dk) : Calls Tryd.prog 16 #[.pointer (some ⟨b, 0, none⟩)] w fun e w' => e = .returned (.int .i64 (B.tag : Int)) ∧ w' = w := by
  obtain ⟨⟨c0, c1, c2, c3, c4, c5⟩, _⟩ := h.cells
  clear h
  go_enter Tryd.func16, Tryd.ntmps16
  go_wp2_with fail
  go_ret
  exact ⟨rfl, rfl⟩
end Go.Proofs.YtppmiggkknhdkaaDoor
namespace Go.Proofs.YtppmiggkknhdkaaDoor
set_option linter.unusedVariables false
set_option linter.unusedSimpArgs false
open Go.RowKit

theorem durable_any (b : Nat) (B : Bt) (dk : Option Addr) (w : World) (h : BtB w b B dk) : Calls Tryd.prog 17 #[.pointer (some ⟨b, 0, none⟩)] w fun e w' => e = .returned (recV B.life B.kround B.ktag) ∧ Below w.heap.size w w' := by
  have hal : Below w.heap.size w (w.alloc (.cells #[.int .i64 0, .int .i64 0, .int .i64 0] 48)) := (Below.refl _ w).alloc (Nat.le_refl _) _
  have hn := box3 w (.int .i64 0) (.int .i64 0) (.int .i64 0) 48
  have h1 := h.below hal
  have hne : ¬ b = w.heap.size := by have := blk_lt h; omega
  clear h
  unfold recV
  go_enter Tryd.func17, Tryd.ntmps17
  go_upto_region 1 with fail
  generalize World.alloc w _ = W1 at *
  obtain ⟨⟨c0, c1, c2, c3, c4, c5⟩, _⟩ := h1.cells
  obtain ⟨z0, z1, z2, f0, f1, f2⟩ := blk3 hn
  go_wp2_with fail
  generalize hWF : World.setCell (World.setCell (World.setCell _ _ _) _ _) _ _ = WF
  have hfb : WF.heap[w.heap.size]? = some (.cells #[.int .i64 (B.life : Int), .int .i64 (B.kround : Int), .int .i64 (B.ktag : Int)] 48 (0, 0)) := by
    rw [← hWF]; exact blk_store (blk_store (blk_store hn 0 _) 1 _) 2 _
  have hfl : Below w.heap.size w WF := by
    rw [← hWF]; exact ((hal.setCell (Nat.le_refl _) _).setCell (Nat.le_refl _) _).setCell (Nat.le_refl _) _
  obtain ⟨y0, y1, y2, _⟩ := blk3 hfb
  exact bodyPost_ret (v := .agg #[.int .i64 (B.life : Int), .int .i64 (B.kround : Int), .int .i64 (B.ktag : Int)]) (by simp [results, Tryd.results17, go_sem, y0, y1, y2]) rfl ⟨rfl, hfl⟩
theorem clo_open' (nb rb : Nat) (x y z : Int) (l r t l1 : Nat) (w : World) (hn : w.heap[nb]? = some (.cells #[.int .i64 x, .int .i64 y, .int .i64 z] 48 (0, 0))) (hr : w.heap[rb]? = some (.cells #[.int .i64 (l : Int), .int .i64 (r : Int), .int .i64 (t : Int)] 48 (0, 0)))
    (hne : ¬ nb = rb) (hl : l ≤ 1073741824) (hr2 : r ≤ 1099511627776) (ht : t ≤ 1048576) (hl1 : l1 = l + 1) :
    Calls Tryd.prog 35 #[.pointer (some ⟨nb, 0, none⟩), .pointer (some ⟨rb, 0, none⟩)] w fun e w' => e = .returned (.tuple #[]) ∧ w'.heap[nb]? = some (.cells #[.int .i64 (l1 : Int), .int .i64 (capR r : Int), .int .i64 (capT t : Int)] 48 (0, 0)) ∧ w.grownBy w' (some nb) := by
  subst hl1
  exact clo_open nb rb x y z l r t w hn hr hne hl hr2 ht
def svB (B : Bt) (x y z : Nat) (er : Int) : Bt := if er = 0 then { B with life := x, kround := y, ktag := z } else B
theorem svB_ok (B : Bt) (x y z : Nat) : svB B x y z 0 = { B with life := x, kround := y, ktag := z } := if_pos rfl
theorem svB_no (B : Bt) (x y z : Nat) {er : Int} (h : er ≠ 0) : svB B x y z er = B := if_neg h
set_option maxRecDepth 100000 in
set_option maxHeartbeats 1000000 in
theorem save_open (b c : Nat) (B : Bt) (d : Dk) (rb l r t l1 : Nat) (w : World) (h : BtAt w b c B d) (hr : w.heap[rb]? = some (.cells #[.int .i64 (l : Int), .int .i64 (r : Int), .int .i64 (t : Int)] 48 (0, 0))) (hl : l ≤ 1073741824) (hr2 : r ≤ 1099511627776) (ht : t ≤ 1048576) (hl1 : l1 = l + 1) (hlt : ∀ c ∈ d.bs, c < 256) (hw : d.writes ≤ 4611686018427387903) (hfu : d.fuse ≤ 9223372036854775807) :
    Calls Tryd.prog 34 #[.pointer (some ⟨b, 0, none⟩), .func (.func 35) #[] #[.pointer (some ⟨rb, 0, none⟩)]] w fun e w' =>
      e = .returned (.int .i64 (saveW d l1 (capR r) (capT t)).2) ∧ BtAt w' b c (svB B l1 (capR r) (capT t) (saveW d l1 (capR r) (capT t)).2) (saveW d l1 (capR r) (capT t)).1 ∧ Ch2 w w' b c := by
  obtain ⟨⟨c0, c1, c2, c3, c4, c5⟩, _⟩ := h.boot.cells
  obtain ⟨W1, hW1⟩ : ∃ W1, w.alloc (.cells #[.int .i64 (B.life : Int), .int .i64 (B.kround : Int), .int .i64 (B.ktag : Int)] 48) = W1 := ⟨_, rfl⟩
  have hal : Below w.heap.size w W1 := by rw [← hW1]; exact (Below.refl _ w).alloc (Nat.le_refl _) _
  have hn1 : W1.heap[w.heap.size]? = some (.cells #[.int .i64 (B.life : Int), .int .i64 (B.kround : Int), .int .i64 (B.ktag : Int)] 48 (0, 0)) := by rw [← hW1]; exact box3 w (.int .i64 (B.life : Int)) (.int .i64 (B.kround : Int)) (.int .i64 (B.ktag : Int)) 48
  have h1 := h.below hal
  have hbl := blk_lt h.boot
  have hcl := h.disk.lt
  have hrb := blk_below' hal hr; have HL1 := Lib.hid hl1; clear hl1
  have HSZ := Lib.hid (And.intro hlt (And.intro hw hfu))
  clear hlt hw hfu
  go_enter Tryd.func34, Tryd.ntmps34
  go_wp2_with fail
  refine (clo_open' w.heap.size rb B.life B.kround B.ktag l r t l1 W1 hn1 hrb (by have := blk_lt hr; omega) hl hr2 ht HL1.out).mono ?_
  rintro e w2 ⟨rfl, hn2, hg2⟩
  have hb2 : Below w.heap.size w w2 := hal.grown hg2 hal.size (fun j h => by cases h; exact Nat.le_refl _)
  have h2 := h.below hb2
  obtain ⟨⟨y0, y1, y2, y3, y4, y5⟩, _⟩ := h2.boot.cells
  obtain ⟨x0, x1, x2, _⟩ := blk3 hn2
  clear hg2 h1 hn1 hW1 hal c0 c1 c2 c3 c4 c5
  go_wp2_with fail
  refine wp_region_still_tail 5 (by kernel_rfl) (by kernel_rfl) ?_
  simp only [List.take_succ_cons, List.take_zero, List.drop_succ_cons, List.drop_zero]
  repeat still_step
  try refine wpStill_nil ?_
  change wpList _ _ _ _ _ w2.drew
  have h3 : BtAt w2.drew b c B d := ⟨h2.boot, h2.disk, h2.ne⟩
  have hb3 := hb2.drew
  have hn3 : w2.drew.heap[w.heap.size]? = _ := hn2
  clear h2 hb2 hn2 x0 x1 x2 y0 y1 y2 y3 y4 y5
  generalize w2.drew = W3 at *
  have HSV := Lib.hid (save_any c d (l1 : Nat) ((capR r) : Nat) ((capT t) : Nat) W3 h3.disk HSZ.out.1 HSZ.out.2.1 HSZ.out.2.2)
  unfold recV at HSV
  obtain ⟨D, hDe⟩ : ∃ D, saveW d (l1 : Nat) ((capR r) : Nat) ((capT t) : Nat) = D := ⟨_, rfl⟩
  rw [hDe] at HSV
  have HDE := Lib.hid hDe
  clear hDe
  obtain ⟨d', er⟩ := D
  simp only at HSV
  by_cases her : er = 0
  · subst her
    go_wp2_with (go_at_call 54; refine HSV.out.mono ?_; rintro e w4 ⟨rfl, hD4, hg4⟩; have h4 := h3.turn hg4 hD4; obtain ⟨x0, x1, x2, _⟩ := blk3 (blk_grown hg4 hn3 (by simp; omega)); obtain ⟨⟨y0, y1, y2, y3, y4, y5⟩, ⟨f0, f1, f2, f3, f4⟩⟩ := h4.boot.cells; have hb4 := (Ch2.below hb3 b c).then (Ch2.two hg4 b); have hbl4 := blk_lt h4.boot)
    go_ret
    rw [HDE.out, svB_ok]
    exact ⟨rfl, h4.setRec _ _ _, hb4.then (Ch2.one (but_set (but_set (but_set (but_refl _ _) hbl4 _ _) hbl4 _ _) hbl4 _ _) c)⟩
  · have hne : (er != 0) = true := by simpa using her
    have HER := Lib.hid her
    clear her
    go_wp2_with (go_at_call 54; refine HSV.out.mono ?_; rintro e w4 ⟨rfl, hD4, hg4⟩)
    go_ret
    rw [HDE.out, svB_no _ _ _ _ HER.out]
    exact ⟨rfl, h3.turn hg4 hD4, (Ch2.below hb3 b c).then (Ch2.two hg4 b)⟩
set_option maxRecDepth 100000 in
set_option maxHeartbeats 1000000 in
theorem save_raise (b c : Nat) (B : Bt) (d : Dk) (tb t : Nat) (w : World) (h : BtAt w b c B d) (ht : w.heap[tb]? = some (.cells #[.int .i64 (t : Int)] 3 (0, 0))) (ht2 : t ≤ 1048576) (hlt : ∀ c ∈ d.bs, c < 256) (hw : d.writes ≤ 4611686018427387903) (hfu : d.fuse ≤ 9223372036854775807) :
    Calls Tryd.prog 34 #[.pointer (some ⟨b, 0, none⟩), .func (.func 50) #[] #[.pointer (some ⟨tb, 0, none⟩)]] w fun e w' =>
      e = .returned (.int .i64 (saveW d B.life B.kround (capZ t)).2) ∧ BtAt w' b c (svB B B.life B.kround (capZ t) (saveW d B.life B.kround (capZ t)).2) (saveW d B.life B.kround (capZ t)).1 ∧ Ch2 w w' b c := by
  obtain ⟨⟨c0, c1, c2, c3, c4, c5⟩, _⟩ := h.boot.cells
  obtain ⟨W1, hW1⟩ : ∃ W1, w.alloc (.cells #[.int .i64 (B.life : Int), .int .i64 (B.kround : Int), .int .i64 (B.ktag : Int)] 48) = W1 := ⟨_, rfl⟩
  have hal : Below w.heap.size w W1 := by rw [← hW1]; exact (Below.refl _ w).alloc (Nat.le_refl _) _
  have hn1 : W1.heap[w.heap.size]? = some (.cells #[.int .i64 (B.life : Int), .int .i64 (B.kround : Int), .int .i64 (B.ktag : Int)] 48 (0, 0)) := by rw [← hW1]; exact box3 w (.int .i64 (B.life : Int)) (.int .i64 (B.kround : Int)) (.int .i64 (B.ktag : Int)) 48
  have h1 := h.below hal
  have hbl := blk_lt h.boot
  have hcl := h.disk.lt
  have htb := blk_below' hal ht
  have HSZ := Lib.hid (And.intro hlt (And.intro hw hfu))
  clear hlt hw hfu
  go_enter Tryd.func34, Tryd.ntmps34
  go_wp2_with fail
  refine (clo_raise w.heap.size tb B.life B.kround B.ktag t W1 hn1 htb (by have := blk_lt ht; omega) ht2).mono ?_
  rintro e w2 ⟨rfl, hn2, hg2⟩
  have hb2 : Below w.heap.size w w2 := hal.grown hg2 hal.size (fun j h => by cases h; exact Nat.le_refl _)
  have h2 := h.below hb2
  obtain ⟨⟨y0, y1, y2, y3, y4, y5⟩, _⟩ := h2.boot.cells
  obtain ⟨x0, x1, x2, _⟩ := blk3 hn2
  clear hg2 h1 hn1 hW1 hal c0 c1 c2 c3 c4 c5
  go_wp2_with fail
  refine wp_region_still_tail 5 (by kernel_rfl) (by kernel_rfl) ?_
  simp only [List.take_succ_cons, List.take_zero, List.drop_succ_cons, List.drop_zero]
  repeat still_step
  try refine wpStill_nil ?_
  change wpList _ _ _ _ _ w2.drew
  have h3 : BtAt w2.drew b c B d := ⟨h2.boot, h2.disk, h2.ne⟩
  have hb3 := hb2.drew
  have hn3 : w2.drew.heap[w.heap.size]? = _ := hn2
  clear h2 hb2 hn2 x0 x1 x2 y0 y1 y2 y3 y4 y5
  generalize w2.drew = W3 at *
  have HSV := Lib.hid (save_any c d (B.life : Nat) (B.kround : Nat) ((capZ t) : Nat) W3 h3.disk HSZ.out.1 HSZ.out.2.1 HSZ.out.2.2)
  unfold recV at HSV
  obtain ⟨D, hDe⟩ : ∃ D, saveW d (B.life : Nat) (B.kround : Nat) ((capZ t) : Nat) = D := ⟨_, rfl⟩
  rw [hDe] at HSV
  have HDE := Lib.hid hDe
  clear hDe
  obtain ⟨d', er⟩ := D
  simp only at HSV
  by_cases her : er = 0
  · subst her
    go_wp2_with (go_at_call 54; refine HSV.out.mono ?_; rintro e w4 ⟨rfl, hD4, hg4⟩; have h4 := h3.turn hg4 hD4; obtain ⟨x0, x1, x2, _⟩ := blk3 (blk_grown hg4 hn3 (by simp; omega)); obtain ⟨⟨y0, y1, y2, y3, y4, y5⟩, ⟨f0, f1, f2, f3, f4⟩⟩ := h4.boot.cells; have hb4 := (Ch2.below hb3 b c).then (Ch2.two hg4 b); have hbl4 := blk_lt h4.boot)
    go_ret
    rw [HDE.out, svB_ok]
    exact ⟨rfl, h4.setRec _ _ _, hb4.then (Ch2.one (but_set (but_set (but_set (but_refl _ _) hbl4 _ _) hbl4 _ _) hbl4 _ _) c)⟩
  · have hne : (er != 0) = true := by simpa using her
    have HER := Lib.hid her
    clear her
    go_wp2_with (go_at_call 54; refine HSV.out.mono ?_; rintro e w4 ⟨rfl, hD4, hg4⟩)
    go_ret
    rw [HDE.out, svB_no _ _ _ _ HER.out]
    exact ⟨rfl, h3.turn hg4 hD4, (Ch2.below hb3 b c).then (Ch2.two hg4 b)⟩
end Go.Proofs.YtppmiggkknhdkaaDoor
namespace Go.Proofs.YtppmiggkknhdkaaDoor
set_option linter.unusedVariables false
set_option linter.unusedSimpArgs false
open Go.RowKit

theorem open_off (c : Nat) (d : Dk) (w : World) (h : DkAt w c d) (hlt : ∀ c ∈ d.bs, c < 256) (ho : d.off = true) :
    Calls Tryd.prog 14 #[.pointer (some ⟨c, 0, none⟩)] w fun e w' => e = .returned (.tuple #[.pointer none, .int .i64 100]) ∧ Below w.heap.size w w' := by
  have hl := loadA_off ho
  unfold recV at hl
  have HL := Lib.hid hl
  clear hl
  go_enter Tryd.func14, Tryd.ntmps14
  go_wp2_with fail
  refine (load_any c d w h hlt).mono ?_
  rintro e w1 ⟨rfl, hB1⟩
  rw [HL.out]
  go_wp2_with fail
  go_ret2
  exact ⟨rfl, hB1.alloc hB1.size _⟩
theorem open_end (c : Nat) (d : Dk) (w : World) (h : DkAt w c d) (hlt : ∀ c ∈ d.bs, c < 256) (r t s : Int) (hl : loadA d = .tuple #[recV 1073741824 r t, .int .i64 s, .int .i64 0]) :
    Calls Tryd.prog 14 #[.pointer (some ⟨c, 0, none⟩)] w fun e w' => e = .returned (.tuple #[.pointer none, .int .i64 120]) ∧ Below w.heap.size w w' := by
  unfold recV at hl
  have HL := Lib.hid hl
  clear hl
  go_enter Tryd.func14, Tryd.ntmps14
  go_wp2_with fail
  refine (load_any c d w h hlt).mono ?_
  rintro e w1 ⟨rfl, hB1⟩
  rw [HL.out]
  go_wp2_with fail
  go_ret2
  exact ⟨rfl, hB1.alloc hB1.size _⟩
/-- What Open leaves, of a disk and of what the save did. -/
def OpenPost (w : World) (c : Nat) (B : Bt) (D : Dk × Int) (e : Ending) (w' : World) : Prop :=
  (D.2 = 0 → ∃ b, e = .returned (.tuple #[.pointer (some ⟨b, 0, none⟩), .int .i64 0]) ∧ w.heap.size ≤ b ∧ BtAt w' b c B D.1) ∧
  (D.2 ≠ 0 → e = .returned (.tuple #[.pointer none, .int .i64 D.2]) ∧ DkAt w' c D.1) ∧ w.grownBy w' (some c)
set_option maxRecDepth 100000 in
set_option maxHeartbeats 1000000 in
theorem open_some (c : Nat) (d : Dk) (w : World) (h : DkAt w c d) (hlt : ∀ c ∈ d.bs, c < 256) (hw : d.writes ≤ 4611686018427387903) (hfu : d.fuse ≤ 9223372036854775807) (l r t l1 : Nat) (s : Int)
    (hl : loadA d = .tuple #[recV l r t, .int .i64 s, .int .i64 0]) (hl1 : l1 = l + 1) (hne : l ≠ 1073741824) (hle : l ≤ 1073741824) (hr : r ≤ 1099511627776) (ht : t ≤ 1048576) :
    Calls Tryd.prog 14 #[.pointer (some ⟨c, 0, none⟩)] w fun e w' => OpenPost w c ⟨l1, capR r, capT t, r, t⟩ (saveW d l1 (capR r) (capT t)) e w' := by
  unfold recV at hl
  have HL := Lib.hid hl
  have hneb : ((l : Int) == 1073741824) = false := by simp; omega
  have HSZ := Lib.hid (And.intro hlt (And.intro hw (And.intro hfu (And.intro hle (And.intro hr (And.intro ht hl1))))))
  obtain ⟨D, hDe⟩ : ∃ D, saveW d l1 (capR r) (capT t) = D := ⟨_, rfl⟩
  rw [hDe]
  have HDE := Lib.hid hDe
  clear hDe
  clear hl hne hle hr ht hl1 hw hfu
  go_enter Tryd.func14, Tryd.ntmps14
  go_wp2_with fail
  refine (load_any c d w h hlt).mono ?_
  rintro e w1 ⟨rfl, hB1⟩
  rw [HL.out]
  clear hlt
  obtain ⟨W2, hW2⟩ : ∃ W2, w1.alloc (.cells #[.int .i64 (l : Int), .int .i64 (r : Int), .int .i64 (t : Int)] 48) = W2 := ⟨_, rfl⟩
  have hal : Below w1.heap.size w1 W2 := by rw [← hW2]; exact (Below.refl _ _).alloc (Nat.le_refl _) _
  have hr2 : W2.heap[w1.heap.size]? = some (.cells #[.int .i64 (l : Int), .int .i64 (r : Int), .int .i64 (t : Int)] 48 (0, 0)) := by rw [← hW2]; exact box3 w1 (.int .i64 (l : Int)) (.int .i64 (r : Int)) (.int .i64 (t : Int)) 48
  have hb2 := below_then hB1 hal
  have hd2 := h.below hb2
  obtain ⟨W3, hW3⟩ : ∃ W3, W2.alloc (.cells #[.int .i64 0, .int .i64 0, .int .i64 0, .int .i64 (r : Int), .int .i64 (t : Int), .pointer (some ⟨c, 0, none⟩)] 87) = W3 := ⟨_, rfl⟩
  have hal3 : Below W2.heap.size W2 W3 := by rw [← hW3]; exact (Below.refl _ _).alloc (Nat.le_refl _) _
  have hbt : BtAt W3 W2.heap.size c ⟨0, 0, 0, r, t⟩ d := ⟨by unfold BtB; rw [← hW3]; exact blk_new W2 _, hd2.below hal3, by have := hd2.lt; omega⟩
  have hr3 := blk_below' hal3 hr2
  have hb3 := below_then hb2 hal3
  have HSV := Lib.hid (save_open W2.heap.size c ⟨0, 0, 0, r, t⟩ d w1.heap.size l r t l1 W3 hbt hr3 HSZ.out.2.2.2.1 HSZ.out.2.2.2.2.1 HSZ.out.2.2.2.2.2.1 HSZ.out.2.2.2.2.2.2 HSZ.out.1 HSZ.out.2.1 HSZ.out.2.2.1)
  rw [HDE.out] at HSV
  have hmf : ∀ (fn : Fn) (first cap : Array Value) (w : World), (Instr.makeFunc fn first cap).run Tryd.prog w = .ok (.func fn first cap) w := fun _ _ _ _ => rfl
  obtain ⟨x0, x1, x2, _⟩ := blk3 hr2
  have hsz : w.heap.size ≤ W2.heap.size := hb2.size
  clear hd2 hal h hal3 hbt hr3 hr2 hB1
  obtain ⟨d', er⟩ := D
  simp only at HSV
  by_cases her : er = 0
  · subst her
    go_wp2_with (go_at_call 34; refine HSV.out.mono ?_; rintro e w4 ⟨rfl, hT4, hC4⟩)
    go_ret2
    rw [svB_ok] at hT4
    exact ⟨fun _ => ⟨_, rfl, hsz, hT4⟩, fun h => absurd rfl h, ((Ch2.below hb3 _ _).then hC4).of_new hsz⟩
  · have hne : (er != 0) = true := by simpa using her
    have HER := Lib.hid her
    clear her
    go_wp2_with (go_at_call 34; refine HSV.out.mono ?_; rintro e w4 ⟨rfl, hT4, hC4⟩)
    go_ret2
    exact ⟨fun h => absurd h HER.out, fun _ => ⟨rfl, hT4.disk⟩, ((Ch2.below hb3 _ _).then hC4).of_new hsz⟩
set_option maxRecDepth 100000 in
set_option maxHeartbeats 1000000 in
theorem open_none (c : Nat) (d : Dk) (w : World) (h : DkAt w c d) (hlt : ∀ c ∈ d.bs, c < 256) (hw : d.writes ≤ 4611686018427387903) (hfu : d.fuse ≤ 9223372036854775807)
    (hl : loadA d = .tuple #[recV 0 0 0, .int .i64 0, .int .i64 40]) :
    Calls Tryd.prog 14 #[.pointer (some ⟨c, 0, none⟩)] w fun e w' => OpenPost w c ⟨1, capR 0, capT 0, 0, 0⟩ (saveW d ((1 : Nat) : Int) (capR 0 : Nat) (capT 0 : Nat)) e w' := by
  unfold recV at hl
  have HL := Lib.hid hl
  have HSZ := Lib.hid (And.intro hlt (And.intro hw hfu))
  obtain ⟨D, hDe⟩ : ∃ D, saveW d ((1 : Nat) : Int) (capR 0 : Nat) (capT 0 : Nat) = D := ⟨_, rfl⟩
  rw [hDe]
  obtain ⟨B, hB⟩ : ∃ B : Bt, B = ⟨1, capR 0, capT 0, 0, 0⟩ := ⟨_, rfl⟩
  rw [← hB]
  have HDE := Lib.hid hDe
  have HBB := Lib.hid hB
  clear hDe hB
  clear hl hw hfu
  go_enter Tryd.func14, Tryd.ntmps14
  go_wp2_with fail
  refine (load_any c d w h hlt).mono ?_
  rintro e w1 ⟨rfl, hB1⟩
  rw [HL.out]
  clear hlt
  obtain ⟨d', er⟩ := D
  go_upto_region 9 with fail
  have hal : Below w1.heap.size w1 (w1.alloc (.cells #[.int .i64 0, .int .i64 0, .int .i64 0] 48)) := (Below.refl _ _).alloc (Nat.le_refl _) _
  have hr2 := box3 w1 (.int .i64 0) (.int .i64 0) (.int .i64 0) 48
  have hn3 := b1' w1 (.cells #[.int .i64 0, .int .i64 0, .int .i64 0] 48) (.cells #[.int .i64 0, .int .i64 0, .int .i64 0, .int .i64 0, .int .i64 0, .pointer (some ⟨c, 0, none⟩)] 87)
  have hal3 : Below w1.heap.size w1 ((w1.alloc (.cells #[.int .i64 0, .int .i64 0, .int .i64 0] 48)).alloc (.cells #[.int .i64 0, .int .i64 0, .int .i64 0, .int .i64 0, .int .i64 0, .pointer (some ⟨c, 0, none⟩)] 87)) := hal.alloc (by simp) _
  have hr3 := blk_old hr2 (.cells #[.int .i64 0, .int .i64 0, .int .i64 0, .int .i64 0, .int .i64 0, .pointer (some ⟨c, 0, none⟩)] 87)
  generalize World.alloc (World.alloc w1 _) _ = W3 at *
  have hb3 := below_then hB1 hal3
  have hbt : BtAt W3 (w1.heap.size + 1) c ⟨0, 0, 0, 0, 0⟩ d := ⟨hn3, h.below hb3, by have := h.lt; have := hB1.size; omega⟩
  have HSV := Lib.hid (save_open (w1.heap.size + 1) c ⟨0, 0, 0, 0, 0⟩ d w1.heap.size 0 0 0 1 W3 hbt hr3 (by decide) (by decide) (by decide) rfl HSZ.out.1 HSZ.out.2.1 HSZ.out.2.2)
  rw [HDE.out] at HSV
  have hsz : w.heap.size ≤ w1.heap.size + 1 := by have := hB1.size; omega
  have hmf : ∀ (fn : Fn) (first cap : Array Value) (w : World), (Instr.makeFunc fn first cap).run Tryd.prog w = .ok (.func fn first cap) w := fun _ _ _ _ => rfl
  simp only at HSV
  clear hal hr2 hn3 hal3 hr3 hbt h hB1
  by_cases her : er = 0
  · subst her
    go_wp2_with (go_at_call 34; refine HSV.out.mono ?_; rintro e w4 ⟨rfl, hT4, hC4⟩)
    go_ret2
    rw [svB_ok] at hT4
    exact ⟨fun _ => ⟨_, rfl, hsz, by rw [HBB.out]; exact hT4⟩, fun h => absurd rfl h, ((Ch2.below hb3 _ _).then hC4).of_new hsz⟩
  · have hne : (er != 0) = true := by simpa using her
    have HER := Lib.hid her
    clear her
    go_wp2_with (go_at_call 34; refine HSV.out.mono ?_; rintro e w4 ⟨rfl, hT4, hC4⟩)
    go_ret2
    exact ⟨fun h => absurd h HER.out, fun _ => ⟨rfl, hT4.disk⟩, ((Ch2.below hb3 _ _).then hC4).of_new hsz⟩
end Go.Proofs.YtppmiggkknhdkaaDoor
namespace Go.Proofs.YtppmiggkknhdkaaDoor
set_option linter.unusedVariables false
set_option linter.unusedSimpArgs false
open Go.RowKit

def SavePost (w : World) (b c : Nat) (B B0 : Bt) (ok no : Value) (D : Dk × Int) (e : Ending) (w' : World) : Prop :=
  (D.2 = 0 → e = .returned ok ∧ BtAt w' b c B D.1) ∧ (D.2 ≠ 0 → e = .returned no ∧ BtAt w' b c B0 D.1) ∧ Ch2 w w' b c
set_option maxRecDepth 100000 in
theorem raise_off (b c : Nat) (B : Bt) (d : Dk) (t : Int) (w : World) (h : BtAt w b c B d) (ho : d.off = true) :
    Calls Tryd.prog 30 #[.pointer (some ⟨b, 0, none⟩), .int .i64 t] w fun e w' => e = .returned (.int .i64 100) ∧ Below w.heap.size w w' := by
  have hal : Below w.heap.size w (w.alloc (.cells #[.int .i64 t] 3)) := (Below.refl _ w).alloc (Nat.le_refl _) _
  have ht0 := blk_new w (.cells #[.int .i64 t] 3)
  have HO := Lib.hid (bon_any b c B d _ (h.below hal))
  rw [ho] at HO
  have h0 := h.below hal
  skip
  clear h
  go_enter Tryd.func30, Tryd.ntmps30
  go_wp2_with (go_at_call 48; refine HO.out.mono ?_; rintro e w1 ⟨rfl, hB1⟩; have ht1 := (blk_cell (blk_below' hB1 ht0) 0).trans rfl; simp at ht1; have hb1 := below_then hal hB1)
  all_goals (go_ret; exact ⟨rfl, hb1⟩)
set_option maxRecDepth 100000 in
theorem raise_neg (b c : Nat) (B : Bt) (d : Dk) (t : Int) (w : World) (h : BtAt w b c B d) (ho : d.off = false) (ht : t < 0) :
    Calls Tryd.prog 30 #[.pointer (some ⟨b, 0, none⟩), .int .i64 t] w fun e w' => e = .returned (.int .i64 1) ∧ Below w.heap.size w w' := by
  have hal : Below w.heap.size w (w.alloc (.cells #[.int .i64 t] 3)) := (Below.refl _ w).alloc (Nat.le_refl _) _
  have ht0 := blk_new w (.cells #[.int .i64 t] 3)
  have HO := Lib.hid (bon_any b c B d _ (h.below hal))
  rw [ho] at HO
  have h0 := h.below hal
  skip
  clear h
  go_enter Tryd.func30, Tryd.ntmps30
  go_wp2_with (go_at_call 48; refine HO.out.mono ?_; rintro e w1 ⟨rfl, hB1⟩; have ht1 := (blk_cell (blk_below' hB1 ht0) 0).trans rfl; simp at ht1; have hb1 := below_then hal hB1)
  all_goals (go_ret; exact ⟨rfl, hb1⟩)
set_option maxRecDepth 100000 in
theorem raise_big (b c : Nat) (B : Bt) (d : Dk) (t : Int) (w : World) (h : BtAt w b c B d) (ho : d.off = false) (ht : 1048576 < t) :
    Calls Tryd.prog 30 #[.pointer (some ⟨b, 0, none⟩), .int .i64 t] w fun e w' => e = .returned (.int .i64 120) ∧ Below w.heap.size w w' := by
  have hal : Below w.heap.size w (w.alloc (.cells #[.int .i64 t] 3)) := (Below.refl _ w).alloc (Nat.le_refl _) _
  have ht0 := blk_new w (.cells #[.int .i64 t] 3)
  have HO := Lib.hid (bon_any b c B d _ (h.below hal))
  rw [ho] at HO
  have h0 := h.below hal
  have hn : ¬ t < 0 := by omega
  clear h
  go_enter Tryd.func30, Tryd.ntmps30
  go_wp2_with (go_at_call 48; refine HO.out.mono ?_; rintro e w1 ⟨rfl, hB1⟩; have ht1 := (blk_cell (blk_below' hB1 ht0) 0).trans rfl; simp at ht1; have hb1 := below_then hal hB1)
  all_goals (go_ret; exact ⟨rfl, hb1⟩)
end Go.Proofs.YtppmiggkknhdkaaDoor
namespace Go.Proofs.YtppmiggkknhdkaaDoor
set_option linter.unusedVariables false
set_option linter.unusedSimpArgs false
open Go.RowKit

set_option maxRecDepth 100000 in
set_option maxHeartbeats 1000000 in
theorem raise_low (b c : Nat) (B : Bt) (d : Dk) (t : Nat) (w : World) (h : BtAt w b c B d) (ho : d.off = false) (ht : t ≤ 1048576) (hlo : t ≤ B.tag) :
    Calls Tryd.prog 30 #[.pointer (some ⟨b, 0, none⟩), .int .i64 (t : Int)] w fun e w' => e = .returned (.int .i64 0) ∧ Below w.heap.size w w' := by
  have hal : Below w.heap.size w (w.alloc (.cells #[.int .i64 (t : Int)] 3)) := (Below.refl _ w).alloc (Nat.le_refl _) _
  have ht0 := blk_new w (.cells #[.int .i64 (t : Int)] 3)
  have HO := Lib.hid (bon_any b c B d _ (h.below hal))
  rw [ho] at HO
  have h0 := h.below hal
  have hn : ¬ (t : Int) < 0 := by omega
  have hn2 : ¬ 1048576 < (t : Int) := by omega
  have hl : (t : Int) ≤ (B.tag : Int) := by omega
  have hl2 : decide ((t : Int) ≤ (B.tag : Int)) = true := by simpa using hl
  clear h ht hlo
  go_enter Tryd.func30, Tryd.ntmps30
  go_wp2_with fail
  refine HO.out.mono ?_
  rintro e w1 ⟨rfl, hB1⟩
  have ht1 := blk_below' hB1 ht0
  have h1 := h0.below hB1
  have hb1 := below_then hal hB1
  have y0 := (blk_cell ht1 0).trans rfl
  simp at y0
  obtain ⟨⟨c0, c1, c2, c3, c4, c5⟩, _⟩ := h1.boot.cells
  go_wp2_with fail
  go_quiet (fail)
  go_wp2_with fail
  go_ret
  exact ⟨rfl, below_drewN hb1 nq⟩
set_option maxRecDepth 100000 in
set_option maxHeartbeats 1000000 in
theorem raise_covered (b c : Nat) (B : Bt) (d : Dk) (t : Nat) (w : World) (h : BtAt w b c B d) (ho : d.off = false) (ht : t ≤ 1048576) (hlo : B.tag < t) (hk : t ≤ B.ktag) :
    Calls Tryd.prog 30 #[.pointer (some ⟨b, 0, none⟩), .int .i64 (t : Int)] w fun e w' => e = .returned (.int .i64 0) ∧ BtAt w' b c { B with tag := t } d ∧ Ch2 w w' b c := by
  have hal : Below w.heap.size w (w.alloc (.cells #[.int .i64 (t : Int)] 3)) := (Below.refl _ w).alloc (Nat.le_refl _) _
  have ht0 := blk_new w (.cells #[.int .i64 (t : Int)] 3)
  have HO := Lib.hid (bon_any b c B d _ (h.below hal))
  rw [ho] at HO
  have h0 := h.below hal
  have hn : ¬ (t : Int) < 0 := by omega
  have hn2 : ¬ 1048576 < (t : Int) := by omega
  have hl2 : decide (t ≤ B.tag) = false := by simp; omega
  have HC := Lib.hid (fun w => covers_any B t w)
  rw [decide_eq_true hk] at HC
  unfold resV at HC
  have hbs := blk_lt h.boot
  have hcs := h.disk.lt
  clear h ht hlo hk
  go_enter Tryd.func30, Tryd.ntmps30
  go_wp2_with fail
  refine HO.out.mono ?_
  rintro e w1 ⟨rfl, hB1⟩
  have ht1 := blk_below' hB1 ht0
  have h1 := h0.below hB1
  have hb1 := below_then hal hB1
  have y0 := (blk_cell ht1 0).trans rfl
  simp at y0
  obtain ⟨⟨c0, c1, c2, c3, c4, c5⟩, _⟩ := h1.boot.cells
  go_wp2_with fail
  go_quiet (fail)
  have ht2 : (w1.drewN nq).heap[w.heap.size]? = some (.cells #[.int .i64 (t : Int)] 3 (0, 0)) := ht1
  have h2 : BtAt (w1.drewN nq) b c B d := ⟨h1.boot, h1.disk, h1.ne⟩
  have hb2 := below_drewN hb1 nq
  generalize w1.drewN nq = W2 at *
  clear c0 c1 c2 c3 c4 c5 y0 ht1 h1 hb1
  have y0 := (blk_cell ht2 0).trans rfl
  simp at y0
  obtain ⟨⟨c0, c1, c2, c3, c4, c5⟩, _⟩ := h2.boot.cells
  go_wp2_with fail
  refine wp_region_still_tail 5 (by kernel_rfl) (by kernel_rfl) ?_
  simp only [List.take_succ_cons, List.take_zero, List.drop_succ_cons, List.drop_zero]
  repeat still_step
  try refine wpStill_nil ?_
  change wpList _ _ _ _ _ (World.drew _)
  have ht2 : W2.drew.heap[w.heap.size]? = some (.cells #[.int .i64 (t : Int)] 3 (0, 0)) := ht2
  have h2 : BtAt W2.drew b c B d := ⟨h2.boot, h2.disk, h2.ne⟩
  have hb2 := hb2.drew
  generalize W2.drew = W3 at *
  clear c0 c1 c2 c3 c4 c5 y0
  go_wp2_with (go_at_call 49; refine (HC.out _).mono ?_; rintro e w3 ⟨rfl, hB3⟩; have h3 := h2.below hB3; have hb3 := below_then hb2 hB3; have z0 := (blk_cell (blk_below' hB3 ht2) 0).trans rfl; simp at z0; obtain ⟨⟨d0, d1, d2, d3, d4, d5⟩, ⟨f0, f1, f2, f3, f4⟩⟩ := h3.boot.cells)
  go_ret
  exact ⟨rfl, h3.setTag t, (Ch2.below hb3 b c).then (Ch2.one (but_set (but_refl _ _) (blk_lt h3.boot) _ _) c)⟩
set_option maxRecDepth 100000 in
set_option maxHeartbeats 1000000 in
theorem raise_save (b c : Nat) (B : Bt) (d : Dk) (t : Nat) (w : World) (h : BtAt w b c B d) (ho : d.off = false) (ht : t ≤ 1048576) (hlo : B.tag < t) (hk : ¬ t ≤ B.ktag) (hlt : ∀ c ∈ d.bs, c < 256) (hw : d.writes ≤ 4611686018427387903) (hfu : d.fuse ≤ 9223372036854775807) :
    Calls Tryd.prog 30 #[.pointer (some ⟨b, 0, none⟩), .int .i64 (t : Int)] w fun e w' =>
      SavePost w b c { B with ktag := capZ t, tag := t } B (.int .i64 0) (.int .i64 (saveW d B.life B.kround (capZ t : Nat)).2) (saveW d B.life B.kround (capZ t : Nat)) e w' := by
  obtain ⟨D, hDe⟩ : ∃ D, saveW d B.life B.kround (capZ t : Nat) = D := ⟨_, rfl⟩
  rw [hDe]
  have HDE := Lib.hid hDe
  clear hDe
  have hal : Below w.heap.size w (w.alloc (.cells #[.int .i64 (t : Int)] 3)) := (Below.refl _ w).alloc (Nat.le_refl _) _
  have ht0 := blk_new w (.cells #[.int .i64 (t : Int)] 3)
  have HO := Lib.hid (bon_any b c B d _ (h.below hal))
  rw [ho] at HO
  have h0 := h.below hal
  have hn : ¬ (t : Int) < 0 := by omega
  have hn2 : ¬ 1048576 < (t : Int) := by omega
  have hl2 : decide (t ≤ B.tag) = false := by simp; omega
  have HC := Lib.hid (fun w => covers_any B t w)
  rw [decide_eq_false hk] at HC
  unfold resV at HC
  have hbs := blk_lt h.boot
  have hcs := h.disk.lt
  have HSZ := Lib.hid (And.intro hlt (And.intro hw (And.intro hfu ht)))
  have hmf : ∀ (fn : Fn) (first cap : Array Value) (w : World), (Instr.makeFunc fn first cap).run Tryd.prog w = .ok (.func fn first cap) w := fun _ _ _ _ => rfl
  clear h ht hlo hk hlt hw hfu
  go_enter Tryd.func30, Tryd.ntmps30
  go_wp2_with fail
  refine HO.out.mono ?_
  rintro e w1 ⟨rfl, hB1⟩
  have ht1 := blk_below' hB1 ht0
  have h1 := h0.below hB1
  have hb1 := below_then hal hB1
  have y0 := (blk_cell ht1 0).trans rfl
  simp at y0
  obtain ⟨⟨c0, c1, c2, c3, c4, c5⟩, _⟩ := h1.boot.cells
  go_wp2_with fail
  go_quiet (fail)
  have ht2 : (w1.drewN nq).heap[w.heap.size]? = some (.cells #[.int .i64 (t : Int)] 3 (0, 0)) := ht1
  have h2 : BtAt (w1.drewN nq) b c B d := ⟨h1.boot, h1.disk, h1.ne⟩
  have hb2 := below_drewN hb1 nq
  generalize w1.drewN nq = W2 at *
  clear c0 c1 c2 c3 c4 c5 y0 ht1 h1 hb1
  have y0 := (blk_cell ht2 0).trans rfl
  simp at y0
  obtain ⟨⟨c0, c1, c2, c3, c4, c5⟩, _⟩ := h2.boot.cells
  go_wp2_with fail
  refine wp_region_still_tail 5 (by kernel_rfl) (by kernel_rfl) ?_
  simp only [List.take_succ_cons, List.take_zero, List.drop_succ_cons, List.drop_zero]
  repeat still_step
  try refine wpStill_nil ?_
  change wpList _ _ _ _ _ (World.drew _)
  have ht2 : W2.drew.heap[w.heap.size]? = some (.cells #[.int .i64 (t : Int)] 3 (0, 0)) := ht2
  have h2 : BtAt W2.drew b c B d := ⟨h2.boot, h2.disk, h2.ne⟩
  have hb2 := hb2.drew
  generalize W2.drew = W3 at *
  clear c0 c1 c2 c3 c4 c5 y0
  go_wp2_with (go_at_call 49; refine (HC.out _).mono ?_; rintro e w3 ⟨rfl, hB3⟩; have h3 := h2.below hB3; have hb3 := below_then hb2 hB3; have ht3 := blk_below' hB3 ht2)
  have HSV := Lib.hid (save_raise b c B d w.heap.size t w3 h3 ht3 HSZ.out.2.2.2 HSZ.out.1 HSZ.out.2.1 HSZ.out.2.2.1)
  rw [HDE.out] at HSV
  obtain ⟨d', er⟩ := D
  simp only at HSV
  refine HSV.out.mono ?_
  rintro e w4 ⟨rfl, hT4, hC4⟩
  have hc4 := (Ch2.below hb3 b c).then hC4
  have hcl := h3.disk.lt
  by_cases her : er = 0
  · subst her
    rw [svB_ok] at hT4
    have ht4 := hC4.blk ht3 (by omega) (by omega)
    have z0 := (blk_cell ht4 0).trans rfl
    simp at z0
    obtain ⟨⟨d0, d1, d2, d3, d4, d5⟩, ⟨f0, f1, f2, f3, f4⟩⟩ := hT4.boot.cells
    have hbl4 := blk_lt hT4.boot
    go_wp2_with fail
    go_ret
    exact ⟨fun _ => ⟨rfl, hT4.setTag t⟩, fun h => absurd rfl h, hc4.then (Ch2.one (but_set (but_refl _ _) hbl4 _ _) c)⟩
  · have hne : (er != 0) = true := by simpa using her
    rw [svB_no _ _ _ _ her] at hT4
    have HER := Lib.hid her
    clear her
    go_wp2_with fail
    go_ret
    exact ⟨fun h => absurd h HER.out, fun _ => ⟨rfl, hT4⟩, hc4⟩
end Go.Proofs.YtppmiggkknhdkaaDoor
namespace Go.Proofs.YtppmiggkknhdkaaDoor
set_option linter.unusedVariables false
open Go.RowKit Go.WideShapes Go.ChangeShapes Go.WideElems Go.Deep

theorem add_mid' (b o j : Nat) : (⟨b, o, none⟩ : Addr).add j = ⟨b, o + j, none⟩ := by unfold Addr.add; split <;> simp_all
theorem list1 : ∀ y : List Int, y.length = 1 → ∃ a, y = [a]
  | [a], _ => ⟨a, rfl⟩
theorem list2 : ∀ y : List Int, y.length = 2 → ∃ a b, y = [a, b]
  | [a, b], _ => ⟨a, b, rfl⟩
theorem list3 : ∀ y : List Int, y.length = 3 → ∃ a b c, y = [a, b, c]
  | [a, b, c], _ => ⟨a, b, c, rfl⟩
theorem list4 : ∀ y : List Int, y.length = 4 → ∃ a b c d, y = [a, b, c, d]
  | [a, b, c, d], _ => ⟨a, b, c, d, rfl⟩
theorem list5 : ∀ y : List Int, y.length = 5 → ∃ a b c d e, y = [a, b, c, d, e]
  | [a, b, c, d, e], _ => ⟨a, b, c, d, e, rfl⟩
theorem list6 : ∀ y : List Int, y.length = 6 → ∃ a b c d e f, y = [a, b, c, d, e, f]
  | [a, b, c, d, e, f], _ => ⟨a, b, c, d, e, f, rfl⟩
/-- A type all of whose cells are integers, one behind the other. -/
def tilesB (P : Program) (F : TypeId → Bool) : List Field → Nat → Nat → Bool
  | [], o, n => o == n
  | f :: fs, o, n => f.offset == o && F f.type && tilesB P F fs (o + P.cellsOf f.type) n
def flatB (P : Program) : Nat → TypeId → Bool
  | 0, _ => false
  | d + 1, t =>
    match P.underlying t with
    | some (.int .i64) => P.cellsOf t == 1
    | some (.struct fs) => tilesB P (flatB P d) fs.toList 0 (P.cellsOf t)
    | _ => false
def intsV (ys : List Int) : List Value := ys.map (Value.int .i64)

section
variable {H : Type} {enc : TypeId × Value → H} {P : Program} {w : World} {base : Nat} {spare : Nat → Bool} {held : Bool}
theorem tiles_open {F : TypeId → Bool} {cs : List Value} (hF : ∀ (t : TypeId) (n : Nat) (cs : List Value) (x : DataW H × List MemPlace), F t = true → DataW.trod enc P w base spare held n t cs = some x → ∃ ys : List Int, cs = intsV ys ∧ ∀ y ∈ ys, (Lit.int .i64 y).wf = true) {n : Nat} :
    ∀ (fs : List Field) (o : Nat), tilesB P F fs o cs.length = true → (∀ f ∈ fs, ∃ x, DataW.trod enc P w base spare held n f.type ((cs.drop f.offset).take (P.cellsOf f.type)) = some x) → ∃ ys : List Int, cs.drop o = intsV ys ∧ ∀ y ∈ ys, (Lit.int .i64 y).wf = true
  | [], o, ht, _ => by
    have ho : o = cs.length := by simpa [tilesB] using ht
    exact ⟨[], by rw [ho, List.drop_length]; rfl, by simp⟩
  | f :: fs, o, ht, hx => by
    simp only [tilesB, Bool.and_eq_true, beq_iff_eq] at ht
    obtain ⟨⟨h1, h2⟩, h3⟩ := ht
    obtain ⟨x, hx0⟩ := hx f (by simp)
    rw [h1] at hx0
    obtain ⟨ys, hy, hw⟩ := hF _ _ _ _ h2 hx0
    obtain ⟨zs, hz, hw2⟩ := tiles_open hF fs _ h3 (fun g hg => hx g (by simp [hg]))
    refine ⟨ys ++ zs, ?_, fun y hy => ?_⟩
    · rw [← List.take_append_drop (P.cellsOf f.type) (cs.drop o), List.drop_drop, hy, hz]
      unfold intsV; rw [List.map_append]
    · rcases List.mem_append.1 hy with h | h
      · exact hw y h
      · exact hw2 y h
theorem flat_open : ∀ (d : Nat) (t : TypeId) (n : Nat) (cs : List Value) (x : DataW H × List MemPlace), flatB P d t = true → DataW.trod enc P w base spare held n t cs = some x → ∃ ys : List Int, cs = intsV ys ∧ ∀ y ∈ ys, (Lit.int .i64 y).wf = true
  | 0, _, _, _, _, h, _ => by cases h
  | d + 1, t, n, cs, x, h, hx => by
    unfold flatB at h
    split at h
    · rename_i hu
      obtain ⟨z, rfl, _, hw⟩ := DataW.trod_int hu hx
      exact ⟨[z], rfl, by simpa using hw⟩
    · rename_i fs hu
      obtain ⟨xs, m, _, _, hl, hlen, hf⟩ := DataW.trod_struct hu hx
      rw [← hl] at h
      obtain ⟨ys, hy, hw⟩ := tiles_open (n := m) (fun t n cs x => flat_open d t n cs x) fs.toList 0 h (fun f hfm => by
        obtain ⟨i, hi, rfl⟩ := List.mem_iff_getElem.1 hfm
        have := hf i fs.toList[i] (by rw [← Array.getElem?_toList, List.getElem?_eq_getElem hi])
        refine ⟨xs[i]'(by rw [hlen]; simpa using hi), ?_⟩
        rw [this, List.getElem?_eq_getElem])
      exact ⟨ys, by simpa using hy, hw⟩
    · cases h
theorem flat_len {d : Nat} {t : TypeId} {n : Nat} {cs : List Value} {x : DataW H × List MemPlace} (h : flatB P d t = true) (hx : DataW.trod enc P w base spare held n t cs = some x) : cs.length = P.cellsOf t := by
  cases d with
  | zero => cases h
  | succ d =>
    unfold flatB at h
    split at h
    · rename_i hu
      obtain ⟨z, rfl, _, hw⟩ := DataW.trod_int hu hx
      have h2 : P.cellsOf t = 1 := by simpa using h
      exact h2.symm
    · rename_i fs hu
      obtain ⟨xs, m, _, _, hl, _⟩ := DataW.trod_struct hu hx
      exact hl
    · cases h
/-- A struct of integers that came in. -/
theorem open_flat {r : Reach} {b0 : Nat} {t : TypeId} {fs : Array Field} {v : Value} {dd : DataW H} {p : List MemPlace} (d : Nat) (ht : P.underlying t = some (.struct fs)) (hfl : flatB P d t = true)
    (hval : Value.okWide P w r b0 t v) (h : DataW.Trod enc P w 0 spare held t v dd p) : ∃ ys : List Int, v = .agg (intsV ys).toArray ∧ ys.length = P.cellsOf t ∧ ∀ y ∈ ys, (Lit.int .i64 y).wf = true := by
  obtain ⟨n, hn⟩ := h
  unfold Value.okWide at hval
  rw [ht] at hval
  obtain ⟨cs, rfl, _, _⟩ := hval
  obtain ⟨ys, hy, hw⟩ := flat_open d t n _ _ hfl hn
  have hl := flat_len hfl hn
  have hc : cs.toList = intsV ys := hy
  refine ⟨ys, by rw [← hc], ?_, hw⟩
  have h2 : (intsV ys).length = P.cellsOf t := by rw [← hc]; exact hl
  simpa [intsV] using h2
end
/-- A row of structs of n integers each that came in. -/
def RowsOf (W : World) (n : Nat) (v : Value) (xs : List (List Int)) : Prop :=
  ∃ a cap, v = .slice a xs.length cap ∧ xs.length ≤ cap ∧ cap ≤ maxLen ∧ ∀ (i : Nat) (x : List Int), xs[i]? = some x → x.length = n ∧ ∃ g o, a = some ⟨g, o, none⟩ ∧ g < W.heap.size ∧ ∀ (j : Nat) (y : Int), x[j]? = some y → W.cell? ⟨g, o + i * n + j, none⟩ = some (.int .i64 y)
theorem RowsOf.below {W W' : World} {n : Nat} {v : Value} {xs : List (List Int)} (h : RowsOf W n v xs) (hb : Below W.heap.size W W') : RowsOf W' n v xs := by
  obtain ⟨a, cap, h1, h2, h3, h4⟩ := h
  refine ⟨a, cap, h1, h2, h3, fun i x hx => ?_⟩
  obtain ⟨h5, g, o, h6, h7, h8⟩ := h4 i x hx
  exact ⟨h5, g, o, h6, Nat.lt_of_lt_of_le h7 hb.size, fun j y hy => (hb.cell h7).trans (h8 j y hy)⟩
theorem open_rows {H : Type} {enc : TypeId × Value → H} {P : Program} {W : World} {spare : Nat → Bool} {held : Bool} {r : Reach} {b0 : Nat} {t e : TypeId} {v : Value} {dd : DataW H} {p : List MemPlace} (d : Nat) (ht : P.underlying t = some (.slice e)) (hfl : flatB P d e = true) (hpos : 0 < P.cellsOf e)
    (hval : Value.okWide P W r b0 t v) (h : DataW.Trod enc P W 0 spare held t v dd p) :
    ∃ xs, RowsOf W (P.cellsOf e) v xs ∧ ∀ x ∈ xs, ∀ y ∈ x, (Lit.int .i64 y).wf = true := by
  obtain ⟨n, hn⟩ := h
  have hv : v.cells.toList = [v] := by
    cases v <;> first | rfl | (simp [Value.okWide, Cell.okWide, Cell.ok, ht] at hval)
  rw [hv] at hn
  rcases open_slice ht hn with ⟨h1, h2⟩ | ⟨a, len, cap, m, k, D, Pl, h1, hb, hl, hm, hmm, hx, hall⟩
  · obtain rfl : v = .slice none 0 0 := by simpa using h1
    exact ⟨[], ⟨none, 0, rfl, Nat.le_refl _, by unfold maxLen; omega, fun i x h => by simp at h⟩, by simp⟩
  · obtain rfl : v = .slice (some a) len cap := by simpa using h1
    have hlm : len ≤ m := by rw [hmm]; split <;> omega
    have key : ∀ i, i < len → ∃ ys : List Int, ys.length = P.cellsOf e ∧ (∀ y ∈ ys, (Lit.int .i64 y).wf = true) ∧ W.cells? 0 (a.add (i * P.cellsOf e)) (P.cellsOf e) = some (intsV ys) := by
      intro i hi
      obtain ⟨cs, hc, hd⟩ := hall i (by omega)
      obtain ⟨ys, hy, hw⟩ := flat_open d e _ _ _ hfl hd
      have hll := flat_len hfl hd
      refine ⟨ys, ?_, hw, by rw [← hy]; exact hc⟩
      rw [hy] at hll
      simpa [intsV] using hll
    obtain ⟨f, hf⟩ : ∃ f : Nat → List Int, ∀ i, i < len → (f i).length = P.cellsOf e ∧ (∀ y ∈ f i, (Lit.int .i64 y).wf = true) ∧ W.cells? 0 (a.add (i * P.cellsOf e)) (P.cellsOf e) = some (intsV (f i)) := by
      refine ⟨fun i => if h : i < len then (key i h).choose else [], fun i hi => ?_⟩
      simp only [hi, dite_true]
      exact (key i hi).choose_spec
    refine ⟨(List.range len).map f, ⟨some a, cap, by simp, by simpa using hl, hm, fun i x hx => ?_⟩, fun x hx => ?_⟩
    · rw [List.getElem?_map] at hx
      have hi : i < len := by
        rcases Nat.lt_or_ge i len with h | h
        · exact h
        · rw [List.getElem?_eq_none (by simpa using h)] at hx; cases hx
      rw [List.getElem?_range hi] at hx
      obtain rfl : f i = x := by simpa using hx
      obtain ⟨h4, h5, h6⟩ := hf i hi
      obtain ⟨_, h7, h8⟩ := World.cells?_some h6
      have hcell : ∀ j y, (f i)[j]? = some y → W.cell? ((a.add (i * P.cellsOf e)).add j) = some (.int .i64 y) := by
        intro j y hy
        have hj : j < P.cellsOf e := by have := (List.getElem?_eq_some_iff.1 hy).1; omega
        rw [h8 j hj]
        unfold intsV; rw [List.getElem?_map, hy]; rfl
      obtain ⟨g, o, spot⟩ := a
      have hspot : spot = none := by
        obtain ⟨k4, k5, k6⟩ := hf 0 (by omega)
        obtain ⟨_, k7, k8⟩ := World.cells?_some k6
        have hk := k8 0 hpos
        have hk2 : (intsV (f 0))[0]? = some (.int .i64 ((f 0)[0]'(by omega))) := by unfold intsV; rw [List.getElem?_map, List.getElem?_eq_getElem (by omega)]; rfl
        rw [hk2] at hk
        have := World.cell?_spot hk
        simpa [Addr.add] using this
      subst hspot
      have h0 := hcell 0 _ (List.getElem?_eq_getElem (by omega))
      refine ⟨h4, g, o, rfl, ?_, fun j y hy => ?_⟩
      · have := cell_lt h0
        rwa [add_mid', add_mid'] at this
      · have := hcell j y hy
        rwa [add_mid', add_mid'] at this
    · obtain ⟨i, hi, rfl⟩ := List.mem_map.1 hx
      exact (hf i (List.mem_range.1 hi)).2.1
end Go.Proofs.YtppmiggkknhdkaaDoor
namespace Go.Proofs.YtppmiggkknhdkaaDoor
set_option linter.unusedVariables false
set_option linter.unusedSimpArgs false
open Go.RowKit

theorem on_eq (b : Nat) (d : Dk) (w : World) (h : DkAt w b d) : Calls Tryd.prog 64 #[.pointer (some ⟨b, 0, none⟩)] w fun e w' => e = .returned (.bool (!d.off)) ∧ w' = w := by
  obtain ⟨c0, c1, c2, c3⟩ := h.cells
  go_enter Tryd.func64, Tryd.ntmps64
  go_wp2_with fail
  go_ret
  exact ⟨rfl, rfl⟩
end Go.Proofs.YtppmiggkknhdkaaDoor
namespace Go.Proofs.YtppmiggkknhdkaaDoor
set_option linter.unusedVariables false
set_option linter.unusedSimpArgs false
open Go.RowKit

/-- The disk behind n saves that were done. -/
structure TnS (d : Dk) (n : Nat) : Prop where
  lt : ∀ c ∈ d.bs, c < 256
  on : d.off = false
  plain : d.fused = false
  fz : d.fuse = 0
  wr : d.writes = 2 * n
  st : ∃ st, SlSt d.bs st ∧ stSeq st = n ∧ stTo st = n % 2
theorem tnS_step {d : Dk} {n : Nat} {x y z : Int} (h : TnS d n) (hb : d.bs.length = 256) (hm : mayR x y z) (hn : n ≤ 40) :
    (saveW d x y z).2 = 0 ∧ TnS (saveW d x y z).1 (n + 1) ∧ loadA (saveW d x y z).1 = .tuple #[recV x y z, .int .i64 ((n + 1 : Nat) : Int), .int .i64 0] ∧
      ∀ j, j < 64 * (n % 2) ∨ 64 * (n % 2) + 64 ≤ j → (saveW d x y z).1.bs[j]? = d.bs[j]? := by
  obtain ⟨h1, h2, h3, h4, h5, st, h6, h7, h8⟩ := h
  rcases save_law h6 hb h2 hm (by omega) with ⟨h0, hs⟩ | ⟨_, hf⟩
  · have hl := loadA_some hs.slots hs.on
    obtain ⟨m1, m2, m3, m4, m5, m6⟩ := hm
    refine ⟨h0, ⟨saveW_lt h1 x y z, hs.on, hs.fused.trans h3, (hs.un h3).trans h4, by rw [hs.writes, h5]; omega, some (⟨x.toNat, y.toNat, z.toNat, stSeq st + 1⟩, stTo st), hs.slots, by show stSeq st + 1 = _; omega, ?_⟩, ?_, ?_⟩
    · show 1 - stTo st = _; omega
    · rw [hl]
      show Value.tuple #[recV ((x.toNat : Nat) : Int) ((y.toNat : Nat) : Int) ((z.toNat : Nat) : Int), .int .i64 ((stSeq st + 1 : Nat) : Int), .int .i64 0] = _
      rw [Int.toNat_of_nonneg (by omega), Int.toNat_of_nonneg (by omega), Int.toNat_of_nonneg (by omega), h7]
    · rw [← h8]; exact hs.out
  · have := hf.fused; rw [h3] at this; cases this
theorem tnS_new : TnS Dk.new 0 := ⟨by decide +kernel, rfl, rfl, rfl, rfl, none, slSt_new, rfl, rfl⟩
/-- What is known behind a save. -/
structure KT (w : World) (b g9 g o : Nat) (a c e : Int) (d : Dk) (W : World) : Prop where
  disk : DkAt W b d
  bx : W.heap[g9]? = some (.cells #[.int .i64 a, .int .i64 c, .int .i64 e] 48 (0, 0))
  r0 : W.cell? ⟨g, o, none⟩ = some (.int .i64 a)
  r1 : W.cell? ⟨g, o + 1, none⟩ = some (.int .i64 c)
  r2 : W.cell? ⟨g, o + 2, none⟩ = some (.int .i64 e)
  low : Below w.heap.size w W
theorem KT.below {w W W' : World} {b g9 g o : Nat} {a c e : Int} {d : Dk} (h : KT w b g9 g o a c e d W) (hb : Below W.heap.size W W') : KT w b g9 g o a c e d W' :=
  ⟨h.disk.below hb, blk_below' hb h.bx, (hb.cell (cell_lt h.r0)).trans h.r0, (hb.cell (cell_lt h.r1)).trans h.r1, (hb.cell (cell_lt h.r2)).trans h.r2, below_then h.low hb⟩
theorem KT.drew {w W : World} {b g9 g o : Nat} {a c e : Int} {d : Dk} (h : KT w b g9 g o a c e d W) : KT w b g9 g o a c e d W.drew := ⟨h.disk, h.bx, h.r0, h.r1, h.r2, h.low.drew⟩
theorem KT.all {w W : World} {b g9 g o : Nat} {a c e : Int} {d : Dk} (h : KT w b g9 g o a c e d W) :
    (W.cell? ⟨g9, 0, none⟩ = some (.int .i64 a) ∧ W.cell? ⟨g9, 1, none⟩ = some (.int .i64 c) ∧ W.cell? ⟨g9, 2, none⟩ = some (.int .i64 e)) ∧ (W.cell? ⟨g, o, none⟩ = some (.int .i64 a) ∧ W.cell? ⟨g, o + 1, none⟩ = some (.int .i64 c) ∧ W.cell? ⟨g, o + 2, none⟩ = some (.int .i64 e)) ∧ KT w b g9 g o a c e d W :=
  ⟨⟨(blk3 h.bx).1, (blk3 h.bx).2.1, (blk3 h.bx).2.2.1⟩, ⟨h.r0, h.r1, h.r2⟩, h⟩
theorem cell_but {W W' : World} {b g : Nat} (hg : W.grownBy W' (some b)) (hne : ¬ g = b) (o : Nat) (x : Value) (h : W.cell? ⟨g, o, none⟩ = some x) : W'.cell? ⟨g, o, none⟩ = some x := by
  obtain ⟨_, _, _, _, hgb⟩ := hg
  have hk := hgb g (cell_lt h) (by simpa using hne)
  unfold World.cell? at h ⊢
  rw [hk]; exact h
theorem rows3 {W : World} {v : Value} {xs : List (List Int)} (h : RowsOf W 3 v xs) {i : Nat} (hi : i < xs.length) :
    ∃ a c e g o cap, xs[i]? = some [a, c, e] ∧ v = .slice (some ⟨g, o, none⟩) xs.length cap ∧ W.cell? ⟨g, o + i * 3, none⟩ = some (.int .i64 a) ∧ W.cell? ⟨g, o + i * 3 + 1, none⟩ = some (.int .i64 c) ∧ W.cell? ⟨g, o + i * 3 + 2, none⟩ = some (.int .i64 e) := by
  obtain ⟨p, cap, rfl, _, _, hx⟩ := h
  obtain ⟨h1, g, o, rfl, _, h2⟩ := hx i _ (List.getElem?_eq_getElem hi)
  obtain ⟨a, c, e, hq⟩ := list3 _ h1
  have h3 := List.getElem?_eq_getElem hi
  rw [hq] at h2 h3
  exact ⟨a, c, e, g, o, cap, h3, rfl, h2 0 a rfl, h2 1 c rfl, h2 2 e rfl⟩
end Go.Proofs.YtppmiggkknhdkaaDoor
namespace Go.Proofs.YtppmiggkknhdkaaDoor
set_option linter.unusedVariables false
set_option linter.unusedSimpArgs false
open Go.RowKit

/-- The disk behind saves, with the power that may have failed at the last one. -/
structure CuS (d : Dk) (st : Option (Rc × Nat)) (i : Nat) (cut : Bool) : Prop where
  slots : SlSt d.bs st
  lt : ∀ c ∈ d.bs, c < 256
  on : d.off = cut
  seq : stSeq st ≤ i
  wr : d.writes ≤ 2 * i
  fz : d.fuse ≤ 9223372036854775807
def stRec : Option (Rc × Nat) → Rc
  | none => Rc.zero
  | some (r, _) => r
theorem cuS_step {d : Dk} {st : Option (Rc × Nat)} {i : Nat} {x y z : Int} (h : CuS d st i false) (hb : d.bs.length = 256) (hi : i ≤ 40) (hm : mayR x y z) :
    ((saveW d x y z).2 = 0 ∧ ∃ a, CuS (saveW d x y z).1 (some (⟨x.toNat, y.toNat, z.toNat, stSeq st + 1⟩, a)) (i + 1) false) ∨ ((saveW d x y z).2 = 100 ∧ CuS (saveW d x y z).1 st (i + 1) true) := by
  obtain ⟨h1, h2, h3, h4, h5, h6⟩ := h
  rcases save_law h1 hb h3 hm (by omega) with ⟨h0, hs⟩ | ⟨h0, hf⟩
  · refine .inl ⟨h0, stTo st, ⟨hs.slots, saveW_lt h2 x y z, hs.on, by show stSeq st + 1 ≤ _; omega, by rw [hs.writes]; omega, ?_⟩⟩
    cases hfu : d.fused with
    | true => rw [(hs.fz hfu).2]; omega
    | false => rw [hs.un hfu]; exact h6
  · exact .inr ⟨h0, ⟨hf.slots, saveW_lt h2 x y z, hf.off, by omega, by rw [hf.writes]; have := hf.fz; omega, by rw [hf.fuse]; decide⟩⟩
theorem loadA_st {d : Dk} {st : Option (Rc × Nat)} (h : SlSt d.bs st) (ho : d.off = false) :
    loadA d = match st with | none => .tuple #[recV 0 0 0, .int .i64 0, .int .i64 40] | some (r, _) => .tuple #[recV r.life r.round r.tag, .int .i64 r.seq, .int .i64 0] := by
  cases st with
  | none => exact loadA_none h ho
  | some p => exact loadA_some h ho
structure CuW (w : World) (s2 : Nat) (d : Dk) (st : Option (Rc × Nat)) (p q r : Int) (W : World) : Prop where
  disk : DkAt W w.heap.size d
  last : W.heap[s2]? = some (.cells #[.int .i64 ((stRec st).life : Int), .int .i64 ((stRec st).round : Int), .int .i64 ((stRec st).tag : Int)] 48 (0, 0))
  try_ : W.heap[s2 + 1]? = some (.cells #[.int .i64 p, .int .i64 q, .int .i64 r] 48 (0, 0))
  low : Below w.heap.size w W
  far : w.heap.size < s2
theorem CuW.below {w W W' : World} {s2 : Nat} {d : Dk} {st : Option (Rc × Nat)} {p q r : Int} (h : CuW w s2 d st p q r W) (hb : Below W.heap.size W W') : CuW w s2 d st p q r W' :=
  ⟨h.disk.below hb, blk_below' hb h.last, blk_below' hb h.try_, below_then h.low hb, h.far⟩
theorem CuW.turn {w W W' : World} {s2 : Nat} {d d' : Dk} {st : Option (Rc × Nat)} {p q r : Int} (h : CuW w s2 d st p q r W) (hg : W.grownBy W' (some w.heap.size)) (hd : DkAt W' w.heap.size d') : CuW w s2 d' st p q r W' :=
  ⟨hd, blk_grown hg h.last (by simp; have := h.far; omega), blk_grown hg h.try_ (by simp; have := h.far; omega), h.low.grown hg h.low.size (fun j hj => by cases hj; exact Nat.le_refl _), h.far⟩
theorem CuW.setLast {w W : World} {s2 : Nat} {d : Dk} {st st' : Option (Rc × Nat)} {p q r : Int} (h : CuW w s2 d st p q r W) :
    CuW w s2 d st' p q r (((W.setCell ⟨s2, 0, none⟩ (.int .i64 ((stRec st').life : Int))).setCell ⟨s2, 1, none⟩ (.int .i64 ((stRec st').round : Int))).setCell ⟨s2, 2, none⟩ (.int .i64 ((stRec st').tag : Int))) := by
  have hlt := blk_lt h.last
  have hf := h.far
  have hgr : W.grownBy (((W.setCell ⟨s2, 0, none⟩ (.int .i64 ((stRec st').life : Int))).setCell ⟨s2, 1, none⟩ (.int .i64 ((stRec st').round : Int))).setCell ⟨s2, 2, none⟩ (.int .i64 ((stRec st').tag : Int))) (some s2) :=
    but_set (but_set (but_set (but_refl _ _) hlt _ _) hlt _ _) hlt _ _
  exact ⟨h.disk.but hgr (by omega), blk_store (blk_store (blk_store h.last 0 _) 1 _) 2 _, blk_grown hgr h.try_ (by simp), h.low.grown hgr h.low.size (fun j hj => by cases hj; omega), hf⟩
theorem CuW.setTry {w W : World} {s2 : Nat} {d : Dk} {st : Option (Rc × Nat)} {p q r p' q' r' : Int} (h : CuW w s2 d st p q r W) :
    CuW w s2 d st p' q' r' (((W.setCell ⟨s2 + 1, 0, none⟩ (.int .i64 p')).setCell ⟨s2 + 1, 1, none⟩ (.int .i64 q')).setCell ⟨s2 + 1, 2, none⟩ (.int .i64 r')) := by
  have hlt := blk_lt h.try_
  have hf := h.far
  have hgr : W.grownBy (((W.setCell ⟨s2 + 1, 0, none⟩ (.int .i64 p')).setCell ⟨s2 + 1, 1, none⟩ (.int .i64 q')).setCell ⟨s2 + 1, 2, none⟩ (.int .i64 r')) (some (s2 + 1)) :=
    but_set (but_set (but_set (but_refl _ _) hlt _ _) hlt _ _) hlt _ _
  exact ⟨h.disk.but hgr (by omega), blk_grown hgr h.last (by simp), blk_store (blk_store (blk_store h.try_ 0 _) 1 _) 2 _, h.low.grown hgr h.low.size (fun j hj => by cases hj; omega), hf⟩
end Go.Proofs.YtppmiggkknhdkaaDoor
namespace Go.Proofs.YtppmiggkknhdkaaDoor
set_option linter.unusedVariables false
open Go.RowKit

theorem cuS_save {d : Dk} {st : Option (Rc × Nat)} {i : Nat} {x y z : Nat} (h : CuS d st i false) (hb : d.bs.length = 256) (hi : i ≤ 1000000) (hm : mayR x y z) :
    ((saveW d x y z).2 = 0 ∧ ∃ a s, CuS (saveW d x y z).1 (some (⟨x, y, z, s⟩, a)) (i + 1) false) ∨ ((saveW d x y z).2 = 100 ∧ CuS (saveW d x y z).1 st (i + 1) true) := by
  obtain ⟨h1, h2, h3, h4, h5, h6⟩ := h
  rcases save_law h1 hb h3 hm (by omega) with ⟨h0, hs⟩ | ⟨h0, hf⟩
  · refine .inl ⟨h0, stTo st, stSeq st + 1, ⟨?_, saveW_lt h2 x y z, hs.on, by show stSeq st + 1 ≤ _; omega, by rw [hs.writes]; omega, ?_⟩⟩
    · have := hs.slots
      rw [Int.toNat_natCast, Int.toNat_natCast, Int.toNat_natCast] at this
      exact this
    · cases hfu : d.fused with
      | true => rw [(hs.fz hfu).2]; omega
      | false => rw [hs.un hfu]; exact h6
  · exact .inr ⟨h0, ⟨hf.slots, saveW_lt h2 x y z, hf.off, by omega, by rw [hf.writes]; have := hf.fz; omega, by rw [hf.fuse]; decide⟩⟩
theorem CuS.more {d : Dk} {st : Option (Rc × Nat)} {i j : Nat} {c : Bool} (h : CuS d st i c) (hj : i ≤ j) : CuS d st j c := ⟨h.slots, h.lt, h.on, by have := h.seq; omega, by have := h.wr; omega, h.fz⟩
/-- What is durable covers what was handed out. -/
structure LifeI (B : Bt) (d : Dk) (n : Nat) : Prop where
  disk : ∃ s a, CuS d (some (⟨B.life, B.kround, B.ktag, s⟩, a)) n d.off
  rnd : B.round ≤ B.kround
  tg : B.tag ≤ B.ktag
theorem LifeI.may {B : Bt} {d : Dk} {n : Nat} (h : LifeI B d n) : 1 ≤ B.life ∧ B.life ≤ 1073741824 ∧ B.kround ≤ 1099511627775 ∧ B.ktag ≤ 1048576 := by
  obtain ⟨s, a, hc⟩ := h.disk
  have := hc.slots.2.1.1
  exact ⟨this.1, this.2.1, this.2.2.1, this.2.2.2.1⟩
theorem LifeI.lt {B : Bt} {d : Dk} {n : Nat} (h : LifeI B d n) : ∀ c ∈ d.bs, c < 256 := by obtain ⟨s, a, hc⟩ := h.disk; exact hc.lt
theorem LifeI.wr {B : Bt} {d : Dk} {n : Nat} (h : LifeI B d n) : d.writes ≤ 2 * n ∧ d.fuse ≤ 9223372036854775807 := by obtain ⟨s, a, hc⟩ := h.disk; exact ⟨hc.wr, hc.fz⟩
theorem LifeI.more {B : Bt} {d : Dk} {i j : Nat} (h : LifeI B d i) (hj : i ≤ j) : LifeI B d j := by
  obtain ⟨⟨s, a, hc⟩, h2, h3⟩ := h
  exact ⟨⟨s, a, hc.more hj⟩, h2, h3⟩
/-- A save from within a life. -/
theorem life_save {B : Bt} {d : Dk} {n : Nat} (h : LifeI B d n) (hb : d.bs.length = 256) (hn : n ≤ 1000000) (ho : d.off = false) {y z : Nat} (hy : y ≤ 1099511627775) (hz : z ≤ 1048576) :
    ((saveW d B.life y z).2 = 0 ∧ ∃ a s, CuS (saveW d B.life y z).1 (some (⟨B.life, y, z, s⟩, a)) (n + 1) (saveW d B.life y z).1.off) ∨ ((saveW d B.life y z).2 = 100 ∧ LifeI B (saveW d B.life y z).1 (n + 1)) := by
  obtain ⟨⟨s, a, hc⟩, h2, h3⟩ := h
  rw [ho] at hc
  have hm := hc.slots.2.1.1
  have h1 : 1 ≤ B.life := hm.1
  have h4 : B.life ≤ 1073741824 := hm.2.1
  rcases cuS_save hc hb hn (x := B.life) (y := y) (z := z) ⟨by omega, by omega, by omega, by omega, by omega, by omega⟩ with ⟨h0, a', s', h5⟩ | ⟨h0, h5⟩
  · exact .inl ⟨h0, a', s', by rw [h5.on]; exact h5⟩
  · exact .inr ⟨h0, ⟨⟨s, a, by rw [h5.on]; exact h5⟩, h2, h3⟩⟩
theorem capR_le (n : Nat) : capR n ≤ 1099511627775 := by unfold capR; omega
theorem capR_ge {n : Nat} (h : n ≤ 1099511627775) : n ≤ capR n := by unfold capR; omega
theorem capR_gt {n : Nat} (h : n < 1099511627775) : n < capR n := by unfold capR; omega
theorem capT_le (n : Nat) : capT n ≤ 1048576 := by unfold capT; omega
theorem capT_ge {n : Nat} (h : n ≤ 1048576) : n ≤ capT n := by unfold capT; omega
theorem capZ_le (n : Nat) : capZ n ≤ 1048576 := by unfold capZ; omega
theorem capZ_ge {n : Nat} (h : n ≤ 1048576) : n ≤ capZ n := by unfold capZ; omega
/-- What Next tells, in one. -/
structure NextR (B B' : Bt) (rv er : Int) : Prop where
  ok : er = 0 → rv = ((B.round + 1 : Nat) : Int) ∧ B'.round = B.round + 1
  no : er ≠ 0 → B' = B
  tag : B'.tag = B.tag
  ktag : B'.ktag = B.ktag
  life : B'.life = B.life
  kr : B.kround ≤ B'.kround
/-- What Raise tells, in one. -/
structure RaiseR (B B' : Bt) (t : Nat) (er : Int) : Prop where
  round : B'.round = B.round
  kround : B'.kround = B.kround
  life : B'.life = B.life
  kt : B.ktag ≤ B'.ktag
  tg : B.tag ≤ B'.tag
  ok : er = 0 → t ≤ B'.tag
  off : t ≤ 1048576 → er = 0 ∨ er = 100
theorem raise_sum (b c : Nat) (B : Bt) (d : Dk) (n t : Nat) (w : World) (h : BtAt w b c B d) (hL : LifeI B d n) (hn : n ≤ 1000000) :
    Calls Tryd.prog 30 #[.pointer (some ⟨b, 0, none⟩), .int .i64 (t : Int)] w fun e w' => ∃ (er : Int) (B' : Bt) (d' : Dk), e = .returned (.int .i64 er) ∧ RaiseR B B' t er ∧ LifeI B' d' (n + 1) ∧ BtAt w' b c B' d' ∧ Ch2 w w' b c := by
  obtain ⟨m1, m2, m3, m4⟩ := hL.may
  have hr := hL.tg
  cases ho : d.off with
  | true =>
    refine (raise_off b c B d t w h ho).mono ?_
    rintro e w' ⟨rfl, hB⟩
    exact ⟨100, B, d, rfl, ⟨rfl, rfl, rfl, Nat.le_refl _, Nat.le_refl _, fun h => absurd h (by decide), fun _ => .inr rfl⟩, hL.more (by omega), h.below hB, Ch2.below hB b c⟩
  | false =>
    by_cases hb : t ≤ 1048576
    · by_cases hlo : t ≤ B.tag
      · refine (raise_low b c B d t w h ho hb hlo).mono ?_
        rintro e w' ⟨rfl, hB⟩
        exact ⟨0, B, d, rfl, ⟨rfl, rfl, rfl, Nat.le_refl _, Nat.le_refl _, fun _ => hlo, fun _ => .inl rfl⟩, hL.more (by omega), h.below hB, Ch2.below hB b c⟩
      · by_cases hk : t ≤ B.ktag
        · refine (raise_covered b c B d t w h ho hb (by omega) hk).mono ?_
          rintro e w' ⟨rfl, hT, hC⟩
          obtain ⟨⟨s, a, hc⟩, h2, h3⟩ := hL.more (Nat.le_succ n)
          exact ⟨0, { B with tag := t }, d, rfl, ⟨rfl, rfl, rfl, Nat.le_refl _, by show B.tag ≤ t; omega, fun _ => Nat.le_refl _, fun _ => .inl rfl⟩, ⟨⟨s, a, hc⟩, h2, hk⟩, hT, hC⟩
        · have hsv := life_save hL h.disk.2 hn ho (y := B.kround) (z := capZ t) m3 (capZ_le _)
          refine (raise_save b c B d t w h ho hb (by omega) hk hL.lt (by have := hL.wr.1; omega) hL.wr.2).mono ?_
          rintro e w' ⟨h0, h1, hC⟩
          rcases hsv with ⟨s0, a, s, hc⟩ | ⟨s0, hl⟩
          · obtain ⟨rfl, hT⟩ := h0 s0
            exact ⟨0, { B with ktag := capZ t, tag := t }, _, rfl, ⟨rfl, rfl, rfl, by show B.ktag ≤ capZ t; have := capZ_ge hb; omega, by show B.tag ≤ t; omega, fun _ => Nat.le_refl _, fun _ => .inl rfl⟩, ⟨⟨s, a, hc⟩, hL.rnd, capZ_ge hb⟩, hT, hC⟩
          · obtain ⟨rfl, hT⟩ := h1 (by rw [s0]; decide)
            exact ⟨_, B, _, rfl, ⟨rfl, rfl, rfl, Nat.le_refl _, Nat.le_refl _, fun h => absurd h (by rw [s0]; decide), fun _ => .inr s0⟩, hl, hT, hC⟩
    · refine (raise_big b c B d t w h ho (by omega)).mono ?_
      rintro e w' ⟨rfl, hB⟩
      exact ⟨120, B, d, rfl, ⟨rfl, rfl, rfl, Nat.le_refl _, Nat.le_refl _, fun h => absurd h (by decide), fun h => absurd h hb⟩, hL.more (by omega), h.below hB, Ch2.below hB b c⟩
/-- What Open tells, in one. -/
theorem open_sum (c : Nat) (d : Dk) (st : Option (Rc × Nat)) (n : Nat) (w : World) (h : DkAt w c d) (hC : CuS d st n d.off) (hn : n ≤ 1000000) (hl : (stRec st).life < 1073741824) :
    Calls Tryd.prog 14 #[.pointer (some ⟨c, 0, none⟩)] w fun e w' =>
      (∃ (b : Nat) (B : Bt) (d' : Dk), e = .returned (.tuple #[.pointer (some ⟨b, 0, none⟩), .int .i64 0]) ∧ w.heap.size ≤ b ∧ BtAt w' b c B d' ∧ LifeI B d' (n + 1) ∧ B.round = (stRec st).round ∧ B.tag = (stRec st).tag ∧ B.life = (stRec st).life + 1 ∧ w.grownBy w' (some c)) ∨
      (∃ d', e = .returned (.tuple #[.pointer none, .int .i64 100]) ∧ DkAt w' c d' ∧ CuS d' st (n + 1) d'.off ∧ w.grownBy w' (some c)) := by
  cases ho : d.off with
  | true =>
    refine (open_off c d w h hC.lt ho).mono ?_
    rintro e w' ⟨rfl, hB⟩
    exact .inr ⟨d, rfl, h.below hB, hC.more (by omega), but_below hB _⟩
  | false =>
    rw [ho] at hC
    have key : ∀ (l1 y z r t : Nat), l1 = (stRec st).life + 1 → r = (stRec st).round → t = (stRec st).tag → r ≤ y → y ≤ 1099511627775 → t ≤ z → z ≤ 1048576 → ∀ (e : Ending) (w' : World), OpenPost w c ⟨l1, y, z, r, t⟩ (saveW d l1 y z) e w' →
        (∃ (b : Nat) (B : Bt) (d' : Dk), e = .returned (.tuple #[.pointer (some ⟨b, 0, none⟩), .int .i64 0]) ∧ w.heap.size ≤ b ∧ BtAt w' b c B d' ∧ LifeI B d' (n + 1) ∧ B.round = (stRec st).round ∧ B.tag = (stRec st).tag ∧ B.life = (stRec st).life + 1 ∧ w.grownBy w' (some c)) ∨
        (∃ d', e = .returned (.tuple #[.pointer none, .int .i64 100]) ∧ DkAt w' c d' ∧ CuS d' st (n + 1) d'.off ∧ w.grownBy w' (some c)) := by
      intro l1 y z r t e1 e2 e3 hy hy2 hz hz2 e w' ⟨h0, h1, hg⟩
      rcases cuS_save hC h.2 hn (x := l1) (y := y) (z := z) ⟨by omega, by omega, by omega, by omega, by omega, by omega⟩ with ⟨s0, a, s, hc⟩ | ⟨s0, hc⟩
      · obtain ⟨b, rfl, hb, hT⟩ := h0 s0
        exact .inl ⟨b, _, _, rfl, hb, hT, ⟨⟨s, a, by rw [hc.on]; exact hc⟩, hy, hz⟩, e2, e3, e1, hg⟩
      · obtain ⟨rfl, hD⟩ := h1 (by rw [s0]; decide)
        exact .inr ⟨_, by rw [s0], hD, by rw [hc.on]; exact hc, hg⟩
    cases st with
    | none =>
      exact (open_none c d w h hC.lt (by have := hC.wr; omega) hC.fz (loadA_none hC.slots ho)).mono
        (key 1 (capR 0) (capT 0) 0 0 rfl rfl rfl (Nat.zero_le _) (capR_le _) (Nat.zero_le _) (capT_le _))
    | some p =>
      obtain ⟨q, a⟩ := p
      have hm := hC.slots.2.1.1
      obtain ⟨m1, m2, m3, m4, _⟩ := hm
      have hl' : q.life < 1073741824 := hl
      exact (open_some c d w h hC.lt (by have := hC.wr; omega) hC.fz q.life q.round q.tag (q.life + 1) q.seq (loadA_some hC.slots ho) rfl (by omega) (by omega) (by omega) (by omega)).mono
        (key (q.life + 1) (capR q.round) (capT q.tag) q.round q.tag rfl rfl rfl (capR_ge m3) (capR_le _) (capT_ge m4) (capT_le _))
end Go.Proofs.YtppmiggkknhdkaaDoor
namespace Go.Proofs.YtppmiggkknhdkaaDoor
set_option linter.unusedVariables false
set_option linter.unusedSimpArgs false
open Go.RowKit

theorem BtAt.same {W X : World} {b c : Nat} {B : Bt} {d : Dk} (h : BtAt W b c B d) (h1 : X.heap[b]? = W.heap[b]?) (h2 : X.heap[c]? = W.heap[c]?) : BtAt X b c B d := ⟨h1.trans h.boot, ⟨h2.trans h.disk.1, h.disk.2⟩, h.ne⟩
theorem first_save15 : (saveW Dk.new ((1 : Nat) : Int) (capR 0 : Nat) (capT 0 : Nat)).2 = 0 ∧ Saved Dk.new (saveW Dk.new ((1 : Nat) : Int) (capR 0 : Nat) (capT 0 : Nat)).1 none ⟨1, 16, 4, 1⟩ :=
  (save_law (x := ((1 : Nat) : Int)) (y := (capR 0 : Nat)) (z := (capT 0 : Nat)) slSt_new (by decide +kernel) rfl (by decide) (by decide)).resolve_right (fun h => by have := h.2.fused; cases this)
theorem nV_tag (i r o t k : Nat) (ho : i = o) (ht : tgN r = t) (hk : kdN r = k) : nV (i : Int) (tgN r : Nat) (kdN r : Nat) = .agg #[.int .i64 (o : Int), .int .i64 (t : Int), .int .i64 (k : Int)] := by subst ho ht hk; rfl
set_option maxRecDepth 100000 in
set_option maxHeartbeats 1000000 in
theorem alive15_any {w : World} {a : Addr} (hg : Gl a w) : Calls Tryd.prog 12 #[] w fun e w' => e = .returned (.bool true) ∧ Below w.heap.size w w' := by
  have hlt0 : ∀ c ∈ Dk.new.bs, c < 256 := tnS_new.lt
  obtain ⟨s0, hs⟩ := first_save15
  obtain ⟨D, hDe⟩ : ∃ D, saveW Dk.new ((1 : Nat) : Int) (capR 0 : Nat) (capT 0 : Nat) = D := ⟨_, rfl⟩
  rw [hDe] at s0 hs
  have HDE := Lib.hid hDe
  obtain ⟨d1, er⟩ := D
  simp only at s0 hs
  subst s0
  have HON := Lib.hid hs.on
  have HG := Lib.hid hg
  clear hDe hs hg
  go_enter Tryd.func12, Tryd.ntmps12
  go_wp2_with fail
  refine (new_any _).mono ?_
  rintro e w1 ⟨rfl, hD1, hB1⟩
  go_wp2_with fail
  refine (open_none w.heap.size Dk.new w1 hD1 hlt0 (by decide) (by decide) (loadA_none slSt_new rfl)).mono ?_
  rintro e w2 ⟨h0, _, hg2⟩
  rw [HDE.out] at h0
  obtain ⟨b, rfl, hb, hT2⟩ := h0 rfl
  have hb2 := hB1.grown hg2 hB1.size (fun j h => by cases h; exact Nat.le_refl _)
  have hbw : w.heap.size ≤ b := Nat.le_trans hB1.size hb
  clear h0 hg2 hD1
  go_wp2_with fail
  refine (tnew_yes 3 1 0 (by decide) (by decide) (by decide) w2).mono ?_
  rintro e w3 ⟨B, g, rfl, hT3, hB3, hg3, hb3⟩
  have hbb := blk_lt hT2.boot
  have hcc := blk_lt hT2.disk.1
  have hM3 := hT2.below hb3
  have hb03 := below_then hb2 hb3
  clear hT2 hB1
  rw [show bk0 3 1 0 = [0, 0, 0] from rfl] at hT3
  go_wp2_with fail
  refine (take_yes hT3 1 1 (by decide) (by decide)).mono ?_
  rintro e w4 ⟨rfl, hT4, hg4⟩
  rw [show tkR [0, 0, 0] 1 1 = [0, 1, 0] from rfl] at hT4
  have hz := hT3.lt
  have hM4 : BtAt w4 b w.heap.size _ d1 := hM3.same (hg4.5 b (blk_lt hM3.boot) (by simp; omega)) (hg4.5 _ (blk_lt hM3.disk.1) (by simp; omega))
  have hb04 := hb03.grown hg4 hb03.size (fun j h => by cases h; omega)
  clear hT3 hM3 hb03
  go_wp2_with fail
  have HM4 := Lib.hid hM4
  refine (defend_some hT4 (HG.out.of hb04) 1 (some ⟨b, 0, none⟩) 2 rfl b w.heap.size (fun er W => er = 0 ∧ BtAt W b w.heap.size ⟨1, 16, 4, 0, 1⟩ d1) ⟨blk_lt hM4.boot, blk_lt hM4.disk.1⟩ ⟨by omega, by omega, by omega, by omega⟩
    (fun W hW => (raise_covered b w.heap.size _ d1 1 W (HM4.out.below hW) HON.out (by decide) (by decide) (by decide)).mono (fun e w' ⟨h1, h2, h3⟩ => ⟨0, h1, h3, rfl, h2⟩))
    (fun er W X h1 h2 ⟨h3, h4⟩ => ⟨h3, h4.same h1 h2⟩)).mono ?_
  rintro e w5 ⟨er, ⟨rfl, hM5⟩, hC5, (⟨hne, _⟩ | ⟨_, rfl, hT5⟩)⟩
  · exact absurd rfl hne
  have hb05 := hC5.back hb04 hb04.size hbw (Nat.le_refl _) (by omega)
  have HTG := Lib.hid (tag_eq b _ _ _ ((hM5.below ((Below.refl _ _).alloc (Nat.le_refl _) (.cells #[.int .i64 1, .int .i64 1, .int .i64 1] 24)))).boot)
  unfold nV
  have HB := Lib.hid hb05
  clear hM5 hC5 hT5 hb05 hb04 hM4 HM4 hT4 hg4
  go_wp2_with (go_at_call 16; refine HTG.out.mono ?_; rintro e w6 ⟨rfl, rfl⟩)
  go_ret
  exact ⟨rfl, HB.out.alloc HB.out.size _⟩
end Go.Proofs.YtppmiggkknhdkaaDoor
namespace Go.Proofs.YtppmiggkknhdkaaDoor
set_option linter.unusedVariables false
set_option linter.unusedSimpArgs false
open Go.RowKit

theorem first_save : (saveW Dk.new ((1 : Nat) : Int) (capR 0 : Nat) (capT 0 : Nat)).2 = 0 ∧ Saved Dk.new (saveW Dk.new ((1 : Nat) : Int) (capR 0 : Nat) (capT 0 : Nat)).1 none ⟨1, 16, 4, 1⟩ :=
  (save_law (x := ((1 : Nat) : Int)) (y := (capR 0 : Nat)) (z := (capT 0 : Nat)) slSt_new (by decide +kernel) rfl (by decide) (by decide)).resolve_right (fun h => by have := h.2.fused; cases this)
/-- What look answers: 1 rounds, 2 tags, 3 the record. -/
def LookOk (what : Int) (B : Bt) (round tag : Nat) : Prop := if what = 1 then round ≤ B.round else if what = 2 then tag ≤ B.tag else True
end Go.Proofs.YtppmiggkknhdkaaDoor
namespace Go.Proofs.YtppmiggkknhdkaaDoor
set_option linter.unusedVariables false
set_option linter.unusedSimpArgs false
open Go.RowKit

theorem tag_nil (w : World) : Calls Tryd.prog 16 #[.pointer none] w fun e w' => e = .returned (.int .i64 0) ∧ w' = w := by
  go_enter Tryd.func16, Tryd.ntmps16
  go_wp2_with fail
  go_ret
  exact ⟨rfl, rfl⟩
theorem bon_nil (w : World) : Calls Tryd.prog 48 #[.pointer none] w fun e w' => e = .returned (.int .i64 1) ∧ w' = w := by
  go_enter Tryd.func48, Tryd.ntmps48
  go_wp2_with fail
  go_ret
  exact ⟨rfl, rfl⟩
theorem durable_nil (w : World) : Calls Tryd.prog 17 #[.pointer none] w fun e w' => e = .returned (recV 0 0 0) ∧ Below w.heap.size w w' := by
  unfold recV
  go_enter Tryd.func17, Tryd.ntmps17
  go_wp2_with fail
  exact bodyPost_ret (v := .agg #[.int .i64 0, .int .i64 0, .int .i64 0]) (by simp [results, Tryd.results17, go_sem]) rfl ⟨rfl, (Below.refl _ w).alloc (Nat.le_refl _) _⟩
theorem bon_zero (b : Nat) (B : Bt) (w : World) (h : BtB w b B none) : Calls Tryd.prog 48 #[.pointer (some ⟨b, 0, none⟩)] w fun e w' => e = .returned (.int .i64 100) ∧ Below w.heap.size w w' := by
  obtain ⟨⟨c0, c1, c2, c3, c4, c5⟩, _⟩ := h.cells
  have HO := Lib.hid (on_nil w)
  clear h
  go_enter Tryd.func48, Tryd.ntmps48
  go_wp2_with (go_at_call 64; refine HO.out.mono ?_; rintro e w1 ⟨rfl, hB1⟩)
  go_ret
  exact ⟨rfl, hB1⟩
theorem raise_zero (b : Nat) (B : Bt) (t : Int) (w : World) (h : BtB w b B none) : Calls Tryd.prog 30 #[.pointer (some ⟨b, 0, none⟩), .int .i64 t] w fun e w' => e = .returned (.int .i64 100) ∧ Below w.heap.size w w' := by
  have hal : Below w.heap.size w (w.alloc (.cells #[.int .i64 t] 3)) := (Below.refl _ w).alloc (Nat.le_refl _) _
  have HO := Lib.hid (bon_zero b B _ (h.below hal))
  clear h
  go_enter Tryd.func30, Tryd.ntmps30
  go_wp2_with (go_at_call 48; refine HO.out.mono ?_; rintro e w1 ⟨rfl, hB1⟩)
  go_ret
  exact ⟨rfl, below_then hal hB1⟩
theorem raise_nil (t : Int) (w : World) : Calls Tryd.prog 30 #[.pointer none, .int .i64 t] w fun e w' => e = .returned (.int .i64 1) ∧ Below w.heap.size w w' := by
  have hal : Below w.heap.size w (w.alloc (.cells #[.int .i64 t] 3)) := (Below.refl _ w).alloc (Nat.le_refl _) _
  go_enter Tryd.func30, Tryd.ntmps30
  go_wp2_with (go_at_call 48; refine (bon_nil _).mono ?_; rintro e w1 ⟨rfl, rfl⟩)
  go_ret
  exact ⟨rfl, hal⟩
theorem ld_nil (w : World) : Calls Tryd.prog 36 #[.pointer none] w fun e w' => e = .returned (.tuple #[keptV Rc.zero, .int .i64 (-1), .int .i64 100]) ∧ Below w.heap.size w w' := by
  have hr0 : ((w.alloc (.cells #[.int .i64 0, .int .i64 0, .int .i64 0, .int .i64 0] 92)).alloc (.cells #[.int .i64 0, .int .i64 0, .int .i64 0, .int .i64 0] 92)).heap[w.heap.size]? = some (.cells #[.int .i64 0, .int .i64 0, .int .i64 0, .int .i64 0] 92 (0, 0)) := blk_old (blk_new w _) _
  have hb0 : Below w.heap.size w ((w.alloc (.cells #[.int .i64 0, .int .i64 0, .int .i64 0, .int .i64 0] 92)).alloc (.cells #[.int .i64 0, .int .i64 0, .int .i64 0, .int .i64 0] 92)) := ((Below.refl _ w).alloc (Nat.le_refl _) _).alloc (by simp) _
  obtain ⟨A, hA⟩ : ∃ A, Value.tuple #[keptV Rc.zero, .int .i64 (-1), .int .i64 100] = A := ⟨_, rfl⟩
  rw [hA]
  have HA := Lib.hid hA
  clear hA
  go_enter Tryd.func36, Tryd.ntmps36
  go_wp2_with fail
  generalize World.alloc (World.alloc w _) _ = W1 at *
  go_loopw [6, 14] (fun av i wr => i = .int .i64 0 ∧ wr = W1) (fun _ i _ => 2 - (intOf i).toNat)
  case atStart => exact ⟨rfl, rfl⟩
  case round =>
    obtain ⟨rfl, rfl⟩ := hrel
    go_wp2_with fail
    refine (read_nil _ wr).mono ?_
    rintro e w2 ⟨rfl, hB2⟩
    have hr2 := blk_below' hB2 hr0
    have hb2 := below_then hb0 hB2
    obtain ⟨z0, z1, z2, z3, f0, f1, f2, f3⟩ := blk4 hr2
    go_wp2_with fail
    generalize hWF : World.setCell (World.setCell (World.setCell (World.setCell _ _ _) _ _) _ _) _ _ = WF
    have hfb : WF.heap[w.heap.size]? = some (.cells #[.int .i64 0, .int .i64 0, .int .i64 0, .int .i64 0] 92 (0, 0)) := by
      rw [← hWF]; exact blk_store (blk_store (blk_store (blk_store hr2 0 _) 1 _) 2 _) 3 _
    have hfl : Below w.heap.size w WF := by
      rw [← hWF]; exact (((hb2.setCell (Nat.le_refl _) _).setCell (Nat.le_refl _) _).setCell (Nat.le_refl _) _).setCell (Nat.le_refl _) _
    obtain ⟨y0, y1, y2, y3, _⟩ := blk4 hfb
    exact bodyPost_ret (v := .tuple #[.agg #[.int .i64 0, .int .i64 0, .int .i64 0, .int .i64 0], .int .i64 (-1), .int .i64 100]) (by simp [results, Tryd.results36, go_sem, y0, y1, y2, y3]) rfl ⟨by rw [← HA.out]; rfl, hfl⟩
theorem load_nil (w : World) : Calls Tryd.prog 19 #[.pointer none] w fun e w' => e = .returned (.tuple #[recV 0 0 0, .int .i64 0, .int .i64 100]) ∧ Below w.heap.size w w' := by
  have hb0 : Below w.heap.size w (w.alloc (.cells #[.int .i64 0, .int .i64 0, .int .i64 0] 48)) := (Below.refl _ w).alloc (Nat.le_refl _) _
  have HL := Lib.hid (fun w => ld_nil w)
  have hr0 := box3 w (.int .i64 0) (.int .i64 0) (.int .i64 0) 48
  unfold keptV at HL
  obtain ⟨A, hA⟩ : ∃ A, Value.tuple #[recV 0 0 0, .int .i64 0, .int .i64 100] = A := ⟨_, rfl⟩
  rw [hA]
  have HA := Lib.hid hA
  clear hA
  go_enter Tryd.func19, Tryd.ntmps19
  go_wp2_with (go_at_call 36; refine (HL.out _).mono ?_; rintro e w1 ⟨rfl, hB1⟩; have hr1 := blk_below' hB1 hr0; have hb1 := below_then hb0 hB1; obtain ⟨z0, z1, z2, f0, f1, f2⟩ := blk3 hr1; have hlt1 := blk_lt hr1)
  generalize hWF : World.alloc (World.setCell (World.setCell (World.setCell _ _ _) _ _) _ _) _ = WF
  refine load_end (x := 0) (y := 0) (z := 0) (i := 0) (c := 100) rfl rfl rfl rfl ?_ ?_ HA.out
  · rw [← hWF]; exact blk_old (blk_store (blk_store (blk_store hr1 0 _) 1 _) 2 _) _
  · rw [← hWF]; exact (((hb1.setCell (Nat.le_refl _) _).setCell (Nat.le_refl _) _).setCell (Nat.le_refl _) _).alloc (by simpa using hb1.size) _
theorem open_nil (w : World) : Calls Tryd.prog 14 #[.pointer none] w fun e w' => e = .returned (.tuple #[.pointer none, .int .i64 100]) ∧ Below w.heap.size w w' := by
  have HL := Lib.hid (fun w => load_nil w)
  unfold recV at HL
  go_enter Tryd.func14, Tryd.ntmps14
  go_wp2_with fail
  refine (HL.out w).mono ?_
  rintro e w1 ⟨rfl, hB1⟩
  go_wp2_with fail
  go_ret2
  exact ⟨rfl, hB1.alloc hB1.size _⟩
end Go.Proofs.YtppmiggkknhdkaaDoor
namespace Go.Proofs.YtppmiggkknhdkaaDoor
set_option linter.unusedVariables false
set_option linter.unusedSimpArgs false
open Go.RowKit

theorem gl_same {a : Addr} {W X : World} (h : Gl a W) (h0 : X.heap[0]? = W.heap[0]?) : Gl a X := by
  unfold Gl World.cell? at h ⊢
  rw [h0]; exact h
set_option maxRecDepth 100000 in
set_option maxHeartbeats 1000000 in
theorem refuteNone_walk (sf : Int) {w : World} {a : Addr} (hg : Gl a w) :
    Calls Tryd.prog 3 #[.int .i64 sf] w fun e w' => e = .returned (.bool true) ∧ Below w.heap.size w w' := by
  have HG := Lib.hid hg
  have HP := Lib.hid hg.lt
  clear hg
  go_enter Tryd.func3, Tryd.ntmps3
  go_wp2_with fail
  refine (rdue_nil HG.out sf).mono ?_
  rintro e w1 ⟨rfl, hB1⟩
  unfold nV
  go_wp2_with fail
  have hb2 := hB1.alloc hB1.size (.cells #[.int .i64 0, .int .i64 0, .int .i64 0] 24)
  generalize World.alloc w1 _ = w2 at *
  refine (defend_nil (HG.out.of hb2) sf none).mono ?_
  rintro e w3 ⟨rfl, hB3⟩
  have hb3 := below_then hb2 hB3
  unfold nV
  go_wp2_with fail
  have hb4 := hb3.alloc hb3.size (.cells #[.int .i64 0, .int .i64 0, .int .i64 0] 24)
  have hx4 := blk_new w3 (.cells #[.int .i64 0, .int .i64 0, .int .i64 0] 24)
  obtain ⟨p, hp⟩ : ∃ p, w3.heap.size = p := ⟨_, rfl⟩
  have hpw : w.heap.size ≤ p := by have := hb3.size; omega
  rw [hp] at hx4
  (try rw [hp])
  generalize World.alloc w3 _ = w4 at *
  clear hp hB1 hb2 hB3 hb3
  refine (tnew_yes 2 1 0 (by decide) (by decide) (by decide) w4).mono ?_
  rintro e w5 ⟨B, g, rfl, hT5, hB5, hg5, hb5⟩
  rw [show bk0 2 1 0 = [0, 0] from rfl] at hT5
  have hx5 := blk_below' hb5 hx4
  have hb05 := below_then hb4 hb5
  have hp4 := blk_lt hx4
  go_wp2_with fail
  refine (take_yes hT5 1 9 (by decide) (by decide)).mono ?_
  rintro e w6 ⟨rfl, hT6, hg6⟩
  rw [show tkR [0, 0] 1 9 = [0, 9] from rfl] at hT6
  have hl5 := hT5.lt
  have hz4 := hb4.size
  have hx6 := blk_grown hg6 hx5 (by simp; omega)
  have hb06 := hb05.grown hg6 hb05.size (fun j h => by cases h; omega)
  clear hT5 hx5 hg6
  go_wp2_with fail
  have HG6 := Lib.hid (HG.out.of hb06)
  refine (defend_some hT6 HG6.out 1 none 10 rfl 0 0 (fun er W => er = 1 ∧ W.heap[0]? = w6.heap[0]?) ⟨HG6.out.lt, HG6.out.lt⟩ ⟨by have := HP.out; omega, by have := HP.out; omega, by have := HP.out; omega, by have := HP.out; omega⟩
    (fun W hW => (raise_nil _ W).mono (fun e w' ⟨h1, h2⟩ => ⟨1, h1, Ch2.below h2 _ _, rfl, (h2.block 0 (Nat.lt_of_lt_of_le HG6.out.lt hW.size)).trans (hW.block 0 HG6.out.lt)⟩))
    (fun er W X h1 _ ⟨h3, h4⟩ => ⟨h3, h1.trans h4⟩)).mono ?_
  rintro e w7 ⟨er, ⟨rfl, hG7⟩, hC7, (⟨_, rfl, hT7⟩ | ⟨hne, _⟩)⟩
  rotate_left
  · exact absurd hne (by decide)
  have hx7 := hC7.blk hx6 (by have := HP.out; omega) (by have := HP.out; omega) (by omega)
  have hb07 : Below w.heap.size w w7 := by
    refine ⟨hC7.os.trans hb06.os, hC7.tape.trans hb06.tape, hC7.output.trans hb06.output, Nat.le_trans hb06.size hC7.size, fun k hk => ?_⟩
    by_cases hk0 : k = 0
    · subst hk0
      exact hG7.trans (hb06.block 0 hk)
    · exact (hC7.block k (by have := hb06.size; omega) hk0 hk0 (by omega)).trans (hb06.block k hk)
  have hG7 := gl_same HG6.out hG7
  unfold nV
  clear hC7 hT6 hx6 hb06 hx4 hb05 hb5 hb4
  go_wp2_with fail
  have HX := Lib.hid (blk_old hx7 (.cells #[.int .i64 0, .int .i64 0, .int .i64 0] 24))
  have HY := Lib.hid (blk_new w7 (.cells #[.int .i64 0, .int .i64 0, .int .i64 0] 24))
  have hb8 := hb07.alloc hb07.size (.cells #[.int .i64 0, .int .i64 0, .int .i64 0] 24)
  have hT8 := hT7.below ((Below.refl _ _).alloc (Nat.le_refl _) (.cells #[.int .i64 0, .int .i64 0, .int .i64 0] 24))
  clear hb07 hT7 hx7 hG7
  obtain ⟨q, hq⟩ : ∃ q, w7.heap.size = q := ⟨_, rfl⟩
  rw [hq] at HY
  (try rw [hq])
  generalize World.alloc w7 _ = w8 at *
  clear hq
  refine (at_any hT8 1).mono ?_
  rintro e w9 ⟨rfl, hB9⟩
  rw [show atV [0, 9] 1 = .tuple #[nV 1 4 2, .int .i64 0] from rfl]
  unfold nV
  have HX := Lib.hid (blk_below' hB9 HX.out)
  have HY := Lib.hid (blk_below' hB9 HY.out)
  have hb9 := below_then hb8 hB9
  clear hB9 hb8 hT8
  go_wp2_with fail
  have HX := Lib.hid (blk_old HX.out (.cells #[.int .i64 1, .int .i64 4, .int .i64 2] 24))
  have HY := Lib.hid (blk_old HY.out (.cells #[.int .i64 1, .int .i64 4, .int .i64 2] 24))
  have HZ := Lib.hid (blk_new w9 (.cells #[.int .i64 1, .int .i64 4, .int .i64 2] 24))
  have hb10 := hb9.alloc hb9.size (.cells #[.int .i64 1, .int .i64 4, .int .i64 2] 24)
  obtain ⟨r, hr⟩ : ∃ r, w9.heap.size = r := ⟨_, rfl⟩
  rw [hr] at HZ
  (try rw [hr])
  clear hb9 hr
  generalize World.alloc w9 _ = w10 at *
  refine (alive15_any (HG.out.of hb10)).mono ?_
  rintro e w11 ⟨rfl, hB11⟩
  have HX := Lib.hid (blk_below' hB11 HX.out)
  have HY := Lib.hid (blk_below' hB11 HY.out)
  have HZ := Lib.hid (blk_below' hB11 HZ.out)
  have hb11 := below_then hb10 hB11
  clear hB11 hb10
  have x0 := blk_cell HX.out 0
  have x1 := blk_cell HX.out 1
  have x2 := blk_cell HX.out 2
  have y0 := blk_cell HY.out 0
  have y1 := blk_cell HY.out 1
  have y2 := blk_cell HY.out 2
  have z1 := blk_cell HZ.out 1
  have z2 := blk_cell HZ.out 2
  go_wp2_with fail
  go_ret
  exact ⟨rfl, hb11⟩
theorem refuteNone_w (sf : Int) (hwf : (Lit.int .i64 sf).wf = true) (w : World) {a : Addr} (hg : Gl a w) :
    Calls Tryd.prog 3 #[.int .i64 sf] w fun e w' => e = .returned (.bool true) ∧ Below w.heap.size w w' := refuteNone_walk sf hg
end Go.Proofs.YtppmiggkknhdkaaDoor
namespace Go.Proofs.YtppmiggkknhdkaaDoor
set_option linter.unusedVariables false
open Go.RowKit Go.WideShapes Go.ChangeShapes Go.WideElems Go.Deep

/-- What one cell may hold. -/
inductive Sh where
  | int (k : IntKind)
  | bool
  | str
  | ints (k : IntKind)
  | rows (n : Nat)
def ShV (W : World) : Sh → Value → Prop
  | .int k, v => ∃ x, v = .int k x ∧ (Lit.int k x).wf = true
  | .bool, v => ∃ b, v = .bool b
  | .str, v => ∃ s : ByteArray, v = .string s ∧ s.size ≤ maxLen
  | .ints k, v => ∃ xs, RowOf W k v xs ∧ ∀ x ∈ xs, (Lit.int k x).wf = true
  | .rows n, v => ∃ xs, RowsOf W n v xs ∧ ∀ x ∈ xs, ∀ y ∈ x, (Lit.int .i64 y).wf = true
theorem ShV.below {W W' : World} (hb : Below W.heap.size W W') : ∀ {s : Sh} {v : Value}, ShV W s v → ShV W' s v
  | .int _, _, h => h
  | .bool, _, h => h
  | .str, _, h => h
  | .ints _, _, ⟨xs, h, hw⟩ => ⟨xs, h.below hb, hw⟩
  | .rows _, _, ⟨xs, h, hw⟩ => ⟨xs, h.below hb, hw⟩
/-- Cells of these shapes, one by one. -/
def ShL (W : World) : List Sh → List Value → Prop
  | [], [] => True
  | s :: ss, v :: vs => ShV W s v ∧ ShL W ss vs
  | _, _ => False
theorem ShL.len {W : World} : ∀ {ss : List Sh} {vs : List Value}, ShL W ss vs → vs.length = ss.length
  | [], [], _ => rfl
  | s :: ss, v :: vs, h => by simp [ShL.len h.2]
  | [], _ :: _, h => h.elim
  | _ :: _, [], h => h.elim
theorem ShL.append {W : World} : ∀ {ss : List Sh} {vs : List Value} {tt : List Sh} {us : List Value}, ShL W ss vs → ShL W tt us → ShL W (ss ++ tt) (vs ++ us)
  | [], [], _, _, _, h => h
  | s :: ss, v :: vs, _, _, h, k => ⟨h.1, ShL.append h.2 k⟩
  | [], _ :: _, _, _, h, _ => h.elim
  | _ :: _, [], _, _, h, _ => h.elim
theorem ShL.below {W W' : World} (hb : Below W.heap.size W W') : ∀ {ss : List Sh} {vs : List Value}, ShL W ss vs → ShL W' ss vs
  | [], [], h => h
  | s :: ss, v :: vs, h => ⟨h.1.below hb, ShL.below hb h.2⟩
  | [], _ :: _, h => h.elim
  | _ :: _, [], h => h.elim
def tilesS (P : Program) (F : TypeId → Option (List Sh)) : List Field → Nat → Nat → Option (List Sh)
  | [], o, n => if o == n then some [] else none
  | f :: fs, o, n => if f.offset == o then (match F f.type with | none => none | some a => match tilesS P F fs (o + P.cellsOf f.type) n with | none => none | some b => some (a ++ b)) else none
def shapes (P : Program) : Nat → TypeId → Option (List Sh)
  | 0, _ => none
  | d + 1, t =>
    match P.underlying t with
    | some (.int k) => if P.cellsOf t == 1 then some [.int k] else none
    | some .bool => if P.cellsOf t == 1 then some [.bool] else none
    | some .string => if P.cellsOf t == 1 then some [.str] else none
    | some (.slice e) => match P.underlying e with
      | some (.int k) => if P.cellsOf e == 1 && P.cellsOf t == 1 then some [.ints k] else none
      | some (.struct _) => if flatB P 3 e && decide (0 < P.cellsOf e) && P.cellsOf t == 1 then some [.rows (P.cellsOf e)] else none
      | _ => none
    | some (.struct fs) => tilesS P (shapes P d) fs.toList 0 (P.cellsOf t)
    | _ => none

section
variable {H : Type} {enc : TypeId × Value → H} {P : Program} {w : World} {spare : Nat → Bool} {held : Bool}
theorem rowOf_of_trod {t e : TypeId} {k : IntKind} {n : Nat} {cs : List Value} {x : DataW H × List MemPlace} (ht : P.underlying t = some (.slice e)) (he : P.underlying e = some (.int k)) (hc : P.cellsOf e = 1)
    (hn : DataW.trod enc P w 0 spare held n t cs = some x) : ∃ v xs, cs = [v] ∧ RowOf w k v xs ∧ ∀ x ∈ xs, (Lit.int k x).wf = true := by
  rcases open_ints ht he hc hn with ⟨h1, h2⟩ | ⟨a, len, cap, zs, h1, hb, hl, hm, hz, h2, h3, h4⟩
  · exact ⟨.slice none 0 0, [], h1, .inl ⟨rfl, rfl⟩, by simp⟩
  · have hzl : len ≤ zs.length := by rw [hz]; split <;> omega
    have hlen : (zs.take len).length = len := by rw [List.length_take]; omega
    refine ⟨.slice (some a) len cap, zs.take len, h1, .inr ⟨a, cap, by rw [hlen], by omega, hm, fun i x hx => ?_⟩, fun x hx => h4 x (List.mem_of_mem_take hx)⟩
    have hi : i < len := by have := (List.getElem?_eq_some_iff.1 hx).1; omega
    have hx2 : zs[i]? = some x := by rw [List.getElem?_take_of_lt hi] at hx; exact hx
    have hc1 := h3 i (by omega)
    rw [List.getD_eq_getElem?_getD, hx2] at hc1
    exact ⟨hc1, cell_lt hc1⟩
theorem rowsOf_of_trod {t e : TypeId} {n : Nat} {cs : List Value} {x : DataW H × List MemPlace} (ht : P.underlying t = some (.slice e)) (hfl : flatB P 3 e = true) (hpos : 0 < P.cellsOf e)
    (hn : DataW.trod enc P w 0 spare held n t cs = some x) : ∃ v xs, cs = [v] ∧ RowsOf w (P.cellsOf e) v xs ∧ ∀ x ∈ xs, ∀ y ∈ x, (Lit.int .i64 y).wf = true := by
  rcases open_slice ht hn with ⟨h1, h2⟩ | ⟨a, len, cap, m, k, D, Pl, h1, hb, hl, hm, hmm, hx, hall⟩
  · subst h1
    exact ⟨_, [], rfl, ⟨none, 0, rfl, Nat.le_refl _, by unfold maxLen; omega, fun i x h => by simp at h⟩, by simp⟩
  · subst h1
    have hlm : len ≤ m := by rw [hmm]; split <;> omega
    have key : ∀ i, i < len → ∃ ys : List Int, ys.length = P.cellsOf e ∧ (∀ y ∈ ys, (Lit.int .i64 y).wf = true) ∧ w.cells? 0 (a.add (i * P.cellsOf e)) (P.cellsOf e) = some (intsV ys) := by
      intro i hi
      obtain ⟨cs, hc, hd⟩ := hall i (by omega)
      obtain ⟨ys, hy, hw⟩ := flat_open 3 e _ _ _ hfl hd
      have hll := flat_len hfl hd
      refine ⟨ys, ?_, hw, by rw [← hy]; exact hc⟩
      rw [hy] at hll
      simpa [intsV] using hll
    obtain ⟨f, hf⟩ : ∃ f : Nat → List Int, ∀ i, i < len → (f i).length = P.cellsOf e ∧ (∀ y ∈ f i, (Lit.int .i64 y).wf = true) ∧ w.cells? 0 (a.add (i * P.cellsOf e)) (P.cellsOf e) = some (intsV (f i)) := by
      refine ⟨fun i => if h : i < len then (key i h).choose else [], fun i hi => ?_⟩
      simp only [hi, dite_true]
      exact (key i hi).choose_spec
    refine ⟨_, (List.range len).map f, rfl, ⟨some a, cap, by simp, by simpa using hl, hm, fun i x hx => ?_⟩, fun x hx => ?_⟩
    · rw [List.getElem?_map] at hx
      have hi : i < len := by
        rcases Nat.lt_or_ge i len with h | h
        · exact h
        · rw [List.getElem?_eq_none (by simpa using h)] at hx; cases hx
      rw [List.getElem?_range hi] at hx
      obtain rfl : f i = x := by simpa using hx
      obtain ⟨h4, h5, h6⟩ := hf i hi
      obtain ⟨_, h7, h8⟩ := World.cells?_some h6
      have hcell : ∀ j y, (f i)[j]? = some y → w.cell? ((a.add (i * P.cellsOf e)).add j) = some (.int .i64 y) := by
        intro j y hy
        have hj : j < P.cellsOf e := by have := (List.getElem?_eq_some_iff.1 hy).1; omega
        rw [h8 j hj]
        unfold intsV; rw [List.getElem?_map, hy]; rfl
      obtain ⟨g, o, spot⟩ := a
      have hspot : spot = none := by
        obtain ⟨k4, k5, k6⟩ := hf 0 (by omega)
        obtain ⟨_, k7, k8⟩ := World.cells?_some k6
        have hk := k8 0 hpos
        have hk2 : (intsV (f 0))[0]? = some (.int .i64 ((f 0)[0]'(by omega))) := by unfold intsV; rw [List.getElem?_map, List.getElem?_eq_getElem (by omega)]; rfl
        rw [hk2] at hk
        have := World.cell?_spot hk
        simpa [Addr.add] using this
      subst hspot
      have h0 := hcell 0 _ (List.getElem?_eq_getElem (by omega))
      refine ⟨h4, g, o, rfl, ?_, fun j y hy => ?_⟩
      · have := cell_lt h0
        rwa [add_mid', add_mid'] at this
      · have := hcell j y hy
        rwa [add_mid', add_mid'] at this
    · obtain ⟨i, hi, rfl⟩ := List.mem_map.1 hx
      exact (hf i (List.mem_range.1 hi)).2.1
theorem tilesS_open {F : TypeId → Option (List Sh)} {cs : List Value} (hF : ∀ (t : TypeId) (n : Nat) (cs : List Value) (x : DataW H × List MemPlace) (ss : List Sh), F t = some ss → DataW.trod enc P w 0 spare held n t cs = some x → ShL w ss cs) {n : Nat} :
    ∀ (fs : List Field) (o : Nat) (ss : List Sh), tilesS P F fs o cs.length = some ss → (∀ f ∈ fs, ∃ x, DataW.trod enc P w 0 spare held n f.type ((cs.drop f.offset).take (P.cellsOf f.type)) = some x) → ShL w ss (cs.drop o)
  | [], o, ss, ht, _ => by
    unfold tilesS at ht
    split at ht
    · rename_i ho
      have ho : o = cs.length := by simpa using ho
      obtain rfl : [] = ss := by simpa using ht
      rw [ho, List.drop_length]; trivial
    · cases ht
  | f :: fs, o, ss, ht, hx => by
    unfold tilesS at ht
    split at ht
    · rename_i h1
      have h1 : f.offset = o := by simpa using h1
      split at ht
      · cases ht
      · rename_i a ha
        split at ht
        · cases ht
        · rename_i b hb
          obtain rfl : a ++ b = ss := by simpa using ht
          obtain ⟨x, hx0⟩ := hx f (by simp)
          rw [h1] at hx0
          have h2 := hF _ _ _ _ _ ha hx0
          have h3 := tilesS_open hF fs _ b hb (fun g hg => hx g (by simp [hg]))
          rw [← List.take_append_drop (P.cellsOf f.type) (cs.drop o), List.drop_drop]
          exact h2.append h3
    · cases ht
theorem shapes_open : ∀ (d : Nat) (t : TypeId) (n : Nat) (cs : List Value) (x : DataW H × List MemPlace) (ss : List Sh), shapes P d t = some ss → DataW.trod enc P w 0 spare held n t cs = some x → ShL w ss cs
  | 0, _, _, _, _, _, h, _ => by cases h
  | d + 1, t, n, cs, x, ss, h, hx => by
    unfold shapes at h
    split at h
    · rename_i k hu
      obtain ⟨z, rfl, _, hw⟩ := DataW.trod_int hu hx
      split at h
      · obtain rfl : [Sh.int k] = ss := by simpa using h
        exact ⟨⟨z, rfl, hw⟩, trivial⟩
      · cases h
    · rename_i hu
      obtain ⟨z, rfl, _⟩ := DataW.trod_bool hu hx
      split at h
      · obtain rfl : [Sh.bool] = ss := by simpa using h
        exact ⟨⟨z, rfl⟩, trivial⟩
      · cases h
    · rename_i hu
      obtain ⟨z, rfl, _, hz⟩ := DataW.trod_string hu hx
      split at h
      · obtain rfl : [Sh.str] = ss := by simpa using h
        exact ⟨⟨z, rfl, hz⟩, trivial⟩
      · cases h
    · rename_i e hu
      split at h
      · rename_i k he
        split at h
        · rename_i hc
          simp only [Bool.and_eq_true, beq_iff_eq] at hc
          obtain rfl : [Sh.ints k] = ss := by simpa using h
          obtain ⟨v, xs, rfl, h1, h2⟩ := rowOf_of_trod hu he hc.1 hx
          exact ⟨⟨xs, h1, h2⟩, trivial⟩
        · cases h
      · rename_i fs he
        split at h
        · rename_i hc
          simp only [Bool.and_eq_true, beq_iff_eq, decide_eq_true_eq] at hc
          obtain rfl : [Sh.rows (P.cellsOf e)] = ss := by simpa using h
          obtain ⟨v, xs, rfl, h1, h2⟩ := rowsOf_of_trod hu hc.1.1 hc.1.2 hx
          exact ⟨⟨xs, h1, h2⟩, trivial⟩
        · cases h
      · cases h
    · rename_i fs hu
      obtain ⟨xs, m, _, _, hl, hlen, hf⟩ := DataW.trod_struct hu hx
      rw [← hl] at h
      have := tilesS_open (n := m) (fun t n cs x ss => shapes_open d t n cs x ss) fs.toList 0 ss h (fun f hfm => by
        obtain ⟨i, hi, rfl⟩ := List.mem_iff_getElem.1 hfm
        have := hf i fs.toList[i] (by rw [← Array.getElem?_toList, List.getElem?_eq_getElem hi])
        refine ⟨xs[i]'(by rw [hlen]; simpa using hi), ?_⟩
        rw [this, List.getElem?_eq_getElem])
      simpa using this
    · cases h
/-- A struct that came in. -/
theorem open_shapes {r : Reach} {b0 : Nat} {t : TypeId} {fs : Array Field} {ss : List Sh} {v : Value} {dd : DataW H} {p : List MemPlace} (d : Nat) (ht : P.underlying t = some (.struct fs)) (hfl : shapes P d t = some ss)
    (hval : Value.okWide P w r b0 t v) (h : DataW.Trod enc P w 0 spare held t v dd p) : ∃ cs, v = .agg cs.toArray ∧ ShL w ss cs := by
  obtain ⟨n, hn⟩ := h
  unfold Value.okWide at hval
  rw [ht] at hval
  obtain ⟨cs, rfl, _, _⟩ := hval
  exact ⟨cs.toList, by simp, shapes_open d t n _ _ _ hfl hn⟩
end
/-- A row of elements of these shapes that came in. -/
def RowsS (W : World) (ss : List Sh) (v : Value) (xs : List (List Value)) : Prop :=
  ∃ a cap, v = .slice a xs.length cap ∧ xs.length ≤ cap ∧ cap ≤ maxLen ∧ ∀ (i : Nat) (x : List Value), xs[i]? = some x → ShL W ss x ∧ ∃ g o, a = some ⟨g, o, none⟩ ∧ g < W.heap.size ∧ ∀ (j : Nat) (y : Value), x[j]? = some y → W.cell? ⟨g, o + i * ss.length + j, none⟩ = some y
theorem RowsS.below {W W' : World} {ss : List Sh} {v : Value} {xs : List (List Value)} (h : RowsS W ss v xs) (hb : Below W.heap.size W W') : RowsS W' ss v xs := by
  obtain ⟨a, cap, h1, h2, h3, h4⟩ := h
  refine ⟨a, cap, h1, h2, h3, fun i x hx => ?_⟩
  obtain ⟨h5, g, o, h6, h7, h8⟩ := h4 i x hx
  exact ⟨h5.below hb, g, o, h6, Nat.lt_of_lt_of_le h7 hb.size, fun j y hy => (hb.cell h7).trans (h8 j y hy)⟩
theorem add_midS (b o j : Nat) : (⟨b, o, none⟩ : Addr).add j = ⟨b, o + j, none⟩ := by unfold Addr.add; split <;> simp_all
theorem open_rowsS {H : Type} {enc : TypeId × Value → H} {P : Program} {W : World} {spare : Nat → Bool} {held : Bool} {r : Reach} {b0 : Nat} {t e : TypeId} {ss : List Sh} {v : Value} {dd : DataW H} {p : List MemPlace} (d : Nat) (ht : P.underlying t = some (.slice e)) (hfl : shapes P d e = some ss) (hpos : 0 < ss.length) (hce : P.cellsOf e = ss.length)
    (hval : Value.okWide P W r b0 t v) (h : DataW.Trod enc P W 0 spare held t v dd p) : ∃ xs, RowsS W ss v xs ∧ (dd = .nil ∨ ∃ el sp, dd = .slice el sp ∧ el.length = xs.length) := by
  obtain ⟨n, hn⟩ := h
  have hv : v.cells.toList = [v] := by
    cases v <;> first | rfl | (simp [Value.okWide, Cell.okWide, Cell.ok, ht] at hval)
  rw [hv] at hn
  rcases DataW.trod_slice ht hn with ⟨h1, h2⟩ | ⟨a, len, cap, elems, rest, m, _, h1, h2, hb, hl, hm, hel, hall, _, _⟩
  · obtain rfl : v = .slice none 0 0 := by simpa using h1
    exact ⟨[], ⟨none, 0, rfl, Nat.le_refl _, by unfold maxLen; omega, fun i x h => by simp at h⟩, .inl (congrArg Prod.fst h2)⟩
  · obtain rfl : v = .slice (some a) len cap := by simpa using h1
    rw [hce] at hall
    have key : ∀ i, i < len → ∃ cs : List Value, ShL W ss cs ∧ W.cells? 0 (a.add (i * ss.length)) ss.length = some cs := by
      intro i hi
      have h3 := hall i hi
      rw [List.getElem?_eq_getElem (by omega)] at h3
      obtain ⟨cs, hc, hd⟩ := Option.bind_eq_some_iff.1 h3
      exact ⟨cs, shapes_open d e _ _ _ _ hfl hd, hc⟩
    obtain ⟨f, hf⟩ : ∃ f : Nat → List Value, ∀ i, i < len → ShL W ss (f i) ∧ W.cells? 0 (a.add (i * ss.length)) ss.length = some (f i) := by
      refine ⟨fun i => if h : i < len then (key i h).choose else [], fun i hi => ?_⟩
      simp only [hi, dite_true]
      exact (key i hi).choose_spec
    refine ⟨(List.range len).map f, ⟨some a, cap, by simp, by simpa using hl, hm, fun i x hx => ?_⟩, .inr ⟨elems.map (·.1), rest.map (·.1), congrArg Prod.fst h2, by simp [hel]⟩⟩
    rw [List.getElem?_map] at hx
    have hi : i < len := by
      rcases Nat.lt_or_ge i len with h | h
      · exact h
      · rw [List.getElem?_eq_none (by simpa using h)] at hx; cases hx
    rw [List.getElem?_range hi] at hx
    obtain rfl : f i = x := by simpa using hx
    obtain ⟨h4, h6⟩ := hf i hi
    have hlen := h4.len
    obtain ⟨_, h7, h8⟩ := World.cells?_some h6
    have hcell : ∀ j y, (f i)[j]? = some y → W.cell? ((a.add (i * ss.length)).add j) = some y := by
      intro j y hy
      have hj : j < ss.length := by have := (List.getElem?_eq_some_iff.1 hy).1; omega
      rw [h8 j hj]; exact hy
    have h0 := hcell 0 _ (List.getElem?_eq_getElem (by omega))
    obtain ⟨g, o, spot⟩ := a
    have hspot : spot = none := by
      obtain ⟨k4, k6⟩ := hf 0 (by omega)
      have k4l := k4.len
      obtain ⟨_, k7, k8⟩ := World.cells?_some k6
      have hk := k8 0 hpos
      rw [List.getElem?_eq_getElem (by omega)] at hk
      have := World.cell?_spot hk
      simpa [Addr.add] using this
    subst hspot
    refine ⟨h4, g, o, rfl, ?_, fun j y hy => ?_⟩
    · have := cell_lt h0
      rwa [add_midS, add_midS] at this
    · have := hcell j y hy
      rwa [add_midS, add_midS] at this
end Go.Proofs.YtppmiggkknhdkaaDoor
