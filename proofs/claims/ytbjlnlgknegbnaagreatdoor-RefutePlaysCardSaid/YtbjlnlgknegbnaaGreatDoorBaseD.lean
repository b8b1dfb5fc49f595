/- Lemmas of this chapter, laid one behind the other. -/
import Derived.Test.YtbjlnlgknegbnaaGreatDoorBaseC
import Derived.BigQuiet
import Derived.Deep.OwnRows
import Derived.RegionTactic
import Derived.BigRegion
import Derived.Laws.CopyOwn
import Derived.Deep.QuietTactic
namespace Go.Proofs.YtbjlnlgknegbnaaGreatDoor
set_option linter.unusedVariables false
set_option linter.unusedSimpArgs false
open Go.RowKit

structure RtS (w : World) (g cp : Nat) (R : List Nat) (o t k : Int) (W : World) : Prop where
  b : W.heap[w.heap.size]? = some (.cells #[.slice (some ⟨g, 0, none⟩) R.length cp] 46 (0, 0))
  x : W.heap[w.heap.size + 1]? = some (.cells #[.int .i64 o, .int .i64 t, .int .i64 k] 60 (0, 0))
  r : W.heap[w.heap.size + 2]? = some (.cells #[.slice none 0 0] 46 (0, 0))
  nb : Nb W g cp R
  low : Below w.heap.size w W
theorem RtS.below {w W X : World} {g cp : Nat} {R : List Nat} {o t k : Int} (h : RtS w g cp R o t k W) (hb : Below W.heap.size W X) : RtS w g cp R o t k X := ⟨blk_below' hb h.b, blk_below' hb h.x, blk_below' hb h.r, h.nb.below hb, below_then h.low hb⟩
def Rt7 (b g cp n : Nat) (o t k : Int) (i q : Nat) (W : World) : Prop := W.cell? ⟨b, 0, none⟩ = some (.slice (some ⟨g, 0, none⟩) n cp) ∧ Bx3 (b + 1) o t k W ∧ (W.cell? ⟨g, i * 3, none⟩ = some (.int .i64 (i : Int)) ∧ W.cell? ⟨g, i * 3 + 1, none⟩ = some (.int .i64 (tgN q : Nat)) ∧ W.cell? ⟨g, i * 3 + 2, none⟩ = some (.int .i64 (kdN q : Nat)))
theorem RtS.c7 {w W : World} {g cp : Nat} {R : List Nat} {o t k : Int} (h : RtS w g cp R o t k W) {i q : Nat} (hq : R[i]? = some q) : Rt7 w.heap.size g cp R.length o t k i q W :=
  ⟨blk_cell h.b 0, ⟨blk_cell h.x 0, blk_cell h.x 1, blk_cell h.x 2⟩, (h.nb.list.cells hq).1⟩
set_option maxRecDepth 100000 in
set_option maxHeartbeats 1000000 in
theorem refTake_yes {w : World} {g cp : Nat} {R : List Nat} (h : Nb w g cp R) (i r : Nat) (hi : i < R.length) (hr : r ≤ 2097153) (hlt : R.getD i 0 < r) :
    Calls Tryz.prog 45 #[.agg #[.slice (some ⟨g, 0, none⟩) R.length cp], nV (i : Int) (tgN r : Nat) (kdN r : Nat)] w fun e w' => ∃ g' cp', e = .returned (.tuple #[.agg #[.slice (some ⟨g', 0, none⟩) R.length cp'], .bool true, .int .i64 0]) ∧ Nb w' g' cp' (R.set i r) ∧ w.heap.size ≤ g' ∧ Below w.heap.size w w' := by
  have hv := vN_of (n := R.length) hi h.n.2 hr
  obtain ⟨q, hq, hqd, hql⟩ := h.get hi
  have HV := Lib.hid (fun w => refValid_any (R.length : Int) (i : Int) (tgN r : Nat) (kdN r : Nat) w)
  rw [hv] at HV
  have HB := Lib.hid (fun w => refBeats_nat i r q hr hql w)
  rw [hqd] at hlt
  rw [decide_eq_true hlt] at HB
  unfold nV at HV HB ⊢
  have HQ := Lib.hid hq
  have HI := Lib.hid hi
  have HR := Lib.hid hr
  have i1 : (i : Int) < (R.length : Int) := by omega
  have i2 : (0 : Int) ≤ (i : Int) := by omega
  have i3 : (i : Int).toNat = i := Int.toNat_natCast i
  have HS : Hid (RtS w g cp R (i : Int) (tgN r : Nat) (kdN r : Nat) (((w.alloc (.cells #[.slice (some ⟨g, 0, none⟩) R.length cp] 46)).alloc (.cells #[.int .i64 (i : Int), .int .i64 (tgN r : Nat), .int .i64 (kdN r : Nat)] 60)).alloc (.cells #[.slice none 0 0] 46))) := by
    have hb := (((Below.refl w.heap.size w).alloc (Nat.le_refl _) (.cells #[.slice (some ⟨g, 0, none⟩) R.length cp] 46)).alloc (by simp) (.cells #[.int .i64 (i : Int), .int .i64 (tgN r : Nat), .int .i64 (kdN r : Nat)] 60)).alloc (by simp; omega) (.cells #[.slice none 0 0] 46)
    exact Lib.hid ⟨blk_old (blk_old (blk_new w _) _) _, blk_old (b1 w _ _) _, b2 w _ _ _, h.below hb, hb⟩
  clear hv hq hqd hql hlt h hi hr
  go_enter Tryz.func45, Tryz.ntmps45
  go_upto_region 1 with fail
  generalize World.alloc (World.alloc (World.alloc w _) _) _ = W at *
  obtain ⟨k0, ⟨k1, k2, k3⟩, _⟩ := HS.out.c7 HQ.out
  go_upto_region 3 with (go_at_call 37; refine (HV.out _).mono ?_; rintro e w1 ⟨rfl, hB⟩)
  have HS := Lib.hid (HS.out.below hB)
  clear hB k0 k1 k2 k3
  refine wp_region_early (Rt7 w.heap.size g cp R.length (i : Int) (tgN r : Nat) (kdN r : Nat) i q) (fun _ => false) (by kernel_rfl) ?_
  simp only [List.size_toArray, List.length_cons, List.length_nil, Nat.reduceAdd, Array.replicate_succ, Array.replicate_zero, List.push_toArray, List.nil_append, List.cons_append]
  have HS := Lib.hid (HS.out.below ((Below.refl _ w1).drew))
  generalize World.drew w1 = W2 at *
  have hSS := HS.out.c7 HQ.out
  refine wpAnyE_take (i := 0) (v := ?_) rfl (by kernel_rfl) (by kernel_rfl) (by kernel_rfl) (by kernel_rfl) (fun _ _ _ h => h) (Or.inl ⟨by rfl, ?_⟩) hSS ?_
  rotate_left
  · intro w hSw
    obtain ⟨j0, ⟨j1, j2, j3⟩, j4, j5, j6⟩ := hSw
    go_simp
    all_goals with_reducible rfl
  simp only [Act.put, List.setIfInBounds_toArray, List.set_cons_zero, List.set_cons_succ, List.getElem_toArray, List.getElem_cons_zero, List.getElem_cons_succ]
  refine wpAnyE_take (i := 1) (v := ?_) rfl (by kernel_rfl) (by kernel_rfl) (by kernel_rfl) (by kernel_rfl) (fun _ _ _ h => h) (Or.inl ⟨by rfl, ?_⟩) hSS ?_
  rotate_left
  · intro w hSw
    obtain ⟨j0, ⟨j1, j2, j3⟩, j4, j5, j6⟩ := hSw
    go_simp
    all_goals with_reducible rfl
  simp only [Act.put, List.setIfInBounds_toArray, List.set_cons_zero, List.set_cons_succ, List.getElem_toArray, List.getElem_cons_zero, List.getElem_cons_succ]
  refine wpAnyE_take (i := 2) (v := ?_) rfl (by kernel_rfl) (by kernel_rfl) (by kernel_rfl) (by kernel_rfl) (fun _ _ _ h => h) (Or.inl ⟨by rfl, ?_⟩) hSS ?_
  rotate_left
  · intro w hSw
    obtain ⟨j0, ⟨j1, j2, j3⟩, j4, j5, j6⟩ := hSw
    go_simp
    all_goals with_reducible rfl
  simp only [Act.put, List.setIfInBounds_toArray, List.set_cons_zero, List.set_cons_succ, List.getElem_toArray, List.getElem_cons_zero, List.getElem_cons_succ]
  refine wpAnyE_take (i := 3) (v := ?_) rfl (by kernel_rfl) (by kernel_rfl) (by kernel_rfl) (by kernel_rfl) (fun _ _ _ h => h) (Or.inl ⟨by rfl, ?_⟩) hSS ?_
  rotate_left
  · intro w hSw
    obtain ⟨j0, ⟨j1, j2, j3⟩, j4, j5, j6⟩ := hSw
    go_simp
    all_goals with_reducible rfl
  simp only [Act.put, List.setIfInBounds_toArray, List.set_cons_zero, List.set_cons_succ, List.getElem_toArray, List.getElem_cons_zero, List.getElem_cons_succ]
  refine wpAnyE_take (i := 4) (v := ?_) rfl (by kernel_rfl) (by kernel_rfl) (by kernel_rfl) (by kernel_rfl) (fun _ _ _ h => h) (Or.inl ⟨by rfl, ?_⟩) hSS ?_
  rotate_left
  · intro w hSw
    obtain ⟨j0, ⟨j1, j2, j3⟩, j4, j5, j6⟩ := hSw
    go_simp
    all_goals with_reducible rfl
  simp only [Act.put, List.setIfInBounds_toArray, List.set_cons_zero, List.set_cons_succ, List.getElem_toArray, List.getElem_cons_zero, List.getElem_cons_succ]
  refine wpAnyE_take (i := 5) (v := ?_) rfl (by kernel_rfl) (by kernel_rfl) (by kernel_rfl) (by kernel_rfl) (fun _ _ _ h => h) (Or.inl ⟨by rfl, ?_⟩) hSS ?_
  rotate_left
  · intro w hSw
    obtain ⟨j0, ⟨j1, j2, j3⟩, j4, j5, j6⟩ := hSw
    go_simp
    all_goals with_reducible rfl
  simp only [Act.put, List.setIfInBounds_toArray, List.set_cons_zero, List.set_cons_succ, List.getElem_toArray, List.getElem_cons_zero, List.getElem_cons_succ]
  refine wpAnyE_take (i := 6) (v := ?_) rfl (by kernel_rfl) (by kernel_rfl) (by kernel_rfl) (by kernel_rfl) (fun _ _ _ h => h) (Or.inl ⟨by rfl, ?_⟩) hSS ?_
  rotate_left
  · intro w hSw
    obtain ⟨j0, ⟨j1, j2, j3⟩, j4, j5, j6⟩ := hSw
    go_simp
    all_goals with_reducible rfl
  simp only [Act.put, List.setIfInBounds_toArray, List.set_cons_zero, List.set_cons_succ, List.getElem_toArray, List.getElem_cons_zero, List.getElem_cons_succ]
  refine wpAnyE_one (i := 7) (by kernel_rfl) rfl ?_
  change wpList _ _ (Exit.then _ _) [_] _ _
  try simp only [List.setIfInBounds_toArray, List.set_cons_zero, List.set_cons_succ, List.getElem_toArray, List.getElem_cons_zero, List.getElem_cons_succ]
  go_wp2_with (go_at_call 39; refine (HB.out _).mono ?_; rintro e w3 ⟨rfl, hB⟩)
  have HS := Lib.hid (HS.out.below hB)
  clear hB hSS
  have hSS := HS.out.c7 HQ.out
  refine ⟨fun _ => hSS, ?_⟩
  try simp only [List.setIfInBounds_toArray, List.set_cons_zero, List.set_cons_succ, List.getElem_toArray, List.getElem_cons_zero, List.getElem_cons_succ]
  refine wpAnyE_take (i := 8) (v := ?_) rfl (by kernel_rfl) (by kernel_rfl) (by kernel_rfl) (by kernel_rfl) (fun _ _ _ h => h) (Or.inl ⟨by rfl, ?_⟩) hSS ?_
  rotate_left
  · intro w hSw
    obtain ⟨j0, ⟨j1, j2, j3⟩, j4, j5, j6⟩ := hSw
    go_simp
    all_goals with_reducible rfl
  simp only [Act.put, List.setIfInBounds_toArray, List.set_cons_zero, List.set_cons_succ, List.getElem_toArray, List.getElem_cons_zero, List.getElem_cons_succ]
  refine wpAnyE_end (by kernel_rfl) ?_
  obtain ⟨k0, ⟨k1, k2, k3⟩, _⟩ := hSS
  have hz0 := blk_lt HS.out.r
  go_wp2_with fail
  refine (refCopy_any HS.out.nb).mono ?_
  rintro e w4 ⟨g4, cp4, rfl, hN4, hg4, hB⟩
  have HS := Lib.hid (HS.out.below hB)
  have hz := blk_lt HS.out.r
  have hgl := hN4.list.lt
  have hzz : w.heap.size + 2 < g4 := by omega
  clear hB
  clear k0 k1 k2 k3
  go_upto_region 6 with fail
  have hal := (Below.refl w4.heap.size w4).alloc (Nat.le_refl _) (.cells #[.slice (some ⟨g4, 0, none⟩) R.length cp4] 46)
  have HS := Lib.hid (HS.out.below hal)
  have HN := Lib.hid (hN4.below hal)
  have hc := blk_new w4 (.cells #[.slice (some ⟨g4, 0, none⟩) R.length cp4] 46)
  obtain ⟨pc, hpc⟩ : ∃ p, w4.heap.size = p := ⟨_, rfl⟩
  rw [hpc] at hc hgl
  (try rw [hpc])
  clear hpc hal hN4
  generalize World.alloc w4 _ = w5 at *
  have c0 := blk_cell hc 0
  obtain ⟨_, ⟨k1, k2, k3⟩, _⟩ := HS.out.c7 HQ.out
  obtain ⟨⟨g0, g1, g2⟩, ⟨f0, f1, f2⟩⟩ := HN.out.list.cells HQ.out
  obtain ⟨hs1, hs2⟩ := HN.out.set HI.out HR.out
  have HN6 := Lib.hid hs1
  have HC6 := Lib.hid (blk_grown hs2 hc (by simp; omega))
  have HR6 := Lib.hid (blk_grown hs2 HS.out.r (by simp; omega))
  have HL6 := Lib.hid (HS.out.low.grown hs2 HS.out.low.size (fun j hj => by cases hj; omega))
  clear hs1 hs2 hc
  go_upto_region 7 with fail
  clear c0 k1 k2 k3 g0 g1 g2 f0 f1 f2
  generalize ((World.setCell w5 _ _).setCell _ _).setCell _ _ = w6 at *
  have c0 := blk_cell HC6.out 0
  have r0 := blk_cell HR6.out 0
  have fr := blk_free HR6.out 0
  go_wp2_with fail
  have hN7 : Nb (w6.setCell ⟨w.heap.size + 2, 0, none⟩ (.slice (some ⟨g4, 0, none⟩) R.length cp4)) g4 cp4 (R.set i r) := HN6.out.other (but_set (but_refl w6 _) (blk_lt HR6.out) 0 _) (by omega)
  refine bodyPost_ret (v := .tuple #[.agg #[.slice (some ⟨g4, 0, none⟩) R.length cp4], .bool true, .int .i64 0]) ?_ rfl ⟨g4, cp4, rfl, hN7, by omega, HL6.out.setCell (by simp; omega) _⟩
  simp [results, Tryz.results45, go_sem, r0]
set_option maxRecDepth 100000 in
/-- Two lists of the same notices. -/
theorem samen_any {w : World} (R : List Nat) (g c g2 c2 : Nat) (h : LC w g R) (h2 : LC w g2 R) (hn : R.length ≤ 100) :
    Calls Tryz.prog 18 #[.slice (some ⟨g, 0, none⟩) R.length c, .slice (some ⟨g2, 0, none⟩) R.length c2] w fun e w' => e = .returned (.bool true) ∧ Below w.heap.size w w' := by
  have H1 := Lib.hid h
  have H2 := Lib.hid h2
  have hmax : R.length ≤ 9223372036854775807 := by omega
  clear h h2 hn
  go_enter Tryz.func18, Tryz.ntmps18
  go_wp2_with fail
  go_loopw [5] (fun iv wr => ∃ k m : Nat, iv = .int .i64 k ∧ k ≤ R.length ∧ wr = w.drewN m) (fun iv _ => R.length - (intOf iv).toNat)
  case atStart => exact ⟨0, 0, rfl, by omega, rfl⟩
  case round =>
    obtain ⟨k, m, rfl, hk, rfl⟩ := hrel
    by_cases hlt : k < R.length
    · obtain ⟨q, hq⟩ : ∃ q, R[k]? = some q := ⟨_, List.getElem?_eq_getElem hlt⟩
      have i1 : (k : Int) < (R.length : Int) := by omega
      have i2 : (0 : Int) ≤ (k : Int) := by omega
      have i3 : (k : Int).toNat = k := Int.toNat_natCast k
      have HC : Hid (∀ m, (World.cell? (w.drewN m) ⟨g, k * 3, none⟩ = some (.int .i64 (k : Int)) ∧ World.cell? (w.drewN m) ⟨g, k * 3 + 1, none⟩ = some (.int .i64 (tgN q : Nat)) ∧ World.cell? (w.drewN m) ⟨g, k * 3 + 2, none⟩ = some (.int .i64 (kdN q : Nat))) ∧ (World.cell? (w.drewN m) ⟨g2, k * 3, none⟩ = some (.int .i64 (k : Int)) ∧ World.cell? (w.drewN m) ⟨g2, k * 3 + 1, none⟩ = some (.int .i64 (tgN q : Nat)) ∧ World.cell? (w.drewN m) ⟨g2, k * 3 + 2, none⟩ = some (.int .i64 (kdN q : Nat)))) := Lib.hid fun m => ⟨H1.out k q hq, H2.out k q hq⟩
      have HK := Lib.hid hlt
      clear hq hlt hk
      go_upto_region 6 with fail
      refine wp_region_early (fun w' => (w'.cell? ⟨g, k * 3, none⟩ = some (.int .i64 (k : Int)) ∧ w'.cell? ⟨g, k * 3 + 1, none⟩ = some (.int .i64 (tgN q : Nat)) ∧ w'.cell? ⟨g, k * 3 + 2, none⟩ = some (.int .i64 (kdN q : Nat))) ∧ (w'.cell? ⟨g2, k * 3, none⟩ = some (.int .i64 (k : Int)) ∧ w'.cell? ⟨g2, k * 3 + 1, none⟩ = some (.int .i64 (tgN q : Nat)) ∧ w'.cell? ⟨g2, k * 3 + 2, none⟩ = some (.int .i64 (kdN q : Nat)))) (fun _ => false) (by kernel_rfl) ?_
      simp only [List.size_toArray, List.length_cons, List.length_nil, Nat.reduceAdd, Array.replicate_succ, Array.replicate_zero, List.push_toArray, List.nil_append, List.cons_append]
      have hSS := HC.out (m + 1)
      rw [show (w.drewN m).drew = w.drewN (m + 1) from rfl]
      generalize hWe : w.drewN (m + 1) = W9 at *
      refine wpAnyE_take (i := 0) (v := ?_) rfl (by kernel_rfl) (by kernel_rfl) (by kernel_rfl) (by kernel_rfl) (fun _ _ _ h => h) (Or.inl ⟨by rfl, ?_⟩) hSS ?_
      rotate_left
      · intro w hSw
        obtain ⟨⟨j0, j1, j2⟩, j3, j4, j5⟩ := hSw
        go_simp
        all_goals with_reducible rfl
      simp only [Act.put, List.setIfInBounds_toArray, List.set_cons_zero, List.set_cons_succ, List.getElem_toArray, List.getElem_cons_zero, List.getElem_cons_succ]
      refine wpAnyE_take (i := 1) (v := ?_) rfl (by kernel_rfl) (by kernel_rfl) (by kernel_rfl) (by kernel_rfl) (fun _ _ _ h => h) (Or.inl ⟨by rfl, ?_⟩) hSS ?_
      rotate_left
      · intro w hSw
        obtain ⟨⟨j0, j1, j2⟩, j3, j4, j5⟩ := hSw
        go_simp
        all_goals with_reducible rfl
      simp only [Act.put, List.setIfInBounds_toArray, List.set_cons_zero, List.set_cons_succ, List.getElem_toArray, List.getElem_cons_zero, List.getElem_cons_succ]
      refine wpAnyE_take (i := 2) (v := ?_) rfl (by kernel_rfl) (by kernel_rfl) (by kernel_rfl) (by kernel_rfl) (fun _ _ _ h => h) (Or.inl ⟨by rfl, ?_⟩) hSS ?_
      rotate_left
      · intro w hSw
        obtain ⟨⟨j0, j1, j2⟩, j3, j4, j5⟩ := hSw
        go_simp
        all_goals with_reducible rfl
      simp only [Act.put, List.setIfInBounds_toArray, List.set_cons_zero, List.set_cons_succ, List.getElem_toArray, List.getElem_cons_zero, List.getElem_cons_succ]
      refine wpAnyE_take (i := 3) (v := ?_) rfl (by kernel_rfl) (by kernel_rfl) (by kernel_rfl) (by kernel_rfl) (fun _ _ _ h => h) (Or.inl ⟨by rfl, ?_⟩) hSS ?_
      rotate_left
      · intro w hSw
        obtain ⟨⟨j0, j1, j2⟩, j3, j4, j5⟩ := hSw
        go_simp
        all_goals with_reducible rfl
      simp only [Act.put, List.setIfInBounds_toArray, List.set_cons_zero, List.set_cons_succ, List.getElem_toArray, List.getElem_cons_zero, List.getElem_cons_succ]
      refine wpAnyE_take (i := 4) (v := ?_) rfl (by kernel_rfl) (by kernel_rfl) (by kernel_rfl) (by kernel_rfl) (fun _ _ _ h => h) (Or.inl ⟨by rfl, ?_⟩) hSS ?_
      rotate_left
      · intro w hSw
        obtain ⟨⟨j0, j1, j2⟩, j3, j4, j5⟩ := hSw
        go_simp
        all_goals with_reducible rfl
      simp only [Act.put, List.setIfInBounds_toArray, List.set_cons_zero, List.set_cons_succ, List.getElem_toArray, List.getElem_cons_zero, List.getElem_cons_succ]
      refine wpAnyE_take (i := 5) (v := ?_) rfl (by kernel_rfl) (by kernel_rfl) (by kernel_rfl) (by kernel_rfl) (fun _ _ _ h => h) (Or.inl ⟨by rfl, ?_⟩) hSS ?_
      rotate_left
      · intro w hSw
        obtain ⟨⟨j0, j1, j2⟩, j3, j4, j5⟩ := hSw
        go_simp
        all_goals with_reducible rfl
      simp only [Act.put, List.setIfInBounds_toArray, List.set_cons_zero, List.set_cons_succ, List.getElem_toArray, List.getElem_cons_zero, List.getElem_cons_succ]
      refine wpAnyE_take (i := 6) (v := ?_) rfl (by kernel_rfl) (by kernel_rfl) (by kernel_rfl) (by kernel_rfl) (fun _ _ _ h => h) (Or.inl ⟨by rfl, ?_⟩) hSS ?_
      rotate_left
      · intro w hSw
        obtain ⟨⟨j0, j1, j2⟩, j3, j4, j5⟩ := hSw
        go_simp
        all_goals with_reducible rfl
      simp only [Act.put, List.setIfInBounds_toArray, List.set_cons_zero, List.set_cons_succ, List.getElem_toArray, List.getElem_cons_zero, List.getElem_cons_succ]
      refine wpAnyE_take (i := 7) (v := ?_) rfl (by kernel_rfl) (by kernel_rfl) (by kernel_rfl) (by kernel_rfl) (fun _ _ _ h => h) (Or.inl ⟨by rfl, ?_⟩) hSS ?_
      rotate_left
      · intro w hSw
        obtain ⟨⟨j0, j1, j2⟩, j3, j4, j5⟩ := hSw
        go_simp
        all_goals with_reducible rfl
      simp only [Act.put, List.setIfInBounds_toArray, List.set_cons_zero, List.set_cons_succ, List.getElem_toArray, List.getElem_cons_zero, List.getElem_cons_succ]
      refine wpAnyE_take (i := 8) (v := ?_) rfl (by kernel_rfl) (by kernel_rfl) (by kernel_rfl) (by kernel_rfl) (fun _ _ _ h => h) (Or.inl ⟨by rfl, ?_⟩) hSS ?_
      rotate_left
      · intro w hSw
        obtain ⟨⟨j0, j1, j2⟩, j3, j4, j5⟩ := hSw
        go_simp
        all_goals with_reducible rfl
      simp only [Act.put, List.setIfInBounds_toArray, List.set_cons_zero, List.set_cons_succ, List.getElem_toArray, List.getElem_cons_zero, List.getElem_cons_succ]
      refine wpAnyE_take (i := 9) (v := ?_) rfl (by kernel_rfl) (by kernel_rfl) (by kernel_rfl) (by kernel_rfl) (fun _ _ _ h => h) (Or.inl ⟨by rfl, ?_⟩) hSS ?_
      rotate_left
      · intro w hSw
        obtain ⟨⟨j0, j1, j2⟩, j3, j4, j5⟩ := hSw
        go_simp
        all_goals with_reducible rfl
      simp only [Act.put, List.setIfInBounds_toArray, List.set_cons_zero, List.set_cons_succ, List.getElem_toArray, List.getElem_cons_zero, List.getElem_cons_succ]
      refine wpAnyE_end (by kernel_rfl) ?_
      go_wp2_with fail
      go_roundw
      case rel => exact ⟨k + 1, m + 1, by go_num, HK.out, hWe.symm⟩
      case measure => have := HK.out; simp [intOf]; omega
    · obtain rfl : k = R.length := by omega
      have i1 : ¬ (R.length : Int) < (R.length : Int) := by omega
      go_wp2_with fail
      go_ret
      exact ⟨rfl, below_drewN (Below.refl _ _) m⟩
end Go.Proofs.YtbjlnlgknegbnaaGreatDoor
namespace Go.Proofs.YtbjlnlgknegbnaaGreatDoor
set_option linter.unusedVariables false
set_option linter.unusedSimpArgs false
open Go.RowKit

/-- The frame of the document's Defend. -/
structure RdS (w : World) (g cp : Nat) (R : List Nat) (bb rb gb px : Nat) (o t k : Int) (W : World) : Prop where
  b : W.heap[w.heap.size]? = some (.cells #[.slice (some ⟨g, 0, none⟩) R.length cp] 46 (0, 0))
  r1 : W.heap[w.heap.size + 1]? = some (.cells #[.slice none 0 0] 46 (0, 0))
  r2 : W.heap[w.heap.size + 2]? = some (.cells #[.int .i64 0, .int .i64 0, .int .i64 0] 60 (0, 0))
  x : W.heap[px]? = some (.cells #[.int .i64 o, .int .i64 t, .int .i64 k] 60 (0, 0))
  nb : Nb W g cp R
  ch : Ch3 w W bb rb gb
  p : w.heap.size + 2 < px
  lt : g < w.heap.size ∧ bb < w.heap.size ∧ rb < w.heap.size ∧ gb < w.heap.size
  ne : g ≠ bb ∧ g ≠ rb ∧ g ≠ gb
theorem nb_chg {W X : World} {g cp : Nat} {R : List Nat} (h : Nb W g cp R) (he : X.heap[g]? = W.heap[g]?) : Nb X g cp R := by
  obtain ⟨c, sp, e, hh⟩ := h.list
  exact ⟨⟨c, sp, e, he.trans hh⟩, h.le, h.n⟩
theorem RdS.chg {w W X : World} {g cp : Nat} {R : List Nat} {bb rb gb px : Nat} {o t k : Int} (h : RdS w g cp R bb rb gb px o t k W) (hc : Ch3 W X bb rb gb) : RdS w g cp R bb rb gb px o t k X := by
  obtain ⟨l1, l2, l3, l4⟩ := h.lt
  have hp := h.p
  exact ⟨hc.blk h.b (by omega) (by omega) (by omega), hc.blk h.r1 (by omega) (by omega) (by omega), hc.blk h.r2 (by omega) (by omega) (by omega), hc.blk h.x (by omega) (by omega) (by omega), nb_chg h.nb (hc.block g h.nb.list.lt h.ne.1 h.ne.2.1 h.ne.2.2), h.ch.then hc, h.p, h.lt, h.ne⟩
theorem RdS.below {w W X : World} {g cp : Nat} {R : List Nat} {bb rb gb px : Nat} {o t k : Int} (h : RdS w g cp R bb rb gb px o t k W) (hb : Below W.heap.size W X) : RdS w g cp R bb rb gb px o t k X := h.chg (Ch3.below hb _ _ _)
/-- The two results are filled. -/
theorem rd_fill {w W : World} (h1 : w.heap.size + 2 < W.heap.size) (v0 v1 v2 v3 : Value) :
    ∀ j, j < W.heap.size → j ≠ w.heap.size + 1 → j ≠ w.heap.size + 2 → ((((W.setCell ⟨w.heap.size + 1, 0, none⟩ v0).setCell ⟨w.heap.size + 2, 0, none⟩ v1).setCell ⟨w.heap.size + 2, 1, none⟩ v2).setCell ⟨w.heap.size + 2, 2, none⟩ v3).heap[j]? = W.heap[j]? := by
  intro j hj h2 h3
  have e1 := (but_set (but_refl W (some (w.heap.size + 1))) (by omega) 0 v0).5 j hj (by simpa using h2)
  have hz : (W.setCell ⟨w.heap.size + 1, 0, none⟩ v0).heap.size = W.heap.size := World.size_setCell _ _ _
  have e2 := (but_set (but_set (but_set (but_refl (W.setCell ⟨w.heap.size + 1, 0, none⟩ v0) (some (w.heap.size + 2))) (by omega) 0 v1) (by omega) 1 v2) (by omega) 2 v3).5 j (by omega) (by simpa using h3)
  exact e2.trans e1
theorem rd_ch {w W : World} {bb rb gb : Nat} (hc : Ch3 w W bb rb gb) (h1 : w.heap.size + 2 < W.heap.size) (v0 v1 v2 v3 : Value) :
    Ch3 w ((((W.setCell ⟨w.heap.size + 1, 0, none⟩ v0).setCell ⟨w.heap.size + 2, 0, none⟩ v1).setCell ⟨w.heap.size + 2, 1, none⟩ v2).setCell ⟨w.heap.size + 2, 2, none⟩ v3) bb rb gb := by
  have e1 := but_set (but_refl W (some (w.heap.size + 1))) (by omega) 0 v0
  have hz : (W.setCell ⟨w.heap.size + 1, 0, none⟩ v0).heap.size = W.heap.size := World.size_setCell _ _ _
  have e2 := but_set (but_set (but_set (but_refl (W.setCell ⟨w.heap.size + 1, 0, none⟩ v0) (some (w.heap.size + 2))) (by omega) 0 v1) (by omega) 1 v2) (by omega) 2 v3
  exact ⟨e2.1.trans (e1.1.trans hc.os), e2.2.trans (e1.2.trans hc.tape), e2.3.trans (e1.3.trans hc.output), Nat.le_trans hc.size (Nat.le_trans e1.4 e2.4),
    fun k hk a b c => (rd_fill h1 v0 v1 v2 v3 k (Nat.lt_of_lt_of_le hk hc.size) (by omega) (by omega)).trans (hc.block k hk a b c)⟩
theorem rd_new {w : World} {g cp : Nat} {R : List Nat} (h : Nb w g cp R) (bb rb gb : Nat) :
    ((((w.alloc (.cells #[.slice (some ⟨g, 0, none⟩) R.length cp] 46)).alloc (.cells #[.slice none 0 0] 46)).alloc (.cells #[.int .i64 0, .int .i64 0, .int .i64 0] 60)).heap[w.heap.size]? = some (.cells #[.slice (some ⟨g, 0, none⟩) R.length cp] 46 (0, 0))) ∧
    ((((w.alloc (.cells #[.slice (some ⟨g, 0, none⟩) R.length cp] 46)).alloc (.cells #[.slice none 0 0] 46)).alloc (.cells #[.int .i64 0, .int .i64 0, .int .i64 0] 60)).heap[w.heap.size + 1]? = some (.cells #[.slice none 0 0] 46 (0, 0))) ∧
    ((((w.alloc (.cells #[.slice (some ⟨g, 0, none⟩) R.length cp] 46)).alloc (.cells #[.slice none 0 0] 46)).alloc (.cells #[.int .i64 0, .int .i64 0, .int .i64 0] 60)).heap[w.heap.size + 2]? = some (.cells #[.int .i64 0, .int .i64 0, .int .i64 0] 60 (0, 0))) ∧
    Below w.heap.size w (((w.alloc (.cells #[.slice (some ⟨g, 0, none⟩) R.length cp] 46)).alloc (.cells #[.slice none 0 0] 46)).alloc (.cells #[.int .i64 0, .int .i64 0, .int .i64 0] 60)) :=
  ⟨blk_old (blk_old (blk_new w _) _) _, blk_old (b1 w _ _) _, b2 w _ _ _, (((Below.refl w.heap.size w).alloc (Nat.le_refl _) _).alloc (by simp) _).alloc (by simp; omega) _⟩
set_option maxRecDepth 100000 in
theorem rdefend_none {w : World} {g cp : Nat} {R : List Nat} (h : Nb w g cp R) (sf : Int) (mp dp : Option Addr) (hd : dueN R sf = none) (bb rb gb : Nat) (hlt : bb < w.heap.size ∧ rb < w.heap.size ∧ gb < w.heap.size) (hne : g ≠ bb ∧ g ≠ rb ∧ g ≠ gb) :
    Calls Tryz.prog 17 #[.agg #[.slice (some ⟨g, 0, none⟩) R.length cp], .int .i64 sf, .pointer mp, .pointer dp] w fun e w' => e = .returned (.tuple #[.agg #[.slice (some ⟨g, 0, none⟩) R.length cp], nV 0 0 0, .bool false, .int .i64 0]) ∧ Nb w' g cp R ∧ Ch3 w w' bb rb gb ∧ ∀ j, j < w.heap.size → w'.heap[j]? = w.heap[j]? := by
  have HD : Hid (∀ W, Nb W g cp R → Calls Tryz.prog 43 #[.agg #[.slice (some ⟨g, 0, none⟩) R.length cp], .int .i64 sf] W fun e w' => e = .returned (.tuple #[nV 0 0 0, .bool false]) ∧ Below W.heap.size W w') := Lib.hid fun W hW => by
    have := r15_any hW sf
    rwa [hd] at this
  have HLT := Lib.hid (And.intro h.list.lt hlt)
  have HNE := Lib.hid hne
  unfold nV at HD ⊢
  obtain ⟨hb0, hr1, hr2, hlow⟩ := rd_new h bb rb gb
  have hnb := h.below hlow
  go_enter Tryz.func17, Tryz.ntmps17
  go_upto_region 1 with fail
  generalize World.alloc (World.alloc (World.alloc w _) _) _ = W at *
  have k0 := blk_cell hb0 0
  have HL := Lib.hid hlow
  have HB0 := Lib.hid hb0
  have HR1 := Lib.hid hr1
  have HR2 := Lib.hid hr2
  have HNB := Lib.hid hnb
  clear hlow hb0 hr1 hr2 hnb
  clear h hd hlt hne
  go_upto_region 3 with (go_at_call 43; refine (HD.out _ HNB.out).mono ?_; rintro e w1 ⟨rfl, hB⟩)
  have hal := (Below.refl w1.heap.size w1).alloc (Nat.le_refl _) (.cells #[.int .i64 0, .int .i64 0, .int .i64 0] 60)
  have hB2 := below_then hB hal
  have HS : Hid (RdS w g cp R bb rb gb w1.heap.size 0 0 0 (w1.alloc (.cells #[.int .i64 0, .int .i64 0, .int .i64 0] 60))) :=
    Lib.hid ⟨blk_below' hB2 HB0.out, blk_below' hB2 HR1.out, blk_below' hB2 HR2.out, blk_new _ _, HNB.out.below hB2, Ch3.below (below_then HL.out hB2) _ _ _, blk_lt (blk_below' hB HR2.out), HLT.out, HNE.out⟩
  have HLW := Lib.hid (below_then HL.out hB2)
  obtain ⟨px, hpx⟩ : ∃ p, w1.heap.size = p := ⟨_, rfl⟩
  rw [hpx] at HS
  (try rw [hpx])
  clear hpx hal hB hB2 k0 HL HB0 HR1 HR2 HNB
  generalize World.alloc w1 _ = w2 at *
  have k0 := blk_cell HS.out.b 0
  have k1 := blk_cell HS.out.r1 0
  have c0 := blk_cell HS.out.r2 0
  have c1 := blk_cell HS.out.r2 1
  have c2 := blk_cell HS.out.r2 2
  have fr := blk_free HS.out.r1 0
  have f0 := blk_free HS.out.r2 0
  have f1 := blk_free HS.out.r2 1
  have f2 := blk_free HS.out.r2 2
  have hz := blk_lt HS.out.x
  have hp := HS.out.p
  go_wp2_with fail
  have hlt2 := HLT.out
  refine bodyPost_ret (v := .tuple #[.agg #[.slice (some ⟨g, 0, none⟩) R.length cp], .agg #[.int .i64 0, .int .i64 0, .int .i64 0], .bool false, .int .i64 0]) ?_ rfl
    ⟨rfl, nb_chg HS.out.nb (rd_fill (by omega) _ _ _ _ g HS.out.nb.list.lt (by omega) (by omega)), rd_ch HS.out.ch (by omega) _ _ _ _, fun j hj => (rd_fill (by omega) _ _ _ _ j (by omega) (by omega) (by omega)).trans (HLW.out.block j hj)⟩
  simp [results, Tryz.results17, go_sem, k1, c0, c1, c2]
set_option maxRecDepth 100000 in
set_option maxHeartbeats 1000000 in
theorem rdefend_some {w : World} {g cp : Nat} {R : List Nat} (h : Nb w g cp R) (sf : Int) (mp dp : Option Addr) (r : Nat) (hd : dueN R sf = some r) (bb rb gb : Nat) (Q : Int → World → Prop)
    (hlt : bb < w.heap.size ∧ rb < w.heap.size ∧ gb < w.heap.size) (hne : g ≠ bb ∧ g ≠ rb ∧ g ≠ gb)
    (hR : ∀ W, Below w.heap.size w W → Calls Tryz.prog 44 #[.pointer mp, .pointer dp, .int .i64 (tgN r : Nat)] W fun e w' => ∃ er : Int, e = .returned (.int .i64 er) ∧ Ch3 W w' bb rb gb ∧ Q er w')
    (hst : ∀ er W X, X.heap[bb]? = W.heap[bb]? → X.heap[rb]? = W.heap[rb]? → X.heap[gb]? = W.heap[gb]? → Q er W → Q er X) :
    Calls Tryz.prog 17 #[.agg #[.slice (some ⟨g, 0, none⟩) R.length cp], .int .i64 sf, .pointer mp, .pointer dp] w fun e w' => ∃ er : Int, Q er w' ∧ Ch3 w w' bb rb gb ∧
      ((er ≠ 0 ∧ e = .returned (.tuple #[.agg #[.slice (some ⟨g, 0, none⟩) R.length cp], nV 0 0 0, .bool false, .int .i64 er]) ∧ Nb w' g cp R) ∨
       (er = 0 ∧ ∃ g' cp', e = .returned (.tuple #[.agg #[.slice (some ⟨g', 0, none⟩) R.length cp'], nV sf (tgN r : Nat) (kdN r : Nat), .bool true, .int .i64 0]) ∧ Nb w' g' cp' (R.set sf.toNat r) ∧ w.heap.size ≤ g')) := by
  have HD : Hid (∀ W, Nb W g cp R → Calls Tryz.prog 43 #[.agg #[.slice (some ⟨g, 0, none⟩) R.length cp], .int .i64 sf] W fun e w' => e = .returned (.tuple #[nV sf (tgN r : Nat) (kdN r : Nat), .bool true]) ∧ Below W.heap.size W w') := Lib.hid fun W hW => by
    have := r15_any hW sf
    rwa [hd] at this
  have hir : ∃ i : Nat, sf = (i : Int) ∧ i < R.length ∧ R.getD i 0 < r ∧ r ≤ 2097153 := by
    unfold dueN at hd
    split at hd
    · rename_i hin
      split at hd
      · rename_i h2
        injection hd with hd
        obtain ⟨i, rfl⟩ : ∃ i : Nat, sf = (i : Int) := ⟨sf.toNat, by omega⟩
        obtain ⟨q, hq, hqd, hql⟩ := h.get (i := i) (by omega)
        rw [Int.toNat_natCast, hqd] at hd h2
        exact ⟨i, rfl, by omega, by omega, by unfold kdN tgN at h2; omega⟩
      · cases hd
    · cases hd
  obtain ⟨i, rfl, hi, hq, hr⟩ := hir
  have HI := Lib.hid hi
  have HRR := Lib.hid hr
  have HQ := Lib.hid hq
  have HLT := Lib.hid (And.intro h.list.lt hlt)
  have HNE := Lib.hid hne
  have HRS := Lib.hid hR
  have HST := Lib.hid hst
  unfold nV at HD ⊢
  obtain ⟨hb0, hr1, hr2, hlow⟩ := rd_new h bb rb gb
  have hnb := h.below hlow
  go_enter Tryz.func17, Tryz.ntmps17
  go_upto_region 1 with fail
  generalize World.alloc (World.alloc (World.alloc w _) _) _ = W at *
  have k0 := blk_cell hb0 0
  have HL := Lib.hid hlow
  have HB0 := Lib.hid hb0
  have HR1 := Lib.hid hr1
  have HR2 := Lib.hid hr2
  have HNB := Lib.hid hnb
  clear hlow hb0 hr1 hr2 hnb
  clear h hd hlt hne hR hst hi hr hq
  go_upto_region 4 with (go_at_call 43; refine (HD.out _ HNB.out).mono ?_; rintro e w1 ⟨rfl, hB⟩)
  have hal := (Below.refl w1.heap.size w1).alloc (Nat.le_refl _) (.cells #[.int .i64 (i : Int), .int .i64 (tgN r : Nat), .int .i64 (kdN r : Nat)] 60)
  have hB2 := below_then hB hal
  have HS : Hid (RdS w g cp R bb rb gb w1.heap.size (i : Int) (tgN r : Nat) (kdN r : Nat) (w1.alloc (.cells #[.int .i64 (i : Int), .int .i64 (tgN r : Nat), .int .i64 (kdN r : Nat)] 60))) :=
    Lib.hid ⟨blk_below' hB2 HB0.out, blk_below' hB2 HR1.out, blk_below' hB2 HR2.out, blk_new _ _, HNB.out.below hB2, Ch3.below (below_then HL.out hB2) _ _ _, blk_lt (blk_below' hB HR2.out), HLT.out, HNE.out⟩
  have HLW := Lib.hid (below_then HL.out hB2)
  obtain ⟨px, hpx⟩ : ∃ p, w1.heap.size = p := ⟨_, rfl⟩
  rw [hpx] at HS
  (try rw [hpx])
  clear hpx hal hB hB2 k0 HL HB0 HR1 HR2 HNB
  generalize World.alloc w1 _ = w2 at *
  have x1 := blk_cell HS.out.x 1
  go_upto_region 5 with (go_at_call 44; refine (HRS.out _ HLW.out).mono ?_; rintro e w3 ⟨er, rfl, hC, hQ⟩)
  have HS := Lib.hid (HS.out.chg hC)
  have HQ3 := Lib.hid hQ
  clear hC hQ x1 HLW
  by_cases her : er = 0
  · subst her
    have k0 := blk_cell HS.out.b 0
    have x0 := blk_cell HS.out.x 0
    have x1 := blk_cell HS.out.x 1
    have x2 := blk_cell HS.out.x 2
    go_wp2_with fail
    have hw3 := HS.out.ch.size
    refine (refTake_yes HS.out.nb i r HI.out HRR.out HQ.out).mono ?_
    rintro e w4 ⟨g4, cp4, rfl, hN4, hg4, hB⟩
    have hxl := blk_lt HS.out.x
    have hp3 := HS.out.p
    have HQ4 := Lib.hid (HST.out 0 w3 w4 (hB.block bb (by have := HLT.out; omega)) (hB.block rb (by have := HLT.out; omega)) (hB.block gb (by have := HLT.out; omega)) HQ3.out)
    have HS := Lib.hid (HS.out.below hB)
    have hgl := hN4.list.lt
    clear hB k0 x0 x1 x2
    go_upto_region 8 with fail
    have hal := (Below.refl w4.heap.size w4).alloc (Nat.le_refl _) (.cells #[.slice (some ⟨g4, 0, none⟩) R.length cp4] 46)
    have hw4 := HS.out.ch.size
    have HQ5 := Lib.hid (HST.out 0 w4 _ (hal.block bb (by have := HLT.out; omega)) (hal.block rb (by have := HLT.out; omega)) (hal.block gb (by have := HLT.out; omega)) HQ4.out)
    have HS := Lib.hid (HS.out.below hal)
    have HN := Lib.hid (hN4.below hal)
    have hc := blk_new w4 (.cells #[.slice (some ⟨g4, 0, none⟩) R.length cp4] 46)
    obtain ⟨pc, hpc⟩ : ∃ p, w4.heap.size = p := ⟨_, rfl⟩
    rw [hpc] at hc hgl
    (try rw [hpc])
    have hpcl : w.heap.size + 2 < pc := by have := blk_lt HS.out.x; omega
    clear hpc hal hN4 HQ4 HQ3
    generalize World.alloc w4 _ = w5 at *
    refine wp_region_early (fun w' => w'.cell? ⟨pc, 0, none⟩ = some (.slice (some ⟨g4, 0, none⟩) R.length cp4) ∧ Bx3 px (i : Int) (tgN r : Nat) (kdN r : Nat) w') (fun _ => false) (by kernel_rfl) ?_
    simp only [List.size_toArray, List.length_cons, List.length_nil, Nat.reduceAdd, Array.replicate_succ, Array.replicate_zero, List.push_toArray, List.nil_append, List.cons_append]
    have hdr := (Below.refl w5.heap.size w5).drew
    have hw5 := HS.out.ch.size
    have HQ6 := Lib.hid (HST.out 0 w5 _ (hdr.block bb (by have := HLT.out; omega)) (hdr.block rb (by have := HLT.out; omega)) (hdr.block gb (by have := HLT.out; omega)) HQ5.out)
    have HS := Lib.hid (HS.out.below hdr)
    have HN := Lib.hid (HN.out.below hdr)
    have HC := Lib.hid (blk_below' hdr hc)
    clear hdr hc HQ5
    generalize World.drew w5 = w6 at *
    have hSS : w6.cell? ⟨pc, 0, none⟩ = some (.slice (some ⟨g4, 0, none⟩) R.length cp4) ∧ Bx3 px (i : Int) (tgN r : Nat) (kdN r : Nat) w6 := ⟨blk_cell HC.out 0, blk_cell HS.out.x 0, blk_cell HS.out.x 1, blk_cell HS.out.x 2⟩
    refine wpAnyE_take (i := 0) (v := ?_) rfl (by kernel_rfl) (by kernel_rfl) (by kernel_rfl) (by kernel_rfl) (fun _ _ _ h => h) (Or.inl ⟨by rfl, ?_⟩) hSS ?_
    rotate_left
    · intro w hSw
      obtain ⟨j0, j1, j2, j3⟩ := hSw
      go_simp
      all_goals with_reducible rfl
    simp only [Act.put, List.setIfInBounds_toArray, List.set_cons_zero, List.set_cons_succ, List.getElem_toArray, List.getElem_cons_zero, List.getElem_cons_succ]
    refine wpAnyE_take (i := 1) (v := ?_) rfl (by kernel_rfl) (by kernel_rfl) (by kernel_rfl) (by kernel_rfl) (fun _ _ _ h => h) (Or.inl ⟨by rfl, ?_⟩) hSS ?_
    rotate_left
    · intro w hSw
      obtain ⟨j0, j1, j2, j3⟩ := hSw
      go_simp
      all_goals with_reducible rfl
    simp only [Act.put, List.setIfInBounds_toArray, List.set_cons_zero, List.set_cons_succ, List.getElem_toArray, List.getElem_cons_zero, List.getElem_cons_succ]
    have k0 := blk_cell HS.out.b 0
    have k1 := blk_cell HS.out.r1 0
    have c0 := blk_cell HS.out.r2 0
    have c1 := blk_cell HS.out.r2 1
    have c2 := blk_cell HS.out.r2 2
    have fr := blk_free HS.out.r1 0
    have f0 := blk_free HS.out.r2 0
    have f1 := blk_free HS.out.r2 1
    have f2 := blk_free HS.out.r2 2
    have hpp := HS.out.p
    have hpl := blk_lt HS.out.x
    refine wpAnyE_one (i := 2) (by kernel_rfl) rfl ?_
    change wpList _ _ (Exit.then _ _) [_] _ _
    try simp only [List.setIfInBounds_toArray, List.set_cons_zero, List.set_cons_succ, List.getElem_toArray, List.getElem_cons_zero, List.getElem_cons_succ]
    have c2' := blk_set HC.out ⟨w.heap.size + 1, 0, none⟩ (.slice (some ⟨g4, 0, none⟩) R.length cp4) (by simp; omega)
    have x2' := blk_set HS.out.x ⟨w.heap.size + 1, 0, none⟩ (.slice (some ⟨g4, 0, none⟩) R.length cp4) (by simp; omega)
    have hS2 : (w6.setCell ⟨w.heap.size + 1, 0, none⟩ (.slice (some ⟨g4, 0, none⟩) R.length cp4)).cell? ⟨pc, 0, none⟩ = some (.slice (some ⟨g4, 0, none⟩) R.length cp4) ∧ Bx3 px (i : Int) (tgN r : Nat) (kdN r : Nat) (w6.setCell ⟨w.heap.size + 1, 0, none⟩ (.slice (some ⟨g4, 0, none⟩) R.length cp4)) := ⟨blk_cell c2' 0, blk_cell x2' 0, blk_cell x2' 1, blk_cell x2' 2⟩
    have c3' := blk_set (blk_set (blk_set c2' ⟨w.heap.size + 2, 0, none⟩ (.int .i64 (i : Int)) (by simp; omega)) ⟨w.heap.size + 2, 1, none⟩ (.int .i64 (tgN r : Nat)) (by simp; omega)) ⟨w.heap.size + 2, 2, none⟩ (.int .i64 (kdN r : Nat)) (by simp; omega)
    have x3' := blk_set (blk_set (blk_set x2' ⟨w.heap.size + 2, 0, none⟩ (.int .i64 (i : Int)) (by simp; omega)) ⟨w.heap.size + 2, 1, none⟩ (.int .i64 (tgN r : Nat)) (by simp; omega)) ⟨w.heap.size + 2, 2, none⟩ (.int .i64 (kdN r : Nat)) (by simp; omega)
    have hS3 : ((((w6.setCell ⟨w.heap.size + 1, 0, none⟩ (.slice (some ⟨g4, 0, none⟩) R.length cp4)).setCell ⟨w.heap.size + 2, 0, none⟩ (.int .i64 (i : Int))).setCell ⟨w.heap.size + 2, 1, none⟩ (.int .i64 (tgN r : Nat))).setCell ⟨w.heap.size + 2, 2, none⟩ (.int .i64 (kdN r : Nat))).cell? ⟨pc, 0, none⟩ = some (.slice (some ⟨g4, 0, none⟩) R.length cp4) ∧ Bx3 px (i : Int) (tgN r : Nat) (kdN r : Nat) ((((w6.setCell ⟨w.heap.size + 1, 0, none⟩ (.slice (some ⟨g4, 0, none⟩) R.length cp4)).setCell ⟨w.heap.size + 2, 0, none⟩ (.int .i64 (i : Int))).setCell ⟨w.heap.size + 2, 1, none⟩ (.int .i64 (tgN r : Nat))).setCell ⟨w.heap.size + 2, 2, none⟩ (.int .i64 (kdN r : Nat))) := ⟨blk_cell c3' 0, blk_cell x3' 0, blk_cell x3' 1, blk_cell x3' 2⟩
    have r22 := blk_set HS.out.r2 ⟨w.heap.size + 1, 0, none⟩ (.slice (some ⟨g4, 0, none⟩) R.length cp4) (by simp)
    have u0 := blk_cell r22 0
    have u1 := blk_cell r22 1
    have u2 := blk_cell r22 2
    have v0 := blk_free r22 0
    have v1 := blk_free r22 1
    have v2 := blk_free r22 2
    have HS2 := Lib.hid hS2
    have HS3 := Lib.hid hS3
    clear c2' x2' c3' x3' hS2 hS3 r22
    go_wp2_with fail
    refine ⟨fun _ => HS2.out, ?_⟩
    try simp only [List.setIfInBounds_toArray, List.set_cons_zero, List.set_cons_succ, List.getElem_toArray, List.getElem_cons_zero, List.getElem_cons_succ]
    refine wpAnyE_one (i := 3) (by kernel_rfl) rfl ?_
    change wpList _ _ (Exit.then _ _) [_] _ _
    try simp only [List.setIfInBounds_toArray, List.set_cons_zero, List.set_cons_succ, List.getElem_toArray, List.getElem_cons_zero, List.getElem_cons_succ]
    go_wp2_with fail
    first | refine ⟨fun _ => HS3.out, ?_⟩ | refine ⟨HS3.out, ?_⟩
    try simp only [List.setIfInBounds_toArray, List.set_cons_zero, List.set_cons_succ, List.getElem_toArray, List.getElem_cons_zero, List.getElem_cons_succ]
    refine wpAnyE_one (i := 4) (by kernel_rfl) rfl ?_
    change wpList _ _ (Exit.then _ _) [_] _ _
    try simp only [List.setIfInBounds_toArray, List.set_cons_zero, List.set_cons_succ, List.getElem_toArray, List.getElem_cons_zero, List.getElem_cons_succ]
    go_wp2_with fail
    first | refine ⟨fun _ => HS3.out, ?_⟩ | refine ⟨HS3.out, ?_⟩
    try simp only [List.setIfInBounds_toArray, List.set_cons_zero, List.set_cons_succ, List.getElem_toArray, List.getElem_cons_zero, List.getElem_cons_succ]
    refine wpAnyE_one (i := 5) (by kernel_rfl) rfl ?_
    change wpList _ _ (Exit.then _ _) [_] _ _
    try simp only [List.setIfInBounds_toArray, List.set_cons_zero, List.set_cons_succ, List.getElem_toArray, List.getElem_cons_zero, List.getElem_cons_succ]
    go_wp2_with fail
    first | refine ⟨fun _ => HS3.out, ?_⟩ | refine ⟨HS3.out, ?_⟩
    try simp only [List.setIfInBounds_toArray, List.set_cons_zero, List.set_cons_succ, List.getElem_toArray, List.getElem_cons_zero, List.getElem_cons_succ]
    refine wpAnyE_end (by kernel_rfl) ?_
    have hz := blk_lt HS.out.x
    go_wp2_with fail
    have hfl := rd_fill (w := w) (W := w6) (by omega) (.slice (some ⟨g4, 0, none⟩) R.length cp4) (.int .i64 (i : Int)) (.int .i64 (tgN r : Nat)) (.int .i64 (kdN r : Nat))
    have hlt2 := HLT.out
    have hw6 := HS.out.ch.size
    refine bodyPost_ret (v := .tuple #[.agg #[.slice (some ⟨g4, 0, none⟩) R.length cp4], .agg #[.int .i64 (i : Int), .int .i64 (tgN r : Nat), .int .i64 (kdN r : Nat)], .bool true, .int .i64 0]) ?_ rfl
      ⟨0, HST.out 0 w6 _ (hfl bb (by omega) (by omega) (by omega)) (hfl rb (by omega) (by omega) (by omega)) (hfl gb (by omega) (by omega) (by omega)) HQ6.out, rd_ch HS.out.ch (by omega) _ _ _ _, .inr ⟨rfl, g4, cp4, rfl, nb_chg HN.out (hfl g4 HN.out.list.lt (by omega) (by omega)), by omega⟩⟩
    simp [results, Tryz.results17, go_sem, k1, c0, c1, c2]
  · have her2 : (er != 0) = true := by simpa using her
    have k0 := blk_cell HS.out.b 0
    have k1 := blk_cell HS.out.r1 0
    have c0 := blk_cell HS.out.r2 0
    have c1 := blk_cell HS.out.r2 1
    have c2 := blk_cell HS.out.r2 2
    have fr := blk_free HS.out.r1 0
    have f0 := blk_free HS.out.r2 0
    have f1 := blk_free HS.out.r2 1
    have f2 := blk_free HS.out.r2 2
    have hz := blk_lt HS.out.x
    have hp := HS.out.p
    go_wp2_with fail
    have hfl := rd_fill (w := w) (W := w3) (by omega) (.slice (some ⟨g, 0, none⟩) R.length cp) (.int .i64 0) (.int .i64 0) (.int .i64 0)
    have hlt2 := HLT.out
    have hw3 := HS.out.ch.size
    refine bodyPost_ret (v := .tuple #[.agg #[.slice (some ⟨g, 0, none⟩) R.length cp], .agg #[.int .i64 0, .int .i64 0, .int .i64 0], .bool false, .int .i64 er]) ?_ rfl
      ⟨er, HST.out er w3 _ (hfl bb (by omega) (by omega) (by omega)) (hfl rb (by omega) (by omega) (by omega)) (hfl gb (by omega) (by omega) (by omega)) HQ3.out, rd_ch HS.out.ch (by omega) _ _ _ _, .inl ⟨her, rfl, nb_chg HS.out.nb (hfl g HS.out.nb.list.lt (by omega) (by omega))⟩⟩
    simp [results, Tryz.results17, go_sem, k1, c0, c1, c2]
end Go.Proofs.YtbjlnlgknegbnaaGreatDoor
namespace Go.Proofs.YtbjlnlgknegbnaaGreatDoor
set_option linter.unusedVariables false
set_option linter.unusedSimpArgs false
open Go.RowKit

def capR (n : Nat) : Nat := min (n + 16) 1099511627775
def capT (n : Nat) : Nat := min (n + 4) 1048576
def capZ (n : Nat) : Nat := min (n + 3) 1048576
set_option maxRecDepth 100000 in
theorem clo_open (nb rb : Nat) (x y z : Int) (l r t : Nat) (w : World) (hn : w.heap[nb]? = some (.cells #[.int .i64 x, .int .i64 y, .int .i64 z] 35 (0, 0))) (hr : w.heap[rb]? = some (.cells #[.int .i64 (l : Int), .int .i64 (r : Int), .int .i64 (t : Int)] 35 (0, 0)))
    (hne : ¬ nb = rb) (hl : l ≤ 1073741824) (hr2 : r ≤ 1099511627776) (ht : t ≤ 1048576) :
    Calls Tryz.prog 27 #[.pointer (some ⟨nb, 0, none⟩), .pointer (some ⟨rb, 0, none⟩)] w fun e w' => e = .returned (.tuple #[]) ∧ w'.heap[nb]? = some (.cells #[.int .i64 ((l + 1 : Nat) : Int), .int .i64 (capR r : Int), .int .i64 (capT t : Int)] 35 (0, 0)) ∧ w.grownBy w' (some nb) := by
  obtain ⟨x0, x1, x2, f0, f1, f2⟩ := blk3 hn
  obtain ⟨y0, y1, y2, g0, g1, g2⟩ := blk3 hr
  have hne2 : ¬ rb = nb := fun h => hne h.symm
  have hlt := blk_lt hn
  have l1 : (l : Int) ≤ 1073741824 := by omega
  have l2 : (r : Int) ≤ 1099511627776 := by omega
  have l3 : (t : Int) ≤ 1048576 := by omega
  have HS := Lib.hid (And.intro hl (And.intro hr2 ht))
  have HN := Lib.hid hn
  have HR := Lib.hid hr
  clear hl hr2 ht hn hr
  have m1 : (if (1099511627775 : Int) < (r : Int) + 16 then (1099511627775 : Int) else (r : Int) + 16) = (capR r : Int) := by unfold capR; split <;> omega
  have m2 : (if (1048576 : Int) < (t : Int) + 4 then (1048576 : Int) else (t : Int) + 4) = (capT t : Int) := by unfold capT; split <;> omega
  go_enter Tryz.func27, Tryz.ntmps27
  go_upto_region 1 with fail
  generalize hW1 : World.setCell (World.setCell (World.setCell w _ _) _ _) _ _ = W1
  have hn1 : W1.heap[nb]? = some (.cells #[.int .i64 (l : Int), .int .i64 (r : Int), .int .i64 (t : Int)] 35 (0, 0)) := by
    rw [← hW1]; exact blk_store (blk_store (blk_store HN.out 0 _) 1 _) 2 _
  have hg1 : w.grownBy W1 (some nb) := by
    rw [← hW1]; exact but_set (but_set (but_set (but_refl _ _) hlt _ _) hlt _ _) hlt _ _
  have hr1 : W1.heap[rb]? = some (.cells #[.int .i64 (l : Int), .int .i64 (r : Int), .int .i64 (t : Int)] 35 (0, 0)) := blk_grown hg1 HR.out (by simpa using hne2)
  clear hW1 x0 x1 x2 f0 f1 f2 y0 y1 y2 g0 g1 g2
  obtain ⟨x0, x1, x2, f0, f1, f2⟩ := blk3 hn1
  obtain ⟨y0, y1, y2, g0, g1, g2⟩ := blk3 hr1
  go_wp2_with fail
  go_end0
  have k3 := blk_store (blk_store (blk_store hn1 0 (.int .i64 ((l : Int) + 1))) 1 (.int .i64 (capR r : Int))) 2 (.int .i64 (capT t : Int))
  exact ⟨rfl, k3, but_set (but_set (but_set hg1 hlt _ _) hlt _ _) hlt _ _⟩
set_option maxRecDepth 100000 in
theorem clo_raise (nb tb : Nat) (x y z t : Nat) (w : World) (hn : w.heap[nb]? = some (.cells #[.int .i64 (x : Int), .int .i64 (y : Int), .int .i64 (z : Int)] 35 (0, 0))) (ht : w.heap[tb]? = some (.cells #[.int .i64 (t : Int)] 3 (0, 0))) (hne : ¬ nb = tb) (ht2 : t ≤ 1048576) :
    Calls Tryz.prog 65 #[.pointer (some ⟨nb, 0, none⟩), .pointer (some ⟨tb, 0, none⟩)] w fun e w' => e = .returned (.tuple #[]) ∧ w'.heap[nb]? = some (.cells #[.int .i64 (x : Int), .int .i64 (y : Int), .int .i64 (capZ t : Int)] 35 (0, 0)) ∧ w.grownBy w' (some nb) := by
  obtain ⟨x0, x1, x2, f0, f1, f2⟩ := blk3 hn
  have y0 : w.cell? ⟨tb, 0, none⟩ = some (.int .i64 (t : Int)) := (blk_cell ht 0).trans rfl
  have hlt := blk_lt hn
  have l2 : (t : Int) ≤ 1048576 := by omega
  have m1 : (if (1048576 : Int) < (t : Int) + 4 - 1 then (1048576 : Int) else (t : Int) + 4 - 1) = (capZ t : Int) := by unfold capZ; split <;> omega
  have HN := Lib.hid hn
  clear hn ht2 ht
  go_enter Tryz.func65, Tryz.ntmps65
  go_wp2_with fail
  go_end0
  exact ⟨rfl, blk_store HN.out 2 (.int .i64 (capZ t : Int)), but_set (but_refl _ _) hlt _ _⟩
def resV (B : Bt) : Value := .agg #[.int .i64 (B.life : Int), .int .i64 (B.kround : Int), .int .i64 (B.ktag : Int), .int .i64 (B.round : Int), .int .i64 (B.tag : Int)]
theorem covers_any (B : Bt) (t : Nat) (w : World) : Calls Tryz.prog 64 #[resV B, .int .i64 (t : Int)] w fun e w' => e = .returned (.bool (decide (t ≤ B.ktag))) ∧ Below w.heap.size w w' := by
  unfold resV
  have hal : Below w.heap.size w (w.alloc (.cells #[.int .i64 (B.life : Int), .int .i64 (B.kround : Int), .int .i64 (B.ktag : Int), .int .i64 (B.round : Int), .int .i64 (B.tag : Int)] 82)) := (Below.refl _ w).alloc (Nat.le_refl _) _
  by_cases h : t ≤ B.ktag
  · have h2 : (t : Int) ≤ (B.ktag : Int) := by omega
    rw [decide_eq_true h]
    clear h
    go_enter Tryz.func64, Tryz.ntmps64
    go_wp2_with fail
    go_ret
    exact ⟨rfl, hal⟩
  · have h2 : ¬ (t : Int) ≤ (B.ktag : Int) := by omega
    rw [decide_eq_false h]
    clear h
    go_enter Tryz.func64, Tryz.ntmps64
    go_wp2_with fail
    go_ret
    exact ⟨rfl, hal⟩
theorem bon_any (b c : Nat) (B : Bt) (d : Dk) (w : World) (h : BtAt w b c B d) : Calls Tryz.prog 63 #[.pointer (some ⟨b, 0, none⟩)] w fun e w' => e = .returned (.int .i64 (if d.off then 100 else 0)) ∧ Below w.heap.size w w' := by
  obtain ⟨⟨c0, c1, c2, c3, c4, c5⟩, _⟩ := h.boot.cells
  have HO := Lib.hid (on_any c d w h.disk)
  clear h
  cases ho : d.off with
  | true =>
    rw [ho] at HO
    go_enter Tryz.func63, Tryz.ntmps63
    go_wp2_with (go_at_call 82; refine HO.out.mono ?_; rintro e w1 ⟨rfl, hB1⟩)
    go_ret
    exact ⟨rfl, hB1⟩
  | false =>
    rw [ho] at HO
    go_enter Tryz.func63, Tryz.ntmps63
    go_wp2_with (go_at_call 82; refine HO.out.mono ?_; rintro e w1 ⟨rfl, hB1⟩)
    go_ret
    exact ⟨rfl, hB1⟩
theorem tag_eq (b : Nat) (B : Bt) (dk : Option Addr) (w : World) (h : BtB w b B dk) : Calls Tryz.prog 20 #[.pointer (some ⟨b, 0, none⟩)] w fun e w' => e = .returned (.int .i64 (B.tag : Int)) ∧ w' = w := by
  obtain ⟨⟨c0, c1, c2, c3, c4, c5⟩, _⟩ := h.cells
  clear h
  go_enter Tryz.func20, Tryz.ntmps20
  go_wp2_with fail
  go_ret
  exact ⟨rfl, rfl⟩
end Go.Proofs.YtbjlnlgknegbnaaGreatDoor
namespace Go.Proofs.YtbjlnlgknegbnaaGreatDoor
set_option linter.unusedVariables false
set_option linter.unusedSimpArgs false
open Go.RowKit

theorem durable_any (b : Nat) (B : Bt) (dk : Option Addr) (w : World) (h : BtB w b B dk) : Calls Tryz.prog 21 #[.pointer (some ⟨b, 0, none⟩)] w fun e w' => e = .returned (recV B.life B.kround B.ktag) ∧ Below w.heap.size w w' := by
  have hal : Below w.heap.size w (w.alloc (.cells #[.int .i64 0, .int .i64 0, .int .i64 0] 35)) := (Below.refl _ w).alloc (Nat.le_refl _) _
  have hn := box3 w (.int .i64 0) (.int .i64 0) (.int .i64 0) 35
  have h1 := h.below hal
  have hne : ¬ b = w.heap.size := by have := blk_lt h; omega
  clear h
  unfold recV
  go_enter Tryz.func21, Tryz.ntmps21
  go_upto_region 1 with fail
  generalize World.alloc w _ = W1 at *
  obtain ⟨⟨c0, c1, c2, c3, c4, c5⟩, _⟩ := h1.cells
  obtain ⟨z0, z1, z2, f0, f1, f2⟩ := blk3 hn
  go_wp2_with fail
  generalize hWF : World.setCell (World.setCell (World.setCell _ _ _) _ _) _ _ = WF
  have hfb : WF.heap[w.heap.size]? = some (.cells #[.int .i64 (B.life : Int), .int .i64 (B.kround : Int), .int .i64 (B.ktag : Int)] 35 (0, 0)) := by
    rw [← hWF]; exact blk_store (blk_store (blk_store hn 0 _) 1 _) 2 _
  have hfl : Below w.heap.size w WF := by
    rw [← hWF]; exact ((hal.setCell (Nat.le_refl _) _).setCell (Nat.le_refl _) _).setCell (Nat.le_refl _) _
  obtain ⟨y0, y1, y2, _⟩ := blk3 hfb
  exact bodyPost_ret (v := .agg #[.int .i64 (B.life : Int), .int .i64 (B.kround : Int), .int .i64 (B.ktag : Int)]) (by simp [results, Tryz.results21, go_sem, y0, y1, y2]) rfl ⟨rfl, hfl⟩
theorem clo_open' (nb rb : Nat) (x y z : Int) (l r t l1 : Nat) (w : World) (hn : w.heap[nb]? = some (.cells #[.int .i64 x, .int .i64 y, .int .i64 z] 35 (0, 0))) (hr : w.heap[rb]? = some (.cells #[.int .i64 (l : Int), .int .i64 (r : Int), .int .i64 (t : Int)] 35 (0, 0)))
    (hne : ¬ nb = rb) (hl : l ≤ 1073741824) (hr2 : r ≤ 1099511627776) (ht : t ≤ 1048576) (hl1 : l1 = l + 1) :
    Calls Tryz.prog 27 #[.pointer (some ⟨nb, 0, none⟩), .pointer (some ⟨rb, 0, none⟩)] w fun e w' => e = .returned (.tuple #[]) ∧ w'.heap[nb]? = some (.cells #[.int .i64 (l1 : Int), .int .i64 (capR r : Int), .int .i64 (capT t : Int)] 35 (0, 0)) ∧ w.grownBy w' (some nb) := by
  subst hl1
  exact clo_open nb rb x y z l r t w hn hr hne hl hr2 ht
def svB (B : Bt) (x y z : Nat) (er : Int) : Bt := if er = 0 then { B with life := x, kround := y, ktag := z } else B
theorem svB_ok (B : Bt) (x y z : Nat) : svB B x y z 0 = { B with life := x, kround := y, ktag := z } := if_pos rfl
theorem svB_no (B : Bt) (x y z : Nat) {er : Int} (h : er ≠ 0) : svB B x y z er = B := if_neg h
set_option maxRecDepth 100000 in
set_option maxHeartbeats 1000000 in
theorem save_open (b c : Nat) (B : Bt) (d : Dk) (rb l r t l1 : Nat) (w : World) (h : BtAt w b c B d) (hr : w.heap[rb]? = some (.cells #[.int .i64 (l : Int), .int .i64 (r : Int), .int .i64 (t : Int)] 35 (0, 0))) (hl : l ≤ 1073741824) (hr2 : r ≤ 1099511627776) (ht : t ≤ 1048576) (hl1 : l1 = l + 1) (hlt : ∀ c ∈ d.bs, c < 256) (hw : d.writes ≤ 4611686018427387903) (hfu : d.fuse ≤ 9223372036854775807) :
    Calls Tryz.prog 26 #[.pointer (some ⟨b, 0, none⟩), .func (.func 27) #[] #[.pointer (some ⟨rb, 0, none⟩)]] w fun e w' =>
      e = .returned (.int .i64 (saveW d l1 (capR r) (capT t)).2) ∧ BtAt w' b c (svB B l1 (capR r) (capT t) (saveW d l1 (capR r) (capT t)).2) (saveW d l1 (capR r) (capT t)).1 ∧ Ch2 w w' b c := by
  obtain ⟨⟨c0, c1, c2, c3, c4, c5⟩, _⟩ := h.boot.cells
  obtain ⟨W1, hW1⟩ : ∃ W1, w.alloc (.cells #[.int .i64 (B.life : Int), .int .i64 (B.kround : Int), .int .i64 (B.ktag : Int)] 35) = W1 := ⟨_, rfl⟩
  have hal : Below w.heap.size w W1 := by rw [← hW1]; exact (Below.refl _ w).alloc (Nat.le_refl _) _
  have hn1 : W1.heap[w.heap.size]? = some (.cells #[.int .i64 (B.life : Int), .int .i64 (B.kround : Int), .int .i64 (B.ktag : Int)] 35 (0, 0)) := by rw [← hW1]; exact box3 w (.int .i64 (B.life : Int)) (.int .i64 (B.kround : Int)) (.int .i64 (B.ktag : Int)) 35
  have h1 := h.below hal
  have hbl := blk_lt h.boot
  have hcl := h.disk.lt
  have hrb := blk_below' hal hr; have HL1 := Lib.hid hl1; clear hl1
  have HSZ := Lib.hid (And.intro hlt (And.intro hw hfu))
  clear hlt hw hfu
  go_enter Tryz.func26, Tryz.ntmps26
  go_wp2_with fail
  refine (clo_open' w.heap.size rb B.life B.kround B.ktag l r t l1 W1 hn1 hrb (by have := blk_lt hr; omega) hl hr2 ht HL1.out).mono ?_
  rintro e w2 ⟨rfl, hn2, hg2⟩
  have hb2 : Below w.heap.size w w2 := hal.grown hg2 hal.size (fun j h => by cases h; exact Nat.le_refl _)
  have h2 := h.below hb2
  obtain ⟨⟨y0, y1, y2, y3, y4, y5⟩, _⟩ := h2.boot.cells
  obtain ⟨x0, x1, x2, _⟩ := blk3 hn2
  clear hg2 h1 hn1 hW1 hal c0 c1 c2 c3 c4 c5
  go_wp2_with fail
  refine wp_region_still_tail 5 (by kernel_rfl) (by kernel_rfl) ?_
  simp only [List.take_succ_cons, List.take_zero, List.drop_succ_cons, List.drop_zero]
  repeat still_step
  try refine wpStill_nil ?_
  change wpList _ _ _ _ _ w2.drew
  have h3 : BtAt w2.drew b c B d := ⟨h2.boot, h2.disk, h2.ne⟩
  have hb3 := hb2.drew
  have hn3 : w2.drew.heap[w.heap.size]? = _ := hn2
  clear h2 hb2 hn2 x0 x1 x2 y0 y1 y2 y3 y4 y5
  generalize w2.drew = W3 at *
  have HSV := Lib.hid (save_any c d (l1 : Nat) ((capR r) : Nat) ((capT t) : Nat) W3 h3.disk HSZ.out.1 HSZ.out.2.1 HSZ.out.2.2)
  unfold recV at HSV
  obtain ⟨D, hDe⟩ : ∃ D, saveW d (l1 : Nat) ((capR r) : Nat) ((capT t) : Nat) = D := ⟨_, rfl⟩
  rw [hDe] at HSV
  have HDE := Lib.hid hDe
  clear hDe
  obtain ⟨d', er⟩ := D
  simp only at HSV
  by_cases her : er = 0
  · subst her
    go_wp2_with (go_at_call 50; refine HSV.out.mono ?_; rintro e w4 ⟨rfl, hD4, hg4⟩; have h4 := h3.turn hg4 hD4; obtain ⟨x0, x1, x2, _⟩ := blk3 (blk_grown hg4 hn3 (by simp; omega)); obtain ⟨⟨y0, y1, y2, y3, y4, y5⟩, ⟨f0, f1, f2, f3, f4⟩⟩ := h4.boot.cells; have hb4 := (Ch2.below hb3 b c).then (Ch2.two hg4 b); have hbl4 := blk_lt h4.boot)
    go_ret
    rw [HDE.out, svB_ok]
    exact ⟨rfl, h4.setRec _ _ _, hb4.then (Ch2.one (but_set (but_set (but_set (but_refl _ _) hbl4 _ _) hbl4 _ _) hbl4 _ _) c)⟩
  · have hne : (er != 0) = true := by simpa using her
    have HER := Lib.hid her
    clear her
    go_wp2_with (go_at_call 50; refine HSV.out.mono ?_; rintro e w4 ⟨rfl, hD4, hg4⟩)
    go_ret
    rw [HDE.out, svB_no _ _ _ _ HER.out]
    exact ⟨rfl, h3.turn hg4 hD4, (Ch2.below hb3 b c).then (Ch2.two hg4 b)⟩
set_option maxRecDepth 100000 in
set_option maxHeartbeats 1000000 in
theorem save_raise (b c : Nat) (B : Bt) (d : Dk) (tb t : Nat) (w : World) (h : BtAt w b c B d) (ht : w.heap[tb]? = some (.cells #[.int .i64 (t : Int)] 3 (0, 0))) (ht2 : t ≤ 1048576) (hlt : ∀ c ∈ d.bs, c < 256) (hw : d.writes ≤ 4611686018427387903) (hfu : d.fuse ≤ 9223372036854775807) :
    Calls Tryz.prog 26 #[.pointer (some ⟨b, 0, none⟩), .func (.func 65) #[] #[.pointer (some ⟨tb, 0, none⟩)]] w fun e w' =>
      e = .returned (.int .i64 (saveW d B.life B.kround (capZ t)).2) ∧ BtAt w' b c (svB B B.life B.kround (capZ t) (saveW d B.life B.kround (capZ t)).2) (saveW d B.life B.kround (capZ t)).1 ∧ Ch2 w w' b c := by
  obtain ⟨⟨c0, c1, c2, c3, c4, c5⟩, _⟩ := h.boot.cells
  obtain ⟨W1, hW1⟩ : ∃ W1, w.alloc (.cells #[.int .i64 (B.life : Int), .int .i64 (B.kround : Int), .int .i64 (B.ktag : Int)] 35) = W1 := ⟨_, rfl⟩
  have hal : Below w.heap.size w W1 := by rw [← hW1]; exact (Below.refl _ w).alloc (Nat.le_refl _) _
  have hn1 : W1.heap[w.heap.size]? = some (.cells #[.int .i64 (B.life : Int), .int .i64 (B.kround : Int), .int .i64 (B.ktag : Int)] 35 (0, 0)) := by rw [← hW1]; exact box3 w (.int .i64 (B.life : Int)) (.int .i64 (B.kround : Int)) (.int .i64 (B.ktag : Int)) 35
  have h1 := h.below hal
  have hbl := blk_lt h.boot
  have hcl := h.disk.lt
  have htb := blk_below' hal ht
  have HSZ := Lib.hid (And.intro hlt (And.intro hw hfu))
  clear hlt hw hfu
  go_enter Tryz.func26, Tryz.ntmps26
  go_wp2_with fail
  refine (clo_raise w.heap.size tb B.life B.kround B.ktag t W1 hn1 htb (by have := blk_lt ht; omega) ht2).mono ?_
  rintro e w2 ⟨rfl, hn2, hg2⟩
  have hb2 : Below w.heap.size w w2 := hal.grown hg2 hal.size (fun j h => by cases h; exact Nat.le_refl _)
  have h2 := h.below hb2
  obtain ⟨⟨y0, y1, y2, y3, y4, y5⟩, _⟩ := h2.boot.cells
  obtain ⟨x0, x1, x2, _⟩ := blk3 hn2
  clear hg2 h1 hn1 hW1 hal c0 c1 c2 c3 c4 c5
  go_wp2_with fail
  refine wp_region_still_tail 5 (by kernel_rfl) (by kernel_rfl) ?_
  simp only [List.take_succ_cons, List.take_zero, List.drop_succ_cons, List.drop_zero]
  repeat still_step
  try refine wpStill_nil ?_
  change wpList _ _ _ _ _ w2.drew
  have h3 : BtAt w2.drew b c B d := ⟨h2.boot, h2.disk, h2.ne⟩
  have hb3 := hb2.drew
  have hn3 : w2.drew.heap[w.heap.size]? = _ := hn2
  clear h2 hb2 hn2 x0 x1 x2 y0 y1 y2 y3 y4 y5
  generalize w2.drew = W3 at *
  have HSV := Lib.hid (save_any c d (B.life : Nat) (B.kround : Nat) ((capZ t) : Nat) W3 h3.disk HSZ.out.1 HSZ.out.2.1 HSZ.out.2.2)
  unfold recV at HSV
  obtain ⟨D, hDe⟩ : ∃ D, saveW d (B.life : Nat) (B.kround : Nat) ((capZ t) : Nat) = D := ⟨_, rfl⟩
  rw [hDe] at HSV
  have HDE := Lib.hid hDe
  clear hDe
  obtain ⟨d', er⟩ := D
  simp only at HSV
  by_cases her : er = 0
  · subst her
    go_wp2_with (go_at_call 50; refine HSV.out.mono ?_; rintro e w4 ⟨rfl, hD4, hg4⟩; have h4 := h3.turn hg4 hD4; obtain ⟨x0, x1, x2, _⟩ := blk3 (blk_grown hg4 hn3 (by simp; omega)); obtain ⟨⟨y0, y1, y2, y3, y4, y5⟩, ⟨f0, f1, f2, f3, f4⟩⟩ := h4.boot.cells; have hb4 := (Ch2.below hb3 b c).then (Ch2.two hg4 b); have hbl4 := blk_lt h4.boot)
    go_ret
    rw [HDE.out, svB_ok]
    exact ⟨rfl, h4.setRec _ _ _, hb4.then (Ch2.one (but_set (but_set (but_set (but_refl _ _) hbl4 _ _) hbl4 _ _) hbl4 _ _) c)⟩
  · have hne : (er != 0) = true := by simpa using her
    have HER := Lib.hid her
    clear her
    go_wp2_with (go_at_call 50; refine HSV.out.mono ?_; rintro e w4 ⟨rfl, hD4, hg4⟩)
    go_ret
    rw [HDE.out, svB_no _ _ _ _ HER.out]
    exact ⟨rfl, h3.turn hg4 hD4, (Ch2.below hb3 b c).then (Ch2.two hg4 b)⟩
end Go.Proofs.YtbjlnlgknegbnaaGreatDoor
namespace Go.Proofs.YtbjlnlgknegbnaaGreatDoor
set_option linter.unusedVariables false
set_option linter.unusedSimpArgs false
open Go.RowKit

theorem open_off (c : Nat) (d : Dk) (w : World) (h : DkAt w c d) (hlt : ∀ c ∈ d.bs, c < 256) (ho : d.off = true) :
    Calls Tryz.prog 7 #[.pointer (some ⟨c, 0, none⟩)] w fun e w' => e = .returned (.tuple #[.pointer none, .int .i64 100]) ∧ Below w.heap.size w w' := by
  have hl := loadA_off ho
  unfold recV at hl
  have HL := Lib.hid hl
  clear hl
  go_enter Tryz.func7, Tryz.ntmps7
  go_wp2_with fail
  refine (load_any c d w h hlt).mono ?_
  rintro e w1 ⟨rfl, hB1⟩
  rw [HL.out]
  go_wp2_with fail
  go_ret2
  exact ⟨rfl, hB1.alloc hB1.size _⟩
theorem open_end (c : Nat) (d : Dk) (w : World) (h : DkAt w c d) (hlt : ∀ c ∈ d.bs, c < 256) (r t s : Int) (hl : loadA d = .tuple #[recV 1073741824 r t, .int .i64 s, .int .i64 0]) :
    Calls Tryz.prog 7 #[.pointer (some ⟨c, 0, none⟩)] w fun e w' => e = .returned (.tuple #[.pointer none, .int .i64 120]) ∧ Below w.heap.size w w' := by
  unfold recV at hl
  have HL := Lib.hid hl
  clear hl
  go_enter Tryz.func7, Tryz.ntmps7
  go_wp2_with fail
  refine (load_any c d w h hlt).mono ?_
  rintro e w1 ⟨rfl, hB1⟩
  rw [HL.out]
  go_wp2_with fail
  go_ret2
  exact ⟨rfl, hB1.alloc hB1.size _⟩
/-- What Open leaves, of a disk and of what the save did. -/
def OpenPost (w : World) (c : Nat) (B : Bt) (D : Dk × Int) (e : Ending) (w' : World) : Prop :=
  (D.2 = 0 → ∃ b, e = .returned (.tuple #[.pointer (some ⟨b, 0, none⟩), .int .i64 0]) ∧ w.heap.size ≤ b ∧ BtAt w' b c B D.1) ∧
  (D.2 ≠ 0 → e = .returned (.tuple #[.pointer none, .int .i64 D.2]) ∧ DkAt w' c D.1) ∧ w.grownBy w' (some c)
set_option maxRecDepth 100000 in
set_option maxHeartbeats 1000000 in
theorem open_some (c : Nat) (d : Dk) (w : World) (h : DkAt w c d) (hlt : ∀ c ∈ d.bs, c < 256) (hw : d.writes ≤ 4611686018427387903) (hfu : d.fuse ≤ 9223372036854775807) (l r t l1 : Nat) (s : Int)
    (hl : loadA d = .tuple #[recV l r t, .int .i64 s, .int .i64 0]) (hl1 : l1 = l + 1) (hne : l ≠ 1073741824) (hle : l ≤ 1073741824) (hr : r ≤ 1099511627776) (ht : t ≤ 1048576) :
    Calls Tryz.prog 7 #[.pointer (some ⟨c, 0, none⟩)] w fun e w' => OpenPost w c ⟨l1, capR r, capT t, r, t⟩ (saveW d l1 (capR r) (capT t)) e w' := by
  unfold recV at hl
  have HL := Lib.hid hl
  have hneb : ((l : Int) == 1073741824) = false := by simp; omega
  have HSZ := Lib.hid (And.intro hlt (And.intro hw (And.intro hfu (And.intro hle (And.intro hr (And.intro ht hl1))))))
  obtain ⟨D, hDe⟩ : ∃ D, saveW d l1 (capR r) (capT t) = D := ⟨_, rfl⟩
  rw [hDe]
  have HDE := Lib.hid hDe
  clear hDe
  clear hl hne hle hr ht hl1 hw hfu
  go_enter Tryz.func7, Tryz.ntmps7
  go_wp2_with fail
  refine (load_any c d w h hlt).mono ?_
  rintro e w1 ⟨rfl, hB1⟩
  rw [HL.out]
  clear hlt
  obtain ⟨W2, hW2⟩ : ∃ W2, w1.alloc (.cells #[.int .i64 (l : Int), .int .i64 (r : Int), .int .i64 (t : Int)] 35) = W2 := ⟨_, rfl⟩
  have hal : Below w1.heap.size w1 W2 := by rw [← hW2]; exact (Below.refl _ _).alloc (Nat.le_refl _) _
  have hr2 : W2.heap[w1.heap.size]? = some (.cells #[.int .i64 (l : Int), .int .i64 (r : Int), .int .i64 (t : Int)] 35 (0, 0)) := by rw [← hW2]; exact box3 w1 (.int .i64 (l : Int)) (.int .i64 (r : Int)) (.int .i64 (t : Int)) 35
  have hb2 := below_then hB1 hal
  have hd2 := h.below hb2
  obtain ⟨W3, hW3⟩ : ∃ W3, W2.alloc (.cells #[.int .i64 0, .int .i64 0, .int .i64 0, .int .i64 (r : Int), .int .i64 (t : Int), .pointer (some ⟨c, 0, none⟩)] 84) = W3 := ⟨_, rfl⟩
  have hal3 : Below W2.heap.size W2 W3 := by rw [← hW3]; exact (Below.refl _ _).alloc (Nat.le_refl _) _
  have hbt : BtAt W3 W2.heap.size c ⟨0, 0, 0, r, t⟩ d := ⟨by unfold BtB; rw [← hW3]; exact blk_new W2 _, hd2.below hal3, by have := hd2.lt; omega⟩
  have hr3 := blk_below' hal3 hr2
  have hb3 := below_then hb2 hal3
  have HSV := Lib.hid (save_open W2.heap.size c ⟨0, 0, 0, r, t⟩ d w1.heap.size l r t l1 W3 hbt hr3 HSZ.out.2.2.2.1 HSZ.out.2.2.2.2.1 HSZ.out.2.2.2.2.2.1 HSZ.out.2.2.2.2.2.2 HSZ.out.1 HSZ.out.2.1 HSZ.out.2.2.1)
  rw [HDE.out] at HSV
  have hmf : ∀ (fn : Fn) (first cap : Array Value) (w : World), (Instr.makeFunc fn first cap).run Tryz.prog w = .ok (.func fn first cap) w := fun _ _ _ _ => rfl
  obtain ⟨x0, x1, x2, _⟩ := blk3 hr2
  have hsz : w.heap.size ≤ W2.heap.size := hb2.size
  clear hd2 hal h hal3 hbt hr3 hr2 hB1
  obtain ⟨d', er⟩ := D
  simp only at HSV
  by_cases her : er = 0
  · subst her
    go_wp2_with (go_at_call 26; refine HSV.out.mono ?_; rintro e w4 ⟨rfl, hT4, hC4⟩)
    go_ret2
    rw [svB_ok] at hT4
    exact ⟨fun _ => ⟨_, rfl, hsz, hT4⟩, fun h => absurd rfl h, ((Ch2.below hb3 _ _).then hC4).of_new hsz⟩
  · have hne : (er != 0) = true := by simpa using her
    have HER := Lib.hid her
    clear her
    go_wp2_with (go_at_call 26; refine HSV.out.mono ?_; rintro e w4 ⟨rfl, hT4, hC4⟩)
    go_ret2
    exact ⟨fun h => absurd h HER.out, fun _ => ⟨rfl, hT4.disk⟩, ((Ch2.below hb3 _ _).then hC4).of_new hsz⟩
set_option maxRecDepth 100000 in
set_option maxHeartbeats 1000000 in
theorem open_none (c : Nat) (d : Dk) (w : World) (h : DkAt w c d) (hlt : ∀ c ∈ d.bs, c < 256) (hw : d.writes ≤ 4611686018427387903) (hfu : d.fuse ≤ 9223372036854775807)
    (hl : loadA d = .tuple #[recV 0 0 0, .int .i64 0, .int .i64 40]) :
    Calls Tryz.prog 7 #[.pointer (some ⟨c, 0, none⟩)] w fun e w' => OpenPost w c ⟨1, capR 0, capT 0, 0, 0⟩ (saveW d ((1 : Nat) : Int) (capR 0 : Nat) (capT 0 : Nat)) e w' := by
  unfold recV at hl
  have HL := Lib.hid hl
  have HSZ := Lib.hid (And.intro hlt (And.intro hw hfu))
  obtain ⟨D, hDe⟩ : ∃ D, saveW d ((1 : Nat) : Int) (capR 0 : Nat) (capT 0 : Nat) = D := ⟨_, rfl⟩
  rw [hDe]
  obtain ⟨B, hB⟩ : ∃ B : Bt, B = ⟨1, capR 0, capT 0, 0, 0⟩ := ⟨_, rfl⟩
  rw [← hB]
  have HDE := Lib.hid hDe
  have HBB := Lib.hid hB
  clear hDe hB
  clear hl hw hfu
  go_enter Tryz.func7, Tryz.ntmps7
  go_wp2_with fail
  refine (load_any c d w h hlt).mono ?_
  rintro e w1 ⟨rfl, hB1⟩
  rw [HL.out]
  clear hlt
  obtain ⟨d', er⟩ := D
  go_upto_region 9 with fail
  have hal : Below w1.heap.size w1 (w1.alloc (.cells #[.int .i64 0, .int .i64 0, .int .i64 0] 35)) := (Below.refl _ _).alloc (Nat.le_refl _) _
  have hr2 := box3 w1 (.int .i64 0) (.int .i64 0) (.int .i64 0) 35
  have hn3 := b1' w1 (.cells #[.int .i64 0, .int .i64 0, .int .i64 0] 35) (.cells #[.int .i64 0, .int .i64 0, .int .i64 0, .int .i64 0, .int .i64 0, .pointer (some ⟨c, 0, none⟩)] 84)
  have hal3 : Below w1.heap.size w1 ((w1.alloc (.cells #[.int .i64 0, .int .i64 0, .int .i64 0] 35)).alloc (.cells #[.int .i64 0, .int .i64 0, .int .i64 0, .int .i64 0, .int .i64 0, .pointer (some ⟨c, 0, none⟩)] 84)) := hal.alloc (by simp) _
  have hr3 := blk_old hr2 (.cells #[.int .i64 0, .int .i64 0, .int .i64 0, .int .i64 0, .int .i64 0, .pointer (some ⟨c, 0, none⟩)] 84)
  generalize World.alloc (World.alloc w1 _) _ = W3 at *
  have hb3 := below_then hB1 hal3
  have hbt : BtAt W3 (w1.heap.size + 1) c ⟨0, 0, 0, 0, 0⟩ d := ⟨hn3, h.below hb3, by have := h.lt; have := hB1.size; omega⟩
  have HSV := Lib.hid (save_open (w1.heap.size + 1) c ⟨0, 0, 0, 0, 0⟩ d w1.heap.size 0 0 0 1 W3 hbt hr3 (by decide) (by decide) (by decide) rfl HSZ.out.1 HSZ.out.2.1 HSZ.out.2.2)
  rw [HDE.out] at HSV
  have hsz : w.heap.size ≤ w1.heap.size + 1 := by have := hB1.size; omega
  have hmf : ∀ (fn : Fn) (first cap : Array Value) (w : World), (Instr.makeFunc fn first cap).run Tryz.prog w = .ok (.func fn first cap) w := fun _ _ _ _ => rfl
  simp only at HSV
  clear hal hr2 hn3 hal3 hr3 hbt h hB1
  by_cases her : er = 0
  · subst her
    go_wp2_with (go_at_call 26; refine HSV.out.mono ?_; rintro e w4 ⟨rfl, hT4, hC4⟩)
    go_ret2
    rw [svB_ok] at hT4
    exact ⟨fun _ => ⟨_, rfl, hsz, by rw [HBB.out]; exact hT4⟩, fun h => absurd rfl h, ((Ch2.below hb3 _ _).then hC4).of_new hsz⟩
  · have hne : (er != 0) = true := by simpa using her
    have HER := Lib.hid her
    clear her
    go_wp2_with (go_at_call 26; refine HSV.out.mono ?_; rintro e w4 ⟨rfl, hT4, hC4⟩)
    go_ret2
    exact ⟨fun h => absurd h HER.out, fun _ => ⟨rfl, hT4.disk⟩, ((Ch2.below hb3 _ _).then hC4).of_new hsz⟩
end Go.Proofs.YtbjlnlgknegbnaaGreatDoor
namespace Go.Proofs.YtbjlnlgknegbnaaGreatDoor
set_option linter.unusedVariables false
set_option linter.unusedSimpArgs false
open Go.RowKit

def SavePost (w : World) (b c : Nat) (B B0 : Bt) (ok no : Value) (D : Dk × Int) (e : Ending) (w' : World) : Prop :=
  (D.2 = 0 → e = .returned ok ∧ BtAt w' b c B D.1) ∧ (D.2 ≠ 0 → e = .returned no ∧ BtAt w' b c B0 D.1) ∧ Ch2 w w' b c
set_option maxRecDepth 100000 in
theorem raise_off (b c : Nat) (B : Bt) (d : Dk) (t : Int) (w : World) (h : BtAt w b c B d) (ho : d.off = true) :
    Calls Tryz.prog 42 #[.pointer (some ⟨b, 0, none⟩), .int .i64 t] w fun e w' => e = .returned (.int .i64 100) ∧ Below w.heap.size w w' := by
  have hal : Below w.heap.size w (w.alloc (.cells #[.int .i64 t] 3)) := (Below.refl _ w).alloc (Nat.le_refl _) _
  have ht0 := blk_new w (.cells #[.int .i64 t] 3)
  have HO := Lib.hid (bon_any b c B d _ (h.below hal))
  rw [ho] at HO
  have h0 := h.below hal
  skip
  clear h
  go_enter Tryz.func42, Tryz.ntmps42
  go_wp2_with (go_at_call 63; refine HO.out.mono ?_; rintro e w1 ⟨rfl, hB1⟩; have ht1 := (blk_cell (blk_below' hB1 ht0) 0).trans rfl; simp at ht1; have hb1 := below_then hal hB1)
  all_goals (go_ret; exact ⟨rfl, hb1⟩)
set_option maxRecDepth 100000 in
theorem raise_neg (b c : Nat) (B : Bt) (d : Dk) (t : Int) (w : World) (h : BtAt w b c B d) (ho : d.off = false) (ht : t < 0) :
    Calls Tryz.prog 42 #[.pointer (some ⟨b, 0, none⟩), .int .i64 t] w fun e w' => e = .returned (.int .i64 1) ∧ Below w.heap.size w w' := by
  have hal : Below w.heap.size w (w.alloc (.cells #[.int .i64 t] 3)) := (Below.refl _ w).alloc (Nat.le_refl _) _
  have ht0 := blk_new w (.cells #[.int .i64 t] 3)
  have HO := Lib.hid (bon_any b c B d _ (h.below hal))
  rw [ho] at HO
  have h0 := h.below hal
  skip
  clear h
  go_enter Tryz.func42, Tryz.ntmps42
  go_wp2_with (go_at_call 63; refine HO.out.mono ?_; rintro e w1 ⟨rfl, hB1⟩; have ht1 := (blk_cell (blk_below' hB1 ht0) 0).trans rfl; simp at ht1; have hb1 := below_then hal hB1)
  all_goals (go_ret; exact ⟨rfl, hb1⟩)
set_option maxRecDepth 100000 in
theorem raise_big (b c : Nat) (B : Bt) (d : Dk) (t : Int) (w : World) (h : BtAt w b c B d) (ho : d.off = false) (ht : 1048576 < t) :
    Calls Tryz.prog 42 #[.pointer (some ⟨b, 0, none⟩), .int .i64 t] w fun e w' => e = .returned (.int .i64 120) ∧ Below w.heap.size w w' := by
  have hal : Below w.heap.size w (w.alloc (.cells #[.int .i64 t] 3)) := (Below.refl _ w).alloc (Nat.le_refl _) _
  have ht0 := blk_new w (.cells #[.int .i64 t] 3)
  have HO := Lib.hid (bon_any b c B d _ (h.below hal))
  rw [ho] at HO
  have h0 := h.below hal
  have hn : ¬ t < 0 := by omega
  clear h
  go_enter Tryz.func42, Tryz.ntmps42
  go_wp2_with (go_at_call 63; refine HO.out.mono ?_; rintro e w1 ⟨rfl, hB1⟩; have ht1 := (blk_cell (blk_below' hB1 ht0) 0).trans rfl; simp at ht1; have hb1 := below_then hal hB1)
  all_goals (go_ret; exact ⟨rfl, hb1⟩)
end Go.Proofs.YtbjlnlgknegbnaaGreatDoor
namespace Go.Proofs.YtbjlnlgknegbnaaGreatDoor
set_option linter.unusedVariables false
set_option linter.unusedSimpArgs false
open Go.RowKit

set_option maxRecDepth 100000 in
set_option maxHeartbeats 1000000 in
theorem raise_low (b c : Nat) (B : Bt) (d : Dk) (t : Nat) (w : World) (h : BtAt w b c B d) (ho : d.off = false) (ht : t ≤ 1048576) (hlo : t ≤ B.tag) :
    Calls Tryz.prog 42 #[.pointer (some ⟨b, 0, none⟩), .int .i64 (t : Int)] w fun e w' => e = .returned (.int .i64 0) ∧ Below w.heap.size w w' := by
  have hal : Below w.heap.size w (w.alloc (.cells #[.int .i64 (t : Int)] 3)) := (Below.refl _ w).alloc (Nat.le_refl _) _
  have ht0 := blk_new w (.cells #[.int .i64 (t : Int)] 3)
  have HO := Lib.hid (bon_any b c B d _ (h.below hal))
  rw [ho] at HO
  have h0 := h.below hal
  have hn : ¬ (t : Int) < 0 := by omega
  have hn2 : ¬ 1048576 < (t : Int) := by omega
  have hl : (t : Int) ≤ (B.tag : Int) := by omega
  have hl2 : decide ((t : Int) ≤ (B.tag : Int)) = true := by simpa using hl
  clear h ht hlo
  go_enter Tryz.func42, Tryz.ntmps42
  go_wp2_with fail
  refine HO.out.mono ?_
  rintro e w1 ⟨rfl, hB1⟩
  have ht1 := blk_below' hB1 ht0
  have h1 := h0.below hB1
  have hb1 := below_then hal hB1
  have y0 := (blk_cell ht1 0).trans rfl
  simp at y0
  obtain ⟨⟨c0, c1, c2, c3, c4, c5⟩, _⟩ := h1.boot.cells
  go_wp2_with fail
  go_quiet (fail)
  go_wp2_with fail
  go_ret
  exact ⟨rfl, below_drewN hb1 nq⟩
set_option maxRecDepth 100000 in
set_option maxHeartbeats 1000000 in
theorem raise_covered (b c : Nat) (B : Bt) (d : Dk) (t : Nat) (w : World) (h : BtAt w b c B d) (ho : d.off = false) (ht : t ≤ 1048576) (hlo : B.tag < t) (hk : t ≤ B.ktag) :
    Calls Tryz.prog 42 #[.pointer (some ⟨b, 0, none⟩), .int .i64 (t : Int)] w fun e w' => e = .returned (.int .i64 0) ∧ BtAt w' b c { B with tag := t } d ∧ Ch2 w w' b c := by
  have hal : Below w.heap.size w (w.alloc (.cells #[.int .i64 (t : Int)] 3)) := (Below.refl _ w).alloc (Nat.le_refl _) _
  have ht0 := blk_new w (.cells #[.int .i64 (t : Int)] 3)
  have HO := Lib.hid (bon_any b c B d _ (h.below hal))
  rw [ho] at HO
  have h0 := h.below hal
  have hn : ¬ (t : Int) < 0 := by omega
  have hn2 : ¬ 1048576 < (t : Int) := by omega
  have hl2 : decide (t ≤ B.tag) = false := by simp; omega
  have HC := Lib.hid (fun w => covers_any B t w)
  rw [decide_eq_true hk] at HC
  unfold resV at HC
  have hbs := blk_lt h.boot
  have hcs := h.disk.lt
  clear h ht hlo hk
  go_enter Tryz.func42, Tryz.ntmps42
  go_wp2_with fail
  refine HO.out.mono ?_
  rintro e w1 ⟨rfl, hB1⟩
  have ht1 := blk_below' hB1 ht0
  have h1 := h0.below hB1
  have hb1 := below_then hal hB1
  have y0 := (blk_cell ht1 0).trans rfl
  simp at y0
  obtain ⟨⟨c0, c1, c2, c3, c4, c5⟩, _⟩ := h1.boot.cells
  go_wp2_with fail
  go_quiet (fail)
  have ht2 : (w1.drewN nq).heap[w.heap.size]? = some (.cells #[.int .i64 (t : Int)] 3 (0, 0)) := ht1
  have h2 : BtAt (w1.drewN nq) b c B d := ⟨h1.boot, h1.disk, h1.ne⟩
  have hb2 := below_drewN hb1 nq
  generalize w1.drewN nq = W2 at *
  clear c0 c1 c2 c3 c4 c5 y0 ht1 h1 hb1
  have y0 := (blk_cell ht2 0).trans rfl
  simp at y0
  obtain ⟨⟨c0, c1, c2, c3, c4, c5⟩, _⟩ := h2.boot.cells
  go_wp2_with fail
  refine wp_region_still_tail 5 (by kernel_rfl) (by kernel_rfl) ?_
  simp only [List.take_succ_cons, List.take_zero, List.drop_succ_cons, List.drop_zero]
  repeat still_step
  try refine wpStill_nil ?_
  change wpList _ _ _ _ _ (World.drew _)
  have ht2 : W2.drew.heap[w.heap.size]? = some (.cells #[.int .i64 (t : Int)] 3 (0, 0)) := ht2
  have h2 : BtAt W2.drew b c B d := ⟨h2.boot, h2.disk, h2.ne⟩
  have hb2 := hb2.drew
  generalize W2.drew = W3 at *
  clear c0 c1 c2 c3 c4 c5 y0
  go_wp2_with (go_at_call 64; refine (HC.out _).mono ?_; rintro e w3 ⟨rfl, hB3⟩; have h3 := h2.below hB3; have hb3 := below_then hb2 hB3; have z0 := (blk_cell (blk_below' hB3 ht2) 0).trans rfl; simp at z0; obtain ⟨⟨d0, d1, d2, d3, d4, d5⟩, ⟨f0, f1, f2, f3, f4⟩⟩ := h3.boot.cells)
  go_ret
  exact ⟨rfl, h3.setTag t, (Ch2.below hb3 b c).then (Ch2.one (but_set (but_refl _ _) (blk_lt h3.boot) _ _) c)⟩
set_option maxRecDepth 100000 in
set_option maxHeartbeats 1000000 in
theorem raise_save (b c : Nat) (B : Bt) (d : Dk) (t : Nat) (w : World) (h : BtAt w b c B d) (ho : d.off = false) (ht : t ≤ 1048576) (hlo : B.tag < t) (hk : ¬ t ≤ B.ktag) (hlt : ∀ c ∈ d.bs, c < 256) (hw : d.writes ≤ 4611686018427387903) (hfu : d.fuse ≤ 9223372036854775807) :
    Calls Tryz.prog 42 #[.pointer (some ⟨b, 0, none⟩), .int .i64 (t : Int)] w fun e w' =>
      SavePost w b c { B with ktag := capZ t, tag := t } B (.int .i64 0) (.int .i64 (saveW d B.life B.kround (capZ t : Nat)).2) (saveW d B.life B.kround (capZ t : Nat)) e w' := by
  obtain ⟨D, hDe⟩ : ∃ D, saveW d B.life B.kround (capZ t : Nat) = D := ⟨_, rfl⟩
  rw [hDe]
  have HDE := Lib.hid hDe
  clear hDe
  have hal : Below w.heap.size w (w.alloc (.cells #[.int .i64 (t : Int)] 3)) := (Below.refl _ w).alloc (Nat.le_refl _) _
  have ht0 := blk_new w (.cells #[.int .i64 (t : Int)] 3)
  have HO := Lib.hid (bon_any b c B d _ (h.below hal))
  rw [ho] at HO
  have h0 := h.below hal
  have hn : ¬ (t : Int) < 0 := by omega
  have hn2 : ¬ 1048576 < (t : Int) := by omega
  have hl2 : decide (t ≤ B.tag) = false := by simp; omega
  have HC := Lib.hid (fun w => covers_any B t w)
  rw [decide_eq_false hk] at HC
  unfold resV at HC
  have hbs := blk_lt h.boot
  have hcs := h.disk.lt
  have HSZ := Lib.hid (And.intro hlt (And.intro hw (And.intro hfu ht)))
  have hmf : ∀ (fn : Fn) (first cap : Array Value) (w : World), (Instr.makeFunc fn first cap).run Tryz.prog w = .ok (.func fn first cap) w := fun _ _ _ _ => rfl
  clear h ht hlo hk hlt hw hfu
  go_enter Tryz.func42, Tryz.ntmps42
  go_wp2_with fail
  refine HO.out.mono ?_
  rintro e w1 ⟨rfl, hB1⟩
  have ht1 := blk_below' hB1 ht0
  have h1 := h0.below hB1
  have hb1 := below_then hal hB1
  have y0 := (blk_cell ht1 0).trans rfl
  simp at y0
  obtain ⟨⟨c0, c1, c2, c3, c4, c5⟩, _⟩ := h1.boot.cells
  go_wp2_with fail
  go_quiet (fail)
  have ht2 : (w1.drewN nq).heap[w.heap.size]? = some (.cells #[.int .i64 (t : Int)] 3 (0, 0)) := ht1
  have h2 : BtAt (w1.drewN nq) b c B d := ⟨h1.boot, h1.disk, h1.ne⟩
  have hb2 := below_drewN hb1 nq
  generalize w1.drewN nq = W2 at *
  clear c0 c1 c2 c3 c4 c5 y0 ht1 h1 hb1
  have y0 := (blk_cell ht2 0).trans rfl
  simp at y0
  obtain ⟨⟨c0, c1, c2, c3, c4, c5⟩, _⟩ := h2.boot.cells
  go_wp2_with fail
  refine wp_region_still_tail 5 (by kernel_rfl) (by kernel_rfl) ?_
  simp only [List.take_succ_cons, List.take_zero, List.drop_succ_cons, List.drop_zero]
  repeat still_step
  try refine wpStill_nil ?_
  change wpList _ _ _ _ _ (World.drew _)
  have ht2 : W2.drew.heap[w.heap.size]? = some (.cells #[.int .i64 (t : Int)] 3 (0, 0)) := ht2
  have h2 : BtAt W2.drew b c B d := ⟨h2.boot, h2.disk, h2.ne⟩
  have hb2 := hb2.drew
  generalize W2.drew = W3 at *
  clear c0 c1 c2 c3 c4 c5 y0
  go_wp2_with (go_at_call 64; refine (HC.out _).mono ?_; rintro e w3 ⟨rfl, hB3⟩; have h3 := h2.below hB3; have hb3 := below_then hb2 hB3; have ht3 := blk_below' hB3 ht2)
  have HSV := Lib.hid (save_raise b c B d w.heap.size t w3 h3 ht3 HSZ.out.2.2.2 HSZ.out.1 HSZ.out.2.1 HSZ.out.2.2.1)
  rw [HDE.out] at HSV
  obtain ⟨d', er⟩ := D
  simp only at HSV
  refine HSV.out.mono ?_
  rintro e w4 ⟨rfl, hT4, hC4⟩
  have hc4 := (Ch2.below hb3 b c).then hC4
  have hcl := h3.disk.lt
  by_cases her : er = 0
  · subst her
    rw [svB_ok] at hT4
    have ht4 := hC4.blk ht3 (by omega) (by omega)
    have z0 := (blk_cell ht4 0).trans rfl
    simp at z0
    obtain ⟨⟨d0, d1, d2, d3, d4, d5⟩, ⟨f0, f1, f2, f3, f4⟩⟩ := hT4.boot.cells
    have hbl4 := blk_lt hT4.boot
    go_wp2_with fail
    go_ret
    exact ⟨fun _ => ⟨rfl, hT4.setTag t⟩, fun h => absurd rfl h, hc4.then (Ch2.one (but_set (but_refl _ _) hbl4 _ _) c)⟩
  · have hne : (er != 0) = true := by simpa using her
    rw [svB_no _ _ _ _ her] at hT4
    have HER := Lib.hid her
    clear her
    go_wp2_with fail
    go_ret
    exact ⟨fun h => absurd h HER.out, fun _ => ⟨rfl, hT4⟩, hc4⟩
end Go.Proofs.YtbjlnlgknegbnaaGreatDoor
namespace Go.Proofs.YtbjlnlgknegbnaaGreatDoor
set_option linter.unusedVariables false
set_option linter.unusedSimpArgs false
open Go.RowKit

/-- The disk behind saves, with the power that may have failed at the last one. -/
structure CuS (d : Dk) (st : Option (Rc × Nat)) (i : Nat) (cut : Bool) : Prop where
  slots : SlSt d.bs st
  lt : ∀ c ∈ d.bs, c < 256
  on : d.off = cut
  seq : stSeq st ≤ i
  wr : d.writes ≤ 2 * i
  fz : d.fuse ≤ 9223372036854775807
def stRec : Option (Rc × Nat) → Rc
  | none => Rc.zero
  | some (r, _) => r
theorem cuS_step {d : Dk} {st : Option (Rc × Nat)} {i : Nat} {x y z : Int} (h : CuS d st i false) (hb : d.bs.length = 256) (hi : i ≤ 40) (hm : mayR x y z) :
    ((saveW d x y z).2 = 0 ∧ ∃ a, CuS (saveW d x y z).1 (some (⟨x.toNat, y.toNat, z.toNat, stSeq st + 1⟩, a)) (i + 1) false) ∨ ((saveW d x y z).2 = 100 ∧ CuS (saveW d x y z).1 st (i + 1) true) := by
  obtain ⟨h1, h2, h3, h4, h5, h6⟩ := h
  rcases save_law h1 hb h3 hm (by omega) with ⟨h0, hs⟩ | ⟨h0, hf⟩
  · refine .inl ⟨h0, stTo st, ⟨hs.slots, saveW_lt h2 x y z, hs.on, by show stSeq st + 1 ≤ _; omega, by rw [hs.writes]; omega, ?_⟩⟩
    cases hfu : d.fused with
    | true => rw [(hs.fz hfu).2]; omega
    | false => rw [hs.un hfu]; exact h6
  · exact .inr ⟨h0, ⟨hf.slots, saveW_lt h2 x y z, hf.off, by omega, by rw [hf.writes]; have := hf.fz; omega, by rw [hf.fuse]; decide⟩⟩
theorem loadA_st {d : Dk} {st : Option (Rc × Nat)} (h : SlSt d.bs st) (ho : d.off = false) :
    loadA d = match st with | none => .tuple #[recV 0 0 0, .int .i64 0, .int .i64 40] | some (r, _) => .tuple #[recV r.life r.round r.tag, .int .i64 r.seq, .int .i64 0] := by
  cases st with
  | none => exact loadA_none h ho
  | some p => exact loadA_some h ho
structure CuW (w : World) (s2 : Nat) (d : Dk) (st : Option (Rc × Nat)) (p q r : Int) (W : World) : Prop where
  disk : DkAt W w.heap.size d
  last : W.heap[s2]? = some (.cells #[.int .i64 ((stRec st).life : Int), .int .i64 ((stRec st).round : Int), .int .i64 ((stRec st).tag : Int)] 35 (0, 0))
  try_ : W.heap[s2 + 1]? = some (.cells #[.int .i64 p, .int .i64 q, .int .i64 r] 35 (0, 0))
  low : Below w.heap.size w W
  far : w.heap.size < s2
theorem CuW.below {w W W' : World} {s2 : Nat} {d : Dk} {st : Option (Rc × Nat)} {p q r : Int} (h : CuW w s2 d st p q r W) (hb : Below W.heap.size W W') : CuW w s2 d st p q r W' :=
  ⟨h.disk.below hb, blk_below' hb h.last, blk_below' hb h.try_, below_then h.low hb, h.far⟩
theorem CuW.turn {w W W' : World} {s2 : Nat} {d d' : Dk} {st : Option (Rc × Nat)} {p q r : Int} (h : CuW w s2 d st p q r W) (hg : W.grownBy W' (some w.heap.size)) (hd : DkAt W' w.heap.size d') : CuW w s2 d' st p q r W' :=
  ⟨hd, blk_grown hg h.last (by simp; have := h.far; omega), blk_grown hg h.try_ (by simp; have := h.far; omega), h.low.grown hg h.low.size (fun j hj => by cases hj; exact Nat.le_refl _), h.far⟩
theorem CuW.setLast {w W : World} {s2 : Nat} {d : Dk} {st st' : Option (Rc × Nat)} {p q r : Int} (h : CuW w s2 d st p q r W) :
    CuW w s2 d st' p q r (((W.setCell ⟨s2, 0, none⟩ (.int .i64 ((stRec st').life : Int))).setCell ⟨s2, 1, none⟩ (.int .i64 ((stRec st').round : Int))).setCell ⟨s2, 2, none⟩ (.int .i64 ((stRec st').tag : Int))) := by
  have hlt := blk_lt h.last
  have hf := h.far
  have hgr : W.grownBy (((W.setCell ⟨s2, 0, none⟩ (.int .i64 ((stRec st').life : Int))).setCell ⟨s2, 1, none⟩ (.int .i64 ((stRec st').round : Int))).setCell ⟨s2, 2, none⟩ (.int .i64 ((stRec st').tag : Int))) (some s2) :=
    but_set (but_set (but_set (but_refl _ _) hlt _ _) hlt _ _) hlt _ _
  exact ⟨h.disk.but hgr (by omega), blk_store (blk_store (blk_store h.last 0 _) 1 _) 2 _, blk_grown hgr h.try_ (by simp), h.low.grown hgr h.low.size (fun j hj => by cases hj; omega), hf⟩
theorem CuW.setTry {w W : World} {s2 : Nat} {d : Dk} {st : Option (Rc × Nat)} {p q r p' q' r' : Int} (h : CuW w s2 d st p q r W) :
    CuW w s2 d st p' q' r' (((W.setCell ⟨s2 + 1, 0, none⟩ (.int .i64 p')).setCell ⟨s2 + 1, 1, none⟩ (.int .i64 q')).setCell ⟨s2 + 1, 2, none⟩ (.int .i64 r')) := by
  have hlt := blk_lt h.try_
  have hf := h.far
  have hgr : W.grownBy (((W.setCell ⟨s2 + 1, 0, none⟩ (.int .i64 p')).setCell ⟨s2 + 1, 1, none⟩ (.int .i64 q')).setCell ⟨s2 + 1, 2, none⟩ (.int .i64 r')) (some (s2 + 1)) :=
    but_set (but_set (but_set (but_refl _ _) hlt _ _) hlt _ _) hlt _ _
  exact ⟨h.disk.but hgr (by omega), blk_grown hgr h.last (by simp), blk_store (blk_store (blk_store h.try_ 0 _) 1 _) 2 _, h.low.grown hgr h.low.size (fun j hj => by cases hj; omega), hf⟩
end Go.Proofs.YtbjlnlgknegbnaaGreatDoor
namespace Go.Proofs.YtbjlnlgknegbnaaGreatDoor
set_option linter.unusedVariables false
open Go.RowKit

theorem cuS_save {d : Dk} {st : Option (Rc × Nat)} {i : Nat} {x y z : Nat} (h : CuS d st i false) (hb : d.bs.length = 256) (hi : i ≤ 1000000) (hm : mayR x y z) :
    ((saveW d x y z).2 = 0 ∧ ∃ a s, CuS (saveW d x y z).1 (some (⟨x, y, z, s⟩, a)) (i + 1) false) ∨ ((saveW d x y z).2 = 100 ∧ CuS (saveW d x y z).1 st (i + 1) true) := by
  obtain ⟨h1, h2, h3, h4, h5, h6⟩ := h
  rcases save_law h1 hb h3 hm (by omega) with ⟨h0, hs⟩ | ⟨h0, hf⟩
  · refine .inl ⟨h0, stTo st, stSeq st + 1, ⟨?_, saveW_lt h2 x y z, hs.on, by show stSeq st + 1 ≤ _; omega, by rw [hs.writes]; omega, ?_⟩⟩
    · have := hs.slots
      rw [Int.toNat_natCast, Int.toNat_natCast, Int.toNat_natCast] at this
      exact this
    · cases hfu : d.fused with
      | true => rw [(hs.fz hfu).2]; omega
      | false => rw [hs.un hfu]; exact h6
  · exact .inr ⟨h0, ⟨hf.slots, saveW_lt h2 x y z, hf.off, by omega, by rw [hf.writes]; have := hf.fz; omega, by rw [hf.fuse]; decide⟩⟩
theorem CuS.more {d : Dk} {st : Option (Rc × Nat)} {i j : Nat} {c : Bool} (h : CuS d st i c) (hj : i ≤ j) : CuS d st j c := ⟨h.slots, h.lt, h.on, by have := h.seq; omega, by have := h.wr; omega, h.fz⟩
/-- What is durable covers what was handed out. -/
structure LifeI (B : Bt) (d : Dk) (n : Nat) : Prop where
  disk : ∃ s a, CuS d (some (⟨B.life, B.kround, B.ktag, s⟩, a)) n d.off
  rnd : B.round ≤ B.kround
  tg : B.tag ≤ B.ktag
theorem LifeI.may {B : Bt} {d : Dk} {n : Nat} (h : LifeI B d n) : 1 ≤ B.life ∧ B.life ≤ 1073741824 ∧ B.kround ≤ 1099511627775 ∧ B.ktag ≤ 1048576 := by
  obtain ⟨s, a, hc⟩ := h.disk
  have := hc.slots.2.1.1
  exact ⟨this.1, this.2.1, this.2.2.1, this.2.2.2.1⟩
theorem LifeI.lt {B : Bt} {d : Dk} {n : Nat} (h : LifeI B d n) : ∀ c ∈ d.bs, c < 256 := by obtain ⟨s, a, hc⟩ := h.disk; exact hc.lt
theorem LifeI.wr {B : Bt} {d : Dk} {n : Nat} (h : LifeI B d n) : d.writes ≤ 2 * n ∧ d.fuse ≤ 9223372036854775807 := by obtain ⟨s, a, hc⟩ := h.disk; exact ⟨hc.wr, hc.fz⟩
theorem LifeI.more {B : Bt} {d : Dk} {i j : Nat} (h : LifeI B d i) (hj : i ≤ j) : LifeI B d j := by
  obtain ⟨⟨s, a, hc⟩, h2, h3⟩ := h
  exact ⟨⟨s, a, hc.more hj⟩, h2, h3⟩
/-- A save from within a life. -/
theorem life_save {B : Bt} {d : Dk} {n : Nat} (h : LifeI B d n) (hb : d.bs.length = 256) (hn : n ≤ 1000000) (ho : d.off = false) {y z : Nat} (hy : y ≤ 1099511627775) (hz : z ≤ 1048576) :
    ((saveW d B.life y z).2 = 0 ∧ ∃ a s, CuS (saveW d B.life y z).1 (some (⟨B.life, y, z, s⟩, a)) (n + 1) (saveW d B.life y z).1.off) ∨ ((saveW d B.life y z).2 = 100 ∧ LifeI B (saveW d B.life y z).1 (n + 1)) := by
  obtain ⟨⟨s, a, hc⟩, h2, h3⟩ := h
  rw [ho] at hc
  have hm := hc.slots.2.1.1
  have h1 : 1 ≤ B.life := hm.1
  have h4 : B.life ≤ 1073741824 := hm.2.1
  rcases cuS_save hc hb hn (x := B.life) (y := y) (z := z) ⟨by omega, by omega, by omega, by omega, by omega, by omega⟩ with ⟨h0, a', s', h5⟩ | ⟨h0, h5⟩
  · exact .inl ⟨h0, a', s', by rw [h5.on]; exact h5⟩
  · exact .inr ⟨h0, ⟨⟨s, a, by rw [h5.on]; exact h5⟩, h2, h3⟩⟩
theorem capR_le (n : Nat) : capR n ≤ 1099511627775 := by unfold capR; omega
theorem capR_ge {n : Nat} (h : n ≤ 1099511627775) : n ≤ capR n := by unfold capR; omega
theorem capR_gt {n : Nat} (h : n < 1099511627775) : n < capR n := by unfold capR; omega
theorem capT_le (n : Nat) : capT n ≤ 1048576 := by unfold capT; omega
theorem capT_ge {n : Nat} (h : n ≤ 1048576) : n ≤ capT n := by unfold capT; omega
theorem capZ_le (n : Nat) : capZ n ≤ 1048576 := by unfold capZ; omega
theorem capZ_ge {n : Nat} (h : n ≤ 1048576) : n ≤ capZ n := by unfold capZ; omega
/-- What Next tells, in one. -/
structure NextR (B B' : Bt) (rv er : Int) : Prop where
  ok : er = 0 → rv = ((B.round + 1 : Nat) : Int) ∧ B'.round = B.round + 1
  no : er ≠ 0 → B' = B
  tag : B'.tag = B.tag
  ktag : B'.ktag = B.ktag
  life : B'.life = B.life
  kr : B.kround ≤ B'.kround
/-- What Raise tells, in one. -/
structure RaiseR (B B' : Bt) (t : Nat) (er : Int) : Prop where
  round : B'.round = B.round
  kround : B'.kround = B.kround
  life : B'.life = B.life
  kt : B.ktag ≤ B'.ktag
  tg : B.tag ≤ B'.tag
  ok : er = 0 → t ≤ B'.tag
  off : t ≤ 1048576 → er = 0 ∨ er = 100
theorem raise_sum (b c : Nat) (B : Bt) (d : Dk) (n t : Nat) (w : World) (h : BtAt w b c B d) (hL : LifeI B d n) (hn : n ≤ 1000000) :
    Calls Tryz.prog 42 #[.pointer (some ⟨b, 0, none⟩), .int .i64 (t : Int)] w fun e w' => ∃ (er : Int) (B' : Bt) (d' : Dk), e = .returned (.int .i64 er) ∧ RaiseR B B' t er ∧ LifeI B' d' (n + 1) ∧ BtAt w' b c B' d' ∧ Ch2 w w' b c := by
  obtain ⟨m1, m2, m3, m4⟩ := hL.may
  have hr := hL.tg
  cases ho : d.off with
  | true =>
    refine (raise_off b c B d t w h ho).mono ?_
    rintro e w' ⟨rfl, hB⟩
    exact ⟨100, B, d, rfl, ⟨rfl, rfl, rfl, Nat.le_refl _, Nat.le_refl _, fun h => absurd h (by decide), fun _ => .inr rfl⟩, hL.more (by omega), h.below hB, Ch2.below hB b c⟩
  | false =>
    by_cases hb : t ≤ 1048576
    · by_cases hlo : t ≤ B.tag
      · refine (raise_low b c B d t w h ho hb hlo).mono ?_
        rintro e w' ⟨rfl, hB⟩
        exact ⟨0, B, d, rfl, ⟨rfl, rfl, rfl, Nat.le_refl _, Nat.le_refl _, fun _ => hlo, fun _ => .inl rfl⟩, hL.more (by omega), h.below hB, Ch2.below hB b c⟩
      · by_cases hk : t ≤ B.ktag
        · refine (raise_covered b c B d t w h ho hb (by omega) hk).mono ?_
          rintro e w' ⟨rfl, hT, hC⟩
          obtain ⟨⟨s, a, hc⟩, h2, h3⟩ := hL.more (Nat.le_succ n)
          exact ⟨0, { B with tag := t }, d, rfl, ⟨rfl, rfl, rfl, Nat.le_refl _, by show B.tag ≤ t; omega, fun _ => Nat.le_refl _, fun _ => .inl rfl⟩, ⟨⟨s, a, hc⟩, h2, hk⟩, hT, hC⟩
        · have hsv := life_save hL h.disk.2 hn ho (y := B.kround) (z := capZ t) m3 (capZ_le _)
          refine (raise_save b c B d t w h ho hb (by omega) hk hL.lt (by have := hL.wr.1; omega) hL.wr.2).mono ?_
          rintro e w' ⟨h0, h1, hC⟩
          rcases hsv with ⟨s0, a, s, hc⟩ | ⟨s0, hl⟩
          · obtain ⟨rfl, hT⟩ := h0 s0
            exact ⟨0, { B with ktag := capZ t, tag := t }, _, rfl, ⟨rfl, rfl, rfl, by show B.ktag ≤ capZ t; have := capZ_ge hb; omega, by show B.tag ≤ t; omega, fun _ => Nat.le_refl _, fun _ => .inl rfl⟩, ⟨⟨s, a, hc⟩, hL.rnd, capZ_ge hb⟩, hT, hC⟩
          · obtain ⟨rfl, hT⟩ := h1 (by rw [s0]; decide)
            exact ⟨_, B, _, rfl, ⟨rfl, rfl, rfl, Nat.le_refl _, Nat.le_refl _, fun h => absurd h (by rw [s0]; decide), fun _ => .inr s0⟩, hl, hT, hC⟩
    · refine (raise_big b c B d t w h ho (by omega)).mono ?_
      rintro e w' ⟨rfl, hB⟩
      exact ⟨120, B, d, rfl, ⟨rfl, rfl, rfl, Nat.le_refl _, Nat.le_refl _, fun h => absurd h (by decide), fun h => absurd h hb⟩, hL.more (by omega), h.below hB, Ch2.below hB b c⟩
/-- What Open tells, in one. -/
theorem open_sum (c : Nat) (d : Dk) (st : Option (Rc × Nat)) (n : Nat) (w : World) (h : DkAt w c d) (hC : CuS d st n d.off) (hn : n ≤ 1000000) (hl : (stRec st).life < 1073741824) :
    Calls Tryz.prog 7 #[.pointer (some ⟨c, 0, none⟩)] w fun e w' =>
      (∃ (b : Nat) (B : Bt) (d' : Dk), e = .returned (.tuple #[.pointer (some ⟨b, 0, none⟩), .int .i64 0]) ∧ w.heap.size ≤ b ∧ BtAt w' b c B d' ∧ LifeI B d' (n + 1) ∧ B.round = (stRec st).round ∧ B.tag = (stRec st).tag ∧ B.life = (stRec st).life + 1 ∧ w.grownBy w' (some c)) ∨
      (∃ d', e = .returned (.tuple #[.pointer none, .int .i64 100]) ∧ DkAt w' c d' ∧ CuS d' st (n + 1) d'.off ∧ w.grownBy w' (some c)) := by
  cases ho : d.off with
  | true =>
    refine (open_off c d w h hC.lt ho).mono ?_
    rintro e w' ⟨rfl, hB⟩
    exact .inr ⟨d, rfl, h.below hB, hC.more (by omega), but_below hB _⟩
  | false =>
    rw [ho] at hC
    have key : ∀ (l1 y z r t : Nat), l1 = (stRec st).life + 1 → r = (stRec st).round → t = (stRec st).tag → r ≤ y → y ≤ 1099511627775 → t ≤ z → z ≤ 1048576 → ∀ (e : Ending) (w' : World), OpenPost w c ⟨l1, y, z, r, t⟩ (saveW d l1 y z) e w' →
        (∃ (b : Nat) (B : Bt) (d' : Dk), e = .returned (.tuple #[.pointer (some ⟨b, 0, none⟩), .int .i64 0]) ∧ w.heap.size ≤ b ∧ BtAt w' b c B d' ∧ LifeI B d' (n + 1) ∧ B.round = (stRec st).round ∧ B.tag = (stRec st).tag ∧ B.life = (stRec st).life + 1 ∧ w.grownBy w' (some c)) ∨
        (∃ d', e = .returned (.tuple #[.pointer none, .int .i64 100]) ∧ DkAt w' c d' ∧ CuS d' st (n + 1) d'.off ∧ w.grownBy w' (some c)) := by
      intro l1 y z r t e1 e2 e3 hy hy2 hz hz2 e w' ⟨h0, h1, hg⟩
      rcases cuS_save hC h.2 hn (x := l1) (y := y) (z := z) ⟨by omega, by omega, by omega, by omega, by omega, by omega⟩ with ⟨s0, a, s, hc⟩ | ⟨s0, hc⟩
      · obtain ⟨b, rfl, hb, hT⟩ := h0 s0
        exact .inl ⟨b, _, _, rfl, hb, hT, ⟨⟨s, a, by rw [hc.on]; exact hc⟩, hy, hz⟩, e2, e3, e1, hg⟩
      · obtain ⟨rfl, hD⟩ := h1 (by rw [s0]; decide)
        exact .inr ⟨_, by rw [s0], hD, by rw [hc.on]; exact hc, hg⟩
    cases st with
    | none =>
      exact (open_none c d w h hC.lt (by have := hC.wr; omega) hC.fz (loadA_none hC.slots ho)).mono
        (key 1 (capR 0) (capT 0) 0 0 rfl rfl rfl (Nat.zero_le _) (capR_le _) (Nat.zero_le _) (capT_le _))
    | some p =>
      obtain ⟨q, a⟩ := p
      have hm := hC.slots.2.1.1
      obtain ⟨m1, m2, m3, m4, _⟩ := hm
      have hl' : q.life < 1073741824 := hl
      exact (open_some c d w h hC.lt (by have := hC.wr; omega) hC.fz q.life q.round q.tag (q.life + 1) q.seq (loadA_some hC.slots ho) rfl (by omega) (by omega) (by omega) (by omega)).mono
        (key (q.life + 1) (capR q.round) (capT q.tag) q.round q.tag rfl rfl rfl (capR_ge m3) (capR_le _) (capT_ge m4) (capT_le _))
end Go.Proofs.YtbjlnlgknegbnaaGreatDoor
namespace Go.Proofs.YtbjlnlgknegbnaaGreatDoor
set_option linter.unusedVariables false
set_option linter.unusedSimpArgs false
open Go.RowKit

theorem BtAt.same {W X : World} {b c : Nat} {B : Bt} {d : Dk} (h : BtAt W b c B d) (h1 : X.heap[b]? = W.heap[b]?) (h2 : X.heap[c]? = W.heap[c]?) : BtAt X b c B d := ⟨h1.trans h.boot, ⟨h2.trans h.disk.1, h.disk.2⟩, h.ne⟩
theorem first_save15 : (saveW Dk.new ((1 : Nat) : Int) (capR 0 : Nat) (capT 0 : Nat)).2 = 0 ∧ Saved Dk.new (saveW Dk.new ((1 : Nat) : Int) (capR 0 : Nat) (capT 0 : Nat)).1 none ⟨1, 16, 4, 1⟩ :=
  (save_law (x := ((1 : Nat) : Int)) (y := (capR 0 : Nat)) (z := (capT 0 : Nat)) slSt_new (by decide +kernel) rfl (by decide) (by decide)).resolve_right (fun h => by have := h.2.fused; cases this)
theorem nV_tag (i r o t k : Nat) (ho : i = o) (ht : tgN r = t) (hk : kdN r = k) : nV (i : Int) (tgN r : Nat) (kdN r : Nat) = .agg #[.int .i64 (o : Int), .int .i64 (t : Int), .int .i64 (k : Int)] := by subst ho ht hk; rfl
set_option maxRecDepth 100000 in
set_option maxHeartbeats 1000000 in
theorem alive15_any {w : World} {a : Addr} (hg : Gl a w) : Calls Tryz.prog 4 #[] w fun e w' => e = .returned (.bool true) ∧ Below w.heap.size w w' := by
  have hlt0 : ∀ c ∈ Dk.new.bs, c < 256 := tnS_new.lt
  obtain ⟨s0, hs⟩ := first_save15
  obtain ⟨D, hDe⟩ : ∃ D, saveW Dk.new ((1 : Nat) : Int) (capR 0 : Nat) (capT 0 : Nat) = D := ⟨_, rfl⟩
  rw [hDe] at s0 hs
  have HDE := Lib.hid hDe
  obtain ⟨d1, er⟩ := D
  simp only at s0 hs
  subst s0
  have HON := Lib.hid hs.on
  have HG := Lib.hid hg
  clear hDe hs hg
  go_enter Tryz.func4, Tryz.ntmps4
  go_wp2_with fail
  refine (new_any _).mono ?_
  rintro e w1 ⟨rfl, hD1, hB1⟩
  go_wp2_with fail
  refine (open_none w.heap.size Dk.new w1 hD1 hlt0 (by decide) (by decide) (loadA_none slSt_new rfl)).mono ?_
  rintro e w2 ⟨h0, _, hg2⟩
  rw [HDE.out] at h0
  obtain ⟨b, rfl, hb, hT2⟩ := h0 rfl
  have hb2 := hB1.grown hg2 hB1.size (fun j h => by cases h; exact Nat.le_refl _)
  have hbw : w.heap.size ≤ b := Nat.le_trans hB1.size hb
  clear h0 hg2 hD1
  go_wp2_with fail
  refine (tnew_yes 3 1 0 (by decide) (by decide) (by decide) w2).mono ?_
  rintro e w3 ⟨B, g, rfl, hT3, hB3, hg3, hb3⟩
  have hbb := blk_lt hT2.boot
  have hcc := blk_lt hT2.disk.1
  have hM3 := hT2.below hb3
  have hb03 := below_then hb2 hb3
  clear hT2 hB1
  rw [show bk0 3 1 0 = [0, 0, 0] from rfl] at hT3
  go_wp2_with fail
  refine (take_yes hT3 1 1 (by decide) (by decide)).mono ?_
  rintro e w4 ⟨rfl, hT4, hg4⟩
  rw [show tkR [0, 0, 0] 1 1 = [0, 1, 0] from rfl] at hT4
  have hz := hT3.lt
  have hM4 : BtAt w4 b w.heap.size _ d1 := hM3.same (hg4.5 b (blk_lt hM3.boot) (by simp; omega)) (hg4.5 _ (blk_lt hM3.disk.1) (by simp; omega))
  have hb04 := hb03.grown hg4 hb03.size (fun j h => by cases h; omega)
  clear hT3 hM3 hb03
  go_wp2_with fail
  have HM4 := Lib.hid hM4
  refine (defend_some hT4 (HG.out.of hb04) 1 (some ⟨b, 0, none⟩) 2 rfl b w.heap.size (fun er W => er = 0 ∧ BtAt W b w.heap.size ⟨1, 16, 4, 0, 1⟩ d1) ⟨blk_lt hM4.boot, blk_lt hM4.disk.1⟩ ⟨by omega, by omega, by omega, by omega⟩
    (fun W hW => (raise_covered b w.heap.size _ d1 1 W (HM4.out.below hW) HON.out (by decide) (by decide) (by decide)).mono (fun e w' ⟨h1, h2, h3⟩ => ⟨0, h1, h3, rfl, h2⟩))
    (fun er W X h1 h2 ⟨h3, h4⟩ => ⟨h3, h4.same h1 h2⟩)).mono ?_
  rintro e w5 ⟨er, ⟨rfl, hM5⟩, hC5, (⟨hne, _⟩ | ⟨_, rfl, hT5⟩)⟩
  · exact absurd rfl hne
  have hb05 := hC5.back hb04 hb04.size hbw (Nat.le_refl _) (by omega)
  have HTG := Lib.hid (tag_eq b _ _ _ ((hM5.below ((Below.refl _ _).alloc (Nat.le_refl _) (.cells #[.int .i64 1, .int .i64 1, .int .i64 1] 60)))).boot)
  unfold nV
  have HB := Lib.hid hb05
  clear hM5 hC5 hT5 hb05 hb04 hM4 HM4 hT4 hg4
  go_wp2_with (go_at_call 20; refine HTG.out.mono ?_; rintro e w6 ⟨rfl, rfl⟩)
  go_ret
  exact ⟨rfl, HB.out.alloc HB.out.size _⟩
end Go.Proofs.YtbjlnlgknegbnaaGreatDoor
namespace Go.Proofs.YtbjlnlgknegbnaaGreatDoor
set_option linter.unusedVariables false
set_option linter.unusedSimpArgs false
open Go.RowKit

set_option maxRecDepth 100000 in
theorem refMay_any (a b c : Int) (w : World) : Calls Tryz.prog 52 #[recV a b c] w fun e w' => e = .returned (.bool (decide (mayR a b c))) ∧ Below w.heap.size w w' := by
  unfold recV
  have HB : Below w.heap.size w (w.alloc (.cells #[.int .i64 a, .int .i64 b, .int .i64 c] 35)) := (Below.refl _ w).alloc (Nat.le_refl _) _
  by_cases h1 : 1 ≤ a
  · by_cases h2 : a ≤ 1073741824
    · by_cases h3 : 0 ≤ b
      · by_cases h4 : b ≤ 1099511627775
        · by_cases h5 : 0 ≤ c
          · by_cases h6 : c ≤ 1048576
            · rw [decide_eq_true (show mayR a b c from ⟨h1, h2, h3, h4, h5, h6⟩)]
              go_enter Tryz.func52, Tryz.ntmps52
              go_wp2_with fail
              go_ret
              exact ⟨rfl, HB⟩
            · rw [decide_eq_false (show ¬ mayR a b c from fun h => h6 h.2.2.2.2.2)]
              go_enter Tryz.func52, Tryz.ntmps52
              go_wp2_with fail
              go_ret
              exact ⟨rfl, HB⟩
          · rw [decide_eq_false (show ¬ mayR a b c from fun h => h5 h.2.2.2.2.1)]
            go_enter Tryz.func52, Tryz.ntmps52
            go_wp2_with fail
            go_ret
            exact ⟨rfl, HB⟩
        · rw [decide_eq_false (show ¬ mayR a b c from fun h => h4 h.2.2.2.1)]
          go_enter Tryz.func52, Tryz.ntmps52
          go_wp2_with fail
          go_ret
          exact ⟨rfl, HB⟩
      · rw [decide_eq_false (show ¬ mayR a b c from fun h => h3 h.2.2.1)]
        go_enter Tryz.func52, Tryz.ntmps52
        go_wp2_with fail
        go_ret
        exact ⟨rfl, HB⟩
    · rw [decide_eq_false (show ¬ mayR a b c from fun h => h2 h.2.1)]
      go_enter Tryz.func52, Tryz.ntmps52
      go_wp2_with fail
      go_ret
      exact ⟨rfl, HB⟩
  · rw [decide_eq_false (show ¬ mayR a b c from fun h => h1 h.1)]
    go_enter Tryz.func52, Tryz.ntmps52
    go_wp2_with fail
    go_ret
    exact ⟨rfl, HB⟩
set_option maxRecDepth 100000 in
theorem lay_any (b o n x m : Nat) (l : List Nat) (t : TypeId) (w : World) (h : w.heap[b]? = some (.cells (bC l).toArray t (0, 0))) (hm : m = l.length) (hn : o + n ≤ m) (hm2 : m ≤ 1000) (hn8 : n ≤ 8) (hx : x < 4611686018427387904) :
    Calls Tryz.prog 73 #[.slice (some ⟨b, 0, none⟩) m m, .int .i64 (o : Int), .int .i64 (n : Int), .int .i64 (x : Int)] w fun e w' => e = .returned (.tuple #[]) ∧ w'.heap[b]? = some (.cells (bC (putAt l o (be n x))).toArray t (0, 0)) ∧ w.grownBy w' (some b) := by
  have hlt0 := blk_lt h
  have h0 : putAt l o ((be n x).take 0) = l := by unfold putAt; simp
  have HN := Lib.hid (And.intro hm (And.intro hn hm2))
  clear hn hm hm2
  go_enter Tryz.func73, Tryz.ntmps73
  go_wp2_with fail
  go_loopw [8] (fun i wr => ∃ (k : Nat), i = .int .i64 k ∧ k ≤ n ∧ wr.heap[b]? = some (.cells (bC (putAt l o ((be n x).take k))).toArray t (0, 0)) ∧ w.grownBy wr (some b)) (fun i _ => n - (intOf i).toNat)
  case atStart => exact ⟨0, rfl, by omega, by rw [h0]; exact h, but_refl _ _⟩
  case round =>
    obtain ⟨k, rfl, hk, hB, hg⟩ := hrel
    clear h0
    by_cases hlt : k < n
    · have i1 : (k : Int) < (n : Int) := by omega
      have i2 : (0 : Int) ≤ (k : Int) := by omega
      have hv := be_get (x := x) hlt
      have hst := putAt_step l (be n x) o k _ (by rw [be_len]; have := HN.out; omega) hv
      have HST := Lib.hid hst
      have hlen : (putAt l o ((be n x).take k)).length = l.length := putAt_len (by rw [List.length_take, be_len]; have := HN.out; omega)
      obtain ⟨y, hy⟩ : ∃ y, (putAt l o ((be n x).take k))[o + k]? = some y := ⟨_, List.getElem?_eq_getElem (by rw [hlen]; have := HN.out; omega)⟩
      have c0 : wr.cell? ⟨b, o + k, none⟩ = some (.int .u8 (y : Int)) := by rw [blk_cell hB, List.getElem?_toArray, bC_get, hy]; rfl
      have z0 := blk_free hB (o + k)
      clear hst hv hy hlen
      have e0 : (n : Int) - 1 - (k : Int) = ((n - 1 - k : Nat) : Int) := by omega
      have i3 : (o : Int) + (k : Int) < (m : Int) := by have := HN.out; omega
      have i4 : (0 : Int) ≤ (o : Int) + (k : Int) := by omega
      have i5 : ((o : Int) + (k : Int)).toNat = o + k := by omega
      have i6 : (o : Int) + (k : Int) ≤ 1000 := by have := HN.out; omega
      go_wp2_with fail
      go_roundw
      case rel =>
        have hval : ((x : Int) / 2 ^ (8 * (n - 1 - k)) % 256) = ((x / 256 ^ (n - 1 - k) % 256 : Nat) : Int) := by
          rw [show (256 : Nat) ^ (n - 1 - k) = 2 ^ (8 * (n - 1 - k)) from by rw [Nat.pow_mul]]; push_cast; rfl
        rw [hval]
        refine ⟨k + 1, by go_num, by omega, ?_, but_set hg hlt0 _ _⟩
        have := blk_store hB (o + k) (.int .u8 ((x / 256 ^ (n - 1 - k) % 256 : Nat) : Int))
        rw [this, List.setIfInBounds_toArray, bC_set, HST.out]
      case measure => simp [intOf]; omega
    · obtain rfl : k = n := by omega
      have i1 : ¬ (k : Int) < (k : Int) := by omega
      rw [List.take_of_length_le (by rw [be_len]; exact Nat.le_refl _)] at hB
      go_wp2_with fail
      go_end0
      exact ⟨rfl, hB, hg⟩
def valF : Nat → List Nat → Nat
  | x, [] => x
  | x, c :: l => valF (x * 256 + c) l
theorem valF_snoc : ∀ (l : List Nat) (x c : Nat), valF x (l ++ [c]) = valF x l * 256 + c
  | [], x, c => rfl
  | d :: l, x, c => valF_snoc l (x * 256 + d) c
theorem valF_lt : ∀ (l : List Nat) (x n : Nat), (∀ c ∈ l, c < 256) → x < n → valF x l < n * 256 ^ l.length
  | [], x, n, _, h => by simpa [valF] using h
  | c :: l, x, n, hc, h => by
    have h1 := valF_lt l (x * 256 + c) (n * 256) (fun d hd => hc d (by simp [hd])) (by have := hc c (by simp); omega)
    show valF (x * 256 + c) l < _
    rw [List.length_cons, Nat.pow_succ, Nat.mul_comm (256 ^ l.length) 256, ← Nat.mul_assoc]; exact h1
theorem valF_take {l : List Nat} {k c : Nat} (h : l[k]? = some c) : valF 0 (l.take (k + 1)) = valF 0 (l.take k) * 256 + c := by
  rw [List.take_add_one, h]; exact valF_snoc _ _ _
theorem valF_be : ∀ (n x y : Nat), valF x (be n y) = x * 256 ^ n + y % 256 ^ n
  | 0, x, y => by show x = _; simp [Nat.mod_one]
  | n + 1, x, y => by
    have hpe : 256 ^ (n + 1) = 256 ^ n * 256 := Nat.pow_succ 256 n
    have hm : y % 256 ^ (n + 1) = 256 ^ n * (y / 256 ^ n % 256) + y % 256 ^ n := by rw [hpe, Nat.mod_mul]; omega
    rw [be_succ]
    show valF (x * 256 + y / 256 ^ n % 256) (be n y) = _
    rw [valF_be n, hm, hpe, Nat.add_mul, Nat.mul_assoc, Nat.mul_comm 256 (256 ^ n), Nat.mul_comm (y / 256 ^ n % 256) (256 ^ n)]; omega
set_option maxRecDepth 100000 in
theorem value_any (g q o n m cap : Nat) (l : List Nat) (w : World) (hl : l.length = m) (hn : o + n ≤ m) (hm2 : m ≤ 1000) (hlt : ∀ c ∈ l, c < 256) (hb : ∀ k, k ≤ n → valF 0 (((l.drop o).take n).take k) < 72057594037927936) (hc : CellsAt w ⟨g, q, none⟩ l) :
    Calls Tryz.prog 88 #[.slice (some ⟨g, q, none⟩) m cap, .int .i64 (o : Int), .int .i64 (n : Int)] w fun e w' => e = .returned (.int .i64 (valF 0 ((l.drop o).take n) : Nat)) ∧ Below w.heap.size w w' := by
  have HC := Lib.hid hc
  have HL := Lib.hid (And.intro hl (And.intro hn hm2))
  have HB := Lib.hid hb
  have HLT := Lib.hid hlt
  clear hc hb hl hn hm2 hlt
  go_enter Tryz.func88, Tryz.ntmps88
  go_wp2_with fail
  go_loopw [7, 8] (fun xv i wr => ∃ (k x : Nat), i = .int .i64 k ∧ k ≤ n ∧ xv = .int .i64 (x : Int) ∧ Hid (x = valF 0 (((l.drop o).take n).take k)) ∧ Below w.heap.size w wr) (fun _ i _ => n - (intOf i).toNat)
  case atStart => exact ⟨0, 0, rfl, by omega, rfl, rfl, Below.refl _ _⟩
  case round =>
    obtain ⟨k, x, rfl, hk, rfl, hx, hbl⟩ := hrel
    by_cases hlt : k < n
    · obtain ⟨c, hcx⟩ : ∃ c, l[o + k]? = some c := ⟨_, List.getElem?_eq_getElem (by have := HL.out; omega)⟩
      obtain ⟨p, hp1, hp⟩ := HC.out (o + k) c hcx
      cases hp1
      have hp := (hbl.cell (cell_lt hp)).trans hp
      rw [Addr.add_mid] at hp
      have hc2 := HLT.out c (List.mem_of_getElem? hcx)
      have hcy : ((l.drop o).take n)[k]? = some c := by rw [List.getElem?_take_of_lt hlt, List.getElem?_drop]; exact hcx
      have hs := valF_take hcy
      have hb1 := HB.out (k + 1) (by omega)
      rw [hs, ← hx.out] at hb1
      have HS := Lib.hid hs
      have i1 : (k : Int) < (n : Int) := by omega
      have i2 : (0 : Int) ≤ (o : Int) + (k : Int) := by omega
      have i3 : (o : Int) + (k : Int) < (m : Int) := by have := HL.out; omega
      have i5 : ((o : Int) + (k : Int)).toNat = o + k := by omega
      have i6 : (o : Int) + (k : Int) ≤ 1000 := by have := HL.out; omega
      have j2 : (x : Int) * 256 + (c : Int) < 72057594037927936 := by omega
      have j3 : (x : Int) * 256 < 72057594037927936 := by omega
      have j4 : (0 : Int) ≤ (x : Int) * 256 := by omega
      clear hcx hs hb1 hcy
      go_wp2_with fail
      go_roundw
      case rel => exact ⟨k + 1, x * 256 + c, by go_num, by omega, by go_num, by show _ = _; rw [HS.out, hx.out], hbl⟩
      case measure => simp [intOf]; omega
    · obtain rfl : k = n := by omega
      have i1 : ¬ (k : Int) < (k : Int) := by omega
      go_wp2_with fail
      go_ret
      refine ⟨?_, hbl⟩
      rw [hx.out, List.take_of_length_le (by rw [List.length_take]; omega)]; rfl
end Go.Proofs.YtbjlnlgknegbnaaGreatDoor
namespace Go.Proofs.YtbjlnlgknegbnaaGreatDoor
set_option linter.unusedVariables false
set_option linter.unusedSimpArgs false
open Go.RowKit

theorem made_bytes (n : Nat) : madeCells #[Value.int .u8 0] n = (bC (List.replicate n 0)).toArray := by
  apply Array.ext
  · simp [size_madeCells, bC]
  · intro i h1 h2
    simp [madeCells, Nat.mod_one, bC]
theorem make64 (w : World) : (Instr.makeSlice 26 (.int .i64 64) (.int .i64 64)).run Tryz.prog w = .ok (.slice (some ⟨w.heap.size, 0, none⟩) 64 64) (w.alloc (.cells (bC (List.replicate 64 0)).toArray 5)) := by
  have := run_make_row' 26 5 (.int .u8 0) 1 Tryz.underlying26 Tryz.infoByte rfl .i64 .i64 64 (by decide) (by decide) w
  rwa [made_bytes] at this
def NewU (w W : World) (v : Value) (l : List Nat) : Prop := ∃ g, v = .slice (some ⟨g, 0, none⟩) 64 64 ∧ w.heap.size ≤ g ∧ W.heap[g]? = some (.cells (bC l).toArray 5 (0, 0))
structure Rs (w : World) (a b c : Int) (g : Nat) (l : List Nat) (W : World) : Prop where
  box : W.heap[w.heap.size]? = some (.cells #[.int .i64 a, .int .i64 b, .int .i64 c] 35 (0, 0))
  b : W.heap[g]? = some (.cells (bC l).toArray 5 (0, 0))
  low : Below w.heap.size w W
  len : l.length = 64
  far : w.heap.size < g
theorem Rs.put {w W W' : World} {a b c : Int} {g : Nat} {l m : List Nat} {o : Nat} (h : Rs w a b c g l W) (hb : W'.heap[g]? = some (.cells (bC (putAt l o m)).toArray 5 (0, 0))) (hg : W.grownBy W' (some g)) (hm : o + m.length ≤ 64) : Rs w a b c g (putAt l o m) W' :=
  ⟨blk_grown hg h.box (by simp; have := h.far; omega), hb, h.low.grown hg h.low.size (fun j hj => by cases hj; have := h.far; omega), (putAt_len (by rw [h.len]; exact hm)).trans h.len, h.far⟩
set_option maxRecDepth 100000 in
set_option maxHeartbeats 1000000 in
theorem refEncode_ok (r : Rc) (hm : r.may) (w : World) : Calls Tryz.prog 53 #[recV r.life r.round r.tag, .int .i64 (r.seq : Int)] w fun e w' =>
    ∃ v, e = .returned (.tuple #[v, .int .i64 0]) ∧ NewU w w' v (encL r) ∧ Below w.heap.size w w' := by
  have HM := Lib.hid (fun w => refMay_any (r.life : Int) (r.round : Int) (r.tag : Int) w)
  obtain ⟨m1, m2, m3, m4, m5, m6⟩ := hm
  have hb0 : Below w.heap.size w (w.alloc (.cells #[.int .i64 (r.life : Int), .int .i64 (r.round : Int), .int .i64 (r.tag : Int)] 35)) := (Below.refl _ w).alloc (Nat.le_refl _) _
  have k0 := box3 w (.int .i64 (r.life : Int)) (.int .i64 (r.round : Int)) (.int .i64 (r.tag : Int)) 35
  rw [decide_eq_true (show mayR (r.life : Int) (r.round : Int) (r.tag : Int) from ⟨by omega, by omega, by omega, by omega, by omega, by omega⟩)] at HM
  unfold recV at HM ⊢
  have s1 : ¬ (r.seq : Int) < 1 := by omega
  have s2 : ¬ (1099511627776 : Int) < (r.seq : Int) := by omega
  go_enter Tryz.func53, Tryz.ntmps53
  go_wp2_with fail
  refine (HM.out _).mono ?_
  rintro e w1 ⟨rfl, hB1⟩
  have hb1 := below_then hb0 hB1
  have k1 := blk_below' hB1 k0
  have hmk := make64 w1
  clear hb0 k0 hB1
  go_upto_region 4 with fail
  generalize hW2 : World.alloc w1 _ = W2
  obtain ⟨g, hgg⟩ : ∃ g, w1.heap.size = g := ⟨_, rfl⟩
  have B0 : Rs w (r.life : Int) (r.round : Int) (r.tag : Int) g (List.replicate 64 0) W2 := by
    rw [← hW2, ← hgg]
    exact ⟨blk_old k1 _, blk_new w1 _, hb1.alloc hb1.size _, List.length_replicate, blk_lt k1⟩
  rw [hgg]
  have hgw : w.heap.size ≤ g := Nat.le_of_lt B0.far
  clear hW2 hmk k1 hb1 hgg
  go_wp2_with fail
  obtain ⟨W4, hrun, hb4, hg4⟩ := copy_text (P := Tryz.prog) W2 26 9 3 5 g 0 64 64 ⟨#[101, 97, 114, 49]⟩ [101, 97, 114, 49] _ _ Tryz.underlying26 (by kernel_rfl) rfl (by decide) B0.b (by rw [B0.len]; decide)
  have B4 := B0.put hb4 hg4 (by decide)
  rw [hrun]
  clear hrun hb4 hg4 B0
  obtain ⟨c0, c1, c2, _⟩ := blk3 B4.box
  go_wp2_with fail
  refine (lay_any g 4 8 r.seq 64 _ 5 _ B4.b (by rw [B4.len]) (by decide) (by decide) (by decide) (by omega)).mono ?_
  rintro e w5 ⟨rfl, hb, hg⟩
  have B5 := B4.put hb hg (by rw [be_len]; decide)
  clear hb hg c0 c1 c2 B4
  obtain ⟨c0, c1, c2, _⟩ := blk3 B5.box
  go_wp2_with fail
  refine (lay_any g 12 4 r.life 64 _ 5 _ B5.b (by rw [B5.len]) (by decide) (by decide) (by decide) (by omega)).mono ?_
  rintro e w6 ⟨rfl, hb, hg⟩
  have B6 := B5.put hb hg (by rw [be_len]; decide)
  clear hb hg c0 c1 c2 B5
  obtain ⟨c0, c1, c2, _⟩ := blk3 B6.box
  go_wp2_with fail
  refine (lay_any g 16 5 r.round 64 _ 5 _ B6.b (by rw [B6.len]) (by decide) (by decide) (by decide) (by omega)).mono ?_
  rintro e w7 ⟨rfl, hb, hg⟩
  have B7 := B6.put hb hg (by rw [be_len]; decide)
  clear hb hg c0 c1 c2 B6
  go_wp2_with fail
  obtain ⟨W8, hrun, hb8, hg8⟩ := copy_text (P := Tryz.prog) w7 26 9 3 5 g 32 32 32 ⟨#[101, 97, 114, 50]⟩ [101, 97, 114, 50] _ _ Tryz.underlying26 (by kernel_rfl) rfl (by decide) B7.b (by rw [B7.len]; decide)
  have B8 := B7.put hb8 hg8 (by decide)
  rw [hrun]
  clear hrun hb8 hg8 B7
  obtain ⟨c0, c1, c2, _⟩ := blk3 B8.box
  go_wp2_with fail
  refine (lay_any g 36 8 r.seq 64 _ 5 _ B8.b (by rw [B8.len]) (by decide) (by decide) (by decide) (by omega)).mono ?_
  rintro e w9 ⟨rfl, hb, hg⟩
  have B9 := B8.put hb hg (by rw [be_len]; decide)
  clear hb hg c0 c1 c2 B8
  obtain ⟨c0, c1, c2, _⟩ := blk3 B9.box
  go_wp2_with fail
  refine (lay_any g 44 3 r.tag 64 _ 5 _ B9.b (by rw [B9.len]) (by decide) (by decide) (by decide) (by omega)).mono ?_
  rintro e w10 ⟨rfl, hb, hg⟩
  have B10 := B9.put hb hg (by rw [be_len]; decide)
  clear hb hg c0 c1 c2 B9
  rw [enc_puts] at B10
  go_wp2_with fail
  go_ret2
  exact ⟨_, rfl, ⟨g, rfl, hgw, B10.b⟩, B10.low⟩
set_option maxRecDepth 100000 in
set_option maxHeartbeats 1000000 in
theorem refEncode_no (a b c s : Int) (h : ¬ encOk a b c s) (w : World) : Calls Tryz.prog 53 #[recV a b c, .int .i64 s] w fun e w' =>
    e = .returned (.tuple #[.slice none 0 0, .int .i64 1]) ∧ Below w.heap.size w w' := by
  have HM := Lib.hid (fun w => refMay_any a b c w)
  have hb0 : Below w.heap.size w (w.alloc (.cells #[.int .i64 a, .int .i64 b, .int .i64 c] 35)) := (Below.refl _ w).alloc (Nat.le_refl _) _
  unfold recV at HM ⊢
  by_cases h1 : mayR a b c
  · rw [decide_eq_true h1] at HM
    by_cases s1 : s < 1
    · clear h h1
      go_enter Tryz.func53, Tryz.ntmps53
      go_wp2_with fail
      refine (HM.out _).mono ?_
      rintro e w1 ⟨rfl, hB1⟩
      go_wp2_with fail
      go_ret2
      exact ⟨rfl, below_then hb0 hB1⟩
    · have s2 : (1099511627776 : Int) < s := by
        by_cases h2 : (1099511627776 : Int) < s
        · exact h2
        · exact absurd ⟨h1, by omega, by omega⟩ h
      clear h h1
      go_enter Tryz.func53, Tryz.ntmps53
      go_wp2_with fail
      refine (HM.out _).mono ?_
      rintro e w1 ⟨rfl, hB1⟩
      go_wp2_with fail
      go_ret2
      exact ⟨rfl, below_then hb0 hB1⟩
  · rw [decide_eq_false h1] at HM
    clear h h1
    go_enter Tryz.func53, Tryz.ntmps53
    go_wp2_with fail
    refine (HM.out _).mono ?_
    rintro e w1 ⟨rfl, hB1⟩
    go_wp2_with fail
    go_ret2
    exact ⟨rfl, below_then hb0 hB1⟩
/-- The record that the document reads off the bytes. -/
def rcVal (l : List Nat) : Rc := ⟨valF 0 ((l.drop 12).take 4), valF 0 ((l.drop 16).take 5), valF 0 ((l.drop 44).take 3), valF 0 ((l.drop 4).take 8)⟩
theorem val_be {n x : Nat} (h : x < 256 ^ n) : valF 0 (be n x) = x := by rw [valF_be, Nat.mod_eq_of_lt h]; omega
theorem rcVal_enc {r : Rc} (h : r.may) : rcVal (encL r) = r ∧ (encL r)[4]? = some 0 := by
  obtain ⟨h1, h2, h3, h4, h5, h6⟩ := h
  obtain ⟨life, round, tag, seq⟩ := r
  simp only at h1 h2 h3 h4 h5 h6
  have e1 : (encL ⟨life, round, tag, seq⟩).drop 4 = be 8 seq ++ (be 4 life ++ (be 5 round ++ (List.replicate 11 0 ++ ([101, 97, 114, 50] ++ (be 8 seq ++ (be 3 tag ++ List.replicate 17 0)))))) := drop_app (n := 4) rfl 0
  have e2 : (encL ⟨life, round, tag, seq⟩).drop 12 = be 4 life ++ (be 5 round ++ (List.replicate 11 0 ++ ([101, 97, 114, 50] ++ (be 8 seq ++ (be 3 tag ++ List.replicate 17 0))))) := by
    rw [show (12 : Nat) = 4 + 8 from rfl, ← List.drop_drop, e1]; exact drop_app (n := 8) (be_len 8 _) 0
  have e3 : (encL ⟨life, round, tag, seq⟩).drop 16 = be 5 round ++ (List.replicate 11 0 ++ ([101, 97, 114, 50] ++ (be 8 seq ++ (be 3 tag ++ List.replicate 17 0)))) := by
    rw [show (16 : Nat) = 12 + 4 from rfl, ← List.drop_drop, e2]; exact drop_app (n := 4) (be_len 4 _) 0
  have e4 : (encL ⟨life, round, tag, seq⟩).drop 44 = be 3 tag ++ List.replicate 17 0 := by
    rw [show (44 : Nat) = 16 + 28 from rfl, ← List.drop_drop, e3, show (28 : Nat) = 5 + 23 from rfl, drop_app (n := 5) (be_len 5 _) 23, show (23 : Nat) = 11 + 12 from rfl, drop_app (n := 11) (by simp) 12, show (12 : Nat) = 4 + 8 from rfl, drop_app (n := 4) rfl 8]
    exact drop_app (n := 8) (be_len 8 _) 0
  constructor
  · unfold rcVal
    rw [e1, e2, e3, e4, take_app (be_len 8 _), take_app (be_len 4 _), take_app (be_len 5 _), take_app (be_len 3 _),
      val_be (n := 4) (by omega), val_be (n := 5) (by omega), val_be (n := 3) (by omega), val_be (n := 8) (by omega)]
  · have h0 : (encL ⟨life, round, tag, seq⟩)[4]? = ((encL ⟨life, round, tag, seq⟩).drop 4)[0]? := by rw [List.getElem?_drop]
    rw [h0, e1, be_succ]
    show some (seq / 256 ^ 7 % 256) = some 0
    rw [Nat.div_eq_of_lt (by omega)]
theorem decL_val {l : List Nat} {r : Rc} (h : decL l = some r) : rcVal l = r ∧ l[4]? = some 0 ∧ r.may ∧ l = encL r := by
  obtain ⟨hm, rfl⟩ := decL_some h
  exact ⟨(rcVal_enc hm).1, (rcVal_enc hm).2, hm, rfl⟩
theorem part_lt {l : List Nat} (hlt : ∀ c ∈ l, c < 256) (o n k : Nat) : ∀ c ∈ ((l.drop o).take n).take k, c < 256 := fun c hc => hlt c (List.mem_of_mem_drop (List.mem_of_mem_take (List.mem_of_mem_take hc)))
theorem part_bound {l : List Nat} (hlt : ∀ c ∈ l, c < 256) (o n : Nat) (hn : n ≤ 7) : ∀ k, k ≤ n → valF 0 (((l.drop o).take n).take k) < 72057594037927936 := by
  intro k hk
  have h := valF_lt (((l.drop o).take n).take k) 0 1 (part_lt hlt o n k) (by decide)
  have hl : (((l.drop o).take n).take k).length ≤ 7 := by rw [List.length_take]; omega
  have := Nat.pow_le_pow_right (n := 256) (by decide) hl
  omega
theorem part_bound8 {l : List Nat} (hlt : ∀ c ∈ l, c < 256) (h4 : l[4]? = some 0) : ∀ k, k ≤ 8 → valF 0 (((l.drop 4).take 8).take k) < 72057594037927936 := by
  intro k hk
  obtain ⟨h5, h6⟩ := List.getElem?_eq_some_iff.1 h4
  rw [List.drop_eq_getElem_cons h5, h6]
  cases k with
  | zero => show 0 < _; decide
  | succ k =>
    show valF 0 ((0 :: (l.drop 5).take 7).take (k + 1)) < _
    show valF (0 * 256 + 0) (((l.drop 5).take 7).take k) < _
    exact part_bound hlt 5 7 (Nat.le_refl _) k (by omega)
end Go.Proofs.YtbjlnlgknegbnaaGreatDoor
namespace Go.Proofs.YtbjlnlgknegbnaaGreatDoor
set_option linter.unusedVariables false
set_option linter.unusedSimpArgs false
open Go.RowKit

theorem refDec_end {w W : World} {A : Value} {a : Act} {x y z i c : Int} (hd : a.defers = []) (h2 : a.tmps[2]?.getD undef = .pointer (some ⟨w.heap.size, 0, none⟩)) (h3 : a.tmps[3]?.getD undef = .int .i64 i) (h4 : a.tmps[4]?.getD undef = .int .i64 c)
    (hb : W.heap[w.heap.size]? = some (.cells #[.int .i64 x, .int .i64 y, .int .i64 z] 35 (0, 0))) (hl : Below w.heap.size w W)
    (he : .tuple #[.agg #[.int .i64 x, .int .i64 y, .int .i64 z], .int .i64 i, .int .i64 c] = A) :
    bodyPost Tryz.prog Tryz.f72 (fun e w' => e = .returned A ∧ Below w.heap.size w w') Exit.ret a W := by
  obtain ⟨y0, y1, y2, _⟩ := blk3 hb
  refine bodyPost_ret (v := .tuple #[.agg #[.int .i64 x, .int .i64 y, .int .i64 z], .int .i64 i, .int .i64 c]) ?_ hd ⟨by rw [he], hl⟩
  simp [results, Tryz.results72, go_sem, h2, h3, h4, y0, y1, y2]
set_option maxRecDepth 100000 in
set_option maxHeartbeats 2000000 in
theorem refDecode_any (g q : Nat) (cp : Nat) (l : List Nat) (hl : l.length = 64) (hlt : ∀ c ∈ l, c < 256) (w : World) (hc : CellsAt w ⟨g, q, none⟩ l) (hgw : g < w.heap.size) : Calls Tryz.prog 72 #[.slice (some ⟨g, q, none⟩) 64 cp] w fun e w' =>
    e = .returned (decA (decL l)) ∧ Below w.heap.size w w' := by
  have hk : TK w ⟨g, q, none⟩ l (w.alloc (.cells #[.int .i64 0, .int .i64 0, .int .i64 0] 35)) := ⟨hc.below ((Below.refl _ w).alloc (Nat.le_refl _) _), (Below.refl _ w).alloc (Nat.le_refl _) _, box3 w _ _ _ _⟩
  obtain ⟨A, hA⟩ : ∃ A, decA (decL l) = A := ⟨_, rfl⟩
  rw [hA]
  have HA := Lib.hid hA
  obtain ⟨c4, hc4⟩ : ∃ c, l[4]? = some c := ⟨_, List.getElem?_eq_getElem (by omega)⟩
  obtain ⟨r, hr⟩ : ∃ r, rcVal l = r := ⟨_, rfl⟩
  have hr1 : valF 0 ((l.drop 12).take 4) = r.life := by rw [← hr]; rfl
  have hr2 : valF 0 ((l.drop 16).take 5) = r.round := by rw [← hr]; rfl
  have hr3 : valF 0 ((l.drop 44).take 3) = r.tag := by rw [← hr]; rfl
  have hr4 : valF 0 ((l.drop 4).take 8) = r.seq := by rw [← hr]; rfl
  have HR := Lib.hid hr
  clear hA hc hr
  go_enter Tryz.func72, Tryz.ntmps72
  go_wp2_with fail
  generalize World.alloc w _ = W1 at *
  refine (value_any g q 12 4 64 cp l _ hl (by decide) (by decide) hlt (part_bound hlt 12 4 (by decide)) (hk).bytes).mono ?_
  rintro e w2 ⟨rfl, hB⟩
  have hk2 := (hk).below hB
  clear hB
  go_wp2_with fail
  refine (value_any g q 16 5 64 cp l _ hl (by decide) (by decide) hlt (part_bound hlt 16 5 (by decide)) (hk2).bytes).mono ?_
  rintro e w3 ⟨rfl, hB⟩
  have hk3 := (hk2).below hB
  clear hB
  go_wp2_with fail
  refine (value_any g q 44 3 64 cp l _ hl (by decide) (by decide) hlt (part_bound hlt 44 3 (by decide)) (hk3).bytes).mono ?_
  rintro e w4 ⟨rfl, hB⟩
  have hk4 := (hk3).below hB
  clear hB
  rw [hr3]
  clear hk hk2 hk3
  have hk5 := hk4.below ((Below.refl _ w4).alloc (Nat.le_refl _) (.cells #[.int .i64 (r.life : Int), .int .i64 (r.round : Int), .int .i64 (r.tag : Int)] 35))
  have hb5 := box3 w4 (.int .i64 (r.life : Int)) (.int .i64 (r.round : Int)) (.int .i64 (r.tag : Int)) 35
  obtain ⟨W5, hW5⟩ : ∃ W5, w4.alloc (.cells #[.int .i64 (r.life : Int), .int .i64 (r.round : Int), .int .i64 (r.tag : Int)] 35) = W5 := ⟨_, rfl⟩
  rw [hW5] at hk5 hb5
  obtain ⟨p4, hp4, hcell⟩ := hk5.bytes 4 c4 hc4
  cases hp4
  rw [Addr.add_mid] at hcell
  by_cases h0 : c4 = 0
  · subst h0
    have hbx := hk4.low
    clear hk4
    go_wp2_with fail
    (try rw [hW5])
    clear hW5
    refine (value_any g q 4 8 64 cp l _ hl (by decide) (by decide) hlt (part_bound8 hlt hc4) hk5.bytes).mono ?_
    rintro e w6 ⟨rfl, hB6⟩
    rw [hr4]
    have hk6 := hk5.below hB6
    have hb6 := blk_below' hB6 hb5
    obtain ⟨y0, y1, y2, _⟩ := blk3 hb6
    clear hk5 hb5 hB6 hr1 hr2 hr3 hr4 hcell hbx
    by_cases hok : encOk (r.life : Int) r.round r.tag r.seq
    · have hmay : r.may := by
        obtain ⟨⟨m1, m2, m3, m4, m5, m6⟩, m7, m8⟩ := hok
        exact ⟨by omega, by omega, by omega, by omega, by omega, by omega⟩
      have HM := Lib.hid hmay
      have HE := Lib.hid (fun w => refEncode_ok r hmay w)
      unfold recV at HE
      clear hmay hok
      go_wp2_with fail
      refine (HE.out _).mono ?_
      rintro e w7 ⟨v, rfl, ⟨g2, rfl, hg2, hn⟩, hB7⟩
      have hk7 := hk6.below hB7
      have hb7 := blk_below' hB7 hb6
      have hc7 := cells_blk hn
      clear hk6 hb6 hB7 hn y0 y1 y2
      go_wp2_with fail
      go_loopw [9] (fun i wr => ∃ k : Nat, i = .int .i64 k ∧ k ≤ 64 ∧ Hid (∀ j, j < k → l[j]? = (encL r)[j]?) ∧ Below w7.heap.size w7 wr) (fun i _ => 64 - (intOf i).toNat)
      case atStart => exact ⟨0, rfl, by omega, fun j hj => by omega, Below.refl _ _⟩
      case round =>
        obtain ⟨k, rfl, hk, heq, hbl⟩ := hrel
        have hkr := hk7.below hbl
        have hbr := blk_below' hbl hb7
        have hcr := hc7.below hbl
        by_cases hlt2 : k < 64
        · obtain ⟨x, hx⟩ : ∃ x, l[k]? = some x := ⟨_, List.getElem?_eq_getElem (by rw [hl]; exact hlt2)⟩
          obtain ⟨y, hy⟩ : ∃ y, (encL r)[k]? = some y := ⟨_, List.getElem?_eq_getElem (by rw [encL_len]; exact hlt2)⟩
          obtain ⟨p, hp, hpx⟩ := hkr.bytes k x hx
          obtain ⟨p', hp', hqy⟩ := hcr k y hy
          cases hp
          cases hp'
          rw [Addr.add_mid] at hpx hqy
          rw [Nat.zero_add] at hqy
          have i1 : (k : Int) < 64 := by omega
          have i2 : (0 : Int) ≤ (k : Int) := by omega
          have i3 : (k : Int).toNat = k := Int.toNat_natCast k
          have HX := Lib.hid hx
          have HY := Lib.hid hy
          clear hx hy
          by_cases hxy : x = y
          · subst hxy
            clear hbr hkr hcr hk7 hb7 hc7
            go_wp2
            refine wp_region_still_tail 8 (by kernel_rfl) (by kernel_rfl) ?_
            simp only [List.take_succ_cons, List.take_zero, List.drop_succ_cons, List.drop_zero]
            repeat still_step
            try refine wpStill_nil ?_
            change wpList _ _ _ _ _ wr.drew
            go_wp2
            go_roundw
            case rel => exact ⟨k + 1, by go_num, by omega, fun j hj => by
              by_cases hjk : j = k
              · subst hjk; rw [HX.out, HY.out]
              · exact heq.out j (by omega), hbl.drew⟩
            case measure => simp [intOf]; omega
          · have hne : ((x : Int) == (y : Int)) = false := by simp; omega
            have HD : Hid (decL l = none) := by
              show _ = _
              cases hd : decL l with
              | none => rfl
              | some t =>
                obtain ⟨e1, e2, e3, e4⟩ := decL_val hd
                have e5 : t = r := e1.symm.trans HR.out
                subst e5
                have := HX.out
                rw [e4, HY.out] at this
                exact absurd (Option.some.inj this).symm hxy
            clear hk7 hb7 hc7
            go_wp2
            refine wp_region_still_tail 8 (by kernel_rfl) (by kernel_rfl) ?_
            simp only [List.take_succ_cons, List.take_zero, List.drop_succ_cons, List.drop_zero]
            repeat still_step
            try refine wpStill_nil ?_
            change wpList _ _ _ _ _ wr.drew
            have hkd := hkr.below ((Below.refl _ wr).drew)
            clear hkr
            generalize wr.drew = WD at hkd ⊢
            obtain ⟨z0, z1, z2, f0, f1, f2⟩ := blk3 (hkd).out
            have HK := Lib.hid hkd
            go_wp2_with fail
            generalize hWF : World.setCell (World.setCell (World.setCell _ _ _) _ _) _ _ = WF
            try simp only [Exit.inBlock, Exit.then]
            refine refDec_end (x := 0) (y := 0) (z := 0) (i := 0) (c := 70) rfl rfl rfl rfl ?_ ?_ (by rw [← HA.out, HD.out]; rfl)
            · rw [← hWF]; exact blk_store (blk_store (blk_store HK.out.out 0 _) 1 _) 2 _
            · rw [← hWF]; exact ((HK.out.low.setCell (Nat.le_refl _) _).setCell (Nat.le_refl _) _).setCell (Nat.le_refl _) _
        · obtain rfl : k = 64 := by omega
          have hle : l = encL r := by
            apply List.ext_getElem?
            intro j
            by_cases hj : j < 64
            · exact heq.out j hj
            · rw [List.getElem?_eq_none (by omega), List.getElem?_eq_none (by rw [encL_len]; omega)]
          have HD : Hid (decL l = some r) := by
            show _ = _
            rw [hle]; exact decL_enc HM.out
          obtain ⟨y0, y1, y2, g0, g1, g2⟩ := blk3 hbr
          obtain ⟨z0, z1, z2, f0, f1, f2⟩ := blk3 hkr.out
          have HK := Lib.hid hkr
          clear hkr hbr hcr hk7 hb7 hc7
          go_wp2_with fail
          generalize hWF : World.setCell (World.setCell (World.setCell _ _ _) _ _) _ _ = WF
          refine refDec_end (x := (r.life : Int)) (y := (r.round : Int)) (z := (r.tag : Int)) (i := (r.seq : Int)) (c := 0) rfl rfl rfl rfl ?_ ?_ (by rw [← HA.out, HD.out]; rfl)
          · rw [← hWF]; exact blk_store (blk_store (blk_store HK.out.out 0 _) 1 _) 2 _
          · rw [← hWF]; exact ((HK.out.low.setCell (Nat.le_refl _) _).setCell (Nat.le_refl _) _).setCell (Nat.le_refl _) _
    · have HD : Hid (decL l = none) := by
        show _ = _
        cases hd : decL l with
        | none => rfl
        | some t =>
          obtain ⟨e1, e2, e3, e4⟩ := decL_val hd
          have e5 : t = r := e1.symm.trans HR.out
          subst e5
          obtain ⟨h1, h2, h3, h4, h5, h6⟩ := e3
          exact absurd ⟨⟨by omega, by omega, by omega, by omega, by omega, by omega⟩, by omega, by omega⟩ hok
      have HE := Lib.hid (fun w => refEncode_no (r.life : Int) r.round r.tag r.seq hok w)
      unfold recV at HE
      clear hok
      go_wp2_with fail
      refine (HE.out _).mono ?_
      rintro e w7 ⟨rfl, hB7⟩
      have hk7 := hk6.below hB7
      clear hk6 hb6 hB7 y0 y1 y2
      obtain ⟨z0, z1, z2, f0, f1, f2⟩ := blk3 (hk7).out
      have HK := Lib.hid hk7
      go_wp2_with fail
      generalize hWF : World.setCell (World.setCell (World.setCell _ _ _) _ _) _ _ = WF
      try simp only [Exit.inBlock, Exit.then]
      refine refDec_end (x := 0) (y := 0) (z := 0) (i := 0) (c := 70) rfl rfl rfl rfl ?_ ?_ (by rw [← HA.out, HD.out]; rfl)
      · rw [← hWF]; exact blk_store (blk_store (blk_store HK.out.out 0 _) 1 _) 2 _
      · rw [← hWF]; exact ((HK.out.low.setCell (Nat.le_refl _) _).setCell (Nat.le_refl _) _).setCell (Nat.le_refl _) _
  · have HD : Hid (decL l = none) := by
      show _ = _
      cases hd : decL l with
      | none => rfl
      | some t => have := (decL_val hd).2.1; rw [hc4] at this; exact absurd (Option.some.inj this) h0
    have hne : ((c4 : Int) != 0) = true := by simp; omega
    clear hk4 h0
    go_upto_region 4 with fail
    (try rw [hW5])
    clear hW5
    obtain ⟨z0, z1, z2, f0, f1, f2⟩ := blk3 (hk5).out
    have HK := Lib.hid hk5
    go_wp2_with fail
    generalize hWF : World.setCell (World.setCell (World.setCell _ _ _) _ _) _ _ = WF
    try simp only [Exit.inBlock, Exit.then]
    refine refDec_end (x := 0) (y := 0) (z := 0) (i := 0) (c := 70) rfl rfl rfl rfl ?_ ?_ (by rw [← HA.out, HD.out]; rfl)
    · rw [← hWF]; exact blk_store (blk_store (blk_store HK.out.out 0 _) 1 _) 2 _
    · rw [← hWF]; exact ((HK.out.low.setCell (Nat.le_refl _) _).setCell (Nat.le_refl _) _).setCell (Nat.le_refl _) _
end Go.Proofs.YtbjlnlgknegbnaaGreatDoor
namespace Go.Proofs.YtbjlnlgknegbnaaGreatDoor
set_option linter.unusedVariables false
set_option linter.unusedSimpArgs false
open Go.RowKit

def fuZ (d : Dk) : Int := if d.fused then (d.fuse : Int) else -1
def rkC (gb n : Nat) (d : Dk) : List Value := [.slice (some ⟨gb, 0, none⟩) 256 n, .bool d.off, .int .i64 (fuZ d), .int .i64 (d.writes : Nat)]
structure Rk (W : World) (rb o gb n : Nat) (d : Dk) : Prop where
  box : ∃ cs t, W.heap[rb]? = some (.cells cs t (0, 0)) ∧ ∀ j x, (rkC gb n d)[j]? = some x → cs[o + j]? = some x
  bytes : ∃ rest, W.heap[gb]? = some (.cells (bC d.bs ++ rest).toArray 5 (0, 0))
  len : d.bs.length = 256
  ne : rb ≠ gb
/-- All is as it was, but the bytes, and four cells of the block. -/
structure Chg (W X : World) (rb o gb : Nat) : Prop where
  os : X.os = W.os
  tape : X.tape = W.tape
  output : X.output = W.output
  size : W.heap.size ≤ X.heap.size
  other : ∀ k, k < W.heap.size → k ≠ rb → k ≠ gb → X.heap[k]? = W.heap[k]?
  box : ∀ cs t, W.heap[rb]? = some (.cells cs t (0, 0)) → ∃ cs', X.heap[rb]? = some (.cells cs' t (0, 0)) ∧ cs'.size = cs.size ∧ ∀ j, j < o ∨ o + 4 ≤ j → cs'[j]? = cs[j]?
theorem Chg.refl (W : World) (rb o gb : Nat) : Chg W W rb o gb := ⟨rfl, rfl, rfl, Nat.le_refl _, fun _ _ _ _ => rfl, fun cs t h => ⟨cs, h, rfl, fun _ _ => rfl⟩⟩
theorem Chg.trans {W X Y : World} {rb o gb : Nat} (h : Chg W X rb o gb) (k : Chg X Y rb o gb) : Chg W Y rb o gb := by
  refine ⟨k.os.trans h.os, k.tape.trans h.tape, k.output.trans h.output, Nat.le_trans h.size k.size, fun j hj h1 h2 => (k.other j (by have := h.size; omega) h1 h2).trans (h.other j hj h1 h2), fun cs t hc => ?_⟩
  obtain ⟨c1, a1, a2, a3⟩ := h.box cs t hc
  obtain ⟨c2, b1, b2, b3⟩ := k.box c1 t a1
  exact ⟨c2, b1, b2.trans a2, fun j hj => (b3 j hj).trans (a3 j hj)⟩
theorem Chg.ofBelow {W X : World} (h : Below W.heap.size W X) (rb o gb : Nat) : Chg W X rb o gb :=
  ⟨h.os, h.tape, h.output, h.size, fun k hk _ _ => h.block k hk, fun cs t hc => ⟨cs, blk_below' h hc, rfl, fun _ _ => rfl⟩⟩
theorem Chg.below {W X Y : World} {rb o gb : Nat} (h : Chg W X rb o gb) (hb : Below X.heap.size X Y) : Chg W Y rb o gb := h.trans (.ofBelow hb rb o gb)
theorem Chg.blk {W X : World} {rb o gb k : Nat} {x : Obj} (h : Chg W X rb o gb) (hk : W.heap[k]? = some x) (h1 : k ≠ rb) (h2 : k ≠ gb) : X.heap[k]? = some x := (h.other k (blk_lt hk) h1 h2).trans hk
theorem Chg.low {W X : World} {rb o gb B : Nat} (h : Chg W X rb o gb) (h1 : B ≤ rb) (h2 : B ≤ gb) (hB : B ≤ W.heap.size) : Below B W X :=
  ⟨h.os, h.tape, h.output, by have := h.size; omega, fun k hk => h.other k (by omega) (by omega) (by omega)⟩
theorem Rk.lt {W : World} {rb o gb n : Nat} {d : Dk} (h : Rk W rb o gb n d) : rb < W.heap.size ∧ gb < W.heap.size := by
  obtain ⟨⟨cs, t, h1, _⟩, ⟨r, h2⟩, _, _⟩ := h
  exact ⟨blk_lt h1, blk_lt h2⟩
theorem Rk.below {W X : World} {rb o gb n : Nat} {d : Dk} (h : Rk W rb o gb n d) (hb : Below W.heap.size W X) : Rk X rb o gb n d := by
  obtain ⟨⟨cs, t, h1, h3⟩, ⟨r, h2⟩, h4, h5⟩ := h
  exact ⟨⟨cs, t, blk_below' hb h1, h3⟩, ⟨r, blk_below' hb h2⟩, h4, h5⟩
theorem Rk.drew {W : World} {rb o gb n : Nat} {d : Dk} (h : Rk W rb o gb n d) : Rk W.drew rb o gb n d := h.below ((Below.refl _ _).drew)
theorem Rk.cells {W : World} {rb o gb n : Nat} {d : Dk} (h : Rk W rb o gb n d) :
    W.cell? ⟨rb, o, none⟩ = some (.slice (some ⟨gb, 0, none⟩) 256 n) ∧ W.cell? ⟨rb, o + 1, none⟩ = some (.bool d.off) ∧ W.cell? ⟨rb, o + 2, none⟩ = some (.int .i64 (fuZ d)) ∧ W.cell? ⟨rb, o + 3, none⟩ = some (.int .i64 (d.writes : Nat)) := by
  obtain ⟨⟨cs, t, h1, h3⟩, _, _, _⟩ := h
  exact ⟨by rw [blk_cell h1]; exact h3 0 _ rfl, by rw [blk_cell h1]; exact h3 1 _ rfl, by rw [blk_cell h1]; exact h3 2 _ rfl, by rw [blk_cell h1]; exact h3 3 _ rfl⟩
theorem Rk.free {W : World} {rb o gb n : Nat} {d : Dk} (h : Rk W rb o gb n d) :
    W.frozen? ⟨rb, o, none⟩ = false ∧ W.frozen? ⟨rb, o + 1, none⟩ = false ∧ W.frozen? ⟨rb, o + 2, none⟩ = false ∧ W.frozen? ⟨rb, o + 3, none⟩ = false := by
  obtain ⟨⟨cs, t, h1, h3⟩, _, _, _⟩ := h
  exact ⟨blk_free h1 _, blk_free h1 _, blk_free h1 _, blk_free h1 _⟩
theorem Rk.cell {W : World} {rb o gb n : Nat} {d : Dk} (h : Rk W rb o gb n d) (j x : Nat) (hj : d.bs[j]? = some x) : W.cell? ⟨gb, j, none⟩ = some (.int .u8 (x : Int)) ∧ W.frozen? ⟨gb, j, none⟩ = false := by
  obtain ⟨_, ⟨r, h2⟩, _, _⟩ := h
  refine ⟨?_, blk_free h2 _⟩
  rw [blk_cell h2, List.getElem?_toArray, List.getElem?_append_left (by rw [bC_len]; exact (List.getElem?_eq_some_iff.1 hj).1), bC_get, hj]; rfl
theorem set_get (cs : Array Value) (i j : Nat) (v : Value) : (cs.setIfInBounds i v)[j]? = if i = j then (if i < cs.size then some v else none) else cs[j]? := by
  rw [Array.getElem?_setIfInBounds]
/-- One of the four cells is written. -/
theorem Rk.set {W : World} {rb o gb n : Nat} {d d' : Dk} (h : Rk W rb o gb n d) (i : Nat) (v : Value) (hi : i < 4) (hd : rkC gb n d' = (rkC gb n d).set i v) (hb : d'.bs = d.bs) : Rk (W.setCell ⟨rb, o + i, none⟩ v) rb o gb n d' := by
  obtain ⟨⟨cs, t, h1, h3⟩, ⟨r, h2⟩, h4, h5⟩ := h
  refine ⟨⟨cs.setIfInBounds (o + i) v, t, blk_store h1 _ _, fun j x hx => ?_⟩, ⟨r, ?_⟩, by rw [hb]; exact h4, h5⟩
  · rw [hd] at hx
    have hl := (List.getElem?_eq_some_iff.1 hx).1
    rw [List.getElem?_set] at hx
    rw [set_get]
    by_cases c : i = j
    · subst c
      have hs : o + i < cs.size := by
        obtain ⟨y, hy⟩ : ∃ y, (rkC gb n d)[i]? = some y := ⟨_, List.getElem?_eq_getElem (by show i < 4; exact hi)⟩
        exact (Array.getElem?_eq_some_iff.1 (h3 i y hy)).1
      rw [if_pos rfl, if_pos (by show i < 4; exact hi)] at hx
      rw [if_pos rfl, if_pos hs]; exact hx
    · rw [if_neg c] at hx
      rw [if_neg (by omega)]
      exact h3 j x hx
  · rw [hb]; exact blk_set h2 ⟨rb, o + i, none⟩ v (fun e => h5 e.symm)
theorem Chg.set {W X : World} {rb o gb : Nat} (h : Chg W X rb o gb) (i : Nat) (v : Value) (hi : i < 4) (hrb : rb < W.heap.size) : Chg W (X.setCell ⟨rb, o + i, none⟩ v) rb o gb := by
  refine h.trans ⟨rfl, rfl, rfl, by simp, fun k hk h1 h2 => Below.heap_setCell X ⟨rb, o + i, none⟩ v k (fun e => h1 e), fun cs t hc => ⟨_, blk_store hc _ _, by simp, fun j hj => ?_⟩⟩
  rw [set_get, if_neg (by omega)]
/-- One byte is written. -/
theorem Rk.put {W : World} {rb o gb n : Nat} {d : Dk} (h : Rk W rb o gb n d) (j x : Nat) (hj : j < 256) : Rk (W.setCell ⟨gb, j, none⟩ (.int .u8 (x : Int))) rb o gb n { d with bs := d.bs.set j x } := by
  obtain ⟨⟨cs, t, h1, h3⟩, ⟨r, h2⟩, h4, h5⟩ := h
  refine ⟨⟨cs, t, blk_set h1 ⟨gb, j, none⟩ _ h5, h3⟩, ⟨r, ?_⟩, by simp [h4], h5⟩
  rw [blk_store h2 j _, List.setIfInBounds_toArray, List.set_append_left _ _ (by rw [bC_len, h4]; exact hj), bC_set]
theorem Chg.put {W X : World} {rb o gb : Nat} (h : Chg W X rb o gb) (hne : rb ≠ gb) (j : Nat) (v : Value) : Chg W (X.setCell ⟨gb, j, none⟩ v) rb o gb :=
  h.trans ⟨rfl, rfl, rfl, by simp, fun k hk h1 h2 => Below.heap_setCell X ⟨gb, j, none⟩ v k (fun e => h2 e), fun cs t hc => ⟨cs, blk_set hc _ _ hne, rfl, fun _ _ => rfl⟩⟩
theorem Chg.drew {W X : World} {rb o gb : Nat} (h : Chg W X rb o gb) : Chg W X.drew rb o gb := h.below ((Below.refl _ _).drew)
theorem Rk.off {W : World} {rb o gb n : Nat} {d : Dk} (h : Rk W rb o gb n d) (v : Bool) : Rk (W.setCell ⟨rb, o + 1, none⟩ (.bool v)) rb o gb n { d with off := v } := h.set 1 _ (by decide) rfl rfl
theorem Rk.fuse {W : World} {rb o gb n : Nat} {d d' : Dk} (h : Rk W rb o gb n d) (z : Int) (hz : fuZ d' = z) (he : d'.off = d.off ∧ d'.bs = d.bs ∧ d'.writes = d.writes) : Rk (W.setCell ⟨rb, o + 2, none⟩ (.int .i64 z)) rb o gb n d' :=
  h.set 2 _ (by decide) (by unfold rkC; rw [hz, he.1, he.2.2]; rfl) he.2.1
theorem Rk.writes {W : World} {rb o gb n : Nat} {d : Dk} (h : Rk W rb o gb n d) (v : Nat) : Rk (W.setCell ⟨rb, o + 3, none⟩ (.int .i64 (v : Int))) rb o gb n { d with writes := v } := h.set 3 _ (by decide) rfl rfl
theorem putS_at (bs l : List Nat) (s : Nat) (hl : l.length = 32) : putS bs s l = putAt bs (32 * s) l := by unfold putS putAt; rw [hl]
end Go.Proofs.YtbjlnlgknegbnaaGreatDoor
namespace Go.Proofs.YtbjlnlgknegbnaaGreatDoor
set_option linter.unusedVariables false
set_option linter.unusedSimpArgs false
open Go.RowKit

def Bytes2 (W : World) (rb gb : Nat) (v : Value) (l : List Nat) : Prop :=
  ∃ a c, v = .slice a l.length c ∧ ∀ j x : Nat, l[j]? = some x → ∃ p, a = some p ∧ p.block ≠ rb ∧ p.block ≠ gb ∧ W.cell? (p.add j) = some (.int .u8 (x : Int))
theorem cell_heap {W X : World} {q : Addr} (h : X.heap[q.block]? = W.heap[q.block]?) : X.cell? q = W.cell? q := by unfold World.cell?; rw [h]
theorem add_block (p : Addr) (j : Nat) : (p.add j).block = p.block := by unfold Addr.add; split <;> rfl
theorem Bytes2.chg {W X : World} {rb o gb : Nat} {v : Value} {l : List Nat} (h : Bytes2 W rb gb v l) (hg : Chg W X rb o gb) : Bytes2 X rb gb v l := by
  obtain ⟨a, c, rfl, hc⟩ := h
  refine ⟨a, c, rfl, fun j x hx => ?_⟩
  obtain ⟨p, rfl, h1, h2, h3⟩ := hc j x hx
  exact ⟨p, rfl, h1, h2, (cell_heap (hg.other _ (cell_lt h3) (by rw [add_block]; exact h1) (by rw [add_block]; exact h2))).trans h3⟩
set_option maxRecDepth 100000 in
set_option maxHeartbeats 1000000 in
theorem refWrite_any (rb o gb n : Nat) (d : Dk) (s : Int) (v : Value) (l : List Nat) (w : World) (h : Rk w rb o gb n d) (hv : Bytes2 w rb gb v l) (hl : l.length ≤ 9223372036854775800) (hw : d.writes ≤ 4611686018427387904) (hfu : d.fuse ≤ 9223372036854775807) :
    Calls Tryz.prog 54 #[.pointer (some ⟨rb, o, none⟩), .int .i64 s, v] w fun e w' => e = .returned (.int .i64 (wrV d s l).2) ∧ Rk w' rb o gb n (wrV d s l).1 ∧ Chg w w' rb o gb := by
  obtain ⟨a, c, rfl, hc⟩ := hv
  obtain ⟨d', er, hwr⟩ : ∃ d' er, wrV d s l = (d', er) := ⟨_, _, rfl⟩
  rw [hwr]
  show Calls _ _ _ _ fun e w' => e = .returned (.int .i64 er) ∧ Rk w' rb o gb n d' ∧ Chg w w' rb o gb
  unfold wrV at hwr
  have HWR := Lib.hid hwr
  have HC := Lib.hid hc
  clear hwr hc
  have hh := Lib.hid h
  obtain ⟨c0, c1, c2, c3⟩ := h.cells
  obtain ⟨z0, z1, z2, z3⟩ := h.free
  clear h
  go_enter Tryz.func54, Tryz.ntmps54
  cases hoff : d.off with
  | true =>
    rw [hoff] at c1
    have hm : mayV d s = 100 := by unfold mayV; rw [hoff]; rfl
    rw [if_neg (by rw [hm]; decide), hm] at HWR
    clear hm
    have hwr := HWR.out
    injection hwr with e1 e2
    subst e1 e2
    clear HWR
    go_wp2_with fail
    go_ret
    exact ⟨rfl, hh.out, Chg.refl _ _ _ _⟩
  | false =>
    rw [hoff] at c1
    by_cases s0 : s < 0
    · have hm : mayV d s = 101 := by unfold mayV; rw [hoff]; simp <;> omega
      rw [if_neg (by rw [hm]; decide), hm] at HWR
      clear hm
      have hwr := HWR.out
      injection hwr with e1 e2
      subst e1 e2
      clear HWR
      go_wp2_with fail
      go_ret
      exact ⟨rfl, hh.out, Chg.refl _ _ _ _⟩
    by_cases s1 : 8 ≤ s
    · have hm : mayV d s = 101 := by unfold mayV; rw [hoff]; simp <;> omega
      rw [if_neg (by rw [hm]; decide), hm] at HWR
      clear hm
      have hwr := HWR.out
      injection hwr with e1 e2
      subst e1 e2
      clear HWR
      go_wp2_with fail
      go_ret
      exact ⟨rfl, hh.out, Chg.refl _ _ _ _⟩
    have hm : mayV d s = 0 := by unfold mayV; rw [hoff]; simp <;> omega
    rw [if_pos hm] at HWR
    clear hm
    have s3 : s < 8 := by omega
    have s4 : 0 ≤ s := by omega
    by_cases hl32 : l.length = 32
    · rw [if_pos hl32] at HWR
      have HL := Lib.hid hl32
      rw [hl32]
      clear hl32 hl
      obtain ⟨k, rfl⟩ : ∃ k : Nat, s = k := ⟨s.toNat, by omega⟩
      rw [Int.toNat_natCast] at HWR
      have h0 : putAt d.bs (32 * k) (l.take 0) = d.bs := by unfold putAt; simp
      have HB : Hid (∀ wr, Chg w wr rb o gb → ∀ j x : Nat, l[j]? = some x → ∃ p, a = some p ∧ wr.cell? (p.add j) = some (.int .u8 (x : Int))) := by
        intro wr hG j x hx
        obtain ⟨p, rfl, h1, h2, h3⟩ := HC.out j x hx
        exact ⟨p, rfl, (cell_heap (hG.other _ (cell_lt h3) (by rw [add_block]; exact h1) (by rw [add_block]; exact h2))).trans h3⟩
      clear HC
      obtain ⟨z, hz⟩ : ∃ z, fuZ d = z := ⟨_, rfl⟩
      rw [hz] at c2
      by_cases hz0 : z = 0
      · subst hz0
        have hfd : d.fused = true ∧ d.fuse = 0 := by
          unfold fuZ at hz
          cases hd : d.fused with
          | true => rw [hd] at hz; exact ⟨rfl, by simpa using hz⟩
          | false => rw [hd] at hz; simp at hz
        rw [if_pos hfd.1, if_pos hfd.2] at HWR
        have hwr := HWR.out
        injection hwr with e1 e2
        subst e1 e2
        clear HWR hfd
        go_wp2_with fail
        go_ret
        exact ⟨rfl, (hh.out.off true).fuse (-1) rfl ⟨rfl, rfl, rfl⟩, ((Chg.refl _ _ _ _).set 1 _ (by decide) hh.out.lt.1).set 2 _ (by decide) hh.out.lt.1⟩
      have HZ := Lib.hid hz
      clear hz
      go_wp2_with fail
      go_loopw [7] (fun i wr => ∃ j : Nat, i = .int .i64 j ∧ j ≤ 32 ∧ Hid (Rk wr rb o gb n { d with bs := putAt d.bs (32 * k) (l.take j) }) ∧ Hid (Chg w wr rb o gb)) (fun i _ => 32 - (intOf i).toNat)
      case atStart => exact ⟨0, rfl, by omega, by rw [h0]; exact hh.out, Chg.refl _ _ _ _⟩
      case round =>
        obtain ⟨j, rfl, hj, hR, hG⟩ := hrel
        clear c0 c1 c2 c3 z0 z1 z2 z3
        obtain ⟨c0, c1, c2, c3⟩ := hR.out.cells
        obtain ⟨z0, z1, z2, z3⟩ := hR.out.free
        have c2' : wr.cell? ⟨rb, o + 2, none⟩ = some (.int .i64 z) := by rw [c2, ← HZ.out]; rfl
        clear c2
        by_cases hlt : j < 32
        · obtain ⟨x, hx⟩ : ∃ x, l[j]? = some x := ⟨_, List.getElem?_eq_getElem (by rw [HL.out]; exact hlt)⟩
          obtain ⟨p, rfl, hpx⟩ := HB.out wr hG.out j x hx
          have hst := Lib.hid (putAt_step d.bs l (32 * k) j x (by rw [hh.out.len, HL.out]; omega) hx)
          have hlen : (putAt d.bs (32 * k) (l.take j)).length = 256 := (putAt_len (by rw [List.length_take, hh.out.len]; omega)).trans hh.out.len
          obtain ⟨y, hy⟩ : ∃ y, (putAt d.bs (32 * k) (l.take j))[32 * k + j]? = some y := ⟨_, List.getElem?_eq_getElem (by rw [hlen]; omega)⟩
          obtain ⟨b0, f0⟩ := hR.out.cell (32 * k + j) y hy
          have i1 : (j : Int) < 32 := by omega
          have i2 : (0 : Int) ≤ (j : Int) := by omega
          have i3 : (j : Int).toNat = j := Int.toNat_natCast j
          have i4 : (32 : Int) * (k : Int) + (j : Int) < 256 := by omega
          have i5 : (0 : Int) ≤ 32 * (k : Int) + (j : Int) := by omega
          have i6 : (32 * (k : Int) + (j : Int)).toNat = 32 * k + j := by omega
          clear hx hy hlen h0 HWR
          go_wp2
          go_region
          go_wp2
          go_roundw
          case rel => exact ⟨j + 1, by go_num, by omega, by have := (hR.out.put (32 * k + j) x (by omega)).drew; simp only [hst.out] at this; exact this, (hG.out.put hh.out.ne _ _).drew⟩
          case measure => simp [intOf]; omega
        · obtain rfl : j = 32 := by omega
          have HR : Hid (Rk wr rb o gb n { d with bs := putS d.bs k l }) := by
            show Rk _ _ _ _ _ _
            rw [putS_at _ _ _ HL.out]
            have := hR.out
            rwa [List.take_of_length_le (by rw [HL.out]; exact Nat.le_refl _)] at this
          have hwn : (d.writes : Int) ≤ 4611686018427387904 := by omega
          clear hR h0
          cases hfd : d.fused with
          | true =>
            have hzf : z = (d.fuse : Int) := by rw [← HZ.out]; unfold fuZ; rw [hfd]; rfl
            have hf0 : ¬ d.fuse = 0 := by omega
            rw [if_pos hfd, if_neg hf0] at HWR
            have hwr := HWR.out
            injection hwr with e1 e2
            subst e1 e2
            clear HWR HZ
            subst hzf
            have q1 : (0 : Int) < (d.fuse : Int) := by omega
            have q2 : (d.fuse : Int) - 1 = ((d.fuse - 1 : Nat) : Int) := by omega
            clear hf0
            go_wp2_with fail
            go_ret
            have HF := (HR.out.fuse (d' := { d with fuse := d.fuse - 1, bs := putS d.bs k l }) ((d.fuse - 1 : Nat) : Int) (by unfold fuZ; simp only [hfd, if_true]) ⟨rfl, rfl, rfl⟩).writes (d.writes + 1)
            simp only [hoff, hfd] at HF
            exact ⟨rfl, HF, (hG.out.set 2 _ (by decide) hh.out.lt.1).set 3 _ (by decide) hh.out.lt.1⟩
          | false =>
            have hzf : z = -1 := by rw [← HZ.out]; unfold fuZ; rw [hfd]; rfl
            rw [if_neg (by rw [hfd]; decide)] at HWR
            have hwr := HWR.out
            injection hwr with e1 e2
            subst e1 e2
            clear HWR HZ
            subst hzf
            go_wp2_with fail
            go_ret
            have HF := HR.out.writes (d.writes + 1)
            simp only [hoff, hfd] at HF
            exact ⟨rfl, HF, hG.out.set 3 _ (by decide) hh.out.lt.1⟩
    · rw [if_neg hl32] at HWR
      have h5 : ¬ (l.length : Int) = 32 := by omega
      clear hl32
      have hwr := HWR.out
      injection hwr with e1 e2
      subst e1 e2
      clear HWR
      go_wp2_with fail
      go_ret
      exact ⟨rfl, hh.out, Chg.refl _ _ _ _⟩
end Go.Proofs.YtbjlnlgknegbnaaGreatDoor
namespace Go.Proofs.YtbjlnlgknegbnaaGreatDoor
set_option linter.unusedVariables false
set_option linter.unusedSimpArgs false
open Go.RowKit

theorem slotB_at {bs : List Nat} (hb : bs.length = 256) {k j x : Nat} (hk : k < 2) (h : (slotB bs k)[j]? = some x) : bs[64 * k + j]? = some x := by
  unfold slotB at h
  rw [List.getElem?_append, rowS_len hb (by omega)] at h
  by_cases c : j < 32
  · rw [if_pos c] at h
    unfold rowS at h
    rw [List.getElem?_take_of_lt c, List.getElem?_drop] at h
    rw [← h]; congr 1; omega
  · rw [if_neg c] at h
    have hj : j - 32 < 32 := by have := (List.getElem?_eq_some_iff.1 h).1; rwa [rowS_len hb (by omega)] at this
    unfold rowS at h
    rw [List.getElem?_take_of_lt hj, List.getElem?_drop] at h
    rw [← h]; congr 1; omega
theorem slotB_sz {bs : List Nat} (hb : bs.length = 256) {k : Nat} (hk : k < 2) : (slotB bs k).length = 64 := by
  unfold slotB; rw [List.length_append, rowS_len hb (by omega), rowS_len hb (by omega)]
theorem Rk.slot {W : World} {rb o gb n : Nat} {d : Dk} (h : Rk W rb o gb n d) {k : Nat} (hk : k < 2) : CellsAt W ⟨gb, 64 * k, none⟩ (slotB d.bs k) := by
  intro j x hx
  refine ⟨_, rfl, ?_⟩
  rw [Addr.add_mid]
  exact (h.cell _ _ (slotB_at h.len hk hx)).1
def fndL (bs : List Nat) : Nat → Rc × Int
  | 0 => (Rc.zero, -1)
  | k + 1 => pick (fndL bs k) k (decL (slotB bs k))
theorem fndL_two (bs : List Nat) : fndL bs 2 = bestL bs := rfl
def fndA (b : Rc × Int) : Value := .tuple #[recV b.1.life b.1.round b.1.tag, .int .i64 (b.1.seq : Int), .int .i64 b.2]
theorem found_end {w W : World} {A : Value} {a : Act} {x y z i c : Int} (hd : a.defers = []) (h2 : a.tmps[2]?.getD undef = .pointer (some ⟨w.heap.size, 0, none⟩)) (h3 : a.tmps[3]?.getD undef = .int .i64 i) (h4 : a.tmps[4]?.getD undef = .int .i64 c)
    (hb : W.heap[w.heap.size]? = some (.cells #[.int .i64 x, .int .i64 y, .int .i64 z] 35 (0, 0))) (hl : Below w.heap.size w W)
    (he : .tuple #[.agg #[.int .i64 x, .int .i64 y, .int .i64 z], .int .i64 i, .int .i64 c] = A) :
    bodyPost Tryz.prog Tryz.f51 (fun e w' => e = .returned A ∧ Below w.heap.size w w') Exit.ret a W := by
  obtain ⟨y0, y1, y2, _⟩ := blk3 hb
  refine bodyPost_ret (v := .tuple #[.agg #[.int .i64 x, .int .i64 y, .int .i64 z], .int .i64 i, .int .i64 c]) ?_ hd ⟨by rw [he], hl⟩
  simp [results, Tryz.results51, go_sem, h2, h3, h4, y0, y1, y2]
set_option maxRecDepth 100000 in
set_option maxHeartbeats 2000000 in
theorem refFound_any (rb o gb n : Nat) (d : Dk) (w : World) (h : Rk w rb o gb n d) (hn : 256 ≤ n) (hlt : ∀ c ∈ d.bs, c < 256) :
    Calls Tryz.prog 51 #[.pointer (some ⟨rb, o, none⟩)] w fun e w' => e = .returned (fndA (bestL d.bs)) ∧ Below w.heap.size w w' := by
  have hh := Lib.hid h
  have hk0 := box3 w (.int .i64 0) (.int .i64 0) (.int .i64 0) 35
  have hb0 := (Below.refl w.heap.size w).alloc (Nat.le_refl _) (.cells #[.int .i64 0, .int .i64 0, .int .i64 0] 35)
  clear h
  go_enter Tryz.func51, Tryz.ntmps51
  go_wp2_with fail
  obtain ⟨W2, hW2⟩ : ∃ W2, (w.alloc (.cells #[.int .i64 0, .int .i64 0, .int .i64 0] 35)).alloc (.cells #[.int .i64 0, .int .i64 0, .int .i64 0] 35) = W2 := ⟨_, rfl⟩
  have hB2 : Below w.heap.size w W2 := by rw [← hW2]; exact hb0.alloc hb0.size _
  have hx2 : W2.heap[w.heap.size]? = some (.cells #[.int .i64 0, .int .i64 0, .int .i64 0] 35 (0, 0)) := by rw [← hW2]; exact blk_old hk0 _
  have hy2 : W2.heap[w.heap.size + 1]? = some (.cells #[.int .i64 0, .int .i64 0, .int .i64 0] 35 (0, 0)) := by
    rw [← hW2]
    have := box3 (w.alloc (.cells #[.int .i64 0, .int .i64 0, .int .i64 0] 35)) (.int .i64 0) (.int .i64 0) (.int .i64 0) 35
    simpa using this
  rw [hW2]
  clear hW2 hk0 hb0
  go_loopw [6, 7, 8] (fun s q i wr => ∃ (k : Nat) (B : Rc × Int), s = .int .i64 (B.1.seq : Int) ∧ q = .int .i64 B.2 ∧ i = .int .i64 k ∧ k ≤ 2 ∧ Hid (fndL d.bs k = B) ∧ Below w.heap.size w wr ∧ wr.heap[w.heap.size]? = some (.cells #[.int .i64 0, .int .i64 0, .int .i64 0] 35 (0, 0)) ∧ wr.heap[w.heap.size + 1]? = some (.cells #[.int .i64 (B.1.life : Int), .int .i64 (B.1.round : Int), .int .i64 (B.1.tag : Int)] 35 (0, 0))) (fun _ _ i _ => 2 - (intOf i).toNat)
  case atStart => exact ⟨0, (Rc.zero, -1), rfl, rfl, rfl, by omega, rfl, hB2, hx2, hy2⟩
  case round =>
    obtain ⟨k, B, rfl, rfl, rfl, hk, hF, hB, hx, hy⟩ := hrel
    clear hB2 hx2 hy2
    have hR := hh.out.below hB
    obtain ⟨r, i⟩ := B
    dsimp only at hy ⊢
    by_cases hlt2 : k < 2
    · obtain ⟨c0, _, _, _⟩ := hR.cells
      have hS := hR.slot hlt2
      have HD := Lib.hid (fun cp => refDecode_any gb (64 * k) cp (slotB d.bs k) (slotB_sz hR.len hlt2) (slotB_lt hlt k) wr hS hR.lt.2)
      have i1 : (k : Int) < 2 := by omega
      have i2 : (0 : Int) ≤ (k : Int) := by omega
      have i3 : (k : Int).toNat = k := Int.toNat_natCast k
      have i4 : (0 : Int) ≤ 64 * (k : Int) := by omega
      have i5 : (64 * (k : Int)).toNat = 64 * k := by omega
      have i6 : 64 * (k : Int) + 64 ≤ (n : Int) := by omega
      have i7 : 64 * (k : Int) ≤ 64 * (k : Int) + 64 := by omega
      have i8 : (64 * (k : Int) + 64).toNat = 64 * k + 64 := by omega
      have hfl : fndL d.bs (k + 1) = pick (r, i) k (decL (slotB d.bs k)) := by show pick (fndL d.bs k) k _ = _; rw [hF.out]
      generalize decL (slotB d.bs k) = O at hfl HD
      have HF := Lib.hid hfl
      clear hS hfl hF
      obtain ⟨A, hA⟩ : ∃ A, decA O = A := ⟨_, rfl⟩
      rw [hA] at HD
      go_wp2_with fail
      refine (HD.out _).mono ?_
      rintro e w3 ⟨rfl, hB3⟩
      have hB4 := below_then hB hB3
      have hx3 := blk_below' hB3 hx
      have hy3 := blk_below' hB3 hy
      clear hB hx hy hB3 HD c0
      cases O with
      | none =>
        have hA : Value.tuple #[.agg #[.int .i64 0, .int .i64 0, .int .i64 0], .int .i64 0, .int .i64 70] = A := hA
        subst hA
        go_wp2_with fail
        go_roundw
        case rel => exact ⟨k + 1, (r, i), rfl, rfl, by go_num, by omega, HF.out, hB4.alloc hB4.size _, blk_old hx3 _, blk_old hy3 _⟩
        case measure => simp [intOf]; omega
      | some t =>
        have hA : Value.tuple #[.agg #[.int .i64 (t.life : Int), .int .i64 (t.round : Int), .int .i64 (t.tag : Int)], .int .i64 (t.seq : Int), .int .i64 0] = A := hA
        subst hA
        by_cases hq : r.seq < t.seq
        · have hq' : (r.seq : Int) < (t.seq : Int) := by omega
          have HQ := Lib.hid hq
          have hwx := blk_lt hy3
          have hne : ¬ w3.heap.size = w.heap.size + 1 := by omega
          have hne2 : ¬ w.heap.size + 1 = w3.heap.size := by omega
          have hz3 := box3 w3 (.int .i64 (t.life : Int)) (.int .i64 (t.round : Int)) (.int .i64 (t.tag : Int)) 35
          have hy4 := blk_old hy3 (.cells #[.int .i64 (t.life : Int), .int .i64 (t.round : Int), .int .i64 (t.tag : Int)] 35)
          have hx4 := blk_old hx3 (.cells #[.int .i64 (t.life : Int), .int .i64 (t.round : Int), .int .i64 (t.tag : Int)] 35)
          have hb4 := hB4.alloc hB4.size (.cells #[.int .i64 (t.life : Int), .int .i64 (t.round : Int), .int .i64 (t.tag : Int)] 35)
          clear hq hx3 hy3 hB4
          go_upto_region 7 with fail
          generalize World.alloc w3 _ = W4 at *
          obtain ⟨y0, y1, y2, g0, g1, g2⟩ := blk3 hy4
          obtain ⟨x0, x1, x2, f0, f1, f2⟩ := blk3 hz3
          have HX := Lib.hid hx4
          have HY := Lib.hid hy4
          clear hx4 hy4 hz3
          go_wp2_with fail
          go_roundw
          case rel => 
            refine ⟨k + 1, (t, (k : Int)), rfl, rfl, by go_num, by omega, ?_, ?_, ?_, ?_⟩
            · show _ = _
              rw [HF.out]; unfold pick; simp only; rw [if_pos HQ.out]
            · exact ((hb4.setCell (by simp) _).setCell (by simp) _).setCell (by simp) _
            · exact blk_set (blk_set (blk_set HX.out _ _ (by simp)) _ _ (by simp)) _ _ (by simp)
            · exact blk_store (blk_store (blk_store HY.out 0 _) 1 _) 2 _
          case measure => simp [intOf]; omega
        · have hq' : ¬ (r.seq : Int) < (t.seq : Int) := by omega
          have HQ := Lib.hid hq
          clear hq
          go_wp2_with fail
          go_roundw
          case rel => 
            refine ⟨k + 1, (r, i), rfl, rfl, by go_num, by omega, ?_, hB4.alloc hB4.size _, blk_old hx3 _, blk_old hy3 _⟩
            show _ = _
            rw [HF.out]; unfold pick; simp only; rw [if_neg HQ.out]
          case measure => simp [intOf]; omega
    · obtain rfl : k = 2 := by omega
      obtain ⟨y0, y1, y2, g0, g1, g2⟩ := blk3 hy
      obtain ⟨x0, x1, x2, f0, f1, f2⟩ := blk3 hx
      rw [fndL_two] at hF
      have HB := Lib.hid hB
      have HX := Lib.hid hx
      clear hB hx hy
      go_wp2_with fail
      generalize hWF : World.setCell (World.setCell (World.setCell _ _ _) _ _) _ _ = WF
      refine found_end (x := (r.life : Int)) (y := (r.round : Int)) (z := (r.tag : Int)) (i := (r.seq : Int)) (c := i) rfl rfl rfl rfl ?_ ?_ (by rw [hF.out]; rfl)
      · rw [← hWF]; exact blk_store (blk_store (blk_store HX.out 0 _) 1 _) 2 _
      · rw [← hWF]; exact ((HB.out.setCell (Nat.le_refl _) _).setCell (Nat.le_refl _) _).setCell (Nat.le_refl _) _
end Go.Proofs.YtbjlnlgknegbnaaGreatDoor
namespace Go.Proofs.YtbjlnlgknegbnaaGreatDoor
set_option linter.unusedVariables false
set_option linter.unusedSimpArgs false
open Go.RowKit

theorem part2 {W : World} {g rb gb : Nat} {L : List Nat} (h : CellsAt W ⟨g, 0, none⟩ L) (hL : L.length = 64) (k c : Nat) (hk : k < 2) (h1 : g ≠ rb) (h2 : g ≠ gb) : Bytes2 W rb gb (.slice (some ⟨g, k * 32, none⟩) 32 c) ((L.drop (k * 32)).take 32) := by
  refine ⟨some ⟨g, k * 32, none⟩, c, by rw [List.length_take, List.length_drop, hL]; congr 1; omega, fun j x hx => ⟨_, rfl, h1, h2, ?_⟩⟩
  have hj : j < 32 := by have := (List.getElem?_eq_some_iff.1 hx).1; rw [List.length_take] at this; omega
  rw [List.getElem?_take_of_lt hj, List.getElem?_drop] at hx
  obtain ⟨b, hb, hc⟩ := h _ x hx
  cases hb
  rw [Addr.add_mid] at hc ⊢
  rw [Nat.zero_add] at hc
  exact hc
set_option maxRecDepth 100000 in
set_option maxHeartbeats 2000000 in
theorem refSave_any (rb o gb n : Nat) (d : Dk) (x y z : Int) (w : World) (h : Rk w rb o gb n d) (hn : 256 ≤ n) (hlt : ∀ c ∈ d.bs, c < 256) (hw : d.writes ≤ 4611686018427387903) (hfu : d.fuse ≤ 9223372036854775807) :
    Calls Tryz.prog 30 #[.pointer (some ⟨rb, o, none⟩), recV x y z] w fun e w' => e = .returned (.int .i64 (saveW d x y z).2) ∧ Rk w' rb o gb n (saveW d x y z).1 ∧ Chg w w' rb o gb := by
  obtain ⟨D, hD⟩ : ∃ D, saveW d x y z = D := ⟨_, rfl⟩
  rw [hD]
  unfold saveW at hD
  have HD := Lib.hid hD
  clear hD
  have HM := Lib.hid (fun w => refMay_any x y z w)
  have hb0 : Below w.heap.size w (w.alloc (.cells #[.int .i64 x, .int .i64 y, .int .i64 z] 35)) := (Below.refl _ w).alloc (Nat.le_refl _) _
  have hr0 := box3 w (.int .i64 x) (.int .i64 y) (.int .i64 z) 35
  have hlt0 := Lib.hid h.lt
  have hd0 := h.below hb0
  unfold recV at HM ⊢
  have HSZ := Lib.hid (And.intro hw hfu)
  clear hw hfu h
  by_cases hm : mayR x y z
  · rw [if_pos hm] at HD
    rw [decide_eq_true hm] at HM
    have HMR := Lib.hid hm
    clear hm
    go_enter Tryz.func30, Tryz.ntmps30
    go_wp2_with fail
    refine (HM.out _).mono ?_
    rintro e w1 ⟨rfl, hB1⟩
    have hr1 := blk_below' hB1 hr0
    have hd1 := hd0.below hB1
    have hb1 := below_then hb0 hB1
    clear hr0 hd0 hb0 hB1 HM
    obtain ⟨c0, c1, c2, c3⟩ := hd1.cells
    cases ho : d.off with
    | true =>
      rw [ho] at c1 HD
      go_wp2_with fail
      go_ret
      have hD := HD.out
      subst hD
      exact ⟨rfl, hd1, Chg.ofBelow hb1 _ _ _⟩
    | false =>
      rw [ho] at c1 HD
      simp only [Bool.false_eq_true, if_false] at HD
      have HL := Lib.hid (refFound_any rb o gb n d w1 hd1 hn hlt)
      unfold fndA recV at HL
      obtain ⟨B, hB⟩ : ∃ B, bestL d.bs = B := ⟨_, rfl⟩
      rw [hB] at HL HD
      obtain ⟨r, at0⟩ := B
      dsimp only at HL HD
      have hsq := bestL_seq hB
      go_wp2_with fail
      refine HL.out.mono ?_
      rintro e w2 ⟨rfl, hB2⟩
      have hr2 := blk_below' hB2 hr1
      have hd2 := hd1.below hB2
      have hb2 := below_then hb1 hB2
      clear hr1 hd1 hb1 hB2 HL c0 c1 c2 c3
      have hr3 := blk_old hr2 (.cells #[.int .i64 (r.life : Int), .int .i64 (r.round : Int), .int .i64 (r.tag : Int)] 35)
      have hal : Below w2.heap.size w2 (w2.alloc (.cells #[.int .i64 (r.life : Int), .int .i64 (r.round : Int), .int .i64 (r.tag : Int)] 35)) := (Below.refl _ _).alloc (Nat.le_refl _) _
      have hd3 := hd2.below hal
      have hb3 := below_then hb2 hal
      go_upto_region 6 with fail
      generalize World.alloc w2 _ = W2 at *
      clear hr2 hd2 hb2 hal
      by_cases hq : 1099511627776 ≤ r.seq
      · rw [if_pos hq] at HD
        have he : (r.seq : Int) = 1099511627776 := by omega
        go_wp2_with fail
        go_ret
        have hD := HD.out
        subst hD
        exact ⟨rfl, hd3, Chg.ofBelow hb3 _ _ _⟩
      · rw [if_neg hq] at HD
        have he : ¬ (r.seq : Int) = 1099511627776 := by omega
        have he2 : (r.seq : Int) < 1099511627776 := by omega
        have hmay : (⟨x.toNat, y.toNat, z.toNat, r.seq + 1⟩ : Rc).may := by
          obtain ⟨m1, m2, m3, m4, m5, m6⟩ := HMR.out
          exact ⟨by show 1 ≤ x.toNat; omega, by show x.toNat ≤ _; omega, by show y.toNat ≤ _; omega, by show z.toNat ≤ _; omega, by show 1 ≤ r.seq + 1; omega, by show r.seq + 1 ≤ _; omega⟩
        have hE := fun w => refEncode_ok ⟨x.toNat, y.toNat, z.toNat, r.seq + 1⟩ hmay w
        have e1 : ((x.toNat : Nat) : Int) = x := Int.toNat_of_nonneg (by have := HMR.out.1; omega)
        have e2 : ((y.toNat : Nat) : Int) = y := Int.toNat_of_nonneg HMR.out.2.2.1
        have e3 : ((z.toNat : Nat) : Int) = z := Int.toNat_of_nonneg HMR.out.2.2.2.2.1
        dsimp only at hE
        rw [e1, e2, e3, show ((r.seq + 1 : Nat) : Int) = (r.seq : Int) + 1 from rfl] at hE
        have hL : encL ⟨x.toNat, y.toNat, z.toNat, r.seq + 1⟩ = nxL d.bs x y z := by unfold nxL; rw [hB]
        rw [hL] at hE
        have HE := Lib.hid hE
        unfold recV at HE
        have hll : (nxL d.bs x y z).length = 64 := encL_len _
        have HT := Lib.hid (show svT d x y z = svK d (if at0 = 0 then 1 else 0) (nxL d.bs x y z) 2 by unfold svT toL; rw [hB])
        rw [HT.out] at HD
        have HLL := Lib.hid hll
        generalize nxL d.bs x y z = L at *
        obtain ⟨z0, z1, z2, g0, g1, g2⟩ := blk3 hr3
        have hwr : IntKind.i64.wrap ((r.seq : Int) + 1) = (r.seq : Int) + 1 := by rw [IntKind.wrap_i64]; omega
        have hbe : ((r.seq : Int) == 1099511627776) = false := by simp; omega
        clear hq hL hll hE e1 e2 e3 hmay HT hsq hB he he2
        by_cases hat : at0 = 0
        · rw [if_pos hat] at HD
          subst hat
          go_wp2_with fail
          refine (HE.out _).mono ?_
          rintro e w3 ⟨v3, rfl, ⟨g, rfl, hg1, hg2⟩, hB3⟩
          have hd4 := hd3.below hB3
          have hG4 := Chg.ofBelow (below_then hb3 hB3) rb o gb
          have hc4 : CellsAt w3 ⟨g, 0, none⟩ L := cells_blk hg2
          have hgr : g ≠ rb := by have := hd3.lt.1; omega
          have hgg : g ≠ gb := by have := hd3.lt.2; omega
          have hgs : w.heap.size ≤ g := by have := hb3.size; omega
          have hS : svK d 1 L 1 = wrV d ((2 * 1 + 0 : Nat) : Int) ((L.drop (0 * 32)).take 32) := svK_next (k := 0) rfl
          have hW1 := refWrite_any rb o gb n d ((2 * 1 + 0 : Nat) : Int) (.slice (some ⟨g, 0 * 32, none⟩) 32 64) ((L.drop (0 * 32)).take 32) w3 hd4 (part2 hc4 HLL.out 0 64 (by decide) hgr hgg) (by rw [List.length_take]; omega) (by have := HSZ.out.1; omega) HSZ.out.2
          rw [← hS] at hW1
          have hz := svK_size d 1 L 1
          have hst := svK_stop (d := d) (q0 := 1) (l := L) (k := 0) (by decide)
          have hnx := svK_next (d := d) (q0 := 1) (l := L) (k := 1)
          obtain ⟨E1, hE1⟩ : ∃ E1, svK d 1 L 1 = E1 := ⟨_, rfl⟩
          rw [hE1] at hW1 hz hst hnx
          obtain ⟨d1, e1⟩ := E1
          dsimp only at hW1 hz hst hnx
          have HW1 := Lib.hid hW1
          have HST := Lib.hid (fun h : e1 ≠ 0 => (hst h).symm.trans HD.out)
          have HNX := Lib.hid (fun h : e1 = 0 => (hnx h).symm.trans HD.out)
          have HC := Lib.hid hc4
          have HZ := Lib.hid hz
          clear hS hW1 hE1 hst hnx hc4 hz hg2 hd4 hB3 hb3 z0 z1 z2 g0 g1 g2 hr3 hd3
          go_wp2_with fail
          refine HW1.out.mono ?_
          rintro e w4 ⟨rfl, hd5, hG5⟩
          clear HW1
          by_cases h1 : e1 = 0
          · have hdd := HNX.out h1
            subst h1
            clear HNX HST HE HD
            obtain ⟨a5, c5, he5, hc5⟩ := (part2 (rb := rb) (gb := gb) HC.out HLL.out 1 32 (by decide) hgr hgg).chg hG5
            have hW2 := refWrite_any rb o gb n d1 ((2 * 1 + 1 : Nat) : Int) (.slice (some ⟨g, 1 * 32, none⟩) 32 32) ((L.drop (1 * 32)).take 32) w4 hd5 ((part2 (rb := rb) (gb := gb) HC.out HLL.out 1 32 (by decide) hgr hgg).chg hG5) (by rw [List.length_take]; omega) (by have := HSZ.out.1; have := HZ.out.2; omega) (by have := HSZ.out.2; have := HZ.out.1; omega)
            rw [hdd] at hW2
            have HW2 := Lib.hid hW2
            clear hW2 hdd hc5 he5
            go_wp2_with fail
            refine HW2.out.mono ?_
            rintro e w5 ⟨rfl, hd6, hG6⟩
            go_wp2_with fail
            go_ret
            exact ⟨rfl, hd6, (hG4.trans hG5).trans hG6⟩
          · have hdd := HST.out h1
            have h2 : (e1 == 0) = false := by simpa using h1
            clear HNX HST HE HD
            go_wp2_with fail
            go_ret
            rw [← hdd]
            exact ⟨rfl, hd5, hG4.trans hG5⟩
        · rw [if_neg hat] at HD
          have hat2 : (at0 == 0) = false := by simpa using hat
          go_wp2_with fail
          refine (HE.out _).mono ?_
          rintro e w3 ⟨v3, rfl, ⟨g, rfl, hg1, hg2⟩, hB3⟩
          have hd4 := hd3.below hB3
          have hG4 := Chg.ofBelow (below_then hb3 hB3) rb o gb
          have hc4 : CellsAt w3 ⟨g, 0, none⟩ L := cells_blk hg2
          have hgr : g ≠ rb := by have := hd3.lt.1; omega
          have hgg : g ≠ gb := by have := hd3.lt.2; omega
          have hgs : w.heap.size ≤ g := by have := hb3.size; omega
          have hS : svK d 0 L 1 = wrV d ((2 * 0 + 0 : Nat) : Int) ((L.drop (0 * 32)).take 32) := svK_next (k := 0) rfl
          have hW1 := refWrite_any rb o gb n d ((2 * 0 + 0 : Nat) : Int) (.slice (some ⟨g, 0 * 32, none⟩) 32 64) ((L.drop (0 * 32)).take 32) w3 hd4 (part2 hc4 HLL.out 0 64 (by decide) hgr hgg) (by rw [List.length_take]; omega) (by have := HSZ.out.1; omega) HSZ.out.2
          rw [← hS] at hW1
          have hz := svK_size d 0 L 1
          have hst := svK_stop (d := d) (q0 := 0) (l := L) (k := 0) (by decide)
          have hnx := svK_next (d := d) (q0 := 0) (l := L) (k := 1)
          obtain ⟨E1, hE1⟩ : ∃ E1, svK d 0 L 1 = E1 := ⟨_, rfl⟩
          rw [hE1] at hW1 hz hst hnx
          obtain ⟨d1, e1⟩ := E1
          dsimp only at hW1 hz hst hnx
          have HW1 := Lib.hid hW1
          have HST := Lib.hid (fun h : e1 ≠ 0 => (hst h).symm.trans HD.out)
          have HNX := Lib.hid (fun h : e1 = 0 => (hnx h).symm.trans HD.out)
          have HC := Lib.hid hc4
          have HZ := Lib.hid hz
          clear hS hW1 hE1 hst hnx hc4 hz hg2 hd4 hB3 hb3 z0 z1 z2 g0 g1 g2 hr3 hd3
          go_wp2_with fail
          refine HW1.out.mono ?_
          rintro e w4 ⟨rfl, hd5, hG5⟩
          clear HW1
          by_cases h1 : e1 = 0
          · have hdd := HNX.out h1
            subst h1
            clear HNX HST HE HD
            obtain ⟨a5, c5, he5, hc5⟩ := (part2 (rb := rb) (gb := gb) HC.out HLL.out 1 32 (by decide) hgr hgg).chg hG5
            have hW2 := refWrite_any rb o gb n d1 ((2 * 0 + 1 : Nat) : Int) (.slice (some ⟨g, 1 * 32, none⟩) 32 32) ((L.drop (1 * 32)).take 32) w4 hd5 ((part2 (rb := rb) (gb := gb) HC.out HLL.out 1 32 (by decide) hgr hgg).chg hG5) (by rw [List.length_take]; omega) (by have := HSZ.out.1; have := HZ.out.2; omega) (by have := HSZ.out.2; have := HZ.out.1; omega)
            rw [hdd] at hW2
            have HW2 := Lib.hid hW2
            clear hW2 hdd hc5 he5
            go_wp2_with fail
            refine HW2.out.mono ?_
            rintro e w5 ⟨rfl, hd6, hG6⟩
            go_wp2_with fail
            go_ret
            exact ⟨rfl, hd6, (hG4.trans hG5).trans hG6⟩
          · have hdd := HST.out h1
            have h2 : (e1 == 0) = false := by simpa using h1
            clear HNX HST HE HD
            go_wp2_with fail
            go_ret
            rw [← hdd]
            exact ⟨rfl, hd5, hG4.trans hG5⟩
  · rw [if_neg hm] at HD
    rw [decide_eq_false hm] at HM
    clear hm
    go_enter Tryz.func30, Tryz.ntmps30
    go_wp2_with fail
    refine (HM.out _).mono ?_
    rintro e w1 ⟨rfl, hB1⟩
    go_wp2_with fail
    go_ret
    have hD := HD.out
    subst hD
    exact ⟨rfl, hd0.below hB1, Chg.ofBelow (below_then hb0 hB1) _ _ _⟩
end Go.Proofs.YtbjlnlgknegbnaaGreatDoor
namespace Go.Proofs.YtbjlnlgknegbnaaGreatDoor
set_option linter.unusedVariables false
set_option linter.unusedSimpArgs false
open Go.RowKit

theorem refLoad_end {w W : World} {A : Value} {a : Act} {x y z i c : Int} (hd : a.defers = []) (h2 : a.tmps[2]?.getD undef = .pointer (some ⟨w.heap.size, 0, none⟩)) (h3 : a.tmps[3]?.getD undef = .int .i64 i) (h4 : a.tmps[4]?.getD undef = .int .i64 c)
    (hb : W.heap[w.heap.size]? = some (.cells #[.int .i64 x, .int .i64 y, .int .i64 z] 35 (0, 0))) (hl : Below w.heap.size w W)
    (he : .tuple #[.agg #[.int .i64 x, .int .i64 y, .int .i64 z], .int .i64 i, .int .i64 c] = A) :
    bodyPost Tryz.prog Tryz.f28 (fun e w' => e = .returned A ∧ Below w.heap.size w w') Exit.ret a W := by
  obtain ⟨y0, y1, y2, _⟩ := blk3 hb
  refine bodyPost_ret (v := .tuple #[.agg #[.int .i64 x, .int .i64 y, .int .i64 z], .int .i64 i, .int .i64 c]) ?_ hd ⟨by rw [he], hl⟩
  simp [results, Tryz.results28, go_sem, h2, h3, h4, y0, y1, y2]
set_option maxRecDepth 100000 in
set_option maxHeartbeats 2000000 in
theorem refLoad_any (rb o gb n : Nat) (d : Dk) (w : World) (h : Rk w rb o gb n d) (hn : 256 ≤ n) (hlt : ∀ c ∈ d.bs, c < 256) :
    Calls Tryz.prog 28 #[.pointer (some ⟨rb, o, none⟩)] w fun e w' => e = .returned (loadA d) ∧ Below w.heap.size w w' := by
  obtain ⟨A, hA⟩ : ∃ A, loadA d = A := ⟨_, rfl⟩
  rw [hA]
  unfold loadA at hA
  have hb0 : Below w.heap.size w (w.alloc (.cells #[.int .i64 0, .int .i64 0, .int .i64 0] 35)) := (Below.refl _ w).alloc (Nat.le_refl _) _
  have hr0 := box3 w (.int .i64 0) (.int .i64 0) (.int .i64 0) 35
  have h0 := h.below hb0
  have hwl := Lib.hid h.lt
  obtain ⟨W0, hW0⟩ : ∃ W0, w.alloc (.cells #[.int .i64 0, .int .i64 0, .int .i64 0] 35) = W0 := ⟨_, rfl⟩
  have HL := Lib.hid (refFound_any rb o gb n d _ h0 hn hlt)
  unfold fndA recV at HL
  go_enter Tryz.func28, Tryz.ntmps28
  go_upto_region 1 with fail
  rw [hW0] at h0 hb0 hr0 HL
  (try rw [hW0])
  clear h hW0
  obtain ⟨c0, c1, c2, c3⟩ := h0.cells
  obtain ⟨z0, z1, z2, g0, g1, g2⟩ := blk3 hr0
  cases ho : d.off with
  | true =>
    rw [ho] at c1 hA
    have HA := Lib.hid hA
    clear hA
    go_wp2_with fail
    generalize hWF : World.setCell (World.setCell (World.setCell _ _ _) _ _) _ _ = WF
    refine refLoad_end (x := 0) (y := 0) (z := 0) (i := 0) (c := 100) rfl rfl rfl rfl ?_ ?_ HA.out
    · rw [← hWF]; exact blk_store (blk_store (blk_store hr0 0 _) 1 _) 2 _
    · rw [← hWF]; exact (((hb0).setCell (Nat.le_refl _) _).setCell (Nat.le_refl _) _).setCell (Nat.le_refl _) _
  | false =>
    rw [ho] at c1 hA
    simp only [Bool.false_eq_true, if_false] at hA
    generalize bestL d.bs = B at *
    obtain ⟨r, i⟩ := B
    dsimp only at HL hA
    go_wp2_with fail
    refine HL.out.mono ?_
    rintro e w1 ⟨rfl, hB1⟩
    have hb1 := below_then hb0 hB1
    have hr1 := blk_below' hB1 hr0
    have hs1 := blk_lt hr1
    clear hb0 hr0 hB1 c0 c1 c2 c3 h0 z0 z1 z2 g0 g1 g2 HL
    have hq1 := blk_old hr1 (.cells #[.int .i64 (r.life : Int), .int .i64 (r.round : Int), .int .i64 (r.tag : Int)] 35)
    have hp1 := box3 w1 (.int .i64 (r.life : Int)) (.int .i64 (r.round : Int)) (.int .i64 (r.tag : Int)) 35
    have hb2 := hb1.alloc hb1.size (.cells #[.int .i64 (r.life : Int), .int .i64 (r.round : Int), .int .i64 (r.tag : Int)] 35)
    go_upto_region 4 with fail
    generalize World.alloc w1 _ = W2 at *
    obtain ⟨z0, z1, z2, g0, g1, g2⟩ := blk3 hq1
    obtain ⟨y0, y1, y2, f0, f1, f2⟩ := blk3 hp1
    have HQ := Lib.hid hq1
    have HB := Lib.hid hb2
    clear hq1 hb2 hr1 hb1 hp1
    by_cases hi : i < 0
    · rw [if_pos hi] at hA
      have HA := Lib.hid hA
      clear hA
      go_wp2_with fail
      generalize hWF : World.setCell (World.setCell (World.setCell _ _ _) _ _) _ _ = WF
      refine refLoad_end (x := 0) (y := 0) (z := 0) (i := 0) (c := 40) rfl rfl rfl rfl ?_ ?_ HA.out
      · rw [← hWF]; exact blk_store (blk_store (blk_store HQ.out 0 _) 1 _) 2 _
      · rw [← hWF]; exact (((HB.out).setCell (Nat.le_refl _) _).setCell (Nat.le_refl _) _).setCell (Nat.le_refl _) _
    · rw [if_neg hi] at hA
      have HA := Lib.hid hA
      clear hA
      go_wp2_with fail
      generalize hWF : World.setCell (World.setCell (World.setCell _ _ _) _ _) _ _ = WF
      refine refLoad_end (x := (r.life : Int)) (y := (r.round : Int)) (z := (r.tag : Int)) (i := (r.seq : Int)) (c := 0) rfl rfl rfl rfl ?_ ?_ HA.out
      · rw [← hWF]; exact blk_store (blk_store (blk_store HQ.out 0 _) 1 _) 2 _
      · rw [← hWF]; exact (((HB.out).setCell (Nat.le_refl _) _).setCell (Nat.le_refl _) _).setCell (Nat.le_refl _) _
end Go.Proofs.YtbjlnlgknegbnaaGreatDoor
namespace Go.Proofs.YtbjlnlgknegbnaaGreatDoor
set_option linter.unusedVariables false
set_option linter.unusedSimpArgs false
open Go.RowKit

theorem make256 (w : World) : (Instr.makeSlice 26 (.int .i64 256) (.int .i64 256)).run Tryz.prog w = .ok (.slice (some ⟨w.heap.size, 0, none⟩) 256 256) (w.alloc (.cells (bC (List.replicate 256 0)).toArray 5)) := by
  have := run_make_row' 26 5 (.int .u8 0) 1 Tryz.underlying26 Tryz.infoByte rfl .i64 .i64 256 (by decide) (by decide) w
  rwa [made_bytes] at this
theorem make256' : ∃ Z, Hid (Z = (bC (List.replicate 256 0)).toArray) ∧ ∀ w : World, (Instr.makeSlice 26 (.int .i64 256) (.int .i64 256)).run Tryz.prog w = .ok (.slice (some ⟨w.heap.size, 0, none⟩) 256 256) (w.alloc (.cells Z 5)) := ⟨_, rfl, make256⟩
theorem Rk.heap {W X : World} {rb o gb n : Nat} {d : Dk} (h : Rk W rb o gb n d) (e1 : X.heap[rb]? = W.heap[rb]?) (e2 : X.heap[gb]? = W.heap[gb]?) : Rk X rb o gb n d := by
  obtain ⟨⟨cs, t, h1, h3⟩, ⟨r, h2⟩, h4, h5⟩ := h
  exact ⟨⟨cs, t, e1.trans h1, h3⟩, ⟨r, e2.trans h2⟩, h4, h5⟩
theorem Rk.twice {W : World} {rb o gb n i : Nat} {d d' : Dk} {u v : Value} (h : Rk W rb o gb n d) (k : Rk (W.setCell ⟨rb, o + i, none⟩ v) rb o gb n d') : Rk ((W.setCell ⟨rb, o + i, none⟩ u).setCell ⟨rb, o + i, none⟩ v) rb o gb n d' := by
  obtain ⟨⟨cs, t, h1, h3⟩, ⟨r, h2⟩, h4, h5⟩ := h
  refine k.heap ?_ ?_
  · rw [blk_store (blk_store h1 _ _) _ _, blk_store h1 _ _]; simp
  · rw [blk_set (blk_set h2 _ _ (fun e => h5 e.symm)) _ _ (fun e => h5 e.symm), blk_set h2 _ _ (fun e => h5 e.symm)]
def rkV (gb n : Nat) (d : Dk) : Value := .agg (rkC gb n d).toArray
/-- A disk as a value: its bytes in a block of their own. -/
def RkV (w W : World) (v : Value) (d : Dk) : Prop := ∃ g n rest, v = rkV g n d ∧ 256 ≤ n ∧ w.heap.size ≤ g ∧ W.heap[g]? = some (.cells (bC d.bs ++ rest).toArray 5 (0, 0)) ∧ d.bs.length = 256
theorem disk_end {w W : World} {a : Act} (hd : a.defers = []) (h2 : a.tmps[0]?.getD undef = .pointer (some ⟨w.heap.size, 0, none⟩)) (x0 x1 x2 x3 : Value)
    (hb : W.heap[w.heap.size]? = some (.cells #[x0, x1, x2, x3] 28 (0, 0))) (Q : Ending → World → Prop) (hQ : Q (.returned (.agg #[x0, x1, x2, x3])) W) :
    bodyPost Tryz.prog Tryz.f6 Q Exit.ret a W := by
  have y0 := blk_cell hb 0
  have y1 := blk_cell hb 1
  have y2 := blk_cell hb 2
  have y3 := blk_cell hb 3
  simp at y0 y1 y2 y3
  refine bodyPost_ret (v := .agg #[x0, x1, x2, x3]) ?_ hd hQ
  simp [results, Tryz.results6, go_sem, h2, y0, y1, y2, y3]
set_option maxRecDepth 100000 in
set_option maxHeartbeats 1000000 in
theorem refNew_any (w : World) : Calls Tryz.prog 6 #[] w fun e w' => ∃ v, e = .returned v ∧ RkV w w' v Dk.new ∧ Below w.heap.size w w' := by
  obtain ⟨Z, hZ, hM⟩ := make256'
  have hmk := hM (w.alloc (.cells #[.slice none 0 0, .bool false, .int .i64 0, .int .i64 0] 28))
  clear hM
  go_enter Tryz.func6, Tryz.ntmps6
  go_wp2_with fail
  generalize hWF : World.alloc (World.alloc _ _) _ = WF
  have hb : Below w.heap.size w WF := by rw [← hWF]; exact ((Below.refl w.heap.size w).alloc (Nat.le_refl _) _).alloc (by simp) _
  have h1 : WF.heap[w.heap.size]? = some (.cells #[.slice (some ⟨w.heap.size + 1, 0, none⟩) 256 256, .bool false, .int .i64 (-1), .int .i64 0] 28 (0, 0)) := by rw [← hWF]; exact blk_old (blk_new w _) _
  have h2 : WF.heap[w.heap.size + 1]? = some (.cells Z 5 (0, 0)) := by
    rw [← hWF]
    have := blk_new (w.alloc (.cells #[.slice (some ⟨w.heap.size + 1, 0, none⟩) 256 256, .bool false, .int .i64 (-1), .int .i64 0] 28)) (.cells Z 5)
    simpa using this
  refine disk_end rfl rfl _ _ _ _ h1 _ ⟨_, rfl, ⟨w.heap.size + 1, 256, [], rfl, Nat.le_refl _, by omega, ?_, List.length_replicate⟩, hb⟩
  rw [h2, hZ.out, List.append_nil]; rfl
set_option maxRecDepth 100000 in
set_option maxHeartbeats 1000000 in
theorem refSet_any (rb o gb n : Nat) (d : Dk) (k : Int) (w : World) (h : Rk w rb o gb n d) :
    Calls Tryz.prog 13 #[.pointer (some ⟨rb, o, none⟩), .int .i64 k] w fun e w' => e = .returned (.tuple #[]) ∧ Rk w' rb o gb n { d with fused := decide (0 ≤ k), fuse := k.toNat } ∧ Chg w w' rb o gb := by
  obtain ⟨c0, c1, c2, c3⟩ := h.cells
  obtain ⟨z0, z1, z2, z3⟩ := h.free
  have hh := Lib.hid h
  clear h
  by_cases hk : k < 0
  · have hd : ¬ 0 ≤ k := by omega
    go_enter Tryz.func13, Tryz.ntmps13
    go_wp2_with fail
    go_end0
    refine ⟨rfl, ?_, ?_⟩
    · refine hh.out.twice (i := 2) (hh.out.fuse (d' := { d with fused := decide (0 ≤ k), fuse := k.toNat }) (-1) ?_ ⟨rfl, rfl, rfl⟩)
      unfold fuZ
      rw [if_neg (by simpa using hd)]
    · exact ((Chg.refl _ _ _ _).set 2 _ (by decide) hh.out.lt.1).set 2 _ (by decide) hh.out.lt.1
  · have hd : 0 ≤ k := by omega
    go_enter Tryz.func13, Tryz.ntmps13
    go_wp2_with fail
    go_end0
    refine ⟨rfl, ?_, ?_⟩
    · exact hh.out.fuse k (by unfold fuZ; simp only [if_true]; exact Int.toNat_of_nonneg hd) ⟨rfl, rfl, rfl⟩
    · exact (Chg.refl _ _ _ _).set 2 _ (by decide) hh.out.lt.1
end Go.Proofs.YtbjlnlgknegbnaaGreatDoor
namespace Go.Proofs.YtbjlnlgknegbnaaGreatDoor
set_option linter.unusedVariables false
set_option linter.unusedSimpArgs false
open Go.RowKit

def rbC (B : Bt) : List Value := [.int .i64 (B.life : Int), .int .i64 (B.kround : Int), .int .i64 (B.ktag : Int), .int .i64 (B.life : Int), .int .i64 (B.round : Int), .int .i64 (B.tag : Int)]
def RbAt (W : World) (bb o : Nat) (B : Bt) : Prop := ∃ cs t, W.heap[bb]? = some (.cells cs t (0, 0)) ∧ ∀ j x, (rbC B)[j]? = some x → cs[o + j]? = some x
theorem RbAt.lt {W : World} {bb o : Nat} {B : Bt} (h : RbAt W bb o B) : bb < W.heap.size := by obtain ⟨cs, t, h1, _⟩ := h; exact blk_lt h1
theorem RbAt.heap {W X : World} {bb o : Nat} {B : Bt} (h : RbAt W bb o B) (e : X.heap[bb]? = W.heap[bb]?) : RbAt X bb o B := by obtain ⟨cs, t, h1, h2⟩ := h; exact ⟨cs, t, e.trans h1, h2⟩
theorem RbAt.below {W X : World} {bb o : Nat} {B : Bt} (h : RbAt W bb o B) (hb : Below W.heap.size W X) : RbAt X bb o B := by obtain ⟨cs, t, h1, h2⟩ := h; exact ⟨cs, t, blk_below' hb h1, h2⟩
theorem RbAt.drew {W : World} {bb o : Nat} {B : Bt} (h : RbAt W bb o B) : RbAt W.drew bb o B := h.below ((Below.refl _ _).drew)
theorem RbAt.cells {W : World} {bb o : Nat} {B : Bt} (h : RbAt W bb o B) :
    (W.cell? ⟨bb, o, none⟩ = some (.int .i64 (B.life : Int)) ∧ W.cell? ⟨bb, o + 1, none⟩ = some (.int .i64 (B.kround : Int)) ∧ W.cell? ⟨bb, o + 2, none⟩ = some (.int .i64 (B.ktag : Int)) ∧ W.cell? ⟨bb, o + 3, none⟩ = some (.int .i64 (B.life : Int)) ∧ W.cell? ⟨bb, o + 4, none⟩ = some (.int .i64 (B.round : Int)) ∧ W.cell? ⟨bb, o + 5, none⟩ = some (.int .i64 (B.tag : Int))) ∧
    (W.frozen? ⟨bb, o, none⟩ = false ∧ W.frozen? ⟨bb, o + 1, none⟩ = false ∧ W.frozen? ⟨bb, o + 2, none⟩ = false ∧ W.frozen? ⟨bb, o + 3, none⟩ = false ∧ W.frozen? ⟨bb, o + 4, none⟩ = false ∧ W.frozen? ⟨bb, o + 5, none⟩ = false) := by
  obtain ⟨cs, t, h1, h2⟩ := h
  exact ⟨⟨(blk_cell h1 _).trans (h2 0 _ rfl), (blk_cell h1 _).trans (h2 1 _ rfl), (blk_cell h1 _).trans (h2 2 _ rfl), (blk_cell h1 _).trans (h2 3 _ rfl), (blk_cell h1 _).trans (h2 4 _ rfl), (blk_cell h1 _).trans (h2 5 _ rfl)⟩,
    blk_free h1 _, blk_free h1 _, blk_free h1 _, blk_free h1 _, blk_free h1 _, blk_free h1 _⟩
theorem RbAt.set {W : World} {bb o : Nat} {B B' : Bt} (h : RbAt W bb o B) (i : Nat) (v : Value) (hi : i < 6) (hd : rbC B' = (rbC B).set i v) : RbAt (W.setCell ⟨bb, o + i, none⟩ v) bb o B' := by
  obtain ⟨cs, t, h1, h3⟩ := h
  refine ⟨cs.setIfInBounds (o + i) v, t, blk_store h1 _ _, fun j x hx => ?_⟩
  rw [hd] at hx
  rw [List.getElem?_set] at hx
  rw [set_get]
  by_cases c : i = j
  · subst c
    have hs : o + i < cs.size := by
      obtain ⟨y, hy⟩ : ∃ y, (rbC B)[i]? = some y := ⟨_, List.getElem?_eq_getElem (by show i < 6; exact hi)⟩
      exact (Array.getElem?_eq_some_iff.1 (h3 i y hy)).1
    rw [if_pos rfl, if_pos (by show i < 6; exact hi)] at hx
    rw [if_pos rfl, if_pos hs]; exact hx
  · rw [if_neg c] at hx
    rw [if_neg (by omega)]
    exact h3 j x hx
/-- All is as it was, but the disk, and six cells of a block. -/
structure ChB (W X : World) (bb o rb ob gb : Nat) : Prop where
  os : X.os = W.os
  tape : X.tape = W.tape
  output : X.output = W.output
  size : W.heap.size ≤ X.heap.size
  other : ∀ k, k < W.heap.size → k ≠ bb → k ≠ rb → k ≠ gb → X.heap[k]? = W.heap[k]?
  boot : ∀ cs t, W.heap[bb]? = some (.cells cs t (0, 0)) → ∃ cs', X.heap[bb]? = some (.cells cs' t (0, 0)) ∧ cs'.size = cs.size ∧ ∀ j, j < o ∨ o + 6 ≤ j → cs'[j]? = cs[j]?
  box : ∀ cs t, W.heap[rb]? = some (.cells cs t (0, 0)) → ∃ cs', X.heap[rb]? = some (.cells cs' t (0, 0)) ∧ cs'.size = cs.size ∧ ∀ j, j < ob ∨ ob + 4 ≤ j → cs'[j]? = cs[j]?
theorem ChB.ofChg {W X : World} {bb o rb ob gb : Nat} (h : Chg W X rb ob gb) (h1 : bb ≠ rb) (h2 : bb ≠ gb) : ChB W X bb o rb ob gb :=
  ⟨h.os, h.tape, h.output, h.size, fun k hk _ a b => h.other k hk a b, fun cs t hc => ⟨cs, h.blk hc h1 h2, rfl, fun _ _ => rfl⟩, h.box⟩
theorem ChB.ofBelow {W X : World} (h : Below W.heap.size W X) (bb o rb ob gb : Nat) : ChB W X bb o rb ob gb :=
  ⟨h.os, h.tape, h.output, h.size, fun k hk _ _ _ => h.block k hk, fun cs t hc => ⟨cs, blk_below' h hc, rfl, fun _ _ => rfl⟩, fun cs t hc => ⟨cs, blk_below' h hc, rfl, fun _ _ => rfl⟩⟩
theorem ChB.trans {W X Y : World} {bb o rb ob gb : Nat} (h : ChB W X bb o rb ob gb) (k : ChB X Y bb o rb ob gb) : ChB W Y bb o rb ob gb := by
  refine ⟨k.os.trans h.os, k.tape.trans h.tape, k.output.trans h.output, Nat.le_trans h.size k.size, fun j hj h1 h2 h3 => (k.other j (by have := h.size; omega) h1 h2 h3).trans (h.other j hj h1 h2 h3), fun cs t hc => ?_, fun cs t hc => ?_⟩
  · obtain ⟨c1, a1, a2, a3⟩ := h.boot cs t hc
    obtain ⟨c2, b1, b2, b3⟩ := k.boot c1 t a1
    exact ⟨c2, b1, b2.trans a2, fun j hj => (b3 j hj).trans (a3 j hj)⟩
  · obtain ⟨c1, a1, a2, a3⟩ := h.box cs t hc
    obtain ⟨c2, b1, b2, b3⟩ := k.box c1 t a1
    exact ⟨c2, b1, b2.trans a2, fun j hj => (b3 j hj).trans (a3 j hj)⟩
theorem ChB.set {W X : World} {bb o rb ob gb : Nat} (h : ChB W X bb o rb ob gb) (h1 : bb ≠ rb) (i : Nat) (v : Value) (hi : i < 6) : ChB W (X.setCell ⟨bb, o + i, none⟩ v) bb o rb ob gb := by
  refine h.trans ⟨rfl, rfl, rfl, by simp, fun k hk a b c => Below.heap_setCell X ⟨bb, o + i, none⟩ v k (fun e => a e), fun cs t hc => ⟨_, blk_store hc _ _, by simp, fun j hj => ?_⟩, fun cs t hc => ⟨cs, blk_set hc _ _ (fun e => h1 e.symm), rfl, fun _ _ => rfl⟩⟩
  rw [set_get, if_neg (by omega)]
theorem ChB.blk {W X : World} {bb o rb ob gb k : Nat} {x : Obj} (h : ChB W X bb o rb ob gb) (hk : W.heap[k]? = some x) (h0 : k ≠ bb) (h1 : k ≠ rb) (h2 : k ≠ gb) : X.heap[k]? = some x := (h.other k (blk_lt hk) h0 h1 h2).trans hk
theorem ChB.low {W X : World} {bb o rb ob gb B : Nat} (h : ChB W X bb o rb ob gb) (h0 : B ≤ bb) (h1 : B ≤ rb) (h2 : B ≤ gb) (hB : B ≤ W.heap.size) : Below B W X :=
  ⟨h.os, h.tape, h.output, by have := h.size; omega, fun k hk => h.other k (by omega) (by omega) (by omega) (by omega)⟩
theorem Rk.setOther {W : World} {bb i rb ob gb n : Nat} {d : Dk} (h : Rk W rb ob gb n d) (v : Value) (h1 : bb ≠ rb) (h2 : bb ≠ gb) : Rk (W.setCell ⟨bb, i, none⟩ v) rb ob gb n d :=
  h.heap (Below.heap_setCell W ⟨bb, i, none⟩ v rb (fun e => h1 e.symm)) (Below.heap_setCell W ⟨bb, i, none⟩ v gb (fun e => h2 e.symm))
/-- Three cells of the record are written. -/
theorem RbAt.rec3 {W : World} {bb o : Nat} {B : Bt} (h : RbAt W bb o B) (y z : Nat) :
    RbAt (((W.setCell ⟨bb, o, none⟩ (.int .i64 (B.life : Int))).setCell ⟨bb, o + 1, none⟩ (.int .i64 (y : Int))).setCell ⟨bb, o + 2, none⟩ (.int .i64 (z : Int))) bb o { B with kround := y, ktag := z } :=
  ((h.set (B' := B) 0 _ (by decide) rfl).set (B' := { B with kround := y }) 1 _ (by decide) rfl).set 2 _ (by decide) rfl
theorem RbAt.round {W : World} {bb o : Nat} {B : Bt} (h : RbAt W bb o B) (y : Nat) : RbAt (W.setCell ⟨bb, o + 4, none⟩ (.int .i64 (y : Int))) bb o { B with round := y } := h.set 4 _ (by decide) rfl
theorem RbAt.tag {W : World} {bb o : Nat} {B : Bt} (h : RbAt W bb o B) (y : Nat) : RbAt (W.setCell ⟨bb, o + 5, none⟩ (.int .i64 (y : Int))) bb o { B with tag := y } := h.set 5 _ (by decide) rfl
theorem ChB.rec3 {W X : World} {bb o rb ob gb : Nat} (h : ChB W X bb o rb ob gb) (h1 : bb ≠ rb) (a b c : Value) :
    ChB W (((X.setCell ⟨bb, o, none⟩ a).setCell ⟨bb, o + 1, none⟩ b).setCell ⟨bb, o + 2, none⟩ c) bb o rb ob gb := ((h.set h1 0 a (by decide)).set h1 1 b (by decide)).set h1 2 c (by decide)
end Go.Proofs.YtbjlnlgknegbnaaGreatDoor
namespace Go.Proofs.YtbjlnlgknegbnaaGreatDoor
set_option linter.unusedVariables false
set_option linter.unusedSimpArgs false
open Go.RowKit

theorem least_R (n : Nat) (w : World) (hn : n ≤ 1099511627776) : Calls Tryz.prog 29 #[.int .i64 ((n : Int) + 16), .int .i64 1099511627775] w fun e w' => e = .returned (.int .i64 (capR n : Nat)) ∧ w = w' := by
  have h2 : (n : Int) ≤ 1099511627776 := by omega
  have m1 : (n : Int) + 16 < 1099511627775 → ((capR n : Nat) : Int) = (n : Int) + 16 := by unfold capR; omega
  have m2 : ¬ (n : Int) + 16 < 1099511627775 → ((capR n : Nat) : Int) = 1099511627775 := by unfold capR; omega
  have M1 := Lib.hid m1
  have M2 := Lib.hid m2
  clear m1 m2 hn
  go_enter Tryz.func29, Tryz.ntmps29
  by_cases h : (n : Int) + 16 < 1099511627775
  · go_wp2_with fail
    go_ret
    rw [M1.out h]; exact ⟨rfl, rfl⟩
  · go_wp2_with fail
    go_ret
    rw [M2.out h]; exact ⟨rfl, rfl⟩
theorem least_T (n : Nat) (w : World) (hn : n ≤ 1048576) : Calls Tryz.prog 29 #[.int .i64 ((n : Int) + 4), .int .i64 1048576] w fun e w' => e = .returned (.int .i64 (capT n : Nat)) ∧ w = w' := by
  have h2 : (n : Int) ≤ 1048576 := by omega
  have M1 := Lib.hid (show (n : Int) + 4 < 1048576 → ((capT n : Nat) : Int) = (n : Int) + 4 by unfold capT; omega)
  have M2 := Lib.hid (show ¬ (n : Int) + 4 < 1048576 → ((capT n : Nat) : Int) = 1048576 by unfold capT; omega)
  clear hn
  go_enter Tryz.func29, Tryz.ntmps29
  by_cases h : (n : Int) + 4 < 1048576
  · go_wp2_with fail
    go_ret
    rw [M1.out h]; exact ⟨rfl, rfl⟩
  · go_wp2_with fail
    go_ret
    rw [M2.out h]; exact ⟨rfl, rfl⟩
theorem least_Z (n : Nat) (w : World) (hn : n ≤ 1048576) : Calls Tryz.prog 29 #[.int .i64 ((n : Int) + 3), .int .i64 1048576] w fun e w' => e = .returned (.int .i64 (capZ n : Nat)) ∧ w = w' := by
  have h2 : (n : Int) ≤ 1048576 := by omega
  have M1 := Lib.hid (show (n : Int) + 3 < 1048576 → ((capZ n : Nat) : Int) = (n : Int) + 3 by unfold capZ; omega)
  have M2 := Lib.hid (show ¬ (n : Int) + 3 < 1048576 → ((capZ n : Nat) : Int) = 1048576 by unfold capZ; omega)
  clear hn
  go_enter Tryz.func29, Tryz.ntmps29
  by_cases h : (n : Int) + 3 < 1048576
  · go_wp2_with fail
    go_ret
    rw [M1.out h]; exact ⟨rfl, rfl⟩
  · go_wp2_with fail
    go_ret
    rw [M2.out h]; exact ⟨rfl, rfl⟩
/-- What a save from within a life leaves. -/
def RSave (w : World) (bb o rb ob gb n : Nat) (B B0 : Bt) (ok no : Value) (D : Dk × Int) (e : Ending) (w' : World) : Prop :=
  (D.2 = 0 → e = .returned ok ∧ RbAt w' bb o B ∧ Rk w' rb ob gb n D.1) ∧ (D.2 ≠ 0 → e = .returned no ∧ RbAt w' bb o B0 ∧ Rk w' rb ob gb n D.1) ∧ ChB w w' bb o rb ob gb
end Go.Proofs.YtbjlnlgknegbnaaGreatDoor
namespace Go.Proofs.YtbjlnlgknegbnaaGreatDoor
set_option linter.unusedVariables false
set_option linter.unusedSimpArgs false
open Go.RowKit

theorem rraise_off (bb o rb ob gb n : Nat) (d : Dk) (t : Int) (w : World) (k : Rk w rb ob gb n d) (ho : d.off = true) :
    Calls Tryz.prog 44 #[.pointer (some ⟨bb, o, none⟩), .pointer (some ⟨rb, ob, none⟩), .int .i64 t] w fun e w' => e = .returned (.int .i64 100) ∧ Below w.heap.size w w' := by
  obtain ⟨k0, k1, k2, k3⟩ := k.cells
  rw [ho] at k1
  clear ho
  skip
  go_enter Tryz.func44, Tryz.ntmps44
  go_wp2_with fail
  go_ret
  exact ⟨rfl, Below.refl _ _⟩
theorem rraise_neg (bb o rb ob gb n : Nat) (d : Dk) (t : Int) (w : World) (k : Rk w rb ob gb n d) (ho : d.off = false) (ht : t < 0) :
    Calls Tryz.prog 44 #[.pointer (some ⟨bb, o, none⟩), .pointer (some ⟨rb, ob, none⟩), .int .i64 t] w fun e w' => e = .returned (.int .i64 1) ∧ Below w.heap.size w w' := by
  obtain ⟨k0, k1, k2, k3⟩ := k.cells
  rw [ho] at k1
  clear ho
  skip
  go_enter Tryz.func44, Tryz.ntmps44
  go_wp2_with fail
  go_ret
  exact ⟨rfl, Below.refl _ _⟩
theorem rraise_big (bb o rb ob gb n : Nat) (d : Dk) (t : Int) (w : World) (k : Rk w rb ob gb n d) (ho : d.off = false) (ht : 1048576 < t) :
    Calls Tryz.prog 44 #[.pointer (some ⟨bb, o, none⟩), .pointer (some ⟨rb, ob, none⟩), .int .i64 t] w fun e w' => e = .returned (.int .i64 120) ∧ Below w.heap.size w w' := by
  obtain ⟨k0, k1, k2, k3⟩ := k.cells
  rw [ho] at k1
  clear ho
  have hn : ¬ t < 0 := by omega
  go_enter Tryz.func44, Tryz.ntmps44
  go_wp2_with fail
  go_ret
  exact ⟨rfl, Below.refl _ _⟩
theorem rraise_low (bb o rb ob gb n : Nat) (B : Bt) (d : Dk) (t : Nat) (w : World) (h : RbAt w bb o B) (k : Rk w rb ob gb n d) (ho : d.off = false) (ht : t ≤ 1048576) (hlo : t ≤ B.tag) :
    Calls Tryz.prog 44 #[.pointer (some ⟨bb, o, none⟩), .pointer (some ⟨rb, ob, none⟩), .int .i64 (t : Int)] w fun e w' => e = .returned (.int .i64 0) ∧ Below w.heap.size w w' := by
  obtain ⟨k0, k1, k2, k3⟩ := k.cells
  obtain ⟨⟨c0, c1, c2, c3, c4, c5⟩, ⟨f0, f1, f2, f3, f4, f5⟩⟩ := h.cells
  rw [ho] at k1
  have hn1 : ¬ (t : Int) < 0 := by omega
  have hn2 : ¬ 1048576 < (t : Int) := by omega
  have HR := Lib.hid h
  have HK := Lib.hid k
  clear h k ho
  go_enter Tryz.func44, Tryz.ntmps44
  go_wp2_with fail
  go_ret
  exact ⟨rfl, Below.refl _ _⟩
set_option maxRecDepth 100000 in
theorem rraise_covered (bb o rb ob gb n : Nat) (B : Bt) (d : Dk) (t : Nat) (w : World) (h : RbAt w bb o B) (k : Rk w rb ob gb n d) (hne : bb ≠ rb ∧ bb ≠ gb) (ho : d.off = false) (ht : t ≤ 1048576) (hlo : B.tag < t) (hk : t ≤ B.ktag) :
    Calls Tryz.prog 44 #[.pointer (some ⟨bb, o, none⟩), .pointer (some ⟨rb, ob, none⟩), .int .i64 (t : Int)] w fun e w' => e = .returned (.int .i64 0) ∧ RbAt w' bb o { B with tag := t } ∧ Rk w' rb ob gb n d ∧ ChB w w' bb o rb ob gb := by
  obtain ⟨k0, k1, k2, k3⟩ := k.cells
  obtain ⟨⟨c0, c1, c2, c3, c4, c5⟩, ⟨f0, f1, f2, f3, f4, f5⟩⟩ := h.cells
  rw [ho] at k1
  have hn1 : ¬ (t : Int) < 0 := by omega
  have hn2 : ¬ 1048576 < (t : Int) := by omega
  have HR := Lib.hid h
  have HK := Lib.hid k
  have h3 : ¬ t ≤ B.tag := by omega
  have h4 : ¬ B.ktag < t := by omega
  have HN := Lib.hid hne
  clear h k ho hne
  go_enter Tryz.func44, Tryz.ntmps44
  go_wp2_with fail
  go_ret
  exact ⟨rfl, HR.out.tag t, HK.out.setOther _ HN.out.1 HN.out.2, (ChB.ofBelow (Below.refl _ _) bb o rb ob gb).set HN.out.1 5 _ (by decide)⟩
set_option maxRecDepth 100000 in
set_option maxHeartbeats 1000000 in
theorem rraise_save (bb o rb ob gb n : Nat) (B : Bt) (d : Dk) (t : Nat) (w : World) (h : RbAt w bb o B) (k : Rk w rb ob gb n d) (hne : bb ≠ rb ∧ bb ≠ gb) (hn : 256 ≤ n) (ho : d.off = false) (ht : t ≤ 1048576) (hlo : B.tag < t) (hk : ¬ t ≤ B.ktag) (hlt : ∀ c ∈ d.bs, c < 256) (hw : d.writes ≤ 4611686018427387901) (hfu : d.fuse ≤ 9223372036854775807) :
    Calls Tryz.prog 44 #[.pointer (some ⟨bb, o, none⟩), .pointer (some ⟨rb, ob, none⟩), .int .i64 (t : Int)] w fun e w' =>
      RSave w bb o rb ob gb n { B with ktag := capZ t, tag := t } B (.int .i64 0) (.int .i64 (saveW d B.life B.kround (capZ t : Nat)).2) (saveW d B.life B.kround (capZ t : Nat)) e w' := by
  obtain ⟨D, hDe⟩ : ∃ D, saveW d B.life B.kround (capZ t : Nat) = D := ⟨_, rfl⟩
  rw [hDe]
  have hn1 : ¬ (t : Int) < 0 := by omega
  have hn2 : ¬ 1048576 < (t : Int) := by omega
  have h3 : ¬ t ≤ B.tag := by omega
  have h4 : B.ktag < t := by omega
  obtain ⟨k0, k1, k2, k3⟩ := k.cells
  obtain ⟨⟨c0, c1, c2, c3, c4, c5⟩, ⟨f0, f1, f2, f3, f4, f5⟩⟩ := h.cells
  rw [ho] at k1
  have HR := Lib.hid h
  have HK := Lib.hid k
  have HN := Lib.hid hne
  have HLS := Lib.hid (fun w => least_Z t w ht)
  have HS := Lib.hid (fun w (hk : Rk w rb ob gb n d) => refSave_any rb ob gb n d B.life B.kround (capZ t : Nat) w hk hn hlt (by omega) hfu)
  unfold recV at HS
  rw [hDe] at HS
  clear hDe
  obtain ⟨d', er⟩ := D
  dsimp only at HS ⊢
  clear h k hne ho ht hlo hk hlt hw hfu hn
  go_enter Tryz.func44, Tryz.ntmps44
  obtain ⟨W0, hW0⟩ : ∃ W0, w = W0 := ⟨_, rfl⟩
  have hd : Below w.heap.size w W0 := by rw [← hW0]; exact Below.refl _ _
  have hal : Below w.heap.size w (W0.alloc (.cells #[.int .i64 (B.life : Int), .int .i64 (B.kround : Int), .int .i64 (B.ktag : Int)] 35)) := hd.alloc hd.size _
  have HX := Lib.hid (box3 W0 (.int .i64 (B.life : Int)) (.int .i64 (B.kround : Int)) (.int .i64 (B.ktag : Int)) 35)
  obtain ⟨⟨c0, c1, c2, c3, c4, c5⟩, _⟩ := (HR.out.below hd).cells
  subst hW0
  go_upto_region 11 with fail
  have hR2 := HR.out.below hal
  have hK2 := HK.out.below hal
  generalize hgx : World.alloc w _ = W1 at *
  obtain ⟨g, hg⟩ : ∃ g, w.heap.size = g := ⟨_, rfl⟩
  rw [hg] at HX
  (try rw [hg])
  have HG : Hid (g ≠ bb ∧ g ≠ rb ∧ g ≠ gb) := by
    have h1 := hd.size; have h2 := HR.out.lt; have h3 := HK.out.lt
    exact ⟨by omega, by omega, by omega⟩
  have HGE : Hid (w.heap.size ≤ g) := by have h1 := hd.size; show w.heap.size ≤ g; omega
  clear hgx hg hd
  have hx := HX.out
  obtain ⟨y0, y1, y2, z0, z1, z2⟩ := blk3 hx
  clear hx
  go_wp2_with fail
  refine (HLS.out _).mono ?_
  rintro e w2 ⟨rfl, rfl⟩
  go_wp2_with fail
  have hx2 := blk_store HX.out 2 (.int .i64 (capZ t : Nat))
  have HK3 := Lib.hid (hK2.setOther (bb := g) (i := 2) (.int .i64 (capZ t : Nat)) HG.out.2.1 HG.out.2.2)
  have HR3 := Lib.hid (hR2.heap (Below.heap_setCell W1 ⟨g, 2, none⟩ (.int .i64 (capZ t : Nat)) bb (fun e => HG.out.1 e.symm)))
  have HC3 := Lib.hid (ChB.ofBelow hal bb o rb ob gb)
  have HL3 : Hid (ChB w (W1.setCell ⟨g, 2, none⟩ (.int .i64 (capZ t : Nat))) bb o rb ob gb) := by
    have hh := hal.setCell (p := ⟨g, 2, none⟩) (by show w.heap.size ≤ g; exact HGE.out) (.int .i64 (capZ t : Nat))
    exact ChB.ofBelow hh bb o rb ob gb
  have HX2 := Lib.hid hx2
  clear hx2 hK2 hR2 hal c0 c1 c2 c3 c4 c5
  refine (HS.out _ HK3.out).mono ?_
  rintro e w4 ⟨rfl, hK4, hC4⟩
  have hR4 := HR3.out.heap (hC4.other bb HR3.out.lt HN.out.1 HN.out.2)
  have hx4 := hC4.blk HX2.out HG.out.2.1 HG.out.2.2
  have hL4 := HL3.out.trans (ChB.ofChg hC4 HN.out.1 HN.out.2)
  have HK4 := Lib.hid hK4
  have HR4 := Lib.hid hR4
  have HX4 := Lib.hid hx4
  have HL4 := Lib.hid hL4
  clear hK4 hR4 hx4 hL4 hC4 HC3 HX2 HK3 HR3 HL3 HS HLS y0 y1 y2 z0 z1 z2
  by_cases her : er = 0
  · subst her
    obtain ⟨y0, y1, y2, z0, z1, z2⟩ := blk3 HX4.out
    obtain ⟨⟨c0, c1, c2, c3, c4, c5⟩, ⟨f0, f1, f2, f3, f4, f5⟩⟩ := HR4.out.cells
    go_wp2_with fail
    go_ret
    have hq := (HR4.out.rec3 B.kround (capZ t)).tag t
    exact ⟨fun _ => ⟨rfl, hq, (((HK4.out.setOther _ HN.out.1 HN.out.2).setOther _ HN.out.1 HN.out.2).setOther _ HN.out.1 HN.out.2).setOther _ HN.out.1 HN.out.2⟩, fun h => absurd rfl h, (HL4.out.rec3 HN.out.1 _ _ _).set HN.out.1 5 _ (by decide)⟩
  · have hne : (er != 0) = true := by simpa using her
    have HER := Lib.hid her
    clear her
    go_wp2_with fail
    go_ret
    exact ⟨fun h => absurd h HER.out, fun _ => ⟨rfl, HR4.out, HK4.out⟩, HL4.out⟩
end Go.Proofs.YtbjlnlgknegbnaaGreatDoor
