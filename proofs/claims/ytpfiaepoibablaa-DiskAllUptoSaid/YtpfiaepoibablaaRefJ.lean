/- Walk: the document's Of. -/
import Derived.Test.YtpfiaepoibablaaRefF
namespace Go.Proofs.Ytpfiaepoibablaa
set_option linter.unusedVariables false
set_option linter.unusedSimpArgs false
open Go.RowKit

theorem refOf_end {w W : World} {a : Act} {c : Int} (hd : a.defers = []) (h2 : a.tmps[2]?.getD undef = .pointer (some ⟨w.heap.size, 0, none⟩)) (h3 : a.tmps[3]?.getD undef = .int .i64 c) (x0 x1 x2 x3 : Value)
    (hb : W.heap[w.heap.size]? = some (.cells #[x0, x1, x2, x3] 44 (0, 0))) (Q : Ending → World → Prop) (hQ : Q (.returned (.tuple #[.agg #[x0, x1, x2, x3], .int .i64 c])) W) :
    bodyPost Try.prog Try.f8 Q Exit.ret a W := by
  have y0 := blk_cell hb 0
  have y1 := blk_cell hb 1
  have y2 := blk_cell hb 2
  have y3 := blk_cell hb 3
  simp at y0 y1 y2 y3
  refine bodyPost_ret (v := .tuple #[.agg #[x0, x1, x2, x3], .int .i64 c]) ?_ hd hQ
  simp [results, Try.results8, go_sem, h2, h3, y0, y1, y2, y3]
theorem blk4' {W : World} {g : Nat} {a b c d : Value} {t : TypeId} (h : W.heap[g]? = some (.cells #[a, b, c, d] t (0, 0))) :
    (W.cell? ⟨g, 0, none⟩ = some a ∧ W.cell? ⟨g, 1, none⟩ = some b ∧ W.cell? ⟨g, 2, none⟩ = some c ∧ W.cell? ⟨g, 3, none⟩ = some d) ∧ (W.frozen? ⟨g, 0, none⟩ = false ∧ W.frozen? ⟨g, 1, none⟩ = false ∧ W.frozen? ⟨g, 2, none⟩ = false ∧ W.frozen? ⟨g, 3, none⟩ = false) :=
  ⟨⟨blk_cell h 0, blk_cell h 1, blk_cell h 2, blk_cell h 3⟩, ⟨blk_free h 0, blk_free h 1, blk_free h 2, blk_free h 3⟩⟩
def rkZero : Value := .agg #[.slice none 0 0, .bool false, .int .i64 0, .int .i64 0]
set_option maxRecDepth 100000 in
set_option maxHeartbeats 1000000 in
theorem refOf_short (a : Option Addr) (n c : Nat) (w : World) (hn : n ≠ 256) : Calls Try.prog 8 #[.slice a n c] w fun e w' => e = .returned (.tuple #[rkZero, .int .i64 102]) ∧ Below w.heap.size w w' := by
  have hne : ((n : Int) != 256) = true := by simp; omega
  clear hn
  go_enter Try.func8, Try.ntmps8
  go_wp2_with fail
  refine refOf_end rfl rfl rfl _ _ _ _ (blk_new w _) _ ⟨rfl, (Below.refl _ _).alloc (Nat.le_refl _) _⟩
set_option maxRecDepth 100000 in
set_option maxHeartbeats 1000000 in
theorem refOf_any (p : Addr) (c : Nat) (l : List Nat) (w : World) (hl : l.length = 256) (hp : p.block < w.heap.size) (hr : ∀ j x : Nat, l[j]? = some x → w.cell? (p.add j) = some (.int .u8 (x : Int))) :
    Calls Try.prog 8 #[.slice (some p) 256 c] w fun e w' => ∃ v, e = .returned (.tuple #[v, .int .i64 0]) ∧ RkV w w' v { Dk.new with bs := l } ∧ Below w.heap.size w w' := by
  have hb0 := (Below.refl w.heap.size w).alloc (Nat.le_refl _) (.cells #[.slice none 0 0, .bool false, .int .i64 0, .int .i64 0] 44)
  have hk0 := blk_new w (.cells #[.slice none 0 0, .bool false, .int .i64 0, .int .i64 0] 44)
  go_enter Try.func8, Try.ntmps8
  go_wp2_with fail
  refine (refNew_any _).mono ?_
  rintro e w1 ⟨v, rfl, ⟨g, n, rest, rfl, hn, hg, hcs, hcl⟩, hB1⟩
  have hb1 := below_then hb0 hB1
  have hk1 := blk_below' hB1 hk0
  have hwg : w.heap.size < g := by simp at hg; omega
  have hg1 := blk_lt hcs
  have hv : rkV g n Dk.new = .agg #[.slice (some ⟨g, 0, none⟩) 256 n, .bool false, .int .i64 (-1), .int .i64 0] := rfl
  rw [hv]
  have hcs2 := blk_old hcs (.cells #[.slice (some ⟨g, 0, none⟩) 256 n, .bool false, .int .i64 (-1), .int .i64 0] 44)
  have hk2 := blk_old hk1 (.cells #[.slice (some ⟨g, 0, none⟩) 256 n, .bool false, .int .i64 (-1), .int .i64 0] 44)
  have hm2 := blk_new w1 (.cells #[.slice (some ⟨g, 0, none⟩) 256 n, .bool false, .int .i64 (-1), .int .i64 0] 44)
  have hb2 := hb1.alloc hb1.size (.cells #[.slice (some ⟨g, 0, none⟩) 256 n, .bool false, .int .i64 (-1), .int .i64 0] 44)
  obtain ⟨W2, hW2⟩ : ∃ W2, w1.alloc (.cells #[.slice (some ⟨g, 0, none⟩) 256 n, .bool false, .int .i64 (-1), .int .i64 0] 44) = W2 := ⟨_, rfl⟩
  have HW2 := Lib.hid hW2
  rw [hW2] at hcs2 hk2 hm2 hb2
  have hs1 : w.heap.size < w1.heap.size := blk_lt hk1
  have HR := Lib.hid (show ∀ j u, (bC l)[j]? = some u → W2.cell? (p.add j) = some u from fun j u hu => by
    rw [bC_get] at hu
    obtain ⟨x, hx, rfl⟩ := Option.map_eq_some_iff.1 hu
    exact (hb2.cell (show (p.add j).block < w.heap.size by rw [add_block]; exact hp)).trans (hr j x hx))
  have HL := Lib.hid hl
  have hne : ¬ g = w1.heap.size := by omega
  clear hW2 hb0 hk0 hb1 hk1 hB1 hcs hr hl hp hv
  go_upto_region 4 with fail
  rw [HW2.out]
  clear HW2
  obtain ⟨⟨y0, y1, y2, y3⟩, ⟨g0, g1, g2, g3⟩⟩ := blk4' hm2
  have HC := Lib.hid hcs2
  have hcs3 := setRow_heap W2 g _ (((bC Dk.new.bs ++ rest).toArray).toList.take 0 ++ (bC l ++ ((bC Dk.new.bs ++ rest).toArray).toList.drop (0 + (bC l).length))).toArray _ _ hcs2
  have hgr := but_setRow (but_refl W2 (some g)) (((bC Dk.new.bs ++ rest).toArray).toList.take 0 ++ (bC l ++ ((bC Dk.new.bs ++ rest).toArray).toList.drop (0 + (bC l).length))).toArray
  obtain ⟨W3, hW3⟩ : ∃ W3, W2.setRow g (((bC Dk.new.bs ++ rest).toArray).toList.take 0 ++ (bC l ++ ((bC Dk.new.bs ++ rest).toArray).toList.drop (0 + (bC l).length))).toArray = W3 := ⟨_, rfl⟩
  rw [hW3] at hcs3 hgr
  have hk3 := blk_grown hgr hk2 (by simp; omega)
  have hm3 := blk_grown hgr hm2 (by simp; omega)
  have hb3 := hb2.grown hgr hb2.size (fun j h => by cases h; omega)
  have HW3 := Lib.hid hW3
  have HC3 := Lib.hid hcs3
  have HB3 := Lib.hid hb3
  clear hW3 hgr hcs2 hcs3 hb2 hb3 hk2 hm2
  go_wp2_with (refine wpList_copy_own rfl _ _ 22 22 rfl 5 Try.underlying22 (by kernel_rfl) g 0 256 n p 256 c rfl rfl (bC Dk.new.bs ++ rest).toArray 5 HC.out (bC l) (by rw [bC_len, HL.out]; rfl) HR.out (by rw [bC_len, HL.out]; simp [bC_len, hcl]) (bC_one l) ?_; rw [HW3.out]; clear y0 y1 y2 y3 g0 g1 g2 g3; obtain ⟨⟨y0, y1, y2, y3⟩, ⟨g0, g1, g2, g3⟩⟩ := blk4' hm3; obtain ⟨⟨x0, x1, x2, x3⟩, ⟨f0, f1, f2, f3⟩⟩ := blk4' hk3)
  generalize hWF : World.setCell (World.setCell (World.setCell (World.setCell _ _ _) _ _) _ _) _ _ = WF
  have hfin : (((bC Dk.new.bs ++ rest).toArray).toList.take 0 ++ (bC l ++ ((bC Dk.new.bs ++ rest).toArray).toList.drop (0 + (bC l).length))).toArray = (bC l ++ rest).toArray := by
    rw [bC_len, HL.out, List.take_zero, List.nil_append, List.toList_toArray, Nat.zero_add, List.drop_append, List.drop_of_length_le (by rw [bC_len, hcl]; exact Nat.le_refl _), List.nil_append, bC_len, hcl]
    rfl
  refine refOf_end rfl rfl rfl (.slice (some ⟨g, 0, none⟩) 256 n) (.bool false) (.int .i64 (-1)) (.int .i64 0) ?_ _ ⟨_, rfl, ⟨g, n, rest, rfl, hn, by omega, ?_, HL.out⟩, ?_⟩
  · rw [← hWF]; exact blk_store (blk_store (blk_store (blk_store hk3 0 _) 1 _) 2 _) 3 _
  · rw [← hWF]
    have h4 := HC3.out
    rw [hfin] at h4
    exact blk_set (blk_set (blk_set (blk_set h4 _ _ (by simp; omega)) _ _ (by simp; omega)) _ _ (by simp; omega)) _ _ (by simp; omega)
  · rw [← hWF]; exact (((HB3.out.setCell (Nat.le_refl _) _).setCell (Nat.le_refl _) _).setCell (Nat.le_refl _) _).setCell (Nat.le_refl _) _
end Go.Proofs.Ytpfiaepoibablaa
