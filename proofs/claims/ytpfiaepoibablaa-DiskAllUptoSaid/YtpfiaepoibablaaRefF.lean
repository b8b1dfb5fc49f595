/- Walks: the document's New, Of, Set. -/
import Derived.Test.YtpfiaepoibablaaRefE
import Derived.Laws.CopyOwn
namespace Go.Proofs.Ytpfiaepoibablaa
set_option linter.unusedVariables false
set_option linter.unusedSimpArgs false
open Go.RowKit

theorem make256 (w : World) : (Instr.makeSlice 22 (.int .i64 256) (.int .i64 256)).run Try.prog w = .ok (.slice (some ⟨w.heap.size, 0, none⟩) 256 256) (w.alloc (.cells (bC (List.replicate 256 0)).toArray 5)) := by
  have := run_make_row' 22 5 (.int .u8 0) 1 Try.underlying22 Try.infoByte rfl .i64 .i64 256 (by decide) (by decide) w
  rwa [made_bytes] at this
theorem make256' : ∃ Z, Hid (Z = (bC (List.replicate 256 0)).toArray) ∧ ∀ w : World, (Instr.makeSlice 22 (.int .i64 256) (.int .i64 256)).run Try.prog w = .ok (.slice (some ⟨w.heap.size, 0, none⟩) 256 256) (w.alloc (.cells Z 5)) := ⟨_, rfl, make256⟩
theorem Rk.heap {W X : World} {rb o gb n : Nat} {d : Dk} (h : Rk W rb o gb n d) (e1 : X.heap[rb]? = W.heap[rb]?) (e2 : X.heap[gb]? = W.heap[gb]?) : Rk X rb o gb n d := by
  obtain ⟨⟨cs, t, h1, h3⟩, ⟨r, h2⟩, h4, h5⟩ := h
  exact ⟨⟨cs, t, e1.trans h1, h3⟩, ⟨r, e2.trans h2⟩, h4, h5⟩
theorem Rk.twice {W : World} {rb o gb n i : Nat} {d d' : Dk} {u v : Value} (h : Rk W rb o gb n d) (k : Rk (W.setCell ⟨rb, o + i, none⟩ v) rb o gb n d') : Rk ((W.setCell ⟨rb, o + i, none⟩ u).setCell ⟨rb, o + i, none⟩ v) rb o gb n d' := by
  obtain ⟨⟨cs, t, h1, h3⟩, ⟨r, h2⟩, h4, h5⟩ := h
  refine k.heap ?_ ?_
  · rw [blk_store (blk_store h1 _ _) _ _, blk_store h1 _ _]; simp
  · rw [blk_set (blk_set h2 _ _ (fun e => h5 e.symm)) _ _ (fun e => h5 e.symm), blk_set h2 _ _ (fun e => h5 e.symm)]
def rkV (gb n : Nat) (d : Dk) : Value := .agg (rkC gb n d).toArray
/-- A disk as a value: its bytes in a block of their own. -/
def RkV (w W : World) (v : Value) (d : Dk) : Prop := ∃ g n rest, v = rkV g n d ∧ 256 ≤ n ∧ w.heap.size ≤ g ∧ W.heap[g]? = some (.cells (bC d.bs ++ rest).toArray 5 (0, 0)) ∧ d.bs.length = 256
theorem disk_end {w W : World} {a : Act} (hd : a.defers = []) (h2 : a.tmps[0]?.getD undef = .pointer (some ⟨w.heap.size, 0, none⟩)) (x0 x1 x2 x3 : Value)
    (hb : W.heap[w.heap.size]? = some (.cells #[x0, x1, x2, x3] 44 (0, 0))) (Q : Ending → World → Prop) (hQ : Q (.returned (.agg #[x0, x1, x2, x3])) W) :
    bodyPost Try.prog Try.f9 Q Exit.ret a W := by
  have y0 := blk_cell hb 0
  have y1 := blk_cell hb 1
  have y2 := blk_cell hb 2
  have y3 := blk_cell hb 3
  simp at y0 y1 y2 y3
  refine bodyPost_ret (v := .agg #[x0, x1, x2, x3]) ?_ hd hQ
  simp [results, Try.results9, go_sem, h2, y0, y1, y2, y3]
set_option maxRecDepth 100000 in
set_option maxHeartbeats 1000000 in
theorem refNew_any (w : World) : Calls Try.prog 9 #[] w fun e w' => ∃ v, e = .returned v ∧ RkV w w' v Dk.new ∧ Below w.heap.size w w' := by
  obtain ⟨Z, hZ, hM⟩ := make256'
  have hmk := hM (w.alloc (.cells #[.slice none 0 0, .bool false, .int .i64 0, .int .i64 0] 44))
  clear hM
  go_enter Try.func9, Try.ntmps9
  go_wp2_with fail
  generalize hWF : World.alloc (World.alloc _ _) _ = WF
  have hb : Below w.heap.size w WF := by rw [← hWF]; exact ((Below.refl w.heap.size w).alloc (Nat.le_refl _) _).alloc (by simp) _
  have h1 : WF.heap[w.heap.size]? = some (.cells #[.slice (some ⟨w.heap.size + 1, 0, none⟩) 256 256, .bool false, .int .i64 (-1), .int .i64 0] 44 (0, 0)) := by rw [← hWF]; exact blk_old (blk_new w _) _
  have h2 : WF.heap[w.heap.size + 1]? = some (.cells Z 5 (0, 0)) := by
    rw [← hWF]
    have := blk_new (w.alloc (.cells #[.slice (some ⟨w.heap.size + 1, 0, none⟩) 256 256, .bool false, .int .i64 (-1), .int .i64 0] 44)) (.cells Z 5)
    simpa using this
  refine disk_end rfl rfl _ _ _ _ h1 _ ⟨_, rfl, ⟨w.heap.size + 1, 256, [], rfl, Nat.le_refl _, by omega, ?_, List.length_replicate⟩, hb⟩
  rw [h2, hZ.out, List.append_nil]; rfl
set_option maxRecDepth 100000 in
set_option maxHeartbeats 1000000 in
theorem refSet_any (rb o gb n : Nat) (d : Dk) (k : Int) (w : World) (h : Rk w rb o gb n d) :
    Calls Try.prog 27 #[.pointer (some ⟨rb, o, none⟩), .int .i64 k] w fun e w' => e = .returned (.tuple #[]) ∧ Rk w' rb o gb n { d with fused := decide (0 ≤ k), fuse := k.toNat } ∧ Chg w w' rb o gb := by
  obtain ⟨c0, c1, c2, c3⟩ := h.cells
  obtain ⟨z0, z1, z2, z3⟩ := h.free
  have hh := Lib.hid h
  clear h
  by_cases hk : k < 0
  · have hd : ¬ 0 ≤ k := by omega
    go_enter Try.func27, Try.ntmps27
    go_wp2_with fail
    go_end0
    refine ⟨rfl, ?_, ?_⟩
    · refine hh.out.twice (i := 2) (hh.out.fuse (d' := { d with fused := decide (0 ≤ k), fuse := k.toNat }) (-1) ?_ ⟨rfl, rfl, rfl⟩)
      unfold fuZ
      rw [if_neg (by simpa using hd)]
    · exact ((Chg.refl _ _ _ _).set 2 _ (by decide) hh.out.lt.1).set 2 _ (by decide) hh.out.lt.1
  · have hd : 0 ≤ k := by omega
    go_enter Try.func27, Try.ntmps27
    go_wp2_with fail
    go_end0
    refine ⟨rfl, ?_, ?_⟩
    · exact hh.out.fuse k (by unfold fuZ; simp only [if_true]; exact Int.toNat_of_nonneg hd) ⟨rfl, rfl, rfl⟩
    · exact (Chg.refl _ _ _ _).set 2 _ (by decide) hh.out.lt.1
end Go.Proofs.Ytpfiaepoibablaa
