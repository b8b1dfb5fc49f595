/- Walk: the document's Load. -/
import Derived.Test.YthkppkecclnlnaaRefG
namespace Go.Proofs.Ythkppkecclnlnaa
set_option linter.unusedVariables false
set_option linter.unusedSimpArgs false
open Go.RowKit

theorem refLoad_end {w W : World} {A : Value} {a : Act} {x y z i c : Int} (hd : a.defers = []) (h2 : a.tmps[2]?.getD undef = .pointer (some ⟨w.heap.size, 0, none⟩)) (h3 : a.tmps[3]?.getD undef = .int .i64 i) (h4 : a.tmps[4]?.getD undef = .int .i64 c)
    (hb : W.heap[w.heap.size]? = some (.cells #[.int .i64 x, .int .i64 y, .int .i64 z] 47 (0, 0))) (hl : Below w.heap.size w W)
    (he : .tuple #[.agg #[.int .i64 x, .int .i64 y, .int .i64 z], .int .i64 i, .int .i64 c] = A) :
    bodyPost Try.prog Try.f44 (fun e w' => e = .returned A ∧ Below w.heap.size w w') Exit.ret a W := by
  obtain ⟨y0, y1, y2, _⟩ := blk3 hb
  refine bodyPost_ret (v := .tuple #[.agg #[.int .i64 x, .int .i64 y, .int .i64 z], .int .i64 i, .int .i64 c]) ?_ hd ⟨by rw [he], hl⟩
  simp [results, Try.results44, go_sem, h2, h3, h4, y0, y1, y2]
set_option maxRecDepth 100000 in
set_option maxHeartbeats 2000000 in
theorem refLoad_any (rb o gb n : Nat) (d : Dk) (w : World) (h : Rk w rb o gb n d) (hn : 256 ≤ n) (hlt : ∀ c ∈ d.bs, c < 256) :
    Calls Try.prog 44 #[.pointer (some ⟨rb, o, none⟩)] w fun e w' => e = .returned (loadA d) ∧ Below w.heap.size w w' := by
  obtain ⟨A, hA⟩ : ∃ A, loadA d = A := ⟨_, rfl⟩
  rw [hA]
  unfold loadA at hA
  have hb0 : Below w.heap.size w (w.alloc (.cells #[.int .i64 0, .int .i64 0, .int .i64 0] 47)) := (Below.refl _ w).alloc (Nat.le_refl _) _
  have hr0 := box3 w (.int .i64 0) (.int .i64 0) (.int .i64 0) 47
  have h0 := h.below hb0
  have hwl := Lib.hid h.lt
  obtain ⟨W0, hW0⟩ : ∃ W0, w.alloc (.cells #[.int .i64 0, .int .i64 0, .int .i64 0] 47) = W0 := ⟨_, rfl⟩
  have HL := Lib.hid (refFound_any rb o gb n d _ h0 hn hlt)
  unfold fndA recV at HL
  go_enter Try.func44, Try.ntmps44
  go_upto_region 1 with fail
  rw [hW0] at h0 hb0 hr0 HL
  (try rw [hW0])
  clear h hW0
  obtain ⟨c0, c1, c2, c3⟩ := h0.cells
  obtain ⟨z0, z1, z2, g0, g1, g2⟩ := blk3 hr0
  cases ho : d.off with
  | true =>
    rw [ho] at c1 hA
    have HA := Lib.hid hA
    clear hA
    go_wp2_with fail
    generalize hWF : World.setCell (World.setCell (World.setCell _ _ _) _ _) _ _ = WF
    refine refLoad_end (x := 0) (y := 0) (z := 0) (i := 0) (c := 100) rfl rfl rfl rfl ?_ ?_ HA.out
    · rw [← hWF]; exact blk_store (blk_store (blk_store hr0 0 _) 1 _) 2 _
    · rw [← hWF]; exact (((hb0).setCell (Nat.le_refl _) _).setCell (Nat.le_refl _) _).setCell (Nat.le_refl _) _
  | false =>
    rw [ho] at c1 hA
    simp only [Bool.false_eq_true, if_false] at hA
    generalize bestL d.bs = B at *
    obtain ⟨r, i⟩ := B
    dsimp only at HL hA
    go_wp2_with fail
    refine HL.out.mono ?_
    rintro e w1 ⟨rfl, hB1⟩
    have hb1 := below_then hb0 hB1
    have hr1 := blk_below' hB1 hr0
    have hs1 := blk_lt hr1
    clear hb0 hr0 hB1 c0 c1 c2 c3 h0 z0 z1 z2 g0 g1 g2 HL
    have hq1 := blk_old hr1 (.cells #[.int .i64 (r.life : Int), .int .i64 (r.round : Int), .int .i64 (r.tag : Int)] 47)
    have hp1 := box3 w1 (.int .i64 (r.life : Int)) (.int .i64 (r.round : Int)) (.int .i64 (r.tag : Int)) 47
    have hb2 := hb1.alloc hb1.size (.cells #[.int .i64 (r.life : Int), .int .i64 (r.round : Int), .int .i64 (r.tag : Int)] 47)
    go_upto_region 4 with fail
    generalize World.alloc w1 _ = W2 at *
    obtain ⟨z0, z1, z2, g0, g1, g2⟩ := blk3 hq1
    obtain ⟨y0, y1, y2, f0, f1, f2⟩ := blk3 hp1
    have HQ := Lib.hid hq1
    have HB := Lib.hid hb2
    clear hq1 hb2 hr1 hb1 hp1
    by_cases hi : i < 0
    · rw [if_pos hi] at hA
      have HA := Lib.hid hA
      clear hA
      go_wp2_with fail
      generalize hWF : World.setCell (World.setCell (World.setCell _ _ _) _ _) _ _ = WF
      refine refLoad_end (x := 0) (y := 0) (z := 0) (i := 0) (c := 40) rfl rfl rfl rfl ?_ ?_ HA.out
      · rw [← hWF]; exact blk_store (blk_store (blk_store HQ.out 0 _) 1 _) 2 _
      · rw [← hWF]; exact (((HB.out).setCell (Nat.le_refl _) _).setCell (Nat.le_refl _) _).setCell (Nat.le_refl _) _
    · rw [if_neg hi] at hA
      have HA := Lib.hid hA
      clear hA
      go_wp2_with fail
      generalize hWF : World.setCell (World.setCell (World.setCell _ _ _) _ _) _ _ = WF
      refine refLoad_end (x := (r.life : Int)) (y := (r.round : Int)) (z := (r.tag : Int)) (i := (r.seq : Int)) (c := 0) rfl rfl rfl rfl ?_ ?_ HA.out
      · rw [← hWF]; exact blk_store (blk_store (blk_store HQ.out 0 _) 1 _) 2 _
      · rw [← hWF]; exact (((HB.out).setCell (Nat.le_refl _) _).setCell (Nat.le_refl _) _).setCell (Nat.le_refl _) _
end Go.Proofs.Ythkppkecclnlnaa
