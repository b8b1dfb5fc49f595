/- Walks: Raise. -/
import Derived.Test.YthkppkecclnlnaaNext
namespace Go.Proofs.Ythkppkecclnlnaa
set_option linter.unusedVariables false
set_option linter.unusedSimpArgs false
open Go.RowKit

set_option maxRecDepth 100000 in
set_option maxHeartbeats 1000000 in
theorem raise_low (b c : Nat) (B : Bt) (d : Dk) (t : Nat) (w : World) (h : BtAt w b c B d) (ho : d.off = false) (ht : t ≤ 1048576) (hlo : t ≤ B.tag) :
    Calls Try.prog 53 #[.pointer (some ⟨b, 0, none⟩), .int .i64 (t : Int)] w fun e w' => e = .returned (.int .i64 0) ∧ Below w.heap.size w w' := by
  have hal : Below w.heap.size w (w.alloc (.cells #[.int .i64 (t : Int)] 3)) := (Below.refl _ w).alloc (Nat.le_refl _) _
  have ht0 := blk_new w (.cells #[.int .i64 (t : Int)] 3)
  have HO := Lib.hid (bon_any b c B d _ (h.below hal))
  rw [ho] at HO
  have h0 := h.below hal
  have hn : ¬ (t : Int) < 0 := by omega
  have hn2 : ¬ 1048576 < (t : Int) := by omega
  have hl : (t : Int) ≤ (B.tag : Int) := by omega
  have hl2 : decide ((t : Int) ≤ (B.tag : Int)) = true := by simpa using hl
  clear h ht hlo
  go_enter Try.func53, Try.ntmps53
  go_wp2_with fail
  refine HO.out.mono ?_
  rintro e w1 ⟨rfl, hB1⟩
  have ht1 := blk_below' hB1 ht0
  have h1 := h0.below hB1
  have hb1 := below_then hal hB1
  have y0 := (blk_cell ht1 0).trans rfl
  simp at y0
  obtain ⟨⟨c0, c1, c2, c3, c4, c5⟩, _⟩ := h1.boot.cells
  go_wp2_with fail
  go_quiet (fail)
  go_wp2_with fail
  go_ret
  exact ⟨rfl, below_drewN hb1 nq⟩
set_option maxRecDepth 100000 in
set_option maxHeartbeats 1000000 in
theorem raise_covered (b c : Nat) (B : Bt) (d : Dk) (t : Nat) (w : World) (h : BtAt w b c B d) (ho : d.off = false) (ht : t ≤ 1048576) (hlo : B.tag < t) (hk : t ≤ B.ktag) :
    Calls Try.prog 53 #[.pointer (some ⟨b, 0, none⟩), .int .i64 (t : Int)] w fun e w' => e = .returned (.int .i64 0) ∧ BtAt w' b c { B with tag := t } d ∧ Ch2 w w' b c := by
  have hal : Below w.heap.size w (w.alloc (.cells #[.int .i64 (t : Int)] 3)) := (Below.refl _ w).alloc (Nat.le_refl _) _
  have ht0 := blk_new w (.cells #[.int .i64 (t : Int)] 3)
  have HO := Lib.hid (bon_any b c B d _ (h.below hal))
  rw [ho] at HO
  have h0 := h.below hal
  have hn : ¬ (t : Int) < 0 := by omega
  have hn2 : ¬ 1048576 < (t : Int) := by omega
  have hl2 : decide (t ≤ B.tag) = false := by simp; omega
  have HC := Lib.hid (fun w => covers_any B t w)
  rw [decide_eq_true hk] at HC
  unfold resV at HC
  have hbs := blk_lt h.boot
  have hcs := h.disk.lt
  clear h ht hlo hk
  go_enter Try.func53, Try.ntmps53
  go_wp2_with fail
  refine HO.out.mono ?_
  rintro e w1 ⟨rfl, hB1⟩
  have ht1 := blk_below' hB1 ht0
  have h1 := h0.below hB1
  have hb1 := below_then hal hB1
  have y0 := (blk_cell ht1 0).trans rfl
  simp at y0
  obtain ⟨⟨c0, c1, c2, c3, c4, c5⟩, _⟩ := h1.boot.cells
  go_wp2_with fail
  go_quiet (fail)
  have ht2 : (w1.drewN nq).heap[w.heap.size]? = some (.cells #[.int .i64 (t : Int)] 3 (0, 0)) := ht1
  have h2 : BtAt (w1.drewN nq) b c B d := ⟨h1.boot, h1.disk, h1.ne⟩
  have hb2 := below_drewN hb1 nq
  generalize w1.drewN nq = W2 at *
  clear c0 c1 c2 c3 c4 c5 y0 ht1 h1 hb1
  have y0 := (blk_cell ht2 0).trans rfl
  simp at y0
  obtain ⟨⟨c0, c1, c2, c3, c4, c5⟩, _⟩ := h2.boot.cells
  go_wp2_with fail
  refine wp_region_still_tail 5 (by kernel_rfl) (by kernel_rfl) ?_
  simp only [List.take_succ_cons, List.take_zero, List.drop_succ_cons, List.drop_zero]
  repeat still_step
  try refine wpStill_nil ?_
  change wpList _ _ _ _ _ (World.drew _)
  have ht2 : W2.drew.heap[w.heap.size]? = some (.cells #[.int .i64 (t : Int)] 3 (0, 0)) := ht2
  have h2 : BtAt W2.drew b c B d := ⟨h2.boot, h2.disk, h2.ne⟩
  have hb2 := hb2.drew
  generalize W2.drew = W3 at *
  clear c0 c1 c2 c3 c4 c5 y0
  go_wp2_with (go_at_call 77; refine (HC.out _).mono ?_; rintro e w3 ⟨rfl, hB3⟩; have h3 := h2.below hB3; have hb3 := below_then hb2 hB3; have z0 := (blk_cell (blk_below' hB3 ht2) 0).trans rfl; simp at z0; obtain ⟨⟨d0, d1, d2, d3, d4, d5⟩, ⟨f0, f1, f2, f3, f4⟩⟩ := h3.boot.cells)
  go_ret
  exact ⟨rfl, h3.setTag t, (Ch2.below hb3 b c).then (Ch2.one (but_set (but_refl _ _) (blk_lt h3.boot) _ _) c)⟩
set_option maxRecDepth 100000 in
set_option maxHeartbeats 1000000 in
theorem raise_save (b c : Nat) (B : Bt) (d : Dk) (t : Nat) (w : World) (h : BtAt w b c B d) (ho : d.off = false) (ht : t ≤ 1048576) (hlo : B.tag < t) (hk : ¬ t ≤ B.ktag) (hlt : ∀ c ∈ d.bs, c < 256) (hw : d.writes ≤ 4611686018427387903) (hfu : d.fuse ≤ 9223372036854775807) :
    Calls Try.prog 53 #[.pointer (some ⟨b, 0, none⟩), .int .i64 (t : Int)] w fun e w' =>
      SavePost w b c { B with ktag := capZ t, tag := t } B (.int .i64 0) (.int .i64 (saveW d B.life B.kround (capZ t : Nat)).2) (saveW d B.life B.kround (capZ t : Nat)) e w' := by
  obtain ⟨D, hDe⟩ : ∃ D, saveW d B.life B.kround (capZ t : Nat) = D := ⟨_, rfl⟩
  rw [hDe]
  have HDE := Lib.hid hDe
  clear hDe
  have hal : Below w.heap.size w (w.alloc (.cells #[.int .i64 (t : Int)] 3)) := (Below.refl _ w).alloc (Nat.le_refl _) _
  have ht0 := blk_new w (.cells #[.int .i64 (t : Int)] 3)
  have HO := Lib.hid (bon_any b c B d _ (h.below hal))
  rw [ho] at HO
  have h0 := h.below hal
  have hn : ¬ (t : Int) < 0 := by omega
  have hn2 : ¬ 1048576 < (t : Int) := by omega
  have hl2 : decide (t ≤ B.tag) = false := by simp; omega
  have HC := Lib.hid (fun w => covers_any B t w)
  rw [decide_eq_false hk] at HC
  unfold resV at HC
  have hbs := blk_lt h.boot
  have hcs := h.disk.lt
  have HSZ := Lib.hid (And.intro hlt (And.intro hw (And.intro hfu ht)))
  have hmf : ∀ (fn : Fn) (first cap : Array Value) (w : World), (Instr.makeFunc fn first cap).run Try.prog w = .ok (.func fn first cap) w := fun _ _ _ _ => rfl
  clear h ht hlo hk hlt hw hfu
  go_enter Try.func53, Try.ntmps53
  go_wp2_with fail
  refine HO.out.mono ?_
  rintro e w1 ⟨rfl, hB1⟩
  have ht1 := blk_below' hB1 ht0
  have h1 := h0.below hB1
  have hb1 := below_then hal hB1
  have y0 := (blk_cell ht1 0).trans rfl
  simp at y0
  obtain ⟨⟨c0, c1, c2, c3, c4, c5⟩, _⟩ := h1.boot.cells
  go_wp2_with fail
  go_quiet (fail)
  have ht2 : (w1.drewN nq).heap[w.heap.size]? = some (.cells #[.int .i64 (t : Int)] 3 (0, 0)) := ht1
  have h2 : BtAt (w1.drewN nq) b c B d := ⟨h1.boot, h1.disk, h1.ne⟩
  have hb2 := below_drewN hb1 nq
  generalize w1.drewN nq = W2 at *
  clear c0 c1 c2 c3 c4 c5 y0 ht1 h1 hb1
  have y0 := (blk_cell ht2 0).trans rfl
  simp at y0
  obtain ⟨⟨c0, c1, c2, c3, c4, c5⟩, _⟩ := h2.boot.cells
  go_wp2_with fail
  refine wp_region_still_tail 5 (by kernel_rfl) (by kernel_rfl) ?_
  simp only [List.take_succ_cons, List.take_zero, List.drop_succ_cons, List.drop_zero]
  repeat still_step
  try refine wpStill_nil ?_
  change wpList _ _ _ _ _ (World.drew _)
  have ht2 : W2.drew.heap[w.heap.size]? = some (.cells #[.int .i64 (t : Int)] 3 (0, 0)) := ht2
  have h2 : BtAt W2.drew b c B d := ⟨h2.boot, h2.disk, h2.ne⟩
  have hb2 := hb2.drew
  generalize W2.drew = W3 at *
  clear c0 c1 c2 c3 c4 c5 y0
  go_wp2_with (go_at_call 77; refine (HC.out _).mono ?_; rintro e w3 ⟨rfl, hB3⟩; have h3 := h2.below hB3; have hb3 := below_then hb2 hB3; have ht3 := blk_below' hB3 ht2)
  have HSV := Lib.hid (save_raise b c B d w.heap.size t w3 h3 ht3 HSZ.out.2.2.2 HSZ.out.1 HSZ.out.2.1 HSZ.out.2.2.1)
  rw [HDE.out] at HSV
  obtain ⟨d', er⟩ := D
  simp only at HSV
  refine HSV.out.mono ?_
  rintro e w4 ⟨rfl, hT4, hC4⟩
  have hc4 := (Ch2.below hb3 b c).then hC4
  have hcl := h3.disk.lt
  by_cases her : er = 0
  · subst her
    rw [svB_ok] at hT4
    have ht4 := hC4.blk ht3 (by omega) (by omega)
    have z0 := (blk_cell ht4 0).trans rfl
    simp at z0
    obtain ⟨⟨d0, d1, d2, d3, d4, d5⟩, ⟨f0, f1, f2, f3, f4⟩⟩ := hT4.boot.cells
    have hbl4 := blk_lt hT4.boot
    go_wp2_with fail
    go_ret
    exact ⟨fun _ => ⟨rfl, hT4.setTag t⟩, fun h => absurd rfl h, hc4.then (Ch2.one (but_set (but_refl _ _) hbl4 _ _) c)⟩
  · have hne : (er != 0) = true := by simpa using her
    rw [svB_no _ _ _ _ her] at hT4
    have HER := Lib.hid her
    clear her
    go_wp2_with fail
    go_ret
    exact ⟨fun h => absurd h HER.out, fun _ => ⟨rfl, hT4⟩, hc4⟩
end Go.Proofs.Ythkppkecclnlnaa
