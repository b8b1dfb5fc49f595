/- Walk: alive of the laws of the slot. -/
import Derived.Test.YthkppkecclnlnaaGreatSlotN
namespace Go.Proofs.YthkppkecclnlnaaGreat
set_option linter.unusedVariables false
set_option linter.unusedSimpArgs false
open Go.RowKit

theorem loadA_none {d : Dk} (h : SlSt d.bs none) (ho : d.off = false) : loadA d = .tuple #[recV 0 0 0, .int .i64 0, .int .i64 40] := by
  unfold loadA; rw [ho, if_neg (by decide), h.best, if_pos (by decide)]
theorem loadA_some {d : Dk} {r : Rc} {a : Nat} (h : SlSt d.bs (some (r, a))) (ho : d.off = false) : loadA d = .tuple #[recV r.life r.round r.tag, .int .i64 r.seq, .int .i64 0] := by
  unfold loadA; rw [ho, if_neg (by decide), h.best, if_neg (by show ¬ (a : Int) < 0; omega)]; rfl
theorem loadA_off {d : Dk} (ho : d.off = true) : loadA d = .tuple #[recV 0 0 0, .int .i64 0, .int .i64 100] := by
  unfold loadA; rw [ho, if_pos rfl]
set_option maxRecDepth 100000 in
set_option maxHeartbeats 2000000 in
theorem alive11_any (w : World) : Calls Tryz.prog 4 #[] w fun e w' => e = .returned (.bool true) ∧ Below w.heap.size w w' := by
  have hlt0 : ∀ c ∈ Dk.new.bs, c < 256 := by decide +kernel
  have hs := (save_law (x := 1) (y := 16) (z := 4) slSt_new (by decide +kernel) rfl (by decide) (by decide)).resolve_right (fun h => by have := h.2.fused; cases this)
  have hlt1 := saveW_lt hlt0 1 16 4
  obtain ⟨D, hD⟩ : ∃ D, saveW Dk.new 1 16 4 = D := ⟨_, rfl⟩
  rw [hD] at hs hlt1
  obtain ⟨d1, er⟩ := D
  simp only at hs hlt1
  obtain ⟨h0, h1⟩ := hs
  subst h0
  have hload := loadA_some h1.slots h1.on
  have hwr : d1.writes = 2 := h1.writes
  go_enter Tryz.func4, Tryz.ntmps4
  have hn := loadA_none slSt_new rfl
  unfold recV at hn hload
  go_wp2_with (first
    | (go_at_call 14; refine (new_any _).mono ?_; rintro e w1 ⟨rfl, hD1, hB1⟩)
    | (go_at_call 15; refine (load_any _ _ w1 hD1 hlt0).mono ?_; rintro e w2 ⟨rfl, hB2⟩; rw [hn]; have hD2 := (hD1.below hB2).below ((Below.refl _ w2).alloc (Nat.le_refl _) (.cells #[.int .i64 0, .int .i64 0, .int .i64 0] 23)); have hb2 := (below_then hB1 hB2).alloc (below_then hB1 hB2).size (.cells #[.int .i64 0, .int .i64 0, .int .i64 0] 23))
    | (go_at_call 16; refine (save_any _ _ 1 16 4 _ hD2 hlt0 (by decide) (by decide)).mono ?_; rintro e w3 ⟨rfl, hD3, hg3⟩; rw [hD] at hD3 ⊢; have hb3 := hb2.grown hg3 hb2.size (fun j h => by cases h; exact Nat.le_refl _)))
  refine (load_any _ _ w3 hD3 hlt1).mono ?_
  rintro e w4 ⟨rfl, hB4⟩
  rw [hload]
  have hD4 := (hD3.below hB4).below ((Below.refl _ w4).alloc (Nat.le_refl _) (.cells #[.int .i64 1, .int .i64 16, .int .i64 4] 23))
  have hb4 := (below_then hb3 hB4).alloc (below_then hb3 hB4).size (.cells #[.int .i64 1, .int .i64 16, .int .i64 4] 23)
  go_wp2_with fail
  refine (writes_any _ _ _ hD4).mono ?_
  rintro e w5 ⟨rfl, hB5⟩
  rw [hwr]
  go_wp2_with fail
  go_ret
  exact ⟨rfl, below_then hb4 hB5⟩
end Go.Proofs.YthkppkecclnlnaaGreat
