/- Walks: of a zero and of a nil boot, and of no disk; the law BootNone. -/
import Derived.Test.YthkppkecclnlnaaLook
import Derived.Test.YthkppkecclnlnaaWalkNone
namespace Go.Proofs.Ythkppkecclnlnaa
set_option linter.unusedVariables false
set_option linter.unusedSimpArgs false
open Go.RowKit

theorem life_nil (w : World) : Calls Try.prog 54 #[.pointer none] w fun e w' => e = .returned (.int .i64 0) ∧ w' = w := by
  go_enter Try.func54, Try.ntmps54
  go_wp2_with fail
  go_ret
  exact ⟨rfl, rfl⟩
theorem round_nil (w : World) : Calls Try.prog 55 #[.pointer none] w fun e w' => e = .returned (.int .i64 0) ∧ w' = w := by
  go_enter Try.func55, Try.ntmps55
  go_wp2_with fail
  go_ret
  exact ⟨rfl, rfl⟩
theorem tag_nil (w : World) : Calls Try.prog 52 #[.pointer none] w fun e w' => e = .returned (.int .i64 0) ∧ w' = w := by
  go_enter Try.func52, Try.ntmps52
  go_wp2_with fail
  go_ret
  exact ⟨rfl, rfl⟩
theorem bon_nil (w : World) : Calls Try.prog 74 #[.pointer none] w fun e w' => e = .returned (.int .i64 1) ∧ w' = w := by
  go_enter Try.func74, Try.ntmps74
  go_wp2_with fail
  go_ret
  exact ⟨rfl, rfl⟩
theorem durable_nil (w : World) : Calls Try.prog 51 #[.pointer none] w fun e w' => e = .returned (recV 0 0 0) ∧ Below w.heap.size w w' := by
  unfold recV
  go_enter Try.func51, Try.ntmps51
  go_wp2_with fail
  exact bodyPost_ret (v := .agg #[.int .i64 0, .int .i64 0, .int .i64 0]) (by simp [results, Try.results51, go_sem]) rfl ⟨rfl, (Below.refl _ w).alloc (Nat.le_refl _) _⟩
theorem bon_zero (b : Nat) (B : Bt) (w : World) (h : BtB w b B none) : Calls Try.prog 74 #[.pointer (some ⟨b, 0, none⟩)] w fun e w' => e = .returned (.int .i64 100) ∧ Below w.heap.size w w' := by
  obtain ⟨⟨c0, c1, c2, c3, c4, c5⟩, _⟩ := h.cells
  have HO := Lib.hid (on_nil w)
  clear h
  go_enter Try.func74, Try.ntmps74
  go_wp2_with (go_at_call 28; refine HO.out.mono ?_; rintro e w1 ⟨rfl, hB1⟩)
  go_ret
  exact ⟨rfl, hB1⟩
theorem next_zero (b : Nat) (B : Bt) (w : World) (h : BtB w b B none) : Calls Try.prog 50 #[.pointer (some ⟨b, 0, none⟩)] w fun e w' => e = .returned (.tuple #[.int .i64 0, .int .i64 100]) ∧ Below w.heap.size w w' := by
  have HO := Lib.hid (bon_zero b B w h)
  clear h
  go_enter Try.func50, Try.ntmps50
  go_wp2_with (go_at_call 74; refine HO.out.mono ?_; rintro e w1 ⟨rfl, hB1⟩)
  go_ret2
  exact ⟨rfl, hB1⟩
theorem next_nil (w : World) : Calls Try.prog 50 #[.pointer none] w fun e w' => e = .returned (.tuple #[.int .i64 0, .int .i64 1]) ∧ Below w.heap.size w w' := by
  go_enter Try.func50, Try.ntmps50
  go_wp2_with (go_at_call 74; refine (bon_nil _).mono ?_; rintro e w1 ⟨rfl, rfl⟩)
  go_ret2
  exact ⟨rfl, Below.refl _ _⟩
theorem raise_zero (b : Nat) (B : Bt) (t : Int) (w : World) (h : BtB w b B none) : Calls Try.prog 53 #[.pointer (some ⟨b, 0, none⟩), .int .i64 t] w fun e w' => e = .returned (.int .i64 100) ∧ Below w.heap.size w w' := by
  have hal : Below w.heap.size w (w.alloc (.cells #[.int .i64 t] 3)) := (Below.refl _ w).alloc (Nat.le_refl _) _
  have HO := Lib.hid (bon_zero b B _ (h.below hal))
  clear h
  go_enter Try.func53, Try.ntmps53
  go_wp2_with (go_at_call 74; refine HO.out.mono ?_; rintro e w1 ⟨rfl, hB1⟩)
  go_ret
  exact ⟨rfl, below_then hal hB1⟩
theorem raise_nil (t : Int) (w : World) : Calls Try.prog 53 #[.pointer none, .int .i64 t] w fun e w' => e = .returned (.int .i64 1) ∧ Below w.heap.size w w' := by
  have hal : Below w.heap.size w (w.alloc (.cells #[.int .i64 t] 3)) := (Below.refl _ w).alloc (Nat.le_refl _) _
  go_enter Try.func53, Try.ntmps53
  go_wp2_with (go_at_call 74; refine (bon_nil _).mono ?_; rintro e w1 ⟨rfl, rfl⟩)
  go_ret
  exact ⟨rfl, hal⟩
theorem ld_nil (w : World) : Calls Try.prog 68 #[.pointer none] w fun e w' => e = .returned (.tuple #[keptV Rc.zero, .int .i64 (-1), .int .i64 100]) ∧ Below w.heap.size w w' := by
  have hr0 : ((w.alloc (.cells #[.int .i64 0, .int .i64 0, .int .i64 0, .int .i64 0] 117)).alloc (.cells #[.int .i64 0, .int .i64 0, .int .i64 0, .int .i64 0] 117)).heap[w.heap.size]? = some (.cells #[.int .i64 0, .int .i64 0, .int .i64 0, .int .i64 0] 117 (0, 0)) := blk_old (blk_new w _) _
  have hb0 : Below w.heap.size w ((w.alloc (.cells #[.int .i64 0, .int .i64 0, .int .i64 0, .int .i64 0] 117)).alloc (.cells #[.int .i64 0, .int .i64 0, .int .i64 0, .int .i64 0] 117)) := ((Below.refl _ w).alloc (Nat.le_refl _) _).alloc (by simp) _
  obtain ⟨A, hA⟩ : ∃ A, Value.tuple #[keptV Rc.zero, .int .i64 (-1), .int .i64 100] = A := ⟨_, rfl⟩
  rw [hA]
  have HA := Lib.hid hA
  clear hA
  go_enter Try.func68, Try.ntmps68
  go_wp2_with fail
  generalize World.alloc (World.alloc w _) _ = W1 at *
  go_loopw [6, 14] (fun av i wr => i = .int .i64 0 ∧ wr = W1) (fun _ i _ => 2 - (intOf i).toNat)
  case atStart => exact ⟨rfl, rfl⟩
  case round =>
    obtain ⟨rfl, rfl⟩ := hrel
    go_wp2_with fail
    refine (read_nil _ wr).mono ?_
    rintro e w2 ⟨rfl, hB2⟩
    have hr2 := blk_below' hB2 hr0
    have hb2 := below_then hb0 hB2
    obtain ⟨z0, z1, z2, z3, f0, f1, f2, f3⟩ := blk4 hr2
    go_wp2_with fail
    generalize hWF : World.setCell (World.setCell (World.setCell (World.setCell _ _ _) _ _) _ _) _ _ = WF
    have hfb : WF.heap[w.heap.size]? = some (.cells #[.int .i64 0, .int .i64 0, .int .i64 0, .int .i64 0] 117 (0, 0)) := by
      rw [← hWF]; exact blk_store (blk_store (blk_store (blk_store hr2 0 _) 1 _) 2 _) 3 _
    have hfl : Below w.heap.size w WF := by
      rw [← hWF]; exact (((hb2.setCell (Nat.le_refl _) _).setCell (Nat.le_refl _) _).setCell (Nat.le_refl _) _).setCell (Nat.le_refl _) _
    obtain ⟨y0, y1, y2, y3, _⟩ := blk4 hfb
    exact bodyPost_ret (v := .tuple #[.agg #[.int .i64 0, .int .i64 0, .int .i64 0, .int .i64 0], .int .i64 (-1), .int .i64 100]) (by simp [results, Try.results68, go_sem, y0, y1, y2, y3]) rfl ⟨by rw [← HA.out]; rfl, hfl⟩
theorem load_nil (w : World) : Calls Try.prog 40 #[.pointer none] w fun e w' => e = .returned (.tuple #[recV 0 0 0, .int .i64 0, .int .i64 100]) ∧ Below w.heap.size w w' := by
  have hb0 : Below w.heap.size w (w.alloc (.cells #[.int .i64 0, .int .i64 0, .int .i64 0] 47)) := (Below.refl _ w).alloc (Nat.le_refl _) _
  have HL := Lib.hid (fun w => ld_nil w)
  have hr0 := box3 w (.int .i64 0) (.int .i64 0) (.int .i64 0) 47
  unfold keptV at HL
  obtain ⟨A, hA⟩ : ∃ A, Value.tuple #[recV 0 0 0, .int .i64 0, .int .i64 100] = A := ⟨_, rfl⟩
  rw [hA]
  have HA := Lib.hid hA
  clear hA
  go_enter Try.func40, Try.ntmps40
  go_wp2_with (go_at_call 68; refine (HL.out _).mono ?_; rintro e w1 ⟨rfl, hB1⟩; have hr1 := blk_below' hB1 hr0; have hb1 := below_then hb0 hB1; obtain ⟨z0, z1, z2, f0, f1, f2⟩ := blk3 hr1; have hlt1 := blk_lt hr1)
  generalize hWF : World.alloc (World.setCell (World.setCell (World.setCell _ _ _) _ _) _ _) _ = WF
  refine load_end (x := 0) (y := 0) (z := 0) (i := 0) (c := 100) rfl rfl rfl rfl ?_ ?_ HA.out
  · rw [← hWF]; exact blk_old (blk_store (blk_store (blk_store hr1 0 _) 1 _) 2 _) _
  · rw [← hWF]; exact (((hb1.setCell (Nat.le_refl _) _).setCell (Nat.le_refl _) _).setCell (Nat.le_refl _) _).alloc (by simpa using hb1.size) _
theorem open_nil (w : World) : Calls Try.prog 49 #[.pointer none] w fun e w' => e = .returned (.tuple #[.pointer none, .int .i64 100]) ∧ Below w.heap.size w w' := by
  have HL := Lib.hid (fun w => load_nil w)
  unfold recV at HL
  go_enter Try.func49, Try.ntmps49
  go_wp2_with fail
  refine (HL.out w).mono ?_
  rintro e w1 ⟨rfl, hB1⟩
  go_wp2_with fail
  go_ret2
  exact ⟨rfl, hB1.alloc hB1.size _⟩
set_option maxRecDepth 100000 in
set_option maxHeartbeats 4000000 in
theorem bootNone_walk (t : Int) (ht : (Lit.int .i64 t).wf = true) (w : World) :
    Calls Try.prog 14 #[.int .i64 t] w fun e w' => e = .returned (.bool true) ∧ Below w.heap.size w w' := by
  clear ht
  have hz : BtB (w.alloc (.cells #[.int .i64 0, .int .i64 0, .int .i64 0, .int .i64 0, .int .i64 0, .pointer none] 79)) w.heap.size ⟨0, 0, 0, 0, 0⟩ none := blk_new w _
  have hlow : Below w.heap.size w (w.alloc (.cells #[.int .i64 0, .int .i64 0, .int .i64 0, .int .i64 0, .int .i64 0, .pointer none] 79)) := (Below.refl _ w).alloc (Nat.le_refl _) _
  go_enter Try.func14, Try.ntmps14
  go_wp2_with fail
  generalize World.alloc w _ = W1 at *
  refine (next_zero w.heap.size _ W1 hz).mono ?_
  rintro e w2 ⟨rfl, hB⟩
  have k2 := hz.below hB
  have hlow := below_then hlow hB
  clear hB
  have hz := k2
  go_wp2_with fail
  refine (raise_zero w.heap.size _ t w2 hz).mono ?_
  rintro e w3 ⟨rfl, hB⟩
  have k3 := hz.below hB
  have hlow := below_then hlow hB
  clear hB
  have hz := k3
  go_wp2_with fail
  refine (next_nil w3).mono ?_
  rintro e w4 ⟨rfl, hB⟩
  have k4 := hz.below hB
  have hlow := below_then hlow hB
  clear hB
  have hz := k4
  go_wp2_with fail
  refine (raise_nil t w4).mono ?_
  rintro e w5 ⟨rfl, hB⟩
  have k5 := hz.below hB
  have hlow := below_then hlow hB
  clear hB
  have hz := k5
  go_wp2_with fail
  refine (open_nil w5).mono ?_
  rintro e w6 ⟨rfl, hB⟩
  have k6 := hz.below hB
  have hlow := below_then hlow hB
  clear hB
  have hz := k6
  go_wp2_with fail
  refine (alive12_any w6).mono ?_
  rintro e w7 ⟨rfl, hB⟩
  have k7 := hz.below hB
  have hlow := below_then hlow hB
  clear hB
  have hz := k7
  go_wp2_with fail
  refine (life_eq w.heap.size _ _ w7 hz).mono ?_
  rintro e w8 ⟨he, rfl⟩
  have he : e = .returned (.int .i64 0) := he
  subst he
  go_wp2_with fail
  refine (round_eq w.heap.size _ _ w8 hz).mono ?_
  rintro e w9 ⟨he, rfl⟩
  have he : e = .returned (.int .i64 0) := he
  subst he
  go_wp2_with fail
  refine (tag_eq w.heap.size _ _ w9 hz).mono ?_
  rintro e w10 ⟨he, rfl⟩
  have he : e = .returned (.int .i64 0) := he
  subst he
  go_wp2_with fail
  refine (durable_any w.heap.size _ _ w10 hz).mono ?_
  rintro e w11 ⟨he, hB⟩
  have he : e = .returned (.agg #[.int .i64 0, .int .i64 0, .int .i64 0]) := he
  subst he
  have hlow := below_then hlow hB
  go_wp2_with fail
  refine (life_nil w11).mono ?_
  rintro e w12 ⟨he, rfl⟩
  have he : e = .returned (.int .i64 0) := he
  subst he
  go_wp2_with fail
  refine (round_nil w12).mono ?_
  rintro e w13 ⟨he, rfl⟩
  have he : e = .returned (.int .i64 0) := he
  subst he
  go_wp2_with fail
  refine (tag_nil w13).mono ?_
  rintro e w14 ⟨he, rfl⟩
  have he : e = .returned (.int .i64 0) := he
  subst he
  go_wp2_with fail
  refine (durable_nil w14).mono ?_
  rintro e w15 ⟨he, hB⟩
  have he : e = .returned (.agg #[.int .i64 0, .int .i64 0, .int .i64 0]) := he
  subst he
  have hlow := below_then hlow hB
  go_wp2_with fail
  go_ret
  exact ⟨rfl, hlow⟩
end Go.Proofs.Ythkppkecclnlnaa
