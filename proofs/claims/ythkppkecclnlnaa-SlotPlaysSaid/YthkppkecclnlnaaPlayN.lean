/- Walks: Load of no disk. -/
import Derived.Test.YthkppkecclnlnaaPlay
import Derived.Test.YthkppkecclnlnaaWalkNone
namespace Go.Proofs.Ythkppkecclnlnaa
set_option linter.unusedVariables false
set_option linter.unusedSimpArgs false
open Go.RowKit

set_option maxRecDepth 100000 in
set_option maxHeartbeats 1000000 in
theorem ldR_nil (w : World) : Calls Try.prog 68 #[.pointer none] w fun e w' => e = .returned (.tuple #[keptV Rc.zero, .int .i64 (-1), .int .i64 100]) ∧ Below w.heap.size w w' := by
  have hr0 : ((w.alloc (.cells #[.int .i64 0, .int .i64 0, .int .i64 0, .int .i64 0] 117)).alloc (.cells #[.int .i64 0, .int .i64 0, .int .i64 0, .int .i64 0] 117)).heap[w.heap.size]? = some (.cells #[.int .i64 0, .int .i64 0, .int .i64 0, .int .i64 0] 117 (0, 0)) := blk_old (blk_new w _) _
  have hb0 : Below w.heap.size w ((w.alloc (.cells #[.int .i64 0, .int .i64 0, .int .i64 0, .int .i64 0] 117)).alloc (.cells #[.int .i64 0, .int .i64 0, .int .i64 0, .int .i64 0] 117)) := ((Below.refl _ w).alloc (Nat.le_refl _) _).alloc (by simp) _
  obtain ⟨A, hA⟩ : ∃ A, Value.tuple #[keptV Rc.zero, .int .i64 (-1), .int .i64 100] = A := ⟨_, rfl⟩
  rw [hA]
  have HA := Lib.hid hA
  clear hA
  go_enter Try.func68, Try.ntmps68
  go_wp2_with fail
  generalize World.alloc (World.alloc w _) _ = W1 at *
  go_loopw [6, 14] (fun av i wr => i = .int .i64 0 ∧ wr = W1) (fun _ i _ => 2 - (intOf i).toNat)
  case atStart => exact ⟨rfl, rfl⟩
  case round =>
    obtain ⟨rfl, rfl⟩ := hrel
    go_wp2_with fail
    refine (read_nil _ wr).mono ?_
    rintro e w2 ⟨rfl, hB2⟩
    have hr2 := blk_below' hB2 hr0
    have hb2 := below_then hb0 hB2
    obtain ⟨z0, z1, z2, z3, f0, f1, f2, f3⟩ := blk4 hr2
    go_wp2_with fail
    generalize hWF : World.setCell (World.setCell (World.setCell (World.setCell _ _ _) _ _) _ _) _ _ = WF
    have hfb : WF.heap[w.heap.size]? = some (.cells #[.int .i64 0, .int .i64 0, .int .i64 0, .int .i64 0] 117 (0, 0)) := by
      rw [← hWF]; exact blk_store (blk_store (blk_store (blk_store hr2 0 _) 1 _) 2 _) 3 _
    have hfl : Below w.heap.size w WF := by
      rw [← hWF]; exact (((hb2.setCell (Nat.le_refl _) _).setCell (Nat.le_refl _) _).setCell (Nat.le_refl _) _).setCell (Nat.le_refl _) _
    obtain ⟨y0, y1, y2, y3, _⟩ := blk4 hfb
    exact bodyPost_ret (v := .tuple #[.agg #[.int .i64 0, .int .i64 0, .int .i64 0, .int .i64 0], .int .i64 (-1), .int .i64 100]) (by simp [results, Try.results68, go_sem, y0, y1, y2, y3]) rfl ⟨by rw [← HA.out]; rfl, hfl⟩
theorem loadR_nil (w : World) : Calls Try.prog 40 #[.pointer none] w fun e w' => e = .returned (.tuple #[recV 0 0 0, .int .i64 0, .int .i64 100]) ∧ Below w.heap.size w w' := by
  have hb0 : Below w.heap.size w (w.alloc (.cells #[.int .i64 0, .int .i64 0, .int .i64 0] 47)) := (Below.refl _ w).alloc (Nat.le_refl _) _
  have HL := Lib.hid (fun w => ldR_nil w)
  have hr0 := box3 w (.int .i64 0) (.int .i64 0) (.int .i64 0) 47
  unfold keptV at HL
  obtain ⟨A, hA⟩ : ∃ A, Value.tuple #[recV 0 0 0, .int .i64 0, .int .i64 100] = A := ⟨_, rfl⟩
  rw [hA]
  have HA := Lib.hid hA
  clear hA
  go_enter Try.func40, Try.ntmps40
  go_wp2_with (go_at_call 68; refine (HL.out _).mono ?_; rintro e w1 ⟨rfl, hB1⟩; have hr1 := blk_below' hB1 hr0; have hb1 := below_then hb0 hB1; obtain ⟨z0, z1, z2, f0, f1, f2⟩ := blk3 hr1; have hlt1 := blk_lt hr1)
  generalize hWF : World.alloc (World.setCell (World.setCell (World.setCell _ _ _) _ _) _ _) _ = WF
  refine load_end (x := 0) (y := 0) (z := 0) (i := 0) (c := 100) rfl rfl rfl rfl ?_ ?_ HA.out
  · rw [← hWF]; exact blk_old (blk_store (blk_store (blk_store hr1 0 _) 1 _) 2 _) _
  · rw [← hWF]; exact (((hb1.setCell (Nat.le_refl _) _).setCell (Nat.le_refl _) _).setCell (Nat.le_refl _) _).alloc (by simpa using hb1.size) _
theorem loadA_form (d : Dk) : ∃ l1 l2 l3 l4 l5 : Int, loadA d = .tuple #[.agg #[.int .i64 l1, .int .i64 l2, .int .i64 l3], .int .i64 l4, .int .i64 l5] := by
  unfold loadA recV
  split
  · exact ⟨_, _, _, _, _, rfl⟩
  · split
    · exact ⟨_, _, _, _, _, rfl⟩
    · exact ⟨_, _, _, _, _, rfl⟩
theorem and3 (a : Int) : bits .and .i64 a 3 = 0 ∨ bits .and .i64 a 3 = 1 ∨ bits .and .i64 a 3 = 2 ∨ bits .and .i64 a 3 = 3 := by
  obtain ⟨m, hm⟩ : ∃ m, (BitVec.ofInt 64 a &&& BitVec.ofInt 64 3).toNat = m := ⟨_, rfl⟩
  have h3 : m ≤ 3 := by rw [← hm, BitVec.toNat_and]; exact Nat.le_trans Nat.and_le_right (by decide)
  have hb : bits .and .i64 a 3 = IntKind.i64.wrap (m : Int) := by
    unfold bits
    show IntKind.i64.wrap (((BitVec.ofInt 64 a &&& BitVec.ofInt 64 3).toNat : Nat) : Int) = _
    rw [hm]
  rw [hb, IntKind.wrap_i64]
  omega
theorem bytes_of2 {W : World} {b : Nat} {v : Value} {l : List Nat} (h : Bytes2 W b b v l) : Bytes W b v l := by
  obtain ⟨a', c', h1, h2⟩ := h
  exact ⟨a', c', h1, fun j x hx => by obtain ⟨p, e1, e2, _, e3⟩ := h2 j x hx; exact ⟨p, e1, e2, e3⟩⟩
end Go.Proofs.Ythkppkecclnlnaa
