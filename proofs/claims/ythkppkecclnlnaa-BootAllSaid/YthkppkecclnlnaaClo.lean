/- Walks: the three closures that make a record of the one that is; on, used, covers; Life, Round, Tag, Durable. -/
import Derived.Test.YthkppkecclnlnaaBoot
namespace Go.Proofs.Ythkppkecclnlnaa
set_option linter.unusedVariables false
set_option linter.unusedSimpArgs false
open Go.RowKit

def capR (n : Nat) : Nat := min (n + 16) 1099511627775
def capT (n : Nat) : Nat := min (n + 4) 1048576
def capZ (n : Nat) : Nat := min (n + 3) 1048576
set_option maxRecDepth 100000 in
theorem clo_open (nb rb : Nat) (x y z : Int) (l r t : Nat) (w : World) (hn : w.heap[nb]? = some (.cells #[.int .i64 x, .int .i64 y, .int .i64 z] 47 (0, 0))) (hr : w.heap[rb]? = some (.cells #[.int .i64 (l : Int), .int .i64 (r : Int), .int .i64 (t : Int)] 47 (0, 0)))
    (hne : ¬ nb = rb) (hl : l ≤ 1073741824) (hr2 : r ≤ 1099511627776) (ht : t ≤ 1048576) :
    Calls Try.prog 73 #[.pointer (some ⟨nb, 0, none⟩), .pointer (some ⟨rb, 0, none⟩)] w fun e w' => e = .returned (.tuple #[]) ∧ w'.heap[nb]? = some (.cells #[.int .i64 ((l + 1 : Nat) : Int), .int .i64 (capR r : Int), .int .i64 (capT t : Int)] 47 (0, 0)) ∧ w.grownBy w' (some nb) := by
  obtain ⟨x0, x1, x2, f0, f1, f2⟩ := blk3 hn
  obtain ⟨y0, y1, y2, g0, g1, g2⟩ := blk3 hr
  have hne2 : ¬ rb = nb := fun h => hne h.symm
  have hlt := blk_lt hn
  have l1 : (l : Int) ≤ 1073741824 := by omega
  have l2 : (r : Int) ≤ 1099511627776 := by omega
  have l3 : (t : Int) ≤ 1048576 := by omega
  have HS := Lib.hid (And.intro hl (And.intro hr2 ht))
  have HN := Lib.hid hn
  have HR := Lib.hid hr
  clear hl hr2 ht hn hr
  have m1 : (if (1099511627775 : Int) < (r : Int) + 16 then (1099511627775 : Int) else (r : Int) + 16) = (capR r : Int) := by unfold capR; split <;> omega
  have m2 : (if (1048576 : Int) < (t : Int) + 4 then (1048576 : Int) else (t : Int) + 4) = (capT t : Int) := by unfold capT; split <;> omega
  go_enter Try.func73, Try.ntmps73
  go_upto_region 1 with fail
  generalize hW1 : World.setCell (World.setCell (World.setCell w _ _) _ _) _ _ = W1
  have hn1 : W1.heap[nb]? = some (.cells #[.int .i64 (l : Int), .int .i64 (r : Int), .int .i64 (t : Int)] 47 (0, 0)) := by
    rw [← hW1]; exact blk_store (blk_store (blk_store HN.out 0 _) 1 _) 2 _
  have hg1 : w.grownBy W1 (some nb) := by
    rw [← hW1]; exact but_set (but_set (but_set (but_refl _ _) hlt _ _) hlt _ _) hlt _ _
  have hr1 : W1.heap[rb]? = some (.cells #[.int .i64 (l : Int), .int .i64 (r : Int), .int .i64 (t : Int)] 47 (0, 0)) := blk_grown hg1 HR.out (by simpa using hne2)
  clear hW1 x0 x1 x2 f0 f1 f2 y0 y1 y2 g0 g1 g2
  obtain ⟨x0, x1, x2, f0, f1, f2⟩ := blk3 hn1
  obtain ⟨y0, y1, y2, g0, g1, g2⟩ := blk3 hr1
  go_wp2_with fail
  go_end0
  have k3 := blk_store (blk_store (blk_store hn1 0 (.int .i64 ((l : Int) + 1))) 1 (.int .i64 (capR r : Int))) 2 (.int .i64 (capT t : Int))
  exact ⟨rfl, k3, but_set (but_set (but_set hg1 hlt _ _) hlt _ _) hlt _ _⟩
set_option maxRecDepth 100000 in
theorem clo_next (nb : Nat) (x r z : Nat) (w : World) (hn : w.heap[nb]? = some (.cells #[.int .i64 (x : Int), .int .i64 (r : Int), .int .i64 (z : Int)] 47 (0, 0))) (hr2 : r ≤ 1099511627776) :
    Calls Try.prog 76 #[.pointer (some ⟨nb, 0, none⟩)] w fun e w' => e = .returned (.tuple #[]) ∧ w'.heap[nb]? = some (.cells #[.int .i64 (x : Int), .int .i64 (capR r : Int), .int .i64 (z : Int)] 47 (0, 0)) ∧ w.grownBy w' (some nb) := by
  obtain ⟨x0, x1, x2, f0, f1, f2⟩ := blk3 hn
  have hlt := blk_lt hn
  have l2 : (r : Int) ≤ 1099511627776 := by omega
  have m1 : (if (1099511627775 : Int) < (r : Int) + 16 then (1099511627775 : Int) else (r : Int) + 16) = (capR r : Int) := by unfold capR; split <;> omega
  have HN := Lib.hid hn
  clear hn hr2
  go_enter Try.func76, Try.ntmps76
  go_wp2_with fail
  go_end0
  exact ⟨rfl, blk_store HN.out 1 (.int .i64 (capR r : Int)), but_set (but_refl _ _) hlt _ _⟩
set_option maxRecDepth 100000 in
theorem clo_raise (nb tb : Nat) (x y z t : Nat) (w : World) (hn : w.heap[nb]? = some (.cells #[.int .i64 (x : Int), .int .i64 (y : Int), .int .i64 (z : Int)] 47 (0, 0))) (ht : w.heap[tb]? = some (.cells #[.int .i64 (t : Int)] 3 (0, 0))) (hne : ¬ nb = tb) (ht2 : t ≤ 1048576) :
    Calls Try.prog 78 #[.pointer (some ⟨nb, 0, none⟩), .pointer (some ⟨tb, 0, none⟩)] w fun e w' => e = .returned (.tuple #[]) ∧ w'.heap[nb]? = some (.cells #[.int .i64 (x : Int), .int .i64 (y : Int), .int .i64 (capZ t : Int)] 47 (0, 0)) ∧ w.grownBy w' (some nb) := by
  obtain ⟨x0, x1, x2, f0, f1, f2⟩ := blk3 hn
  have y0 : w.cell? ⟨tb, 0, none⟩ = some (.int .i64 (t : Int)) := (blk_cell ht 0).trans rfl
  have hlt := blk_lt hn
  have l2 : (t : Int) ≤ 1048576 := by omega
  have m1 : (if (1048576 : Int) < (t : Int) + 4 - 1 then (1048576 : Int) else (t : Int) + 4 - 1) = (capZ t : Int) := by unfold capZ; split <;> omega
  have HN := Lib.hid hn
  clear hn ht2 ht
  go_enter Try.func78, Try.ntmps78
  go_wp2_with fail
  go_end0
  exact ⟨rfl, blk_store HN.out 2 (.int .i64 (capZ t : Int)), but_set (but_refl _ _) hlt _ _⟩
def resV (B : Bt) : Value := .agg #[.int .i64 (B.life : Int), .int .i64 (B.kround : Int), .int .i64 (B.ktag : Int), .int .i64 (B.round : Int), .int .i64 (B.tag : Int)]
theorem used_any (B : Bt) (w : World) : Calls Try.prog 75 #[resV B] w fun e w' => e = .returned (.bool (decide (B.round = B.kround))) ∧ Below w.heap.size w w' := by
  unfold resV
  have hal : Below w.heap.size w (w.alloc (.cells #[.int .i64 (B.life : Int), .int .i64 (B.kround : Int), .int .i64 (B.ktag : Int), .int .i64 (B.round : Int), .int .i64 (B.tag : Int)] 77)) := (Below.refl _ w).alloc (Nat.le_refl _) _
  by_cases h : B.round = B.kround
  · have h2 : ((B.round : Int) == (B.kround : Int)) = true := by simp [h]
    rw [decide_eq_true h]
    clear h
    go_enter Try.func75, Try.ntmps75
    go_wp2_with fail
    go_ret
    exact ⟨rfl, hal⟩
  · have h2 : ((B.round : Int) == (B.kround : Int)) = false := by simp; omega
    rw [decide_eq_false h]
    clear h
    go_enter Try.func75, Try.ntmps75
    go_wp2_with fail
    go_ret
    exact ⟨rfl, hal⟩
theorem covers_any (B : Bt) (t : Nat) (w : World) : Calls Try.prog 77 #[resV B, .int .i64 (t : Int)] w fun e w' => e = .returned (.bool (decide (t ≤ B.ktag))) ∧ Below w.heap.size w w' := by
  unfold resV
  have hal : Below w.heap.size w (w.alloc (.cells #[.int .i64 (B.life : Int), .int .i64 (B.kround : Int), .int .i64 (B.ktag : Int), .int .i64 (B.round : Int), .int .i64 (B.tag : Int)] 77)) := (Below.refl _ w).alloc (Nat.le_refl _) _
  by_cases h : t ≤ B.ktag
  · have h2 : (t : Int) ≤ (B.ktag : Int) := by omega
    rw [decide_eq_true h]
    clear h
    go_enter Try.func77, Try.ntmps77
    go_wp2_with fail
    go_ret
    exact ⟨rfl, hal⟩
  · have h2 : ¬ (t : Int) ≤ (B.ktag : Int) := by omega
    rw [decide_eq_false h]
    clear h
    go_enter Try.func77, Try.ntmps77
    go_wp2_with fail
    go_ret
    exact ⟨rfl, hal⟩
theorem bon_any (b c : Nat) (B : Bt) (d : Dk) (w : World) (h : BtAt w b c B d) : Calls Try.prog 74 #[.pointer (some ⟨b, 0, none⟩)] w fun e w' => e = .returned (.int .i64 (if d.off then 100 else 0)) ∧ Below w.heap.size w w' := by
  obtain ⟨⟨c0, c1, c2, c3, c4, c5⟩, _⟩ := h.boot.cells
  have HO := Lib.hid (on_any c d w h.disk)
  clear h
  cases ho : d.off with
  | true =>
    rw [ho] at HO
    go_enter Try.func74, Try.ntmps74
    go_wp2_with (go_at_call 28; refine HO.out.mono ?_; rintro e w1 ⟨rfl, hB1⟩)
    go_ret
    exact ⟨rfl, hB1⟩
  | false =>
    rw [ho] at HO
    go_enter Try.func74, Try.ntmps74
    go_wp2_with (go_at_call 28; refine HO.out.mono ?_; rintro e w1 ⟨rfl, hB1⟩)
    go_ret
    exact ⟨rfl, hB1⟩
theorem life_eq (b : Nat) (B : Bt) (dk : Option Addr) (w : World) (h : BtB w b B dk) : Calls Try.prog 54 #[.pointer (some ⟨b, 0, none⟩)] w fun e w' => e = .returned (.int .i64 (B.life : Int)) ∧ w' = w := by
  obtain ⟨⟨c0, c1, c2, c3, c4, c5⟩, _⟩ := h.cells
  clear h
  go_enter Try.func54, Try.ntmps54
  go_wp2_with fail
  go_ret
  exact ⟨rfl, rfl⟩
theorem round_eq (b : Nat) (B : Bt) (dk : Option Addr) (w : World) (h : BtB w b B dk) : Calls Try.prog 55 #[.pointer (some ⟨b, 0, none⟩)] w fun e w' => e = .returned (.int .i64 (B.round : Int)) ∧ w' = w := by
  obtain ⟨⟨c0, c1, c2, c3, c4, c5⟩, _⟩ := h.cells
  clear h
  go_enter Try.func55, Try.ntmps55
  go_wp2_with fail
  go_ret
  exact ⟨rfl, rfl⟩
theorem tag_eq (b : Nat) (B : Bt) (dk : Option Addr) (w : World) (h : BtB w b B dk) : Calls Try.prog 52 #[.pointer (some ⟨b, 0, none⟩)] w fun e w' => e = .returned (.int .i64 (B.tag : Int)) ∧ w' = w := by
  obtain ⟨⟨c0, c1, c2, c3, c4, c5⟩, _⟩ := h.cells
  clear h
  go_enter Try.func52, Try.ntmps52
  go_wp2_with fail
  go_ret
  exact ⟨rfl, rfl⟩
end Go.Proofs.Ythkppkecclnlnaa
