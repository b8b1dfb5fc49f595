/- Small laws on worlds: a text's iterator in whatever block, blocks of a few cells, what stands behind a call. -/
import Derived.WalkKit
import Derived.Lib.OthersKept
import Derived.Lib.Hide
import Derived.Deep.Draws
import Derived.Deep.QuietTactic
import Derived.BigQuiet
import Derived.Test.YtcfbbmgpfeholaaPure
namespace Go.Proofs.Ytcfbbmgpfeholaa
set_option linter.unusedVariables false
open Go.RowKit

theorem blk_new (w : World) (o : Obj) : (w.alloc o).heap[w.heap.size]? = some o := heap_alloc_new w o
theorem blk_old {w : World} {k : Nat} {x : Obj} (h : w.heap[k]? = some x) (o : Obj) : (w.alloc o).heap[k]? = some x :=
  (Below.heap_alloc w o k (Array.getElem?_eq_some_iff.1 h).1).trans h
theorem blk_lt {w : World} {k : Nat} {x : Obj} (h : w.heap[k]? = some x) : k < w.heap.size := (Array.getElem?_eq_some_iff.1 h).1
theorem blk_grown {w w1 : World} {row : Option Nat} (hg : w.grownBy w1 row) {k : Nat} {x : Obj} (h : w.heap[k]? = some x) (hne : some k ≠ row) : w1.heap[k]? = some x :=
  (hg.block k (blk_lt h) hne).trans h
theorem blk_below {B : Nat} {w w1 : World} (hb : Below B w w1) {k : Nat} {x : Obj} (h : w.heap[k]? = some x) (hk : k < B) : w1.heap[k]? = some x := (hb.block k hk).trans h
theorem blk_below' {w w1 : World} (hb : Below w.heap.size w w1) {k : Nat} {x : Obj} (h : w.heap[k]? = some x) : w1.heap[k]? = some x := blk_below hb h (blk_lt h)
theorem blk_set {w : World} {k : Nat} {x : Obj} (h : w.heap[k]? = some x) (p : Addr) (v : Value) (hne : k ≠ p.block) : (w.setCell p v).heap[k]? = some x :=
  (Below.heap_setCell w p v k hne).trans h
theorem blk_drewN {w : World} {k : Nat} {x : Obj} (h : w.heap[k]? = some x) (n : Nat) : (w.drewN n).heap[k]? = some x := h

theorem below_drewN {B : Nat} {a w : World} (h : Below B a w) (n : Nat) : Below B a (w.drewN n) := ⟨h.os, h.tape, h.output, h.size, h.block⟩
theorem below_iter {B : Nat} {a w : World} (h : Below B a w) (hB : B ≤ w.heap.size) (s : ByteArray) (p : Nat) : Below B a (w.iter s p) := h.alloc hB _
theorem below_then {w a b : World} (h : Below w.heap.size w a) (k : Below a.heap.size a b) : Below w.heap.size w b := h.trans (k.mono h.size)
theorem below_alloc_then {w a b : World} {o : Obj} (h : Below w.heap.size w a) (k : Below (a.alloc o).heap.size (a.alloc o) b) : Below w.heap.size w b := below_then (h.alloc h.size o) k
theorem iterPos_of {w : World} {k : Nat} {s : ByteArray} {p : Nat} (h : w.heap[k]? = some (.stringIter s p)) : w.iterPos k = p := by simp [World.iterPos, h]

/-- 'next' on a text's iterator that lies in whatever block: one round more. -/
theorem next_at (P : Program) {wr : World} {B : Nat} {s : ByteArray} {pos : Nat} (hit : wr.heap[B]? = some (.stringIter s pos)) (hp : pos < s.size) :
    ∃ W1, (∀ ty, (Instr.next (.pointer (some ⟨B, 0, none⟩)) true ty).run P wr = .ok (.tuple #[.bool true, .int .i64 pos, .int .i32 (rn s pos)]) W1) ∧
      W1.heap[B]? = some (.stringIter s (pos + wd s pos)) ∧ wr.grownBy W1 (some B) ∧ W1.heap.size = wr.heap.size := by
  refine ⟨wr.iterAt B s (pos + wd s pos), ?_, Lib.iterAt_heap wr B s pos _ hit, ?_, ?_⟩
  · intro ty
    have := Lib.run_next_any_at (P := P) wr B s pos ty hit hp
    rw [decode_dec] at this
    exact this
  · refine ⟨rfl, rfl, rfl, ?_, fun k _ hk => Lib.iterAt_other _ _ _ _ _ (fun e => hk (by rw [e]))⟩
    rw [Lib.iterAt_size]; exact Nat.le_refl _
  · exact Lib.iterAt_size _ _ _ _

theorem next_end (P : Program) {wr : World} {B : Nat} {s : ByteArray} {pos : Nat} (hit : wr.heap[B]? = some (.stringIter s pos)) (hp : ¬ pos < s.size) :
    ∀ ty, (Instr.next (.pointer (some ⟨B, 0, none⟩)) true ty).run P wr = .ok (.tuple #[.bool false]) wr := fun ty => Lib.run_next_end_at wr B s pos ty hit hp

/-- Blocks of a few cells, none of them frozen. -/
theorem one_cell {W : World} {b : Nat} {t : TypeId} {v0 : Value} (h : W.heap[b]? = some (.cells #[v0] t (0, 0))) : W.cell? ⟨b, 0, none⟩ = some v0 ∧ W.frozen? ⟨b, 0, none⟩ = false := by
  simp [World.cell?, World.frozen?, h]
theorem two_cells {W : World} {b : Nat} {t : TypeId} {v0 v1 : Value} (h : W.heap[b]? = some (.cells #[v0, v1] t (0, 0))) :
    W.cell? ⟨b, 0, none⟩ = some v0 ∧ W.cell? ⟨b, 1, none⟩ = some v1 ∧ W.frozen? ⟨b, 0, none⟩ = false ∧ W.frozen? ⟨b, 1, none⟩ = false := by
  simp [World.cell?, World.frozen?, h]
theorem four_cells {W : World} {b : Nat} {t : TypeId} {v0 v1 v2 v3 : Value} (h : W.heap[b]? = some (.cells #[v0, v1, v2, v3] t (0, 0))) :
    W.cell? ⟨b, 0, none⟩ = some v0 ∧ W.cell? ⟨b, 1, none⟩ = some v1 ∧ W.cell? ⟨b, 2, none⟩ = some v2 ∧ W.cell? ⟨b, 3, none⟩ = some v3 ∧
    W.frozen? ⟨b, 0, none⟩ = false ∧ W.frozen? ⟨b, 1, none⟩ = false ∧ W.frozen? ⟨b, 2, none⟩ = false ∧ W.frozen? ⟨b, 3, none⟩ = false := by
  simp [World.cell?, World.frozen?, h]

end Go.Proofs.Ytcfbbmgpfeholaa
