/- A disk in memory: one block of 256 bytes and four cells. -/
import Derived.Test.YtpfiaepoibablaaMid
namespace Go.Proofs.Ytpfiaepoibablaa
set_option linter.unusedVariables false
open Go.RowKit

structure Dk where
  bs : List Nat
  off : Bool
  fused : Bool
  fuse : Nat
  writes : Nat
def bC (l : List Nat) : List Value := l.map fun x : Nat => .int .u8 (x : Int)
theorem bC_len (l : List Nat) : (bC l).length = l.length := by simp [bC]
def dkT (d : Dk) : List Value := [.bool d.off, .bool d.fused, .int .i64 d.fuse, .int .i64 d.writes]
def dkC (d : Dk) : Array Value := (bC d.bs ++ dkT d).toArray
def DkAt (W : World) (b : Nat) (d : Dk) : Prop := W.heap[b]? = some (.cells (dkC d) 56 (0, 0)) ∧ d.bs.length = 256
def Dk.new : Dk := ⟨List.replicate 256 0, false, false, 0, 0⟩
theorem dkC_size {d : Dk} (h : d.bs.length = 256) : (dkC d).size = 260 := by simp [dkC, dkT, bC_len, h]
theorem dkC_at {d : Dk} (h : d.bs.length = 256) (j : Nat) : (dkC d)[256 + j]? = (dkT d)[j]? := by
  unfold dkC
  rw [List.getElem?_toArray, List.getElem?_append_right (by rw [bC_len]; omega), bC_len, h, Nat.add_sub_cancel_left]
theorem DkAt.cells {W : World} {b : Nat} {d : Dk} (h : DkAt W b d) :
    W.cell? ⟨b, 256, none⟩ = some (.bool d.off) ∧ W.cell? ⟨b, 257, none⟩ = some (.bool d.fused) ∧ W.cell? ⟨b, 258, none⟩ = some (.int .i64 d.fuse) ∧ W.cell? ⟨b, 259, none⟩ = some (.int .i64 d.writes) :=
  ⟨by rw [blk_cell h.1]; exact dkC_at h.2 0, by rw [blk_cell h.1]; exact dkC_at h.2 1, by rw [blk_cell h.1]; exact dkC_at h.2 2, by rw [blk_cell h.1]; exact dkC_at h.2 3⟩
theorem DkAt.free {W : World} {b : Nat} {d : Dk} (h : DkAt W b d) :
    W.frozen? ⟨b, 256, none⟩ = false ∧ W.frozen? ⟨b, 257, none⟩ = false ∧ W.frozen? ⟨b, 258, none⟩ = false ∧ W.frozen? ⟨b, 259, none⟩ = false :=
  ⟨blk_free h.1 _, blk_free h.1 _, blk_free h.1 _, blk_free h.1 _⟩
theorem dkC_set {d : Dk} (h : d.bs.length = 256) (j : Nat) (v : Value) : (dkC d).setIfInBounds (256 + j) v = (bC d.bs ++ (dkT d).set j v).toArray := by
  unfold dkC
  rw [List.setIfInBounds_toArray, List.set_append_right _ _ (by rw [bC_len]; omega), bC_len, h, Nat.add_sub_cancel_left]
theorem DkAt.off {W : World} {b : Nat} {d : Dk} (h : DkAt W b d) (v : Bool) : DkAt (W.setCell ⟨b, 256, none⟩ (.bool v)) b { d with off := v } :=
  ⟨(blk_store h.1 _ _).trans (by rw [dkC_set h.2 0]; rfl), h.2⟩
theorem DkAt.fused {W : World} {b : Nat} {d : Dk} (h : DkAt W b d) (v : Bool) : DkAt (W.setCell ⟨b, 257, none⟩ (.bool v)) b { d with fused := v } :=
  ⟨(blk_store h.1 _ _).trans (by rw [dkC_set h.2 1]; rfl), h.2⟩
theorem DkAt.fuse {W : World} {b : Nat} {d : Dk} (h : DkAt W b d) (v : Nat) : DkAt (W.setCell ⟨b, 258, none⟩ (.int .i64 (v : Nat))) b { d with fuse := v } :=
  ⟨(blk_store h.1 _ _).trans (by rw [dkC_set h.2 2]; rfl), h.2⟩
theorem DkAt.writes {W : World} {b : Nat} {d : Dk} (h : DkAt W b d) (v : Nat) : DkAt (W.setCell ⟨b, 259, none⟩ (.int .i64 (v : Nat))) b { d with writes := v } :=
  ⟨(blk_store h.1 _ _).trans (by rw [dkC_set h.2 3]; rfl), h.2⟩
theorem DkAt.below {W W' : World} {b : Nat} {d : Dk} (h : DkAt W b d) (hb : Below W.heap.size W W') : DkAt W' b d := ⟨blk_below' hb h.1, h.2⟩
theorem DkAt.drew {W : World} {b : Nat} {d : Dk} (h : DkAt W b d) : DkAt W.drew b d := h
theorem DkAt.lt {W : World} {b : Nat} {d : Dk} (h : DkAt W b d) : b < W.heap.size := (Array.getElem?_eq_some_iff.1 h.1).1

/-- All but one block is as it was. -/
theorem but_refl (W : World) (r : Option Nat) : W.grownBy W r := ⟨rfl, rfl, rfl, Nat.le_refl _, fun _ _ _ => rfl⟩
theorem but_set {W X : World} {b : Nat} (h : W.grownBy X (some b)) (hb : b < W.heap.size) (i : Nat) (v : Value) : W.grownBy (X.setCell ⟨b, i, none⟩ v) (some b) := by
  obtain ⟨h1, h2, h3, h4, h5⟩ := h
  refine ⟨h1, h2, h3, by simpa using h4, fun k hk hne => ?_⟩
  rw [Below.heap_setCell X ⟨b, i, none⟩ v k (fun e => hne (by rw [e]))]
  exact h5 k hk hne
theorem but_drew {W X : World} {r : Option Nat} (h : W.grownBy X r) : W.grownBy X.drew r := ⟨h.1, h.2, h.3, h.4, h.5⟩
theorem but_then {W X Y : World} {r : Option Nat} (h : W.grownBy X r) (k : X.grownBy Y r) : W.grownBy Y r := by
  obtain ⟨h1, h2, h3, h4, h5⟩ := h
  obtain ⟨k1, k2, k3, k4, k5⟩ := k
  exact ⟨k1.trans h1, k2.trans h2, k3.trans h3, Nat.le_trans h4 k4, fun j hj hne => (k5 j (by omega) hne).trans (h5 j hj hne)⟩
theorem but_below {W X : World} (h : Below W.heap.size W X) (r : Option Nat) : W.grownBy X r := ⟨h.os, h.tape, h.output, h.size, fun k hk _ => h.block k hk⟩
theorem but_alloc {W X : World} {r : Option Nat} (h : W.grownBy X r) (o : Obj) : W.grownBy (X.alloc o) r := but_then h (but_below ((Below.refl _ _).alloc (Nat.le_refl _) o) r)
end Go.Proofs.Ytpfiaepoibablaa
