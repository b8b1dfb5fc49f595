/- The document's boot in memory: six cells at a place of one block; its disk beside. -/
import Derived.Test.YthkppkecclnlnaaRefI
import Derived.Test.YthkppkecclnlnaaRefH
import Derived.Test.YthkppkecclnlnaaRefF
import Derived.Test.YthkppkecclnlnaaRaise
namespace Go.Proofs.Ythkppkecclnlnaa
set_option linter.unusedVariables false
set_option linter.unusedSimpArgs false
open Go.RowKit

def rbC (B : Bt) : List Value := [.int .i64 (B.life : Int), .int .i64 (B.kround : Int), .int .i64 (B.ktag : Int), .int .i64 (B.life : Int), .int .i64 (B.round : Int), .int .i64 (B.tag : Int)]
def RbAt (W : World) (bb o : Nat) (B : Bt) : Prop := ∃ cs t, W.heap[bb]? = some (.cells cs t (0, 0)) ∧ ∀ j x, (rbC B)[j]? = some x → cs[o + j]? = some x
theorem RbAt.lt {W : World} {bb o : Nat} {B : Bt} (h : RbAt W bb o B) : bb < W.heap.size := by obtain ⟨cs, t, h1, _⟩ := h; exact blk_lt h1
theorem RbAt.heap {W X : World} {bb o : Nat} {B : Bt} (h : RbAt W bb o B) (e : X.heap[bb]? = W.heap[bb]?) : RbAt X bb o B := by obtain ⟨cs, t, h1, h2⟩ := h; exact ⟨cs, t, e.trans h1, h2⟩
theorem RbAt.below {W X : World} {bb o : Nat} {B : Bt} (h : RbAt W bb o B) (hb : Below W.heap.size W X) : RbAt X bb o B := by obtain ⟨cs, t, h1, h2⟩ := h; exact ⟨cs, t, blk_below' hb h1, h2⟩
theorem RbAt.drew {W : World} {bb o : Nat} {B : Bt} (h : RbAt W bb o B) : RbAt W.drew bb o B := h.below ((Below.refl _ _).drew)
theorem RbAt.cells {W : World} {bb o : Nat} {B : Bt} (h : RbAt W bb o B) :
    (W.cell? ⟨bb, o, none⟩ = some (.int .i64 (B.life : Int)) ∧ W.cell? ⟨bb, o + 1, none⟩ = some (.int .i64 (B.kround : Int)) ∧ W.cell? ⟨bb, o + 2, none⟩ = some (.int .i64 (B.ktag : Int)) ∧ W.cell? ⟨bb, o + 3, none⟩ = some (.int .i64 (B.life : Int)) ∧ W.cell? ⟨bb, o + 4, none⟩ = some (.int .i64 (B.round : Int)) ∧ W.cell? ⟨bb, o + 5, none⟩ = some (.int .i64 (B.tag : Int))) ∧
    (W.frozen? ⟨bb, o, none⟩ = false ∧ W.frozen? ⟨bb, o + 1, none⟩ = false ∧ W.frozen? ⟨bb, o + 2, none⟩ = false ∧ W.frozen? ⟨bb, o + 3, none⟩ = false ∧ W.frozen? ⟨bb, o + 4, none⟩ = false ∧ W.frozen? ⟨bb, o + 5, none⟩ = false) := by
  obtain ⟨cs, t, h1, h2⟩ := h
  exact ⟨⟨(blk_cell h1 _).trans (h2 0 _ rfl), (blk_cell h1 _).trans (h2 1 _ rfl), (blk_cell h1 _).trans (h2 2 _ rfl), (blk_cell h1 _).trans (h2 3 _ rfl), (blk_cell h1 _).trans (h2 4 _ rfl), (blk_cell h1 _).trans (h2 5 _ rfl)⟩,
    blk_free h1 _, blk_free h1 _, blk_free h1 _, blk_free h1 _, blk_free h1 _, blk_free h1 _⟩
theorem RbAt.set {W : World} {bb o : Nat} {B B' : Bt} (h : RbAt W bb o B) (i : Nat) (v : Value) (hi : i < 6) (hd : rbC B' = (rbC B).set i v) : RbAt (W.setCell ⟨bb, o + i, none⟩ v) bb o B' := by
  obtain ⟨cs, t, h1, h3⟩ := h
  refine ⟨cs.setIfInBounds (o + i) v, t, blk_store h1 _ _, fun j x hx => ?_⟩
  rw [hd] at hx
  rw [List.getElem?_set] at hx
  rw [set_get]
  by_cases c : i = j
  · subst c
    have hs : o + i < cs.size := by
      obtain ⟨y, hy⟩ : ∃ y, (rbC B)[i]? = some y := ⟨_, List.getElem?_eq_getElem (by show i < 6; exact hi)⟩
      exact (Array.getElem?_eq_some_iff.1 (h3 i y hy)).1
    rw [if_pos rfl, if_pos (by show i < 6; exact hi)] at hx
    rw [if_pos rfl, if_pos hs]; exact hx
  · rw [if_neg c] at hx
    rw [if_neg (by omega)]
    exact h3 j x hx
/-- All is as it was, but the disk, and six cells of a block. -/
structure ChB (W X : World) (bb o rb ob gb : Nat) : Prop where
  os : X.os = W.os
  tape : X.tape = W.tape
  output : X.output = W.output
  size : W.heap.size ≤ X.heap.size
  other : ∀ k, k < W.heap.size → k ≠ bb → k ≠ rb → k ≠ gb → X.heap[k]? = W.heap[k]?
  boot : ∀ cs t, W.heap[bb]? = some (.cells cs t (0, 0)) → ∃ cs', X.heap[bb]? = some (.cells cs' t (0, 0)) ∧ cs'.size = cs.size ∧ ∀ j, j < o ∨ o + 6 ≤ j → cs'[j]? = cs[j]?
  box : ∀ cs t, W.heap[rb]? = some (.cells cs t (0, 0)) → ∃ cs', X.heap[rb]? = some (.cells cs' t (0, 0)) ∧ cs'.size = cs.size ∧ ∀ j, j < ob ∨ ob + 4 ≤ j → cs'[j]? = cs[j]?
theorem ChB.ofChg {W X : World} {bb o rb ob gb : Nat} (h : Chg W X rb ob gb) (h1 : bb ≠ rb) (h2 : bb ≠ gb) : ChB W X bb o rb ob gb :=
  ⟨h.os, h.tape, h.output, h.size, fun k hk _ a b => h.other k hk a b, fun cs t hc => ⟨cs, h.blk hc h1 h2, rfl, fun _ _ => rfl⟩, h.box⟩
theorem ChB.ofBelow {W X : World} (h : Below W.heap.size W X) (bb o rb ob gb : Nat) : ChB W X bb o rb ob gb :=
  ⟨h.os, h.tape, h.output, h.size, fun k hk _ _ _ => h.block k hk, fun cs t hc => ⟨cs, blk_below' h hc, rfl, fun _ _ => rfl⟩, fun cs t hc => ⟨cs, blk_below' h hc, rfl, fun _ _ => rfl⟩⟩
theorem ChB.trans {W X Y : World} {bb o rb ob gb : Nat} (h : ChB W X bb o rb ob gb) (k : ChB X Y bb o rb ob gb) : ChB W Y bb o rb ob gb := by
  refine ⟨k.os.trans h.os, k.tape.trans h.tape, k.output.trans h.output, Nat.le_trans h.size k.size, fun j hj h1 h2 h3 => (k.other j (by have := h.size; omega) h1 h2 h3).trans (h.other j hj h1 h2 h3), fun cs t hc => ?_, fun cs t hc => ?_⟩
  · obtain ⟨c1, a1, a2, a3⟩ := h.boot cs t hc
    obtain ⟨c2, b1, b2, b3⟩ := k.boot c1 t a1
    exact ⟨c2, b1, b2.trans a2, fun j hj => (b3 j hj).trans (a3 j hj)⟩
  · obtain ⟨c1, a1, a2, a3⟩ := h.box cs t hc
    obtain ⟨c2, b1, b2, b3⟩ := k.box c1 t a1
    exact ⟨c2, b1, b2.trans a2, fun j hj => (b3 j hj).trans (a3 j hj)⟩
theorem ChB.set {W X : World} {bb o rb ob gb : Nat} (h : ChB W X bb o rb ob gb) (h1 : bb ≠ rb) (i : Nat) (v : Value) (hi : i < 6) : ChB W (X.setCell ⟨bb, o + i, none⟩ v) bb o rb ob gb := by
  refine h.trans ⟨rfl, rfl, rfl, by simp, fun k hk a b c => Below.heap_setCell X ⟨bb, o + i, none⟩ v k (fun e => a e), fun cs t hc => ⟨_, blk_store hc _ _, by simp, fun j hj => ?_⟩, fun cs t hc => ⟨cs, blk_set hc _ _ (fun e => h1 e.symm), rfl, fun _ _ => rfl⟩⟩
  rw [set_get, if_neg (by omega)]
theorem ChB.blk {W X : World} {bb o rb ob gb k : Nat} {x : Obj} (h : ChB W X bb o rb ob gb) (hk : W.heap[k]? = some x) (h0 : k ≠ bb) (h1 : k ≠ rb) (h2 : k ≠ gb) : X.heap[k]? = some x := (h.other k (blk_lt hk) h0 h1 h2).trans hk
theorem ChB.low {W X : World} {bb o rb ob gb B : Nat} (h : ChB W X bb o rb ob gb) (h0 : B ≤ bb) (h1 : B ≤ rb) (h2 : B ≤ gb) (hB : B ≤ W.heap.size) : Below B W X :=
  ⟨h.os, h.tape, h.output, by have := h.size; omega, fun k hk => h.other k (by omega) (by omega) (by omega) (by omega)⟩
theorem Rk.setOther {W : World} {bb i rb ob gb n : Nat} {d : Dk} (h : Rk W rb ob gb n d) (v : Value) (h1 : bb ≠ rb) (h2 : bb ≠ gb) : Rk (W.setCell ⟨bb, i, none⟩ v) rb ob gb n d :=
  h.heap (Below.heap_setCell W ⟨bb, i, none⟩ v rb (fun e => h1 e.symm)) (Below.heap_setCell W ⟨bb, i, none⟩ v gb (fun e => h2 e.symm))
/-- Three cells of the record are written. -/
theorem RbAt.rec3 {W : World} {bb o : Nat} {B : Bt} (h : RbAt W bb o B) (y z : Nat) :
    RbAt (((W.setCell ⟨bb, o, none⟩ (.int .i64 (B.life : Int))).setCell ⟨bb, o + 1, none⟩ (.int .i64 (y : Int))).setCell ⟨bb, o + 2, none⟩ (.int .i64 (z : Int))) bb o { B with kround := y, ktag := z } :=
  ((h.set (B' := B) 0 _ (by decide) rfl).set (B' := { B with kround := y }) 1 _ (by decide) rfl).set 2 _ (by decide) rfl
theorem RbAt.round {W : World} {bb o : Nat} {B : Bt} (h : RbAt W bb o B) (y : Nat) : RbAt (W.setCell ⟨bb, o + 4, none⟩ (.int .i64 (y : Int))) bb o { B with round := y } := h.set 4 _ (by decide) rfl
theorem RbAt.tag {W : World} {bb o : Nat} {B : Bt} (h : RbAt W bb o B) (y : Nat) : RbAt (W.setCell ⟨bb, o + 5, none⟩ (.int .i64 (y : Int))) bb o { B with tag := y } := h.set 5 _ (by decide) rfl
theorem ChB.rec3 {W X : World} {bb o rb ob gb : Nat} (h : ChB W X bb o rb ob gb) (h1 : bb ≠ rb) (a b c : Value) :
    ChB W (((X.setCell ⟨bb, o, none⟩ a).setCell ⟨bb, o + 1, none⟩ b).setCell ⟨bb, o + 2, none⟩ c) bb o rb ob gb := ((h.set h1 0 a (by decide)).set h1 1 b (by decide)).set h1 2 c (by decide)
end Go.Proofs.Ythkppkecclnlnaa
