/- A boot in memory, beside its disk; what a call leaves of the rest. -/
import Derived.Test.YthkppkecclnlnaaSlotAl
namespace Go.Proofs.Ythkppkecclnlnaa
set_option linter.unusedVariables false
open Go.RowKit

/-- All but two blocks are as they were. -/
structure Ch2 (w w' : World) (b c : Nat) : Prop where
  os : w'.os = w.os
  tape : w'.tape = w.tape
  output : w'.output = w.output
  size : w.heap.size ≤ w'.heap.size
  block : ∀ k, k < w.heap.size → k ≠ b → k ≠ c → w'.heap[k]? = w.heap[k]?
theorem Ch2.refl (w : World) (b c : Nat) : Ch2 w w b c := ⟨rfl, rfl, rfl, Nat.le_refl _, fun _ _ _ _ => rfl⟩
theorem Ch2.then {w x y : World} {b c : Nat} (h : Ch2 w x b c) (k : Ch2 x y b c) : Ch2 w y b c :=
  ⟨k.os.trans h.os, k.tape.trans h.tape, k.output.trans h.output, Nat.le_trans h.size k.size, fun j hj h1 h2 => (k.block j (Nat.lt_of_lt_of_le hj h.size) h1 h2).trans (h.block j hj h1 h2)⟩
theorem Ch2.below {w x : World} (h : Below w.heap.size w x) (b c : Nat) : Ch2 w x b c := ⟨h.os, h.tape, h.output, h.size, fun k hk _ _ => h.block k hk⟩
theorem Ch2.one {w x : World} {b : Nat} (h : w.grownBy x (some b)) (c : Nat) : Ch2 w x b c := by
  obtain ⟨h1, h2, h3, h4, h5⟩ := h
  exact ⟨h1, h2, h3, h4, fun k hk e _ => h5 k hk (by simpa using e)⟩
theorem Ch2.two {w x : World} {c : Nat} (h : w.grownBy x (some c)) (b : Nat) : Ch2 w x b c := by
  obtain ⟨h1, h2, h3, h4, h5⟩ := h
  exact ⟨h1, h2, h3, h4, fun k hk _ e => h5 k hk (by simpa using e)⟩
theorem Ch2.drew {w x : World} {b c : Nat} (h : Ch2 w x b c) : Ch2 w x.drew b c := ⟨h.os, h.tape, h.output, h.size, h.block⟩
theorem Ch2.blk {w x : World} {b c k : Nat} {o : Obj} (h : Ch2 w x b c) (hk : w.heap[k]? = some o) (h1 : k ≠ b) (h2 : k ≠ c) : x.heap[k]? = some o := (h.block k (blk_lt hk) h1 h2).trans hk
theorem Below.chg {B : Nat} {a w x : World} {b c : Nat} (h : Below B a w) (hc : Ch2 w x b c) (hB : B ≤ w.heap.size) (h1 : B ≤ b) (h2 : B ≤ c) : Below B a x := by
  refine ⟨hc.os.trans h.os, hc.tape.trans h.tape, hc.output.trans h.output, Nat.le_trans h.size hc.size, fun k hk => ?_⟩
  rw [hc.block k (Nat.lt_of_lt_of_le hk hB) (by omega) (by omega)]
  exact h.block k hk
/-- A new block beside, of which nobody else knows. -/
theorem Ch2.of_new {w x : World} {b c : Nat} (h : Ch2 w x b c) (hb : w.heap.size ≤ b) : w.grownBy x (some c) :=
  ⟨h.os, h.tape, h.output, h.size, fun k hk hne => h.block k hk (by omega) (by simpa using hne)⟩
/-- A life: what is durable, and what has been handed out. -/
structure Bt where
  life : Nat
  kround : Nat
  ktag : Nat
  round : Nat
  tag : Nat
def btC (B : Bt) (dk : Option Addr) : Array Value := #[.int .i64 (B.life : Int), .int .i64 (B.kround : Int), .int .i64 (B.ktag : Int), .int .i64 (B.round : Int), .int .i64 (B.tag : Int), .pointer dk]
def BtB (W : World) (b : Nat) (B : Bt) (dk : Option Addr) : Prop :=
  W.heap[b]? = some (.cells #[.int .i64 (B.life : Int), .int .i64 (B.kround : Int), .int .i64 (B.ktag : Int), .int .i64 (B.round : Int), .int .i64 (B.tag : Int), .pointer dk] 79 (0, 0))
theorem BtB.cells {W : World} {b : Nat} {B : Bt} {dk : Option Addr} (h : BtB W b B dk) :
    (W.cell? ⟨b, 0, none⟩ = some (.int .i64 (B.life : Int)) ∧ W.cell? ⟨b, 1, none⟩ = some (.int .i64 (B.kround : Int)) ∧ W.cell? ⟨b, 2, none⟩ = some (.int .i64 (B.ktag : Int)) ∧ W.cell? ⟨b, 3, none⟩ = some (.int .i64 (B.round : Int)) ∧ W.cell? ⟨b, 4, none⟩ = some (.int .i64 (B.tag : Int)) ∧ W.cell? ⟨b, 5, none⟩ = some (.pointer dk)) ∧
    (W.frozen? ⟨b, 0, none⟩ = false ∧ W.frozen? ⟨b, 1, none⟩ = false ∧ W.frozen? ⟨b, 2, none⟩ = false ∧ W.frozen? ⟨b, 3, none⟩ = false ∧ W.frozen? ⟨b, 4, none⟩ = false) :=
  ⟨⟨(blk_cell h 0).trans rfl, (blk_cell h 1).trans rfl, (blk_cell h 2).trans rfl, (blk_cell h 3).trans rfl, (blk_cell h 4).trans rfl, (blk_cell h 5).trans rfl⟩, blk_free h 0, blk_free h 1, blk_free h 2, blk_free h 3, blk_free h 4⟩
theorem BtB.below {W W' : World} {b : Nat} {B : Bt} {dk : Option Addr} (h : BtB W b B dk) (hb : Below W.heap.size W W') : BtB W' b B dk := blk_below' hb h
/-- A boot and its disk. -/
structure BtAt (W : World) (b c : Nat) (B : Bt) (d : Dk) : Prop where
  boot : BtB W b B (some ⟨c, 0, none⟩)
  disk : DkAt W c d
  ne : b ≠ c
theorem BtAt.below {W W' : World} {b c : Nat} {B : Bt} {d : Dk} (h : BtAt W b c B d) (hb : Below W.heap.size W W') : BtAt W' b c B d := ⟨h.boot.below hb, h.disk.below hb, h.ne⟩
theorem BtAt.turn {W W' : World} {b c : Nat} {B : Bt} {d d' : Dk} (h : BtAt W b c B d) (hg : W.grownBy W' (some c)) (hd : DkAt W' c d') : BtAt W' b c B d' := ⟨blk_grown hg h.boot (by simpa using h.ne), hd, h.ne⟩
theorem BtAt.setRound {W : World} {b c : Nat} {B : Bt} {d : Dk} (h : BtAt W b c B d) (x : Nat) : BtAt (W.setCell ⟨b, 3, none⟩ (.int .i64 (x : Int))) b c { B with round := x } d :=
  ⟨blk_store h.boot 3 _, ⟨blk_set h.disk.1 _ _ (Ne.symm h.ne), h.disk.2⟩, h.ne⟩
theorem BtAt.setTag {W : World} {b c : Nat} {B : Bt} {d : Dk} (h : BtAt W b c B d) (x : Nat) : BtAt (W.setCell ⟨b, 4, none⟩ (.int .i64 (x : Int))) b c { B with tag := x } d :=
  ⟨blk_store h.boot 4 _, ⟨blk_set h.disk.1 _ _ (Ne.symm h.ne), h.disk.2⟩, h.ne⟩
theorem BtAt.setRec {W : World} {b c : Nat} {B : Bt} {d : Dk} (h : BtAt W b c B d) (x y z : Nat) :
    BtAt (((W.setCell ⟨b, 0, none⟩ (.int .i64 (x : Int))).setCell ⟨b, 1, none⟩ (.int .i64 (y : Int))).setCell ⟨b, 2, none⟩ (.int .i64 (z : Int))) b c { B with life := x, kround := y, ktag := z } d :=
  ⟨blk_store (blk_store (blk_store h.boot 0 _) 1 _) 2 _, ⟨blk_set (blk_set (blk_set h.disk.1 _ _ (Ne.symm h.ne)) _ _ (Ne.symm h.ne)) _ _ (Ne.symm h.ne), h.disk.2⟩, h.ne⟩
end Go.Proofs.Ythkppkecclnlnaa
