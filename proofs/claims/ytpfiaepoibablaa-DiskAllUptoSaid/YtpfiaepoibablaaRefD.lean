/- The document's disk in memory: four cells at a place of one block, 256 bytes in another. -/
import Derived.Test.YtpfiaepoibablaaRefC
import Derived.Test.YtpfiaepoibablaaWhole
namespace Go.Proofs.Ytpfiaepoibablaa
set_option linter.unusedVariables false
set_option linter.unusedSimpArgs false
open Go.RowKit

def fuZ (d : Dk) : Int := if d.fused then (d.fuse : Int) else -1
def rkC (gb n : Nat) (d : Dk) : List Value := [.slice (some ⟨gb, 0, none⟩) 256 n, .bool d.off, .int .i64 (fuZ d), .int .i64 (d.writes : Nat)]
structure Rk (W : World) (rb o gb n : Nat) (d : Dk) : Prop where
  box : ∃ cs t, W.heap[rb]? = some (.cells cs t (0, 0)) ∧ ∀ j x, (rkC gb n d)[j]? = some x → cs[o + j]? = some x
  bytes : ∃ rest, W.heap[gb]? = some (.cells (bC d.bs ++ rest).toArray 5 (0, 0))
  len : d.bs.length = 256
  ne : rb ≠ gb
/-- All is as it was, but the bytes, and four cells of the block. -/
structure Chg (W X : World) (rb o gb : Nat) : Prop where
  os : X.os = W.os
  tape : X.tape = W.tape
  output : X.output = W.output
  size : W.heap.size ≤ X.heap.size
  other : ∀ k, k < W.heap.size → k ≠ rb → k ≠ gb → X.heap[k]? = W.heap[k]?
  box : ∀ cs t, W.heap[rb]? = some (.cells cs t (0, 0)) → ∃ cs', X.heap[rb]? = some (.cells cs' t (0, 0)) ∧ cs'.size = cs.size ∧ ∀ j, j < o ∨ o + 4 ≤ j → cs'[j]? = cs[j]?
theorem Chg.refl (W : World) (rb o gb : Nat) : Chg W W rb o gb := ⟨rfl, rfl, rfl, Nat.le_refl _, fun _ _ _ _ => rfl, fun cs t h => ⟨cs, h, rfl, fun _ _ => rfl⟩⟩
theorem Chg.trans {W X Y : World} {rb o gb : Nat} (h : Chg W X rb o gb) (k : Chg X Y rb o gb) : Chg W Y rb o gb := by
  refine ⟨k.os.trans h.os, k.tape.trans h.tape, k.output.trans h.output, Nat.le_trans h.size k.size, fun j hj h1 h2 => (k.other j (by have := h.size; omega) h1 h2).trans (h.other j hj h1 h2), fun cs t hc => ?_⟩
  obtain ⟨c1, a1, a2, a3⟩ := h.box cs t hc
  obtain ⟨c2, b1, b2, b3⟩ := k.box c1 t a1
  exact ⟨c2, b1, b2.trans a2, fun j hj => (b3 j hj).trans (a3 j hj)⟩
theorem Chg.ofBelow {W X : World} (h : Below W.heap.size W X) (rb o gb : Nat) : Chg W X rb o gb :=
  ⟨h.os, h.tape, h.output, h.size, fun k hk _ _ => h.block k hk, fun cs t hc => ⟨cs, blk_below' h hc, rfl, fun _ _ => rfl⟩⟩
theorem Chg.below {W X Y : World} {rb o gb : Nat} (h : Chg W X rb o gb) (hb : Below X.heap.size X Y) : Chg W Y rb o gb := h.trans (.ofBelow hb rb o gb)
theorem Chg.blk {W X : World} {rb o gb k : Nat} {x : Obj} (h : Chg W X rb o gb) (hk : W.heap[k]? = some x) (h1 : k ≠ rb) (h2 : k ≠ gb) : X.heap[k]? = some x := (h.other k (blk_lt hk) h1 h2).trans hk
theorem Chg.low {W X : World} {rb o gb B : Nat} (h : Chg W X rb o gb) (h1 : B ≤ rb) (h2 : B ≤ gb) (hB : B ≤ W.heap.size) : Below B W X :=
  ⟨h.os, h.tape, h.output, by have := h.size; omega, fun k hk => h.other k (by omega) (by omega) (by omega)⟩
theorem Rk.lt {W : World} {rb o gb n : Nat} {d : Dk} (h : Rk W rb o gb n d) : rb < W.heap.size ∧ gb < W.heap.size := by
  obtain ⟨⟨cs, t, h1, _⟩, ⟨r, h2⟩, _, _⟩ := h
  exact ⟨blk_lt h1, blk_lt h2⟩
theorem Rk.below {W X : World} {rb o gb n : Nat} {d : Dk} (h : Rk W rb o gb n d) (hb : Below W.heap.size W X) : Rk X rb o gb n d := by
  obtain ⟨⟨cs, t, h1, h3⟩, ⟨r, h2⟩, h4, h5⟩ := h
  exact ⟨⟨cs, t, blk_below' hb h1, h3⟩, ⟨r, blk_below' hb h2⟩, h4, h5⟩
theorem Rk.drew {W : World} {rb o gb n : Nat} {d : Dk} (h : Rk W rb o gb n d) : Rk W.drew rb o gb n d := h.below ((Below.refl _ _).drew)
theorem Rk.cells {W : World} {rb o gb n : Nat} {d : Dk} (h : Rk W rb o gb n d) :
    W.cell? ⟨rb, o, none⟩ = some (.slice (some ⟨gb, 0, none⟩) 256 n) ∧ W.cell? ⟨rb, o + 1, none⟩ = some (.bool d.off) ∧ W.cell? ⟨rb, o + 2, none⟩ = some (.int .i64 (fuZ d)) ∧ W.cell? ⟨rb, o + 3, none⟩ = some (.int .i64 (d.writes : Nat)) := by
  obtain ⟨⟨cs, t, h1, h3⟩, _, _, _⟩ := h
  exact ⟨by rw [blk_cell h1]; exact h3 0 _ rfl, by rw [blk_cell h1]; exact h3 1 _ rfl, by rw [blk_cell h1]; exact h3 2 _ rfl, by rw [blk_cell h1]; exact h3 3 _ rfl⟩
theorem Rk.free {W : World} {rb o gb n : Nat} {d : Dk} (h : Rk W rb o gb n d) :
    W.frozen? ⟨rb, o, none⟩ = false ∧ W.frozen? ⟨rb, o + 1, none⟩ = false ∧ W.frozen? ⟨rb, o + 2, none⟩ = false ∧ W.frozen? ⟨rb, o + 3, none⟩ = false := by
  obtain ⟨⟨cs, t, h1, h3⟩, _, _, _⟩ := h
  exact ⟨blk_free h1 _, blk_free h1 _, blk_free h1 _, blk_free h1 _⟩
theorem Rk.cell {W : World} {rb o gb n : Nat} {d : Dk} (h : Rk W rb o gb n d) (j x : Nat) (hj : d.bs[j]? = some x) : W.cell? ⟨gb, j, none⟩ = some (.int .u8 (x : Int)) ∧ W.frozen? ⟨gb, j, none⟩ = false := by
  obtain ⟨_, ⟨r, h2⟩, _, _⟩ := h
  refine ⟨?_, blk_free h2 _⟩
  rw [blk_cell h2, List.getElem?_toArray, List.getElem?_append_left (by rw [bC_len]; exact (List.getElem?_eq_some_iff.1 hj).1), bC_get, hj]; rfl
theorem set_get (cs : Array Value) (i j : Nat) (v : Value) : (cs.setIfInBounds i v)[j]? = if i = j then (if i < cs.size then some v else none) else cs[j]? := by
  rw [Array.getElem?_setIfInBounds]
/-- One of the four cells is written. -/
theorem Rk.set {W : World} {rb o gb n : Nat} {d d' : Dk} (h : Rk W rb o gb n d) (i : Nat) (v : Value) (hi : i < 4) (hd : rkC gb n d' = (rkC gb n d).set i v) (hb : d'.bs = d.bs) : Rk (W.setCell ⟨rb, o + i, none⟩ v) rb o gb n d' := by
  obtain ⟨⟨cs, t, h1, h3⟩, ⟨r, h2⟩, h4, h5⟩ := h
  refine ⟨⟨cs.setIfInBounds (o + i) v, t, blk_store h1 _ _, fun j x hx => ?_⟩, ⟨r, ?_⟩, by rw [hb]; exact h4, h5⟩
  · rw [hd] at hx
    have hl := (List.getElem?_eq_some_iff.1 hx).1
    rw [List.getElem?_set] at hx
    rw [set_get]
    by_cases c : i = j
    · subst c
      have hs : o + i < cs.size := by
        obtain ⟨y, hy⟩ : ∃ y, (rkC gb n d)[i]? = some y := ⟨_, List.getElem?_eq_getElem (by show i < 4; exact hi)⟩
        exact (Array.getElem?_eq_some_iff.1 (h3 i y hy)).1
      rw [if_pos rfl, if_pos (by show i < 4; exact hi)] at hx
      rw [if_pos rfl, if_pos hs]; exact hx
    · rw [if_neg c] at hx
      rw [if_neg (by omega)]
      exact h3 j x hx
  · rw [hb]; exact blk_set h2 ⟨rb, o + i, none⟩ v (fun e => h5 e.symm)
theorem Chg.set {W X : World} {rb o gb : Nat} (h : Chg W X rb o gb) (i : Nat) (v : Value) (hi : i < 4) (hrb : rb < W.heap.size) : Chg W (X.setCell ⟨rb, o + i, none⟩ v) rb o gb := by
  refine h.trans ⟨rfl, rfl, rfl, by simp, fun k hk h1 h2 => Below.heap_setCell X ⟨rb, o + i, none⟩ v k (fun e => h1 e), fun cs t hc => ⟨_, blk_store hc _ _, by simp, fun j hj => ?_⟩⟩
  rw [set_get, if_neg (by omega)]
/-- One byte is written. -/
theorem Rk.put {W : World} {rb o gb n : Nat} {d : Dk} (h : Rk W rb o gb n d) (j x : Nat) (hj : j < 256) : Rk (W.setCell ⟨gb, j, none⟩ (.int .u8 (x : Int))) rb o gb n { d with bs := d.bs.set j x } := by
  obtain ⟨⟨cs, t, h1, h3⟩, ⟨r, h2⟩, h4, h5⟩ := h
  refine ⟨⟨cs, t, blk_set h1 ⟨gb, j, none⟩ _ h5, h3⟩, ⟨r, ?_⟩, by simp [h4], h5⟩
  rw [blk_store h2 j _, List.setIfInBounds_toArray, List.set_append_left _ _ (by rw [bC_len, h4]; exact hj), bC_set]
theorem Chg.put {W X : World} {rb o gb : Nat} (h : Chg W X rb o gb) (hne : rb ≠ gb) (j : Nat) (v : Value) : Chg W (X.setCell ⟨gb, j, none⟩ v) rb o gb :=
  h.trans ⟨rfl, rfl, rfl, by simp, fun k hk h1 h2 => Below.heap_setCell X ⟨gb, j, none⟩ v k (fun e => h2 e), fun cs t hc => ⟨cs, blk_set hc _ _ hne, rfl, fun _ _ => rfl⟩⟩
theorem Chg.drew {W X : World} {rb o gb : Nat} (h : Chg W X rb o gb) : Chg W X.drew rb o gb := h.below ((Below.refl _ _).drew)
theorem Rk.off {W : World} {rb o gb n : Nat} {d : Dk} (h : Rk W rb o gb n d) (v : Bool) : Rk (W.setCell ⟨rb, o + 1, none⟩ (.bool v)) rb o gb n { d with off := v } := h.set 1 _ (by decide) rfl rfl
theorem Rk.fuse {W : World} {rb o gb n : Nat} {d d' : Dk} (h : Rk W rb o gb n d) (z : Int) (hz : fuZ d' = z) (he : d'.off = d.off ∧ d'.bs = d.bs ∧ d'.writes = d.writes) : Rk (W.setCell ⟨rb, o + 2, none⟩ (.int .i64 z)) rb o gb n d' :=
  h.set 2 _ (by decide) (by unfold rkC; rw [hz, he.1, he.2.2]; rfl) he.2.1
theorem Rk.writes {W : World} {rb o gb n : Nat} {d : Dk} (h : Rk W rb o gb n d) (v : Nat) : Rk (W.setCell ⟨rb, o + 3, none⟩ (.int .i64 (v : Int))) rb o gb n { d with writes := v } := h.set 3 _ (by decide) rfl rfl
theorem putS_at (bs l : List Nat) (s : Nat) (hl : l.length = 32) : putS bs s l = putAt bs (32 * s) l := by unfold putS putAt; rw [hl]
end Go.Proofs.Ytpfiaepoibablaa
