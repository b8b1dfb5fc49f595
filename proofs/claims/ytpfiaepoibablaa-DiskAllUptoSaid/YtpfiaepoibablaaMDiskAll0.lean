/- Lemmas of this claim, laid one behind the other. -/
import Derived.Test.YtpfiaepoibablaaRdK
import Derived.Test.YtpfiaepoibablaaBkZ
import Derived.Test.YtpfiaepoibablaaLent
import Derived.Deep.DeepCutAuto
namespace Go.Proofs.Ytpfiaepoibablaa
set_option linter.unusedVariables false
set_option linter.unusedSimpArgs false
open Go.RowKit

/-- One side: the disk in c, the document's at o + 1 of the block (its bytes in g). -/
structure Sd (W : World) (LB o c g n K : Nat) (d e : Dk) : Prop where
  p : W.cell? ⟨LB, o, none⟩ = some (.pointer (some ⟨c, 0, none⟩))
  b : W.cell? ⟨LB, o + 5, none⟩ = some (.pointer (some ⟨K, 0, none⟩))
  disk : DkAt W c d
  rk : Rk W LB (o + 1) g n e
  n : 256 ≤ n
theorem Sd.keep {W X : World} {LB o c g n K : Nat} {d e : Dk} (h : Sd W LB o c g n K d e) (h1 : X.heap[LB]? = W.heap[LB]?) (h2 : X.heap[c]? = W.heap[c]?) (h3 : X.heap[g]? = W.heap[g]?) : Sd X LB o c g n K d e :=
  ⟨(cell_heap h1).trans h.p, (cell_heap h1).trans h.b, ⟨h2.trans h.disk.1, h.disk.2⟩, h.rk.heap h1 h3, h.n⟩
theorem Sd.lt {W : World} {LB o c g n K : Nat} {d e : Dk} (h : Sd W LB o c g n K d e) : LB < W.heap.size ∧ c < W.heap.size ∧ g < W.heap.size := ⟨h.rk.lt.1, h.disk.lt, h.rk.lt.2⟩
theorem Chg.out {W X : World} {LB q g : Nat} (hC : Chg W X LB q g) (hb : ∃ cs t, W.heap[LB]? = some (.cells cs t (0, 0))) (j : Nat) (hj : j < q ∨ q + 4 ≤ j) : X.cell? ⟨LB, j, none⟩ = W.cell? ⟨LB, j, none⟩ := by
  obtain ⟨cs, t, h⟩ := hb
  obtain ⟨cs', h1, _, h3⟩ := hC.box cs t h
  rw [blk_cell h, blk_cell h1, h3 j hj]
theorem Rk.blk {W : World} {rb o gb n : Nat} {d : Dk} (h : Rk W rb o gb n d) : ∃ cs t, W.heap[rb]? = some (.cells cs t (0, 0)) := by
  obtain ⟨⟨cs, t, h1, _⟩, _⟩ := h
  exact ⟨cs, t, h1⟩
theorem Sd.turnD {W X : World} {LB o c g n K : Nat} {d e d' : Dk} (h : Sd W LB o c g n K d e) (hD : DkAt X c d') (hg : W.grownBy X (some c)) (h1 : LB ≠ c) (h2 : g ≠ c) : Sd X LB o c g n K d' e :=
  ⟨(cell_heap (hg.block LB h.lt.1 (by simpa using h1))).trans h.p, (cell_heap (hg.block LB h.lt.1 (by simpa using h1))).trans h.b, hD, h.rk.heap (hg.block LB h.lt.1 (by simpa using h1)) (hg.block g h.lt.2.2 (by simpa using h2)), h.n⟩
theorem Sd.turnR {W X : World} {LB o c g n K : Nat} {d e e' : Dk} (h : Sd W LB o c g n K d e) (hR : Rk X LB (o + 1) g n e') (hC : Chg W X LB (o + 1) g) (h1 : c ≠ LB) (h2 : c ≠ g) : Sd X LB o c g n K d e' :=
  ⟨(hC.out h.rk.blk o (by omega)).trans h.p, (hC.out h.rk.blk (o + 5) (by omega)).trans h.b, ⟨hC.blk h.disk.1 h1 h2, h.disk.2⟩, hR, h.n⟩
theorem Sd.otherR {W X : World} {LB o c g n K p q : Nat} {d e : Dk} (h : Sd W LB o c g n K d e) (hC : Chg W X LB (q + 1) p) (hoq : (q = 0 ∧ o = 6) ∨ (q = 6 ∧ o = 0)) (h1 : c ≠ LB) (h2 : c ≠ p) (h3 : g ≠ LB) (h4 : g ≠ p) : Sd X LB o c g n K d e := by
  refine ⟨(hC.out h.rk.blk o (by omega)).trans h.p, (hC.out h.rk.blk (o + 5) (by omega)).trans h.b, ⟨hC.blk h.disk.1 h1 h2, h.disk.2⟩, ?_, h.n⟩
  obtain ⟨⟨cs, t, b1, b2⟩, ⟨r, b3⟩, b4, b5⟩ := h.rk
  obtain ⟨cs', c1, _, c3⟩ := hC.box cs t b1
  refine ⟨⟨cs', t, c1, fun j x hx => ?_⟩, ⟨r, hC.blk b3 h3 h4⟩, b4, b5⟩
  have hj : j < 4 := by have := (List.getElem?_eq_some_iff.1 hx).1; simpa [rkC] using this
  rw [c3 _ (by omega)]
  exact b2 j x hx

/-- What a play keeps: the side at o, the other at o', the book in K. -/
structure Dp (w : World) (LB K : Nat) (vb vw : Value) (L : List Ls) (o c g n : Nat) (d e : Dk) (o' c' g' n' : Nat) (d' : Dk) (W : World) : Prop where
  x : Sd W LB o c g n K d e
  y : Sd W LB o' c' g' n' K d' d'
  bk : Bk W w.heap.size K vb vw L
  low : Below w.heap.size w W
  ne : LB ≠ c ∧ LB ≠ g ∧ LB ≠ c' ∧ LB ≠ g' ∧ c ≠ g ∧ c ≠ c' ∧ c ≠ g' ∧ g ≠ c' ∧ g ≠ g' ∧ c' ≠ g'
  ge : w.heap.size ≤ LB ∧ w.heap.size ≤ c ∧ w.heap.size ≤ g ∧ w.heap.size ≤ c' ∧ w.heap.size ≤ g'
  sep : ∀ k ∈ bkB K vb vw L, k ≠ LB ∧ k ≠ c ∧ k ≠ g ∧ k ≠ c' ∧ k ≠ g'
  oo : (o = 0 ∧ o' = 6) ∨ (o = 6 ∧ o' = 0)
section
variable {w : World} {LB K : Nat} {vb vw : Value} {L : List Ls} {o c g n : Nat} {d e : Dk} {o' c' g' n' : Nat} {d' : Dk} {W X : World}
theorem Dp.swap (h : Dp w LB K vb vw L o c g n d d o' c' g' n' d' W) : Dp w LB K vb vw L o' c' g' n' d' d' o c g n d W := by
  obtain ⟨h1, h2, h3, h4, ⟨n1, n2, n3, n4, n5, n6, n7, n8, n9, n10⟩, ⟨g1, g2, g3, g4, g5⟩, h7, h8⟩ := h
  exact ⟨h2, h1, h3, h4, ⟨n3, n4, n1, n2, n10, n6.symm, n8.symm, n7.symm, n9.symm, n5⟩, ⟨g1, g4, g5, g2, g3⟩, fun k hk => ⟨(h7 k hk).1, (h7 k hk).2.2.2.1, (h7 k hk).2.2.2.2, (h7 k hk).2.1, (h7 k hk).2.2.1⟩, by omega⟩
theorem Dp.below (h : Dp w LB K vb vw L o c g n d e o' c' g' n' d' W) (hb : Below W.heap.size W X) : Dp w LB K vb vw L o c g n d e o' c' g' n' d' X := by
  obtain ⟨h1, h2, h3, h4, h5, h6, h7, h8⟩ := h
  exact ⟨h1.keep (hb.block _ h1.lt.1) (hb.block _ h1.lt.2.1) (hb.block _ h1.lt.2.2), h2.keep (hb.block _ h2.lt.1) (hb.block _ h2.lt.2.1) (hb.block _ h2.lt.2.2), h3.below hb, below_then h4 hb, h5, h6, h7, h8⟩
theorem Dp.drew (h : Dp w LB K vb vw L o c g n d e o' c' g' n' d' W) : Dp w LB K vb vw L o c g n d e o' c' g' n' d' W.drew := h.below ((Below.refl _ _).drew)
theorem Dp.turnD {d1 : Dk} (h : Dp w LB K vb vw L o c g n d e o' c' g' n' d' W) (hD : DkAt X c d1) (hg : W.grownBy X (some c)) : Dp w LB K vb vw L o c g n d1 e o' c' g' n' d' X := by
  obtain ⟨h1, h2, h3, h4, h5, h6, h7, h8⟩ := h
  obtain ⟨n1, n2, n3, n4, n5, n6, n7, n8, n9, n10⟩ := h5
  have hk : ∀ k, k < W.heap.size → k ≠ c → X.heap[k]? = W.heap[k]? := fun k hk hne => hg.block k hk (by simpa using hne)
  exact ⟨h1.turnD hD hg n1 (Ne.symm n5), h2.keep (hk _ h2.lt.1 n1) (hk _ h2.lt.2.1 (Ne.symm n6)) (hk _ h2.lt.2.2 (Ne.symm n7)), h3.keep (fun k hm => hk k (h3.lt k hm).2 (h7 k hm).2.1),
    h4.grown hg h4.size (fun j hj => by cases hj; exact h6.2.1), ⟨n1, n2, n3, n4, n5, n6, n7, n8, n9, n10⟩, h6, h7, h8⟩
theorem Dp.turnR {e1 : Dk} (h : Dp w LB K vb vw L o c g n d e o' c' g' n' d' W) (hR : Rk X LB (o + 1) g n e1) (hC : Chg W X LB (o + 1) g) : Dp w LB K vb vw L o c g n d e1 o' c' g' n' d' X := by
  obtain ⟨h1, h2, h3, h4, h5, h6, h7, h8⟩ := h
  obtain ⟨n1, n2, n3, n4, n5, n6, n7, n8, n9, n10⟩ := h5
  exact ⟨h1.turnR hR hC (Ne.symm n1) n5, h2.otherR hC h8 (Ne.symm n3) (Ne.symm n8) (Ne.symm n4) (Ne.symm n9), h3.keep (fun k hm => hC.other k (h3.lt k hm).2 (h7 k hm).1 (h7 k hm).2.2.1),
    h4.trans (hC.low h6.1 h6.2.2.1 h4.size), ⟨n1, n2, n3, n4, n5, n6, n7, n8, n9, n10⟩, h6, h7, h8⟩
theorem Dp.book {v : Value} (h : Dp w LB K vb vw L o c g n d e o' c' g' n' d' W) (hP : BkPut W w.heap.size K vb vw L v X) (hv : ∀ k ∈ obs v, k ≠ LB ∧ k ≠ c ∧ k ≠ g ∧ k ≠ c' ∧ k ≠ g') : ∃ vb' vw' L', Dp w LB K vb' vw' L' o c g n d e o' c' g' n' d' X := by
  obtain ⟨vb', vw', L', hB, hF, hm⟩ := hP
  obtain ⟨h1, h2, h3, h4, h5, h6, h7, h8⟩ := h
  have mK : K ∈ bkB K vb vw L := by simp [bkB]
  have mb : ∀ k ∈ obs vb, k ∈ bkB K vb vw L := fun k hk => by simp [bkB, hk]
  have mw : ∀ k ∈ obs vw, k ∈ bkB K vb vw L := fun k hk => by simp [bkB, hk]
  have hk : ∀ k, k < W.heap.size → (∀ j ∈ bkB K vb vw L, j ≠ k) → X.heap[k]? = W.heap[k]? := fun k hk hj => hF.block k hk (fun e => hj K mK e.symm) (fun e => hj k (mb k e) rfl) (fun e => hj k (mw k e) rfl)
  have k1 := hk LB h1.lt.1 (fun j hj => (h7 j hj).1)
  refine ⟨vb', vw', L', h1.keep k1 (hk c h1.lt.2.1 (fun j hj => (h7 j hj).2.1)) (hk g h1.lt.2.2 (fun j hj => (h7 j hj).2.2.1)), h2.keep k1 (hk c' h2.lt.2.1 (fun j hj => (h7 j hj).2.2.2.1)) (hk g' h2.lt.2.2 (fun j hj => (h7 j hj).2.2.2.2)), hB, h4.trans (hF.low h3 h4.size), h5, h6, fun k hk => ?_, h8⟩
  rcases hm k hk with hk | hk | hk
  · exact h7 k hk
  · exact hv k hk
  · have := h1.lt; have := h2.lt; omega
end
/-- What holds of a disk behind i steps. -/
structure DI (d : Dk) (i : Nat) : Prop where
  wr : d.writes ≤ i
  fz : d.fuse ≤ 9223372036854775807
theorem DI.up {d : Dk} {i : Nat} (h : DI d i) : DI d (i + 1) := ⟨by have := h.wr; omega, h.fz⟩
end Go.Proofs.Ytpfiaepoibablaa
namespace Go.Proofs.Ytpfiaepoibablaa
set_option linter.unusedVariables false
set_option linter.unusedSimpArgs false
open Go.RowKit

section
variable {w : World} {LB K : Nat} {vb vw : Value} {L : List Ls} {o c g n : Nat} {d e : Dk} {o' c' g' n' : Nat} {d' : Dk} {W X : World}
theorem Dp.but {q : Nat} (h : Dp w LB K vb vw L o c g n d e o' c' g' n' d' W) (hX : W.grownBy X (some q)) (hq : q ≠ LB ∧ q ≠ c ∧ q ≠ g ∧ q ≠ c' ∧ q ≠ g') (hs : q ∉ bkB K vb vw L) (hw : w.heap.size ≤ q) : Dp w LB K vb vw L o c g n d e o' c' g' n' d' X := by
  obtain ⟨h1, h2, h3, h4, h5, h6, h7, h8⟩ := h
  obtain ⟨q1, q2, q3, q4, q5⟩ := hq
  have hk : ∀ k, k < W.heap.size → k ≠ q → X.heap[k]? = W.heap[k]? := fun k hk hne => hX.block k hk (by simpa using hne)
  exact ⟨h1.keep (hk _ h1.lt.1 (Ne.symm q1)) (hk _ h1.lt.2.1 (Ne.symm q2)) (hk _ h1.lt.2.2 (Ne.symm q3)), h2.keep (hk _ h2.lt.1 (Ne.symm q1)) (hk _ h2.lt.2.1 (Ne.symm q4)) (hk _ h2.lt.2.2 (Ne.symm q5)),
    h3.keep (fun k hm => hk k (h3.lt k hm).2 (fun e => hs (e ▸ hm))), h4.grown hX h4.size (fun j hj => by cases hj; exact hw), h5, h6, h7, h8⟩
/-- The record in q. -/
structure Ds (w : World) (LB K : Nat) (vb vw : Value) (L : List Ls) (o c g n : Nat) (d e : Dk) (o' c' g' n' : Nat) (d' : Dk) (q : Nat) (Y : Array Value) (W : World) : Prop where
  dp : Dp w LB K vb vw L o c g n d e o' c' g' n' d' W
  bx : W.heap[q]? = some (.cells Y 60 (0, 0))
  ne : q ≠ LB ∧ q ≠ c ∧ q ≠ g ∧ q ≠ c' ∧ q ≠ g'
  sep : q ∉ bkB K vb vw L
theorem Dp.box (h : Dp w LB K vb vw L o c g n d e o' c' g' n' d' W) (Y : Array Value) : Ds w LB K vb vw L o c g n d e o' c' g' n' d' W.heap.size Y (W.alloc (.cells Y 60)) :=
  ⟨h.below ((Below.refl _ _).alloc (Nat.le_refl _) _), blk_new _ _, by have := h.x.lt; have := h.y.lt; omega, fun hm => absurd (h.bk.lt _ hm).2 (Nat.lt_irrefl _)⟩
variable {q : Nat} {Y : Array Value}
theorem Ds.below (h : Ds w LB K vb vw L o c g n d e o' c' g' n' d' q Y W) (hb : Below W.heap.size W X) : Ds w LB K vb vw L o c g n d e o' c' g' n' d' q Y X :=
  ⟨h.dp.below hb, blk_below' hb h.bx, h.ne, h.sep⟩
theorem Ds.drew (h : Ds w LB K vb vw L o c g n d e o' c' g' n' d' q Y W) : Ds w LB K vb vw L o c g n d e o' c' g' n' d' q Y W.drew := h.below ((Below.refl _ _).drew)
theorem Ds.turnD {d1 : Dk} (h : Ds w LB K vb vw L o c g n d e o' c' g' n' d' q Y W) (hD : DkAt X c d1) (hg : W.grownBy X (some c)) : Ds w LB K vb vw L o c g n d1 e o' c' g' n' d' q Y X :=
  ⟨h.dp.turnD hD hg, blk_grown hg h.bx (by have := h.ne.2.1; simpa using this), h.ne, h.sep⟩
theorem Ds.turnR {e1 : Dk} (h : Ds w LB K vb vw L o c g n d e o' c' g' n' d' q Y W) (hR : Rk X LB (o + 1) g n e1) (hC : Chg W X LB (o + 1) g) : Ds w LB K vb vw L o c g n d e1 o' c' g' n' d' q Y X :=
  ⟨h.dp.turnR hR hC, hC.blk h.bx h.ne.1 h.ne.2.2.1, h.ne, h.sep⟩
theorem Ds.lt (h : Ds w LB K vb vw L o c g n d e o' c' g' n' d' q Y W) : LB < W.heap.size ∧ c < W.heap.size ∧ g < W.heap.size ∧ c' < W.heap.size ∧ g' < W.heap.size ∧ q < W.heap.size ∧ w.heap.size ≤ W.heap.size ∧ ∀ k ∈ bkB K vb vw L, k < W.heap.size :=
  ⟨h.dp.x.lt.1, h.dp.x.lt.2.1, h.dp.x.lt.2.2, h.dp.y.lt.2.1, h.dp.y.lt.2.2, blk_lt h.bx, h.dp.low.size, fun k hk => (h.dp.bk.lt k hk).2⟩
theorem Ds.but {p : Nat} (h : Ds w LB K vb vw L o c g n d e o' c' g' n' d' q Y W) (hX : W.grownBy X (some p)) (hp : p ≠ LB ∧ p ≠ c ∧ p ≠ g ∧ p ≠ c' ∧ p ≠ g') (hs : p ∉ bkB K vb vw L) (hw : w.heap.size ≤ p) (hq : q ≠ p) : Ds w LB K vb vw L o c g n d e o' c' g' n' d' q Y X :=
  ⟨h.dp.but hX hp hs hw, blk_grown hX h.bx (by simpa using hq), h.ne, h.sep⟩
theorem Ds.cells {y0 y1 y2 y3 : Value} (h : Ds w LB K vb vw L o c g n d e o' c' g' n' d' q #[y0, y1, y2, y3] W) :
    W.cell? ⟨LB, o, none⟩ = some (.pointer (some ⟨c, 0, none⟩)) ∧ W.cell? ⟨LB, o + 5, none⟩ = some (.pointer (some ⟨K, 0, none⟩)) ∧ W.cell? ⟨q, 0, none⟩ = some y0 ∧ W.cell? ⟨q, 1, none⟩ = some y1 ∧ W.cell? ⟨q, 2, none⟩ = some y2 ∧ W.cell? ⟨q, 3, none⟩ = some y3 :=
  ⟨h.dp.x.p, h.dp.x.b, blk_cell h.bx 0, blk_cell h.bx 1, blk_cell h.bx 2, blk_cell h.bx 3⟩
/-- What a step leaves. -/
def StP (w : World) (LB K o c g n : Nat) (o' c' g' n' : Nat) (d' : Dk) (i : Nat) (e : Ending) (W : World) : Prop :=
  e = .returned (.bool true) ∧ ∃ vb vw L d1, Dp w LB K vb vw L o c g n d1 d1 o' c' g' n' d' W ∧ DI d1 i
end
end Go.Proofs.Ytpfiaepoibablaa
namespace Go.Proofs.Ytpfiaepoibablaa
set_option linter.unusedVariables false
set_option linter.unusedSimpArgs false
open Go.RowKit

theorem DI.write {d : Dk} {i : Nat} (h : DI d i) (s : Int) (l : List Nat) : DI (wrV d s l).1 (i + 1) :=
  ⟨by have := (wrV_fuse d s l).2; have := h.wr; omega, by have := (wrV_fuse d s l).1; have := h.fz; omega⟩
theorem lent_get {W : World} {g : Nat} {ld : List Nat} (h : W.heap[g]? = some (.cells (bC (lentL ld 9)).toArray 5 (0, 0))) (j x : Nat) (hx : ld[j]? = some x) : W.cell? ((⟨g, 0, none⟩ : Addr).add j) = some (.int .u8 (x : Int)) := by
  rw [Addr.add_mid, Nat.zero_add, blk_cell h, List.getElem?_toArray, bC_get]
  unfold lentL
  rw [List.getElem?_append_left (List.getElem?_eq_some_iff.1 hx).1, hx]; rfl
set_option maxRecDepth 100000 in
set_option maxHeartbeats 2000000 in
theorem step_write (w : World) (LB K : Nat) (vb vw : Value) (L : List Ls) (o c g n : Nat) (d : Dk) (o' c' g' n' : Nat) (d' : Dk) (who a : Int) (av : Option Addr) (cv : Nat) (ld : List Nat) (i : Nat) (W : World)
    (hD : Dp w LB K vb vw L o c g n d d o' c' g' n' d' W) (hI : DI d i) (hi : i ≤ 1000) (hl : ld.length ≤ 300) (hr : RdP w av ld) :
    Calls Try.prog 13 #[.pointer (some ⟨LB, o, none⟩), .agg #[.int .i64 1, .int .i64 who, .int .i64 a, .slice av ld.length cv]] W (StP w LB K o c g n o' c' g' n' d' (i + 1)) := by
  have HS := Lib.hid (hD.box #[.int .i64 1, .int .i64 who, .int .i64 a, .slice av ld.length cv])
  have HI := Lib.hid hI
  have HR := Lib.hid hr
  have HL := Lib.hid hl
  clear hD hI hr
  go_enter Try.func13, Try.ntmps13
  go_wp2_with fail
  obtain ⟨q, hq⟩ : ∃ q, W.heap.size = q := ⟨_, rfl⟩
  generalize World.alloc W _ = W0 at *
  rw [hq] at HS
  (try rw [hq])
  clear hq
  refine (lent_any av cv ld _ (by omega) (HR.out.below HS.out.dp.low)).mono ?_
  rintro e w1 ⟨gl, rfl, hgl, hbl, hB1⟩
  have HN : Hid ((gl ≠ LB ∧ gl ≠ c ∧ gl ≠ g ∧ gl ≠ c' ∧ gl ≠ g') ∧ gl ∉ bkB K vb vw L ∧ w.heap.size ≤ gl ∧ q ≠ gl) := by
    have hl := HS.out.lt
    exact ⟨by omega, fun hm => by have := hl.2.2.2.2.2.2.2 _ hm; omega, by omega, by omega⟩
  have HS := Lib.hid (HS.out.below hB1)
  have HBL := Lib.hid hbl
  clear hgl hB1 hbl
  obtain ⟨p0, p5, y0, y1, y2, y3⟩ := HS.out.cells
  go_upto_region 4 with fail
  refine wp_region_early (fun w' => w'.cell? ⟨LB, o, none⟩ = some (.pointer (some ⟨c, 0, none⟩)) ∧ w'.cell? ⟨LB, o + 5, none⟩ = some (.pointer (some ⟨K, 0, none⟩)) ∧ w'.cell? ⟨q, 0, none⟩ = some (.int .i64 1) ∧ w'.cell? ⟨q, 1, none⟩ = some (.int .i64 who) ∧ w'.cell? ⟨q, 2, none⟩ = some (.int .i64 a) ∧ w'.cell? ⟨q, 3, none⟩ = some (.slice av ld.length cv)) (fun _ => false) (by kernel_rfl) ?_
  simp only [List.size_toArray, List.length_cons, List.length_nil, Nat.reduceAdd, Array.replicate_succ, Array.replicate_zero, List.push_toArray, List.nil_append, List.cons_append]
  have HS := Lib.hid HS.out.drew
  have HBL := Lib.hid (blk_below' ((Below.refl (w1).heap.size w1).drew) HBL.out)
  clear p0 p5 y0 y1 y2 y3
  generalize World.drew w1 = V1 at *
  have hSS := HS.out.cells
  refine wpAnyE_take (i := 0) (v := ?_) rfl (by kernel_rfl) (by kernel_rfl) (by kernel_rfl) (by kernel_rfl) (fun _ _ _ h => h) (Or.inl ⟨by rfl, ?_⟩) hSS ?_
  rotate_left
  · intro w hSw
    obtain ⟨j0, j1, j2, j3, j4, j5⟩ := hSw
    go_simp
    all_goals with_reducible rfl
  simp only [Act.put, List.setIfInBounds_toArray, List.set_cons_zero, List.set_cons_succ, List.getElem_toArray, List.getElem_cons_zero, List.getElem_cons_succ]
  refine wpAnyE_take (i := 1) (v := ?_) rfl (by kernel_rfl) (by kernel_rfl) (by kernel_rfl) (by kernel_rfl) (fun _ _ _ h => h) (Or.inl ⟨by rfl, ?_⟩) hSS ?_
  rotate_left
  · intro w hSw
    obtain ⟨j0, j1, j2, j3, j4, j5⟩ := hSw
    go_simp
    all_goals with_reducible rfl
  simp only [Act.put, List.setIfInBounds_toArray, List.set_cons_zero, List.set_cons_succ, List.getElem_toArray, List.getElem_cons_zero, List.getElem_cons_succ]
  refine wpAnyE_take (i := 2) (v := ?_) rfl (by kernel_rfl) (by kernel_rfl) (by kernel_rfl) (by kernel_rfl) (fun _ _ _ h => h) (Or.inl ⟨by rfl, ?_⟩) hSS ?_
  rotate_left
  · intro w hSw
    obtain ⟨j0, j1, j2, j3, j4, j5⟩ := hSw
    go_simp
    all_goals with_reducible rfl
  simp only [Act.put, List.setIfInBounds_toArray, List.set_cons_zero, List.set_cons_succ, List.getElem_toArray, List.getElem_cons_zero, List.getElem_cons_succ]
  refine wpAnyE_take (i := 3) (v := ?_) rfl (by kernel_rfl) (by kernel_rfl) (by kernel_rfl) (by kernel_rfl) (fun _ _ _ h => h) (Or.inl ⟨by rfl, ?_⟩) hSS ?_
  rotate_left
  · intro w hSw
    obtain ⟨j0, j1, j2, j3, j4, j5⟩ := hSw
    go_simp
    all_goals with_reducible rfl
  simp only [Act.put, List.setIfInBounds_toArray, List.set_cons_zero, List.set_cons_succ, List.getElem_toArray, List.getElem_cons_zero, List.getElem_cons_succ]
  refine wpAnyE_take (i := 4) (v := ?_) rfl (by kernel_rfl) (by kernel_rfl) (by kernel_rfl) (by kernel_rfl) (fun _ _ _ h => h) (Or.inl ⟨by rfl, ?_⟩) hSS ?_
  rotate_left
  · intro w hSw
    obtain ⟨j0, j1, j2, j3, j4, j5⟩ := hSw
    go_simp
    all_goals with_reducible rfl
  simp only [Act.put, List.setIfInBounds_toArray, List.set_cons_zero, List.set_cons_succ, List.getElem_toArray, List.getElem_cons_zero, List.getElem_cons_succ]
  refine wpAnyE_take (i := 5) (v := ?_) rfl (by kernel_rfl) (by kernel_rfl) (by kernel_rfl) (by kernel_rfl) (fun _ _ _ h => h) (Or.inl ⟨by rfl, ?_⟩) hSS ?_
  rotate_left
  · intro w hSw
    obtain ⟨j0, j1, j2, j3, j4, j5⟩ := hSw
    go_simp
    all_goals with_reducible rfl
  simp only [Act.put, List.setIfInBounds_toArray, List.set_cons_zero, List.set_cons_succ, List.getElem_toArray, List.getElem_cons_zero, List.getElem_cons_succ]
  refine wpAnyE_take (i := 6) (v := ?_) rfl (by kernel_rfl) (by kernel_rfl) (by kernel_rfl) (by kernel_rfl) (fun _ _ _ h => h) (Or.inl ⟨by rfl, ?_⟩) hSS ?_
  rotate_left
  · intro w hSw
    obtain ⟨j0, j1, j2, j3, j4, j5⟩ := hSw
    go_simp
    all_goals with_reducible rfl
  simp only [Act.put, List.setIfInBounds_toArray, List.set_cons_zero, List.set_cons_succ, List.getElem_toArray, List.getElem_cons_zero, List.getElem_cons_succ]
  refine wpAnyE_one (i := 7) (by kernel_rfl) rfl ?_
  change wpList _ _ (Exit.then _ _) [_] _ _
  try simp only [List.setIfInBounds_toArray, List.set_cons_zero, List.set_cons_succ, List.getElem_toArray, List.getElem_cons_zero, List.getElem_cons_succ]
  go_wp2_with (go_at_call 16; refine (write_any c d a _ ld _ HS.out.dp.x.disk ⟨_, _, rfl, fun j x hx => ⟨_, rfl, HN.out.1.2.1, lent_get HBL.out j x hx⟩⟩ (by omega) (by have := HI.out.wr; omega) HI.out.fz).mono ?_; rintro e w2 ⟨rfl, hD2, hg2⟩)
  clear hSS
  have HS := Lib.hid (HS.out.turnD hD2 hg2)
  have HBL := Lib.hid (blk_grown hg2 HBL.out (by have := HN.out.1.2.1; simpa using this))
  clear hD2 hg2
  have hSS := HS.out.cells
  refine ⟨fun _ => hSS, ?_⟩
  try simp only [List.setIfInBounds_toArray, List.set_cons_zero, List.set_cons_succ, List.getElem_toArray, List.getElem_cons_zero, List.getElem_cons_succ]
  refine wpAnyE_one (i := 8) (by kernel_rfl) rfl ?_
  change wpList _ _ (Exit.then _ _) [_] _ _
  try simp only [List.setIfInBounds_toArray, List.set_cons_zero, List.set_cons_succ, List.getElem_toArray, List.getElem_cons_zero, List.getElem_cons_succ]
  go_wp2_with fail
  refine ⟨fun _ => hSS, ?_⟩
  try simp only [List.setIfInBounds_toArray, List.set_cons_zero, List.set_cons_succ, List.getElem_toArray, List.getElem_cons_zero, List.getElem_cons_succ]
  refine wpAnyE_end (by kernel_rfl) ?_
  obtain ⟨p0, p5, y0, y1, y2, y3⟩ := hSS
  go_upto_region 5 with fail
  refine wp_region_early (fun w' => w'.cell? ⟨LB, o, none⟩ = some (.pointer (some ⟨c, 0, none⟩)) ∧ w'.cell? ⟨LB, o + 5, none⟩ = some (.pointer (some ⟨K, 0, none⟩)) ∧ w'.cell? ⟨q, 0, none⟩ = some (.int .i64 1) ∧ w'.cell? ⟨q, 1, none⟩ = some (.int .i64 who) ∧ w'.cell? ⟨q, 2, none⟩ = some (.int .i64 a) ∧ w'.cell? ⟨q, 3, none⟩ = some (.slice av ld.length cv)) (fun _ => false) (by kernel_rfl) ?_
  simp only [List.size_toArray, List.length_cons, List.length_nil, Nat.reduceAdd, Array.replicate_succ, Array.replicate_zero, List.push_toArray, List.nil_append, List.cons_append]
  have HS := Lib.hid HS.out.drew
  have HBL := Lib.hid (blk_below' ((Below.refl (w2).heap.size w2).drew) HBL.out)
  clear p0 p5 y0 y1 y2 y3
  generalize World.drew w2 = V2 at *
  have hSS := HS.out.cells
  refine wpAnyE_take (i := 0) (v := ?_) rfl (by kernel_rfl) (by kernel_rfl) (by kernel_rfl) (by kernel_rfl) (fun _ _ _ h => h) (Or.inl ⟨by rfl, ?_⟩) hSS ?_
  rotate_left
  · intro w hSw
    obtain ⟨j0, j1, j2, j3, j4, j5⟩ := hSw
    go_simp
    all_goals with_reducible rfl
  simp only [Act.put, List.setIfInBounds_toArray, List.set_cons_zero, List.set_cons_succ, List.getElem_toArray, List.getElem_cons_zero, List.getElem_cons_succ]
  refine wpAnyE_take (i := 1) (v := ?_) rfl (by kernel_rfl) (by kernel_rfl) (by kernel_rfl) (by kernel_rfl) (fun _ _ _ h => h) (Or.inl ⟨by rfl, ?_⟩) hSS ?_
  rotate_left
  · intro w hSw
    obtain ⟨j0, j1, j2, j3, j4, j5⟩ := hSw
    go_simp
    all_goals with_reducible rfl
  simp only [Act.put, List.setIfInBounds_toArray, List.set_cons_zero, List.set_cons_succ, List.getElem_toArray, List.getElem_cons_zero, List.getElem_cons_succ]
  refine wpAnyE_take (i := 2) (v := ?_) rfl (by kernel_rfl) (by kernel_rfl) (by kernel_rfl) (by kernel_rfl) (fun _ _ _ h => h) (Or.inl ⟨by rfl, ?_⟩) hSS ?_
  rotate_left
  · intro w hSw
    obtain ⟨j0, j1, j2, j3, j4, j5⟩ := hSw
    go_simp
    all_goals with_reducible rfl
  simp only [Act.put, List.setIfInBounds_toArray, List.set_cons_zero, List.set_cons_succ, List.getElem_toArray, List.getElem_cons_zero, List.getElem_cons_succ]
  refine wpAnyE_take (i := 3) (v := ?_) rfl (by kernel_rfl) (by kernel_rfl) (by kernel_rfl) (by kernel_rfl) (fun _ _ _ h => h) (Or.inl ⟨by rfl, ?_⟩) hSS ?_
  rotate_left
  · intro w hSw
    obtain ⟨j0, j1, j2, j3, j4, j5⟩ := hSw
    go_simp
    all_goals with_reducible rfl
  simp only [Act.put, List.setIfInBounds_toArray, List.set_cons_zero, List.set_cons_succ, List.getElem_toArray, List.getElem_cons_zero, List.getElem_cons_succ]
  refine wpAnyE_take (i := 4) (v := ?_) rfl (by kernel_rfl) (by kernel_rfl) (by kernel_rfl) (by kernel_rfl) (fun _ _ _ h => h) (Or.inl ⟨by rfl, ?_⟩) hSS ?_
  rotate_left
  · intro w hSw
    obtain ⟨j0, j1, j2, j3, j4, j5⟩ := hSw
    go_simp
    all_goals with_reducible rfl
  simp only [Act.put, List.setIfInBounds_toArray, List.set_cons_zero, List.set_cons_succ, List.getElem_toArray, List.getElem_cons_zero, List.getElem_cons_succ]
  refine wpAnyE_take (i := 5) (v := ?_) rfl (by kernel_rfl) (by kernel_rfl) (by kernel_rfl) (by kernel_rfl) (fun _ _ _ h => h) (Or.inl ⟨by rfl, ?_⟩) hSS ?_
  rotate_left
  · intro w hSw
    obtain ⟨j0, j1, j2, j3, j4, j5⟩ := hSw
    go_simp
    all_goals with_reducible rfl
  simp only [Act.put, List.setIfInBounds_toArray, List.set_cons_zero, List.set_cons_succ, List.getElem_toArray, List.getElem_cons_zero, List.getElem_cons_succ]
  refine wpAnyE_take (i := 6) (v := ?_) rfl (by kernel_rfl) (by kernel_rfl) (by kernel_rfl) (by kernel_rfl) (fun _ _ _ h => h) (Or.inl ⟨by rfl, ?_⟩) hSS ?_
  rotate_left
  · intro w hSw
    obtain ⟨j0, j1, j2, j3, j4, j5⟩ := hSw
    go_simp
    all_goals with_reducible rfl
  simp only [Act.put, List.setIfInBounds_toArray, List.set_cons_zero, List.set_cons_succ, List.getElem_toArray, List.getElem_cons_zero, List.getElem_cons_succ]
  refine wpAnyE_one (i := 7) (by kernel_rfl) rfl ?_
  change wpList _ _ (Exit.then _ _) [_] _ _
  try simp only [List.setIfInBounds_toArray, List.set_cons_zero, List.set_cons_succ, List.getElem_toArray, List.getElem_cons_zero, List.getElem_cons_succ]
  have HB2 : Hid (∀ j x : Nat, ld[j]? = some x → ∃ p, av = some p ∧ p.block ≠ LB ∧ p.block ≠ g ∧ V2.cell? (p.add j) = some (.int .u8 (x : Int))) := fun j x hx => by
    obtain ⟨b, hb, hc⟩ := HR.out j x hx
    have hcl := cell_lt hc
    have hge := HS.out.dp.ge
    rw [add_block] at hcl
    exact ⟨b, hb, by omega, by omega, (HS.out.dp.low.cell (cell_lt hc)).trans hc⟩
  go_wp2_with (go_at_call 21; refine (refWrite_any LB (o + 1) g n d a _ ld _ HS.out.dp.x.rk ⟨av, cv, rfl, HB2.out⟩ (by omega) (by have := HI.out.wr; omega) HI.out.fz).mono ?_; rintro e w3 ⟨rfl, hR3, hC3⟩)
  clear hSS HB2
  have HS := Lib.hid (HS.out.turnR hR3 hC3)
  have HBL := Lib.hid (hC3.blk HBL.out HN.out.1.1 HN.out.1.2.2.1)
  have HI := Lib.hid (HI.out.write a ld)
  clear hR3 hC3
  have hSS := HS.out.cells
  refine ⟨fun _ => hSS, ?_⟩
  try simp only [List.setIfInBounds_toArray, List.set_cons_zero, List.set_cons_succ, List.getElem_toArray, List.getElem_cons_zero, List.getElem_cons_succ]
  refine wpAnyE_one (i := 8) (by kernel_rfl) rfl ?_
  change wpList _ _ (Exit.then _ _) [_] _ _
  try simp only [List.setIfInBounds_toArray, List.set_cons_zero, List.set_cons_succ, List.getElem_toArray, List.getElem_cons_zero, List.getElem_cons_succ]
  go_wp2_with fail
  refine ⟨fun _ => hSS, ?_⟩
  try simp only [List.setIfInBounds_toArray, List.set_cons_zero, List.set_cons_succ, List.getElem_toArray, List.getElem_cons_zero, List.getElem_cons_succ]
  refine wpAnyE_end (by kernel_rfl) ?_
  obtain ⟨p0, p5, y0, y1, y2, y3⟩ := hSS
  generalize wrV d a ld = dr at *
  obtain ⟨d1, er⟩ := dr
  dsimp only at HS HI ⊢
  go_wp2_with fail
  refine (stays_any none av cv gl ld _ (by omega) (HR.out.below HS.out.dp.low) HBL.out).mono ?_
  rintro e w4 ⟨rfl, hB4⟩
  have HS := Lib.hid (HS.out.below hB4)
  have HBL : Hid (∃ cs : Array Value, w4.heap[gl]? = some (.cells cs 5 (0, 0)) ∧ ld.length ≤ cs.size) := ⟨_, blk_below' hB4 HBL.out, by rw [List.size_toArray, bC_len, lentL_len _ (by omega)]; omega⟩
  clear hB4 p0 p5 y0 y1 y2 y3
  obtain ⟨m, hm⟩ : ∃ m, ld.length = m := ⟨_, rfl⟩
  rw [hm] at HS HBL hl ⊢
  have hm3 : (m : Int) ≤ 300 := by omega
  clear HR hm
  go_wp2_with fail
  go_loopw [9] (fun i wr => ∃ j : Nat, i = .int .i64 j ∧ j ≤ m ∧ Hid (Ds w LB K vb vw L o c g n d1 d1 o' c' g' n' d' q #[.int .i64 1, .int .i64 who, .int .i64 a, .slice av m cv] wr) ∧ Hid (∃ cs : Array Value, wr.heap[gl]? = some (.cells cs 5 (0, 0)) ∧ m ≤ cs.size)) (fun i _ => m - (intOf i).toNat)
  case atStart => exact ⟨0, rfl, by omega, HS.out, HBL.out⟩
  case round =>
    obtain ⟨j, rfl, hj, hS, hB⟩ := hrel
    by_cases hlt : j < m
    · have b1 : (j : Int) < (m : Int) := by omega
      have b2 : (0 : Int) ≤ (j : Int) := by omega
      obtain ⟨cs, hcs, hsz⟩ := hB.out
      obtain ⟨y, hy⟩ : ∃ y, cs[j]? = some y := ⟨_, Array.getElem?_eq_getElem (by omega)⟩
      have e0 := (blk_cell hcs j).trans hy
      have f0 := blk_free hcs j
      have hset := Lib.hid (but_set (but_refl wr (some gl)) (blk_lt hcs) j (.int .u8 90))
      have hbk := Lib.hid (blk_store hcs j (.int .u8 90))
      go_wp2_with fail
      go_roundw
      case rel => exact ⟨j + 1, by go_num, by omega, hS.out.but hset.out HN.out.1 HN.out.2.1 HN.out.2.2.1 HN.out.2.2.2, ⟨_, hbk.out, by simpa using hsz⟩⟩
      case measure => simp [intOf]; omega
    · obtain rfl : j = m := by omega
      have b1 : ¬ (j : Int) < (j : Int) := by omega
      go_wp2_with fail
      go_ret
      exact ⟨rfl, _, _, _, _, hS.out.dp, HI.out⟩
end Go.Proofs.Ytpfiaepoibablaa
namespace Go.Proofs.Ytpfiaepoibablaa
set_option linter.unusedVariables false
set_option linter.unusedSimpArgs false
open Go.RowKit

def rdL (d : Dk) (s : Int) : List Nat := if mayV d s = 0 then (d.bs.drop (s.toNat * 32)).take 32 else []
theorem rdL_len (d : Dk) (s : Int) : (rdL d s).length ≤ 32 := by
  unfold rdL
  split
  · rw [List.length_take]; omega
  · exact Nat.zero_le _
theorem rdL_own {d : Dk} {s : Int} {W X : World} {v : Value} (hlen : d.bs.length = 256) (h0 : mayV d s ≠ 0 → v = .slice none 0 0) (h1 : mayV d s = 0 → X.ownsRow W.heap.size 5 1 v 32 (bC ((d.bs.drop (s.toNat * 32)).take 32))) :
    X.ownsRow W.heap.size 5 1 v (rdL d s).length (bC (rdL d s)) := by
  unfold rdL
  by_cases hm : mayV d s = 0
  · obtain ⟨k, rfl, hk, _⟩ := mayV_nat hm
    rw [if_pos hm, List.length_take, List.length_drop, hlen, Int.toNat_natCast, show min 32 (256 - k * 32) = 32 by omega]
    have := h1 hm
    rwa [Int.toNat_natCast] at this
  · rw [if_neg hm, h0 hm]
    exact World.ownsRow_nil _ _ _ _
theorem own_rd {W : World} {base : Nat} {t : TypeId} {av : Option Addr} {cv n : Nat} {l : List Nat} (h : W.ownsRow base t 1 (.slice av n cv) n (bC l)) : RdP W av l := fun j x hx => by
  rcases h.2 with ⟨e, h0⟩ | ⟨g, cap, cur, e, _⟩
  · have hl := h.1
    rw [bC_len, h0] at hl
    have := (List.getElem?_eq_some_iff.1 hx).1
    omega
  · injection e with e1 e2 e3
    subst e1
    exact ⟨_, rfl, h.cells rfl j _ (by rw [bC_get, hx]; rfl)⟩
theorem BkPut.same {W X : World} {base K B n size : Nat} {vb vw v u : Value} {L : List Ls} {e : TypeId} {xs : List Value} (hP : BkPut W base K vb vw L v X) (hu : W.ownsRow B e size u n xs) (hB : ∀ k ∈ bkB K vb vw L, k < B) : X.ownsRow B e size u n xs := by
  obtain ⟨_, _, _, _, hF, _⟩ := hP
  refine ownsRow_same hu fun k hk => ?_
  have h1 := ownsRow_obs hu k hk
  refine hF.block k h1.2 (fun e => ?_) (fun e => ?_) (fun e => ?_)
  · have := hB K (by simp [bkB]); omega
  · have := hB k (by simp [bkB, e]); omega
  · have := hB k (by simp [bkB, e]); omega
theorem Ds.book {w : World} {LB K : Nat} {vb vw v : Value} {L : List Ls} {o c g n : Nat} {d e : Dk} {o' c' g' n' : Nat} {d' : Dk} {q : Nat} {Y : Array Value} {W X : World} (h : Ds w LB K vb vw L o c g n d e o' c' g' n' d' q Y W) (hP : BkPut W w.heap.size K vb vw L v X) (hv : ∀ k ∈ obs v, k ≠ LB ∧ k ≠ c ∧ k ≠ g ∧ k ≠ c' ∧ k ≠ g' ∧ k ≠ q) :
    ∃ vb' vw' L', Ds w LB K vb' vw' L' o c g n d e o' c' g' n' d' q Y X := by
  have hlt := h.lt
  have h2 := h.dp.book hP (fun k hk => by have := hv k hk; omega)
  obtain ⟨vb', vw', L', hB, hF, hm⟩ := hP
  have h3 : ∃ vb' vw' L', Dp w LB K vb' vw' L' o c g n d e o' c' g' n' d' X ∧ q ∉ bkB K vb' vw' L' := by
    obtain ⟨h1, h2, h3, h4, h5, h6, h7, h8⟩ := h.dp
    have mK : K ∈ bkB K vb vw L := by simp [bkB]
    have mb : ∀ k ∈ obs vb, k ∈ bkB K vb vw L := fun k hk => by simp [bkB, hk]
    have mw : ∀ k ∈ obs vw, k ∈ bkB K vb vw L := fun k hk => by simp [bkB, hk]
    have hk : ∀ k, k < W.heap.size → (∀ j ∈ bkB K vb vw L, j ≠ k) → X.heap[k]? = W.heap[k]? := fun k hk hj => hF.block k hk (fun e => hj K mK e.symm) (fun e => hj k (mb k e) rfl) (fun e => hj k (mw k e) rfl)
    have k1 := hk LB h1.lt.1 (fun j hj => (h7 j hj).1)
    refine ⟨vb', vw', L', ⟨h1.keep k1 (hk c h1.lt.2.1 (fun j hj => (h7 j hj).2.1)) (hk g h1.lt.2.2 (fun j hj => (h7 j hj).2.2.1)), h2.keep k1 (hk c' h2.lt.2.1 (fun j hj => (h7 j hj).2.2.2.1)) (hk g' h2.lt.2.2 (fun j hj => (h7 j hj).2.2.2.2)), hB, h4.trans (hF.low h3 h4.size), h5, h6, fun k hk => ?_, h8⟩, fun hk => ?_⟩
    · rcases hm k hk with hk | hk | hk
      · exact h7 k hk
      · have := hv k hk; omega
      · omega
    · rcases hm q hk with hk | hk | hk
      · exact h.sep hk
      · have := hv q hk; omega
      · omega
  obtain ⟨vb1, vw1, L1, k1, k2⟩ := h3
  have mK : K ∈ bkB K vb vw L := by simp [bkB]
  exact ⟨vb1, vw1, L1, k1, (hF.block q hlt.2.2.2.2.2.1 (fun e => h.sep (e ▸ mK)) (fun e => h.sep (by simp [bkB, e])) (fun e => h.sep (by simp [bkB, e]))).trans h.bx, h.ne, k2⟩
set_option maxRecDepth 100000 in
set_option maxHeartbeats 2000000 in
theorem step_read (w : World) (LB K : Nat) (vb vw : Value) (L : List Ls) (o c g n : Nat) (d : Dk) (o' c' g' n' : Nat) (d' : Dk) (who a : Int) (av : Option Addr) (cv : Nat) (ld : List Nat) (i : Nat) (W : World)
    (hD : Dp w LB K vb vw L o c g n d d o' c' g' n' d' W) (hI : DI d i) :
    Calls Try.prog 13 #[.pointer (some ⟨LB, o, none⟩), .agg #[.int .i64 2, .int .i64 who, .int .i64 a, .slice av ld.length cv]] W (StP w LB K o c g n o' c' g' n' d' (i + 1)) := by
  have HS := Lib.hid (hD.box #[.int .i64 2, .int .i64 who, .int .i64 a, .slice av ld.length cv])
  have HI := Lib.hid hI.up
  clear hD hI
  go_enter Try.func13, Try.ntmps13
  go_upto_region 13 with fail
  obtain ⟨q, hq⟩ : ∃ q, W.heap.size = q := ⟨_, rfl⟩
  generalize World.alloc W _ = W0 at *
  rw [hq] at HS
  (try rw [hq])
  clear hq
  obtain ⟨p0, p5, y0, y1, y2, y3⟩ := HS.out.cells
  refine wp_region_early (fun w' => w'.cell? ⟨LB, o, none⟩ = some (.pointer (some ⟨c, 0, none⟩)) ∧ w'.cell? ⟨LB, o + 5, none⟩ = some (.pointer (some ⟨K, 0, none⟩)) ∧ w'.cell? ⟨q, 0, none⟩ = some (.int .i64 2) ∧ w'.cell? ⟨q, 1, none⟩ = some (.int .i64 who) ∧ w'.cell? ⟨q, 2, none⟩ = some (.int .i64 a) ∧ w'.cell? ⟨q, 3, none⟩ = some (.slice av ld.length cv)) (fun _ => false) (by kernel_rfl) ?_
  simp only [List.size_toArray, List.length_cons, List.length_nil, Nat.reduceAdd, Array.replicate_succ, Array.replicate_zero, List.push_toArray, List.nil_append, List.cons_append]
  have HS := Lib.hid HS.out.drew
  clear p0 p5 y0 y1 y2 y3
  generalize World.drew W0 = V0 at *
  have hSS := HS.out.cells
  refine wpAnyE_take (i := 0) (v := ?_) rfl (by kernel_rfl) (by kernel_rfl) (by kernel_rfl) (by kernel_rfl) (fun _ _ _ h => h) (Or.inl ⟨by rfl, ?_⟩) hSS ?_
  rotate_left
  · intro w hSw
    obtain ⟨j0, j1, j2, j3, j4, j5⟩ := hSw
    go_simp
    all_goals with_reducible rfl
  simp only [Act.put, List.setIfInBounds_toArray, List.set_cons_zero, List.set_cons_succ, List.getElem_toArray, List.getElem_cons_zero, List.getElem_cons_succ]
  refine wpAnyE_take (i := 1) (v := ?_) rfl (by kernel_rfl) (by kernel_rfl) (by kernel_rfl) (by kernel_rfl) (fun _ _ _ h => h) (Or.inl ⟨by rfl, ?_⟩) hSS ?_
  rotate_left
  · intro w hSw
    obtain ⟨j0, j1, j2, j3, j4, j5⟩ := hSw
    go_simp
    all_goals with_reducible rfl
  simp only [Act.put, List.setIfInBounds_toArray, List.set_cons_zero, List.set_cons_succ, List.getElem_toArray, List.getElem_cons_zero, List.getElem_cons_succ]
  refine wpAnyE_take (i := 2) (v := ?_) rfl (by kernel_rfl) (by kernel_rfl) (by kernel_rfl) (by kernel_rfl) (fun _ _ _ h => h) (Or.inl ⟨by rfl, ?_⟩) hSS ?_
  rotate_left
  · intro w hSw
    obtain ⟨j0, j1, j2, j3, j4, j5⟩ := hSw
    go_simp
    all_goals with_reducible rfl
  simp only [Act.put, List.setIfInBounds_toArray, List.set_cons_zero, List.set_cons_succ, List.getElem_toArray, List.getElem_cons_zero, List.getElem_cons_succ]
  refine wpAnyE_take (i := 3) (v := ?_) rfl (by kernel_rfl) (by kernel_rfl) (by kernel_rfl) (by kernel_rfl) (fun _ _ _ h => h) (Or.inl ⟨by rfl, ?_⟩) hSS ?_
  rotate_left
  · intro w hSw
    obtain ⟨j0, j1, j2, j3, j4, j5⟩ := hSw
    go_simp
    all_goals with_reducible rfl
  simp only [Act.put, List.setIfInBounds_toArray, List.set_cons_zero, List.set_cons_succ, List.getElem_toArray, List.getElem_cons_zero, List.getElem_cons_succ]
  refine wpAnyE_take (i := 4) (v := ?_) rfl (by kernel_rfl) (by kernel_rfl) (by kernel_rfl) (by kernel_rfl) (fun _ _ _ h => h) (Or.inl ⟨by rfl, ?_⟩) hSS ?_
  rotate_left
  · intro w hSw
    obtain ⟨j0, j1, j2, j3, j4, j5⟩ := hSw
    go_simp
    all_goals with_reducible rfl
  simp only [Act.put, List.setIfInBounds_toArray, List.set_cons_zero, List.set_cons_succ, List.getElem_toArray, List.getElem_cons_zero, List.getElem_cons_succ]
  refine wpAnyE_take (i := 5) (v := ?_) rfl (by kernel_rfl) (by kernel_rfl) (by kernel_rfl) (by kernel_rfl) (fun _ _ _ h => h) (Or.inl ⟨by rfl, ?_⟩) hSS ?_
  rotate_left
  · intro w hSw
    obtain ⟨j0, j1, j2, j3, j4, j5⟩ := hSw
    go_simp
    all_goals with_reducible rfl
  simp only [Act.put, List.setIfInBounds_toArray, List.set_cons_zero, List.set_cons_succ, List.getElem_toArray, List.getElem_cons_zero, List.getElem_cons_succ]
  refine wpAnyE_one (i := 6) (by kernel_rfl) rfl ?_
  change wpList _ _ (Exit.then _ _) [_] _ _
  try simp only [List.setIfInBounds_toArray, List.set_cons_zero, List.set_cons_succ, List.getElem_toArray, List.getElem_cons_zero, List.getElem_cons_succ]
  go_wp2_with (go_at_call 17; refine (read_any c d a _ HS.out.dp.x.disk).mono ?_; rintro e w1 ⟨v, rfl, hv0, hv1, hB1⟩)
  have hown := rdL_own HS.out.dp.x.disk.2 hv0 hv1
  have hlt0 := Lib.hid HS.out.lt
  have HS := Lib.hid (HS.out.below hB1)
  have hle0 := hB1.size
  clear hB1 hv0 hv1 hSS
  have hSS := HS.out.cells
  obtain ⟨ax, cx, rfl⟩ := sl_form hown
  have HX := Lib.hid hown
  clear hown
  refine ⟨fun _ => hSS, ?_⟩
  try simp only [List.setIfInBounds_toArray, List.set_cons_zero, List.set_cons_succ, List.getElem_toArray, List.getElem_cons_zero, List.getElem_cons_succ]
  refine wpAnyE_take (i := 7) (v := ?_) rfl (by kernel_rfl) (by kernel_rfl) (by kernel_rfl) (by kernel_rfl) (fun _ _ _ h => h) (Or.inl ⟨by rfl, ?_⟩) hSS ?_
  rotate_left
  · intro w hSw
    obtain ⟨j0, j1, j2, j3, j4, j5⟩ := hSw
    go_simp
    all_goals with_reducible rfl
  simp only [Act.put, List.setIfInBounds_toArray, List.set_cons_zero, List.set_cons_succ, List.getElem_toArray, List.getElem_cons_zero, List.getElem_cons_succ]
  refine wpAnyE_take (i := 8) (v := ?_) rfl (by kernel_rfl) (by kernel_rfl) (by kernel_rfl) (by kernel_rfl) (fun _ _ _ h => h) (Or.inl ⟨by rfl, ?_⟩) hSS ?_
  rotate_left
  · intro w hSw
    obtain ⟨j0, j1, j2, j3, j4, j5⟩ := hSw
    go_simp
    all_goals with_reducible rfl
  simp only [Act.put, List.setIfInBounds_toArray, List.set_cons_zero, List.set_cons_succ, List.getElem_toArray, List.getElem_cons_zero, List.getElem_cons_succ]
  refine wpAnyE_take (i := 9) (v := ?_) rfl (by kernel_rfl) (by kernel_rfl) (by kernel_rfl) (by kernel_rfl) (fun _ _ _ h => h) (Or.inl ⟨by rfl, ?_⟩) hSS ?_
  rotate_left
  · intro w hSw
    obtain ⟨j0, j1, j2, j3, j4, j5⟩ := hSw
    go_simp
    all_goals with_reducible rfl
  simp only [Act.put, List.setIfInBounds_toArray, List.set_cons_zero, List.set_cons_succ, List.getElem_toArray, List.getElem_cons_zero, List.getElem_cons_succ]
  refine wpAnyE_one (i := 10) (by kernel_rfl) rfl ?_
  change wpList _ _ (Exit.then _ _) [_] _ _
  try simp only [List.setIfInBounds_toArray, List.set_cons_zero, List.set_cons_succ, List.getElem_toArray, List.getElem_cons_zero, List.getElem_cons_succ]
  go_wp2_with fail
  refine ⟨fun _ => hSS, ?_⟩
  try simp only [List.setIfInBounds_toArray, List.set_cons_zero, List.set_cons_succ, List.getElem_toArray, List.getElem_cons_zero, List.getElem_cons_succ]
  refine wpAnyE_one (i := 11) (by kernel_rfl) rfl ?_
  change wpList _ _ (Exit.then _ _) [_] _ _
  try simp only [List.setIfInBounds_toArray, List.set_cons_zero, List.set_cons_succ, List.getElem_toArray, List.getElem_cons_zero, List.getElem_cons_succ]
  go_wp2_with fail
  refine ⟨fun _ => hSS, ?_⟩
  try simp only [List.setIfInBounds_toArray, List.set_cons_zero, List.set_cons_succ, List.getElem_toArray, List.getElem_cons_zero, List.getElem_cons_succ]
  refine wpAnyE_end (by kernel_rfl) ?_
  obtain ⟨p0, p5, y0, y1, y2, y3⟩ := hSS
  go_upto_region 14 with fail
  have HX := Lib.hid (ownsRow_below HX.out ((Below.refl w1.heap.size w1).drew))
  have hle1 : V0.heap.size ≤ w1.drew.heap.size := hle0
  refine wp_region_early (fun w' => w'.cell? ⟨LB, o, none⟩ = some (.pointer (some ⟨c, 0, none⟩)) ∧ w'.cell? ⟨LB, o + 5, none⟩ = some (.pointer (some ⟨K, 0, none⟩)) ∧ w'.cell? ⟨q, 0, none⟩ = some (.int .i64 2) ∧ w'.cell? ⟨q, 1, none⟩ = some (.int .i64 who) ∧ w'.cell? ⟨q, 2, none⟩ = some (.int .i64 a) ∧ w'.cell? ⟨q, 3, none⟩ = some (.slice av ld.length cv)) (fun _ => false) (by kernel_rfl) ?_
  simp only [List.size_toArray, List.length_cons, List.length_nil, Nat.reduceAdd, Array.replicate_succ, Array.replicate_zero, List.push_toArray, List.nil_append, List.cons_append]
  have HS := Lib.hid HS.out.drew
  clear p0 p5 y0 y1 y2 y3
  generalize World.drew w1 = V1 at *
  have hSS := HS.out.cells
  refine wpAnyE_take (i := 0) (v := ?_) rfl (by kernel_rfl) (by kernel_rfl) (by kernel_rfl) (by kernel_rfl) (fun _ _ _ h => h) (Or.inl ⟨by rfl, ?_⟩) hSS ?_
  rotate_left
  · intro w hSw
    obtain ⟨j0, j1, j2, j3, j4, j5⟩ := hSw
    go_simp
    all_goals with_reducible rfl
  simp only [Act.put, List.setIfInBounds_toArray, List.set_cons_zero, List.set_cons_succ, List.getElem_toArray, List.getElem_cons_zero, List.getElem_cons_succ]
  refine wpAnyE_take (i := 1) (v := ?_) rfl (by kernel_rfl) (by kernel_rfl) (by kernel_rfl) (by kernel_rfl) (fun _ _ _ h => h) (Or.inl ⟨by rfl, ?_⟩) hSS ?_
  rotate_left
  · intro w hSw
    obtain ⟨j0, j1, j2, j3, j4, j5⟩ := hSw
    go_simp
    all_goals with_reducible rfl
  simp only [Act.put, List.setIfInBounds_toArray, List.set_cons_zero, List.set_cons_succ, List.getElem_toArray, List.getElem_cons_zero, List.getElem_cons_succ]
  refine wpAnyE_take (i := 2) (v := ?_) rfl (by kernel_rfl) (by kernel_rfl) (by kernel_rfl) (by kernel_rfl) (fun _ _ _ h => h) (Or.inl ⟨by rfl, ?_⟩) hSS ?_
  rotate_left
  · intro w hSw
    obtain ⟨j0, j1, j2, j3, j4, j5⟩ := hSw
    go_simp
    all_goals with_reducible rfl
  simp only [Act.put, List.setIfInBounds_toArray, List.set_cons_zero, List.set_cons_succ, List.getElem_toArray, List.getElem_cons_zero, List.getElem_cons_succ]
  refine wpAnyE_take (i := 3) (v := ?_) rfl (by kernel_rfl) (by kernel_rfl) (by kernel_rfl) (by kernel_rfl) (fun _ _ _ h => h) (Or.inl ⟨by rfl, ?_⟩) hSS ?_
  rotate_left
  · intro w hSw
    obtain ⟨j0, j1, j2, j3, j4, j5⟩ := hSw
    go_simp
    all_goals with_reducible rfl
  simp only [Act.put, List.setIfInBounds_toArray, List.set_cons_zero, List.set_cons_succ, List.getElem_toArray, List.getElem_cons_zero, List.getElem_cons_succ]
  refine wpAnyE_take (i := 4) (v := ?_) rfl (by kernel_rfl) (by kernel_rfl) (by kernel_rfl) (by kernel_rfl) (fun _ _ _ h => h) (Or.inl ⟨by rfl, ?_⟩) hSS ?_
  rotate_left
  · intro w hSw
    obtain ⟨j0, j1, j2, j3, j4, j5⟩ := hSw
    go_simp
    all_goals with_reducible rfl
  simp only [Act.put, List.setIfInBounds_toArray, List.set_cons_zero, List.set_cons_succ, List.getElem_toArray, List.getElem_cons_zero, List.getElem_cons_succ]
  refine wpAnyE_one (i := 5) (by kernel_rfl) rfl ?_
  change wpList _ _ (Exit.then _ _) [_] _ _
  try simp only [List.setIfInBounds_toArray, List.set_cons_zero, List.set_cons_succ, List.getElem_toArray, List.getElem_cons_zero, List.getElem_cons_succ]
  go_wp2_with (go_at_call 23; refine (refRead10_any LB (o + 1) g n d a _ HS.out.dp.x.rk HS.out.dp.x.n).mono ?_; rintro e w2 ⟨u, rfl, hv0, hv1, hB2⟩)
  have hown := ownsRow_base (rdL_own HS.out.dp.x.disk.2 hv0 hv1) hle1
  have HS := Lib.hid (HS.out.below hB2)
  have HX := Lib.hid (ownsRow_below HX.out hB2)
  clear hB2 hv0 hv1 hSS hle1
  have hSS := HS.out.cells
  obtain ⟨ay, cy, rfl⟩ := sl_form hown
  have HY := Lib.hid hown
  clear hown
  refine ⟨fun _ => hSS, ?_⟩
  try simp only [List.setIfInBounds_toArray, List.set_cons_zero, List.set_cons_succ, List.getElem_toArray, List.getElem_cons_zero, List.getElem_cons_succ]
  refine wpAnyE_take (i := 6) (v := ?_) rfl (by kernel_rfl) (by kernel_rfl) (by kernel_rfl) (by kernel_rfl) (fun _ _ _ h => h) (Or.inl ⟨by rfl, ?_⟩) hSS ?_
  rotate_left
  · intro w hSw
    obtain ⟨j0, j1, j2, j3, j4, j5⟩ := hSw
    go_simp
    all_goals with_reducible rfl
  simp only [Act.put, List.setIfInBounds_toArray, List.set_cons_zero, List.set_cons_succ, List.getElem_toArray, List.getElem_cons_zero, List.getElem_cons_succ]
  refine wpAnyE_take (i := 7) (v := ?_) rfl (by kernel_rfl) (by kernel_rfl) (by kernel_rfl) (by kernel_rfl) (fun _ _ _ h => h) (Or.inl ⟨by rfl, ?_⟩) hSS ?_
  rotate_left
  · intro w hSw
    obtain ⟨j0, j1, j2, j3, j4, j5⟩ := hSw
    go_simp
    all_goals with_reducible rfl
  simp only [Act.put, List.setIfInBounds_toArray, List.set_cons_zero, List.set_cons_succ, List.getElem_toArray, List.getElem_cons_zero, List.getElem_cons_succ]
  refine wpAnyE_take (i := 8) (v := ?_) rfl (by kernel_rfl) (by kernel_rfl) (by kernel_rfl) (by kernel_rfl) (fun _ _ _ h => h) (Or.inl ⟨by rfl, ?_⟩) hSS ?_
  rotate_left
  · intro w hSw
    obtain ⟨j0, j1, j2, j3, j4, j5⟩ := hSw
    go_simp
    all_goals with_reducible rfl
  simp only [Act.put, List.setIfInBounds_toArray, List.set_cons_zero, List.set_cons_succ, List.getElem_toArray, List.getElem_cons_zero, List.getElem_cons_succ]
  refine wpAnyE_one (i := 9) (by kernel_rfl) rfl ?_
  change wpList _ _ (Exit.then _ _) [_] _ _
  try simp only [List.setIfInBounds_toArray, List.set_cons_zero, List.set_cons_succ, List.getElem_toArray, List.getElem_cons_zero, List.getElem_cons_succ]
  go_wp2_with fail
  refine ⟨fun _ => hSS, ?_⟩
  try simp only [List.setIfInBounds_toArray, List.set_cons_zero, List.set_cons_succ, List.getElem_toArray, List.getElem_cons_zero, List.getElem_cons_succ]
  refine wpAnyE_one (i := 10) (by kernel_rfl) rfl ?_
  change wpList _ _ (Exit.then _ _) [_] _ _
  try simp only [List.setIfInBounds_toArray, List.set_cons_zero, List.set_cons_succ, List.getElem_toArray, List.getElem_cons_zero, List.getElem_cons_succ]
  go_wp2_with fail
  refine ⟨fun _ => hSS, ?_⟩
  try simp only [List.setIfInBounds_toArray, List.set_cons_zero, List.set_cons_succ, List.getElem_toArray, List.getElem_cons_zero, List.getElem_cons_succ]
  refine wpAnyE_end (by kernel_rfl) ?_
  obtain ⟨p0, p5, y0, y1, y2, y3⟩ := hSS
  have hN2 := rdL_len d a
  have HXO := HX
  go_wp2_with fail
  refine (bkBytes_any w.heap.size K vb vw L _ (rdL d a) 5 _ (.inl rfl) HS.out.dp.bk HS.out.dp.low.size (ownsRow_base HX.out hlt0.out.2.2.2.2.2.2.1) (by omega) (fun k hk hm => by have := (ownsRow_obs HX.out k hk).1; have := hlt0.out.2.2.2.2.2.2.2 k hm; omega)).mono ?_
  rintro e w3 ⟨rfl, hP⟩
  have hbk : ∀ k ∈ bkB K vb vw L, k < V0.heap.size := fun k hm => hlt0.out.2.2.2.2.2.2.2 k hm
  have HX := Lib.hid (own_rd (hP.same HX.out hbk))
  have HY := Lib.hid (own_rd (hP.same HY.out hbk))
  obtain ⟨vb', vw', L', hS⟩ := HS.out.book hP (fun k hk => by have := (ownsRow_obs HXO.out k hk).1; have := hlt0.out; omega)
  have HS := Lib.hid hS
  clear hP hS hbk p0 p5 y0 y1 y2 y3
  obtain ⟨p0, p5, y0, y1, y2, y3⟩ := HS.out.cells
  go_wp2_with (go_at_call 25; refine (same_any _ _ (rdL d a) (rdL d a) _ ax ay cx cy rfl rfl (by omega) (by omega) HX.out HY.out).mono ?_; rintro e w5 ⟨rfl, hB5⟩; rw [decide_eq_true (rfl : rdL d a = rdL d a)]; have HS := Lib.hid (HS.out.below hB5))
  go_ret
  exact ⟨rfl, _, _, _, _, HS.out.dp, HI.out⟩
end Go.Proofs.Ytpfiaepoibablaa
