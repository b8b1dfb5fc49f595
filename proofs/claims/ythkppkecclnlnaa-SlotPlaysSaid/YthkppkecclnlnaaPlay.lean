/- The two disks of a play, side by side. -/
import Derived.Test.YthkppkecclnlnaaRefI
import Derived.Test.YthkppkecclnlnaaRefJ
import Derived.Test.YthkppkecclnlnaaRefH
import Derived.Test.YthkppkecclnlnaaFlat
namespace Go.Proofs.Ythkppkecclnlnaa
set_option linter.unusedVariables false
set_option linter.unusedSimpArgs false
open Go.RowKit

/-- What a play keeps: the disk in the block b, the document's at o of rb (its bytes in gb). -/
structure SP (w : World) (b rb o gb n : Nat) (d e : Dk) (W : World) : Prop where
  disk : DkAt W b d
  ref : Rk W rb o gb n e
  low : Below w.heap.size w W
  far : w.heap.size ≤ b ∧ w.heap.size ≤ rb ∧ w.heap.size ≤ gb ∧ b ≠ rb ∧ b ≠ gb
theorem SP.below {w W X : World} {b rb o gb n : Nat} {d e : Dk} (h : SP w b rb o gb n d e W) (hb : Below W.heap.size W X) : SP w b rb o gb n d e X :=
  ⟨h.disk.below hb, h.ref.below hb, below_then h.low hb, h.far⟩
theorem SP.drew {w W : World} {b rb o gb n : Nat} {d e : Dk} (h : SP w b rb o gb n d e W) : SP w b rb o gb n d e W.drew := h.below ((Below.refl _ _).drew)
theorem SP.turnD {w W X : World} {b rb o gb n : Nat} {d d' e : Dk} (h : SP w b rb o gb n d e W) (hD : DkAt X b d') (hg : W.grownBy X (some b)) : SP w b rb o gb n d' e X := by
  have hl := h.low.grown hg h.low.size (fun j hj => by cases hj; exact h.far.1)
  obtain ⟨_, _, _, _, hgb⟩ := hg
  exact ⟨hD, h.ref.heap (hgb _ h.ref.lt.1 (by have := h.far.2.2.2.1; simp; omega)) (hgb _ h.ref.lt.2 (by have := h.far.2.2.2.2; simp; omega)), hl, h.far⟩
theorem SP.turnR {w W X : World} {b rb o gb n : Nat} {d e e' : Dk} (h : SP w b rb o gb n d e W) (hR : Rk X rb o gb n e') (hg : Chg W X rb o gb) : SP w b rb o gb n d e' X :=
  ⟨⟨(hg.other b h.disk.lt h.far.2.2.2.1 h.far.2.2.2.2).trans h.disk.1, h.disk.2⟩, hR, h.low.trans (hg.low h.far.2.1 h.far.2.2.1 h.low.size), h.far⟩
/-- What holds of the disk behind i rounds. -/
structure SpI (d : Dk) (i : Nat) : Prop where
  lt : ∀ c ∈ d.bs, c < 256
  wr : d.writes ≤ 2 * i
  fz : d.fuse ≤ 9223372036854775807
theorem SpI.up {d : Dk} {i : Nat} (h : SpI d i) : SpI d (i + 1) := ⟨h.lt, by have := h.wr; omega, h.fz⟩
theorem saveW_size (d : Dk) (x y z : Int) : (saveW d x y z).1.fuse ≤ d.fuse ∧ (saveW d x y z).1.writes ≤ d.writes + 2 := by
  unfold saveW
  split <;> (try split) <;> (try split) <;> first | exact ⟨Nat.le_refl _, by show d.writes ≤ _; omega⟩ | exact svK_size _ _ _ 2
theorem SpI.save {d : Dk} {i : Nat} (h : SpI d i) (x y z : Int) : SpI (saveW d x y z).1 (i + 1) :=
  ⟨saveW_lt h.lt x y z, by have := (saveW_size d x y z).2; have := h.wr; omega, by have := (saveW_size d x y z).1; have := h.fz; omega⟩
theorem SpI.off {d : Dk} {i : Nat} (h : SpI d i) (v : Bool) : SpI { d with off := v } (i + 1) := ⟨h.lt, by have := h.wr; show d.writes ≤ _; omega, h.fz⟩
theorem SpI.fuse {d : Dk} {i : Nat} (h : SpI d i) (k : Int) (hk : (Lit.int .i64 k).wf = true) : SpI { d with fused := decide (0 ≤ k), fuse := k.toNat } (i + 1) :=
  ⟨h.lt, by have := h.wr; show d.writes ≤ _; omega, by
    simp only [Lit.wf, Bool.and_eq_true, decide_eq_true_eq] at hk
    have h5 : IntKind.i64.max = 9223372036854775807 := by decide
    show k.toNat ≤ _; omega⟩
theorem putS_lt' {bs l : List Nat} (h : ∀ c ∈ bs, c < 256) (hl : ∀ c ∈ l, c < 256) (s : Nat) : ∀ c ∈ putS bs s l, c < 256 := by
  intro c hc
  unfold putS at hc
  rcases List.mem_append.1 hc with hc | hc
  · exact h c (List.mem_of_mem_take hc)
  · rcases List.mem_append.1 hc with hc | hc
    · exact hl c hc
    · exact h c (List.mem_of_mem_drop hc)
theorem wrV_lt' {d : Dk} {l : List Nat} (h : ∀ c ∈ d.bs, c < 256) (hl : ∀ c ∈ l, c < 256) (s : Int) : ∀ c ∈ (wrV d s l).1.bs, c < 256 := by
  unfold wrV
  split <;> (try split) <;> (try split) <;> (try split) <;> first | exact putS_lt' h hl _ | exact h
theorem SpI.write {d : Dk} {i : Nat} (h : SpI d i) (s : Int) {l : List Nat} (hl : ∀ c ∈ l, c < 256) : SpI (wrV d s l).1 (i + 1) :=
  ⟨wrV_lt' h.lt hl s, by have := (wrV_fuse d s l).2; have := h.wr; omega, by have := (wrV_fuse d s l).1; have := h.fz; omega⟩
/-- The step's own record, beside. -/
structure SO (w : World) (b rb o gb n g : Nat) (k a s x y z : Int) (d e : Dk) (W : World) : Prop where
  sp : SP w b rb o gb n d e W
  bx : W.heap[g]? = some (.cells #[.int .i64 k, .int .i64 a, .int .i64 s, .int .i64 x, .int .i64 y, .int .i64 z] 64 (0, 0))
  ne : g ≠ b ∧ g ≠ rb ∧ g ≠ gb
theorem SO.below {w W X : World} {b rb o gb n g : Nat} {k a s x y z : Int} {d e : Dk} (h : SO w b rb o gb n g k a s x y z d e W) (hb : Below W.heap.size W X) : SO w b rb o gb n g k a s x y z d e X := ⟨h.sp.below hb, blk_below' hb h.bx, h.ne⟩
theorem SO.drew {w W : World} {b rb o gb n g : Nat} {k a s x y z : Int} {d e : Dk} (h : SO w b rb o gb n g k a s x y z d e W) : SO w b rb o gb n g k a s x y z d e W.drew := h.below ((Below.refl _ _).drew)
theorem SO.turnD {w W X : World} {b rb o gb n g : Nat} {k a s x y z : Int} {d d' e : Dk} (h : SO w b rb o gb n g k a s x y z d e W) (hD : DkAt X b d') (hg : W.grownBy X (some b)) : SO w b rb o gb n g k a s x y z d' e X :=
  ⟨h.sp.turnD hD hg, blk_grown hg h.bx (by have := h.ne.1; simp; omega), h.ne⟩
theorem SO.turnR {w W X : World} {b rb o gb n g : Nat} {k a s x y z : Int} {d e e' : Dk} (h : SO w b rb o gb n g k a s x y z d e W) (hR : Rk X rb o gb n e') (hg : Chg W X rb o gb) : SO w b rb o gb n g k a s x y z d e' X :=
  ⟨h.sp.turnR hR hg, hg.blk h.bx h.ne.2.1 h.ne.2.2, h.ne⟩
theorem SO.cells {w W : World} {b rb o gb n g : Nat} {k a s x y z : Int} {d e : Dk} (h : SO w b rb o gb n g k a s x y z d e W) :
    (W.cell? ⟨g, 0, none⟩ = some (.int .i64 k) ∧ W.cell? ⟨g, 1, none⟩ = some (.int .i64 a) ∧ W.cell? ⟨g, 2, none⟩ = some (.int .i64 s)) ∧ (W.cell? ⟨g, 3, none⟩ = some (.int .i64 x) ∧ W.cell? ⟨g, 4, none⟩ = some (.int .i64 y) ∧ W.cell? ⟨g, 5, none⟩ = some (.int .i64 z)) ∧ SO w b rb o gb n g k a s x y z d e W :=
  ⟨⟨blk_cell h.bx 0, blk_cell h.bx 1, blk_cell h.bx 2⟩, ⟨blk_cell h.bx 3, blk_cell h.bx 4, blk_cell h.bx 5⟩, h⟩
theorem SP.all {w W : World} {b rb o gb n : Nat} {d e : Dk} (h : SP w b rb o gb n d e W) :
    (W.cell? ⟨rb, o, none⟩ = some (.slice (some ⟨gb, 0, none⟩) 256 n) ∧ W.cell? ⟨rb, o + 1, none⟩ = some (.bool e.off) ∧ W.cell? ⟨rb, o + 2, none⟩ = some (.int .i64 (fuZ e)) ∧ W.cell? ⟨rb, o + 3, none⟩ = some (.int .i64 (e.writes : Nat))) ∧ SP w b rb o gb n d e W := ⟨h.ref.cells, h⟩
theorem Rk.ofBox {W : World} {rb gb n : Nat} {t : TypeId} {d : Dk} {rest : List Value} (h : W.heap[rb]? = some (.cells (rkC gb n d).toArray t (0, 0))) (hb : W.heap[gb]? = some (.cells (bC d.bs ++ rest).toArray 5 (0, 0))) (hl : d.bs.length = 256) (hne : rb ≠ gb) : Rk W rb 0 gb n d :=
  ⟨⟨_, t, h, fun j x hx => by rw [Nat.zero_add, List.getElem?_toArray]; exact hx⟩, ⟨rest, hb⟩, hl, hne⟩
theorem spI_new : SpI Dk.new 0 := ⟨by decide +kernel, Nat.le_refl _, Nat.zero_le _⟩
theorem rows6 {W : World} {v : Value} {xs : List (List Int)} (h : RowsOf W 6 v xs) {i : Nat} (hi : i < xs.length) :
    ∃ k a s x y z g o cap, xs[i]? = some [k, a, s, x, y, z] ∧ v = .slice (some ⟨g, o, none⟩) xs.length cap ∧ (W.cell? ⟨g, o + i * 6, none⟩ = some (.int .i64 k) ∧ W.cell? ⟨g, o + i * 6 + 1, none⟩ = some (.int .i64 a) ∧ W.cell? ⟨g, o + i * 6 + 2, none⟩ = some (.int .i64 s) ∧ W.cell? ⟨g, o + i * 6 + 3, none⟩ = some (.int .i64 x) ∧ W.cell? ⟨g, o + i * 6 + 4, none⟩ = some (.int .i64 y) ∧ W.cell? ⟨g, o + i * 6 + 5, none⟩ = some (.int .i64 z)) := by
  obtain ⟨p, cap, rfl, _, _, hx⟩ := h
  obtain ⟨h1, g, o, rfl, _, h2⟩ := hx i _ (List.getElem?_eq_getElem hi)
  have h3 := List.getElem?_eq_getElem hi
  generalize xs[i] = l at h1 h2 h3
  match l, h1 with
  | [k, a, s, x, y, z], _ => exact ⟨k, a, s, x, y, z, g, o, cap, h3, rfl, h2 0 k rfl, h2 1 a rfl, h2 2 s rfl, h2 3 x rfl, h2 4 y rfl, h2 5 z rfl⟩
end Go.Proofs.Ythkppkecclnlnaa
