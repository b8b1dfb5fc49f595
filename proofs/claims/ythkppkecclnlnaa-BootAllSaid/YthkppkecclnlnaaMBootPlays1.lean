/- Lemmas of this claim, laid one behind the other. -/
import Derived.Test.YthkppkecclnlnaaRefI
import Derived.Test.YthkppkecclnlnaaMBootPlays0
import Derived.Test.YthkppkecclnlnaaRefH
import Derived.Deep.RegionHeld3
import Derived.BigRegion
import Derived.Deep.CutBlock
namespace Go.Proofs.Ythkppkecclnlnaa
set_option linter.unusedVariables false
set_option linter.unusedSimpArgs false
open Go.RowKit

/-- What a play keeps: the disk in the block b, the document's at o of rb (its bytes in gb). -/
structure SP (w : World) (b rb o gb n : Nat) (d e : Dk) (W : World) : Prop where
  disk : DkAt W b d
  ref : Rk W rb o gb n e
  low : Below w.heap.size w W
  far : w.heap.size ≤ b ∧ w.heap.size ≤ rb ∧ w.heap.size ≤ gb ∧ b ≠ rb ∧ b ≠ gb
theorem SP.below {w W X : World} {b rb o gb n : Nat} {d e : Dk} (h : SP w b rb o gb n d e W) (hb : Below W.heap.size W X) : SP w b rb o gb n d e X :=
  ⟨h.disk.below hb, h.ref.below hb, below_then h.low hb, h.far⟩
theorem SP.drew {w W : World} {b rb o gb n : Nat} {d e : Dk} (h : SP w b rb o gb n d e W) : SP w b rb o gb n d e W.drew := h.below ((Below.refl _ _).drew)
theorem SP.turnD {w W X : World} {b rb o gb n : Nat} {d d' e : Dk} (h : SP w b rb o gb n d e W) (hD : DkAt X b d') (hg : W.grownBy X (some b)) : SP w b rb o gb n d' e X := by
  have hl := h.low.grown hg h.low.size (fun j hj => by cases hj; exact h.far.1)
  obtain ⟨_, _, _, _, hgb⟩ := hg
  exact ⟨hD, h.ref.heap (hgb _ h.ref.lt.1 (by have := h.far.2.2.2.1; simp; omega)) (hgb _ h.ref.lt.2 (by have := h.far.2.2.2.2; simp; omega)), hl, h.far⟩
theorem SP.turnR {w W X : World} {b rb o gb n : Nat} {d e e' : Dk} (h : SP w b rb o gb n d e W) (hR : Rk X rb o gb n e') (hg : Chg W X rb o gb) : SP w b rb o gb n d e' X :=
  ⟨⟨(hg.other b h.disk.lt h.far.2.2.2.1 h.far.2.2.2.2).trans h.disk.1, h.disk.2⟩, hR, h.low.trans (hg.low h.far.2.1 h.far.2.2.1 h.low.size), h.far⟩
/-- What holds of the disk behind i rounds. -/
structure SpI (d : Dk) (i : Nat) : Prop where
  lt : ∀ c ∈ d.bs, c < 256
  wr : d.writes ≤ 2 * i
  fz : d.fuse ≤ 9223372036854775807
theorem SpI.up {d : Dk} {i : Nat} (h : SpI d i) : SpI d (i + 1) := ⟨h.lt, by have := h.wr; omega, h.fz⟩
theorem saveW_size (d : Dk) (x y z : Int) : (saveW d x y z).1.fuse ≤ d.fuse ∧ (saveW d x y z).1.writes ≤ d.writes + 2 := by
  unfold saveW
  split <;> (try split) <;> (try split) <;> first | exact ⟨Nat.le_refl _, by show d.writes ≤ _; omega⟩ | exact svK_size _ _ _ 2
theorem SpI.save {d : Dk} {i : Nat} (h : SpI d i) (x y z : Int) : SpI (saveW d x y z).1 (i + 1) :=
  ⟨saveW_lt h.lt x y z, by have := (saveW_size d x y z).2; have := h.wr; omega, by have := (saveW_size d x y z).1; have := h.fz; omega⟩
theorem SpI.off {d : Dk} {i : Nat} (h : SpI d i) (v : Bool) : SpI { d with off := v } (i + 1) := ⟨h.lt, by have := h.wr; show d.writes ≤ _; omega, h.fz⟩
theorem SpI.fuse {d : Dk} {i : Nat} (h : SpI d i) (k : Int) (hk : (Lit.int .i64 k).wf = true) : SpI { d with fused := decide (0 ≤ k), fuse := k.toNat } (i + 1) :=
  ⟨h.lt, by have := h.wr; show d.writes ≤ _; omega, by
    simp only [Lit.wf, Bool.and_eq_true, decide_eq_true_eq] at hk
    have h5 : IntKind.i64.max = 9223372036854775807 := by decide
    show k.toNat ≤ _; omega⟩
theorem putS_lt' {bs l : List Nat} (h : ∀ c ∈ bs, c < 256) (hl : ∀ c ∈ l, c < 256) (s : Nat) : ∀ c ∈ putS bs s l, c < 256 := by
  intro c hc
  unfold putS at hc
  rcases List.mem_append.1 hc with hc | hc
  · exact h c (List.mem_of_mem_take hc)
  · rcases List.mem_append.1 hc with hc | hc
    · exact hl c hc
    · exact h c (List.mem_of_mem_drop hc)
theorem wrV_lt' {d : Dk} {l : List Nat} (h : ∀ c ∈ d.bs, c < 256) (hl : ∀ c ∈ l, c < 256) (s : Int) : ∀ c ∈ (wrV d s l).1.bs, c < 256 := by
  unfold wrV
  split <;> (try split) <;> (try split) <;> (try split) <;> first | exact putS_lt' h hl _ | exact h
theorem SpI.write {d : Dk} {i : Nat} (h : SpI d i) (s : Int) {l : List Nat} (hl : ∀ c ∈ l, c < 256) : SpI (wrV d s l).1 (i + 1) :=
  ⟨wrV_lt' h.lt hl s, by have := (wrV_fuse d s l).2; have := h.wr; omega, by have := (wrV_fuse d s l).1; have := h.fz; omega⟩
/-- The step's own record, beside. -/
structure SO (w : World) (b rb o gb n g : Nat) (k a s x y z : Int) (d e : Dk) (W : World) : Prop where
  sp : SP w b rb o gb n d e W
  bx : W.heap[g]? = some (.cells #[.int .i64 k, .int .i64 a, .int .i64 s, .int .i64 x, .int .i64 y, .int .i64 z] 64 (0, 0))
  ne : g ≠ b ∧ g ≠ rb ∧ g ≠ gb
theorem SO.below {w W X : World} {b rb o gb n g : Nat} {k a s x y z : Int} {d e : Dk} (h : SO w b rb o gb n g k a s x y z d e W) (hb : Below W.heap.size W X) : SO w b rb o gb n g k a s x y z d e X := ⟨h.sp.below hb, blk_below' hb h.bx, h.ne⟩
theorem SO.drew {w W : World} {b rb o gb n g : Nat} {k a s x y z : Int} {d e : Dk} (h : SO w b rb o gb n g k a s x y z d e W) : SO w b rb o gb n g k a s x y z d e W.drew := h.below ((Below.refl _ _).drew)
theorem SO.turnD {w W X : World} {b rb o gb n g : Nat} {k a s x y z : Int} {d d' e : Dk} (h : SO w b rb o gb n g k a s x y z d e W) (hD : DkAt X b d') (hg : W.grownBy X (some b)) : SO w b rb o gb n g k a s x y z d' e X :=
  ⟨h.sp.turnD hD hg, blk_grown hg h.bx (by have := h.ne.1; simp; omega), h.ne⟩
theorem SO.turnR {w W X : World} {b rb o gb n g : Nat} {k a s x y z : Int} {d e e' : Dk} (h : SO w b rb o gb n g k a s x y z d e W) (hR : Rk X rb o gb n e') (hg : Chg W X rb o gb) : SO w b rb o gb n g k a s x y z d e' X :=
  ⟨h.sp.turnR hR hg, hg.blk h.bx h.ne.2.1 h.ne.2.2, h.ne⟩
theorem SO.cells {w W : World} {b rb o gb n g : Nat} {k a s x y z : Int} {d e : Dk} (h : SO w b rb o gb n g k a s x y z d e W) :
    (W.cell? ⟨g, 0, none⟩ = some (.int .i64 k) ∧ W.cell? ⟨g, 1, none⟩ = some (.int .i64 a) ∧ W.cell? ⟨g, 2, none⟩ = some (.int .i64 s)) ∧ (W.cell? ⟨g, 3, none⟩ = some (.int .i64 x) ∧ W.cell? ⟨g, 4, none⟩ = some (.int .i64 y) ∧ W.cell? ⟨g, 5, none⟩ = some (.int .i64 z)) ∧ SO w b rb o gb n g k a s x y z d e W :=
  ⟨⟨blk_cell h.bx 0, blk_cell h.bx 1, blk_cell h.bx 2⟩, ⟨blk_cell h.bx 3, blk_cell h.bx 4, blk_cell h.bx 5⟩, h⟩
theorem SP.all {w W : World} {b rb o gb n : Nat} {d e : Dk} (h : SP w b rb o gb n d e W) :
    (W.cell? ⟨rb, o, none⟩ = some (.slice (some ⟨gb, 0, none⟩) 256 n) ∧ W.cell? ⟨rb, o + 1, none⟩ = some (.bool e.off) ∧ W.cell? ⟨rb, o + 2, none⟩ = some (.int .i64 (fuZ e)) ∧ W.cell? ⟨rb, o + 3, none⟩ = some (.int .i64 (e.writes : Nat))) ∧ SP w b rb o gb n d e W := ⟨h.ref.cells, h⟩
theorem Rk.ofBox {W : World} {rb gb n : Nat} {t : TypeId} {d : Dk} {rest : List Value} (h : W.heap[rb]? = some (.cells (rkC gb n d).toArray t (0, 0))) (hb : W.heap[gb]? = some (.cells (bC d.bs ++ rest).toArray 5 (0, 0))) (hl : d.bs.length = 256) (hne : rb ≠ gb) : Rk W rb 0 gb n d :=
  ⟨⟨_, t, h, fun j x hx => by rw [Nat.zero_add, List.getElem?_toArray]; exact hx⟩, ⟨rest, hb⟩, hl, hne⟩
theorem spI_new : SpI Dk.new 0 := ⟨by decide +kernel, Nat.le_refl _, Nat.zero_le _⟩
theorem rows6 {W : World} {v : Value} {xs : List (List Int)} (h : RowsOf W 6 v xs) {i : Nat} (hi : i < xs.length) :
    ∃ k a s x y z g o cap, xs[i]? = some [k, a, s, x, y, z] ∧ v = .slice (some ⟨g, o, none⟩) xs.length cap ∧ (W.cell? ⟨g, o + i * 6, none⟩ = some (.int .i64 k) ∧ W.cell? ⟨g, o + i * 6 + 1, none⟩ = some (.int .i64 a) ∧ W.cell? ⟨g, o + i * 6 + 2, none⟩ = some (.int .i64 s) ∧ W.cell? ⟨g, o + i * 6 + 3, none⟩ = some (.int .i64 x) ∧ W.cell? ⟨g, o + i * 6 + 4, none⟩ = some (.int .i64 y) ∧ W.cell? ⟨g, o + i * 6 + 5, none⟩ = some (.int .i64 z)) := by
  obtain ⟨p, cap, rfl, _, _, hx⟩ := h
  obtain ⟨h1, g, o, rfl, _, h2⟩ := hx i _ (List.getElem?_eq_getElem hi)
  have h3 := List.getElem?_eq_getElem hi
  generalize xs[i] = l at h1 h2 h3
  match l, h1 with
  | [k, a, s, x, y, z], _ => exact ⟨k, a, s, x, y, z, g, o, cap, h3, rfl, h2 0 k rfl, h2 1 a rfl, h2 2 s rfl, h2 3 x rfl, h2 4 y rfl, h2 5 z rfl⟩
end Go.Proofs.Ythkppkecclnlnaa
namespace Go.Proofs.Ythkppkecclnlnaa
set_option linter.unusedVariables false
set_option linter.unusedSimpArgs false
open Go.RowKit

structure NxR where
  rv : Int
  er : Int
  bt : Bt
  dk : Dk
def nxF (B : Bt) (d : Dk) : NxR :=
  if d.off then ⟨0, 100, B, d⟩
  else if B.round = 1099511627775 then ⟨0, 120, B, d⟩
  else if B.round = B.kround then
    if (saveW d B.life (capR B.kround : Nat) B.ktag).2 = 0 then ⟨((B.round + 1 : Nat) : Int), 0, { B with kround := capR B.kround, round := B.round + 1 }, (saveW d B.life (capR B.kround : Nat) B.ktag).1⟩
    else ⟨0, (saveW d B.life (capR B.kround : Nat) B.ktag).2, B, (saveW d B.life (capR B.kround : Nat) B.ktag).1⟩
  else ⟨((B.round + 1 : Nat) : Int), 0, { B with round := B.round + 1 }, d⟩
def rsF (B : Bt) (d : Dk) (t : Int) : NxR :=
  if d.off then ⟨0, 100, B, d⟩
  else if t < 0 then ⟨0, 1, B, d⟩
  else if 1048576 < t then ⟨0, 120, B, d⟩
  else if t.toNat ≤ B.tag then ⟨0, 0, B, d⟩
  else if t.toNat ≤ B.ktag then ⟨0, 0, { B with tag := t.toNat }, d⟩
  else if (saveW d B.life B.kround (capZ t.toNat : Nat)).2 = 0 then ⟨0, 0, { B with ktag := capZ t.toNat, tag := t.toNat }, (saveW d B.life B.kround (capZ t.toNat : Nat)).1⟩
  else ⟨0, (saveW d B.life B.kround (capZ t.toNat : Nat)).2, B, (saveW d B.life B.kround (capZ t.toNat : Nat)).1⟩
def opS (d : Dk) (l r t : Nat) : NxR := ⟨0, (saveW d l (capR r) (capT t)).2, ⟨l, capR r, capT t, r, t⟩, (saveW d l (capR r) (capT t)).1⟩
def opF (d : Dk) : NxR :=
  if d.off then ⟨0, 100, ⟨0, 0, 0, 0, 0⟩, d⟩
  else if (bestL d.bs).2 < 0 then opS d 1 0 0
  else if (bestL d.bs).1.life = 1073741824 then ⟨0, 120, ⟨0, 0, 0, 0, 0⟩, d⟩
  else opS d ((bestL d.bs).1.life + 1) (bestL d.bs).1.round (bestL d.bs).1.tag
theorem pick_may {b : Rc × Int} {i : Int} {o : Option Rc} (hb : 0 ≤ b.2 → b.1.may) (ho : ∀ r, o = some r → r.may) (h : 0 ≤ (pick b i o).2) : (pick b i o).1.may := by
  unfold pick at h ⊢
  cases o with
  | none => exact hb h
  | some r =>
    dsimp only at h ⊢
    split
    · exact ho r rfl
    · rename_i hc
      rw [if_neg hc] at h
      exact hb h
theorem bestL_may {bs : List Nat} (h : 0 ≤ (bestL bs).2) : (bestL bs).1.may :=
  pick_may (pick_may (fun h => absurd h (by decide)) (fun r hr => (decL_some hr).1)) (fun r hr => (decL_some hr).1) h
/-- What a play keeps of its disk and its boot. -/
structure BI (B : Bt) (d : Dk) (i : Nat) : Prop where
  dk : SpI d i
  rnd : B.round ≤ 1099511627775
theorem BI.up {B : Bt} {d : Dk} {i : Nat} (h : BI B d i) : BI B d (i + 1) := ⟨h.dk.up, h.rnd⟩
theorem BI.wr {B : Bt} {d : Dk} {i : Nat} (h : BI B d i) (hi : i ≤ 1000000) : d.writes ≤ 4611686018427387901 := by have := h.dk.wr; omega
theorem BI.next {B : Bt} {d : Dk} {i : Nat} (h : BI B d i) : BI (nxF B d).bt (nxF B d).dk (i + 1) := by
  have hr := h.rnd
  unfold nxF
  split
  · exact h.up
  · split
    · exact h.up
    · split
      · split
        · exact ⟨h.dk.save _ _ _, by show B.round + 1 ≤ _; omega⟩
        · exact ⟨h.dk.save _ _ _, hr⟩
      · exact ⟨h.dk.up, by show B.round + 1 ≤ _; omega⟩
theorem BI.raise {B : Bt} {d : Dk} {i : Nat} (h : BI B d i) (t : Int) : BI (rsF B d t).bt (rsF B d t).dk (i + 1) := by
  have hr := h.rnd
  unfold rsF
  split
  · exact h.up
  · split
    · exact h.up
    · split
      · exact h.up
      · split
        · exact h.up
        · split
          · exact ⟨h.dk.up, hr⟩
          · split <;> exact ⟨h.dk.save _ _ _, hr⟩
theorem SpI.open {d : Dk} {i : Nat} (h : SpI d i) : BI (opF d).bt (opF d).dk (i + 1) := by
  unfold opF
  split
  · exact ⟨h.up, Nat.zero_le _⟩
  · split
    · exact ⟨h.save _ _ _, by show (0 : Nat) ≤ _; omega⟩
    · rename_i hc
      have hm := bestL_may (bs := d.bs) (by omega)
      split
      · exact ⟨h.up, Nat.zero_le _⟩
      · exact ⟨h.save _ _ _, by have := hm.2.2.1; show (bestL d.bs).1.round ≤ _; omega⟩
theorem bnext_F (b c : Nat) (B : Bt) (d : Dk) (i : Nat) (w : World) (h : BtAt w b c B d) (hI : BI B d i) (hi : i ≤ 1000000) :
    Calls Try.prog 50 #[.pointer (some ⟨b, 0, none⟩)] w fun e w' => e = .returned (.tuple #[.int .i64 (nxF B d).rv, .int .i64 (nxF B d).er]) ∧ BtAt w' b c (nxF B d).bt (nxF B d).dk ∧ Ch2 w w' b c := by
  have hr := hI.rnd
  have hw := hI.wr hi
  unfold nxF
  cases ho : d.off with
  | true =>
    refine (bnext_off b c B d w h ho).mono ?_
    rintro e w' ⟨rfl, hB⟩
    exact ⟨rfl, h.below hB, Ch2.below hB b c⟩
  | false =>
    simp only [Bool.false_eq_true, if_false]
    by_cases he : B.round = 1099511627775
    · rw [if_pos he]
      refine (bnext_end b c B d w h ho he).mono ?_
      rintro e w' ⟨rfl, hB⟩
      exact ⟨rfl, h.below hB, Ch2.below hB b c⟩
    · rw [if_neg he]
      by_cases hk : B.round = B.kround
      · rw [if_pos hk]
        refine (bnext_save b c B d w h ho he hr hk hI.dk.lt (by omega) hI.dk.fz).mono ?_
        rintro e w' ⟨h0, h1, hC⟩
        split
        · rename_i hs; obtain ⟨rfl, hT⟩ := h0 hs; exact ⟨rfl, hT, hC⟩
        · rename_i hs; obtain ⟨rfl, hT⟩ := h1 hs; exact ⟨rfl, hT, hC⟩
      · rw [if_neg hk]
        refine (bnext_plain b c B d w h ho he hr hk).mono ?_
        rintro e w' ⟨rfl, hT, hC⟩
        exact ⟨rfl, hT, hC⟩
theorem rnext_F (bb o rb ob gb n : Nat) (B : Bt) (d : Dk) (i : Nat) (w : World) (h : RbAt w bb o B) (k : Rk w rb ob gb n d) (hne : bb ≠ rb ∧ bb ≠ gb) (hn : 256 ≤ n) (hI : BI B d i) (hi : i ≤ 1000000) :
    Calls Try.prog 138 #[.pointer (some ⟨bb, o, none⟩), .pointer (some ⟨rb, ob, none⟩)] w fun e w' => e = .returned (.tuple #[.int .i64 (nxF B d).rv, .int .i64 (nxF B d).er]) ∧ RbAt w' bb o (nxF B d).bt ∧ Rk w' rb ob gb n (nxF B d).dk ∧ ChB w w' bb o rb ob gb := by
  have hr := hI.rnd
  have hw := hI.wr hi
  unfold nxF
  cases ho : d.off with
  | true =>
    refine (rnext_off bb o rb ob gb n d w k ho).mono ?_
    rintro e w' ⟨rfl, hB⟩
    exact ⟨rfl, h.below hB, k.below hB, ChB.ofBelow hB _ _ _ _ _⟩
  | false =>
    simp only [Bool.false_eq_true, if_false]
    by_cases he : B.round = 1099511627775
    · rw [if_pos he]
      refine (rnext_end bb o rb ob gb n B d w h k ho he).mono ?_
      rintro e w' ⟨rfl, hB⟩
      exact ⟨rfl, h.below hB, k.below hB, ChB.ofBelow hB _ _ _ _ _⟩
    · rw [if_neg he]
      by_cases hk : B.round = B.kround
      · rw [if_pos hk]
        refine (rnext_save bb o rb ob gb n B d w h k hne hn ho he hr hk hI.dk.lt hw hI.dk.fz).mono ?_
        rintro e w' ⟨h0, h1, hC⟩
        split
        · rename_i hs; obtain ⟨rfl, hT, hK⟩ := h0 hs; exact ⟨rfl, hT, hK, hC⟩
        · rename_i hs; obtain ⟨rfl, hT, hK⟩ := h1 hs; exact ⟨rfl, hT, hK, hC⟩
      · rw [if_neg hk]
        refine (rnext_plain bb o rb ob gb n B d w h k hne ho he hr hk).mono ?_
        rintro e w' ⟨rfl, hT, hK, hC⟩
        exact ⟨rfl, hT, hK, hC⟩
theorem raise_F (b c : Nat) (B : Bt) (d : Dk) (t : Int) (i : Nat) (w : World) (h : BtAt w b c B d) (hI : BI B d i) (hi : i ≤ 1000000) :
    Calls Try.prog 53 #[.pointer (some ⟨b, 0, none⟩), .int .i64 t] w fun e w' => e = .returned (.int .i64 (rsF B d t).er) ∧ BtAt w' b c (rsF B d t).bt (rsF B d t).dk ∧ Ch2 w w' b c := by
  have hw := hI.wr hi
  unfold rsF
  cases ho : d.off with
  | true =>
    refine (raise_off b c B d t w h ho).mono ?_
    rintro e w' ⟨rfl, hB⟩
    exact ⟨rfl, h.below hB, Ch2.below hB b c⟩
  | false =>
    simp only [Bool.false_eq_true, if_false]
    by_cases hn : t < 0
    · rw [if_pos hn]
      refine (raise_neg b c B d t w h ho hn).mono ?_
      rintro e w' ⟨rfl, hB⟩
      exact ⟨rfl, h.below hB, Ch2.below hB b c⟩
    · rw [if_neg hn]
      obtain ⟨m, rfl⟩ : ∃ m : Nat, t = m := ⟨t.toNat, by omega⟩
      rw [Int.toNat_natCast]
      by_cases hb : 1048576 < (m : Int)
      · rw [if_pos hb]
        refine (raise_big b c B d m w h ho hb).mono ?_
        rintro e w' ⟨rfl, hB⟩
        exact ⟨rfl, h.below hB, Ch2.below hB b c⟩
      · rw [if_neg hb]
        by_cases hl : m ≤ B.tag
        · rw [if_pos hl]
          refine (raise_low b c B d m w h ho (by omega) hl).mono ?_
          rintro e w' ⟨rfl, hB⟩
          exact ⟨rfl, h.below hB, Ch2.below hB b c⟩
        · rw [if_neg hl]
          by_cases hk : m ≤ B.ktag
          · rw [if_pos hk]
            refine (raise_covered b c B d m w h ho (by omega) (by omega) hk).mono ?_
            rintro e w' ⟨rfl, hT, hC⟩
            exact ⟨rfl, hT, hC⟩
          · rw [if_neg hk]
            refine (raise_save b c B d m w h ho (by omega) (by omega) hk hI.dk.lt (by omega) hI.dk.fz).mono ?_
            rintro e w' ⟨h0, h1, hC⟩
            split
            · rename_i hs; obtain ⟨rfl, hT⟩ := h0 hs; exact ⟨rfl, hT, hC⟩
            · rename_i hs; obtain ⟨rfl, hT⟩ := h1 hs; exact ⟨rfl, hT, hC⟩
theorem rraise_F (bb o rb ob gb n : Nat) (B : Bt) (d : Dk) (t : Int) (i : Nat) (w : World) (h : RbAt w bb o B) (k : Rk w rb ob gb n d) (hne : bb ≠ rb ∧ bb ≠ gb) (hnn : 256 ≤ n) (hI : BI B d i) (hi : i ≤ 1000000) :
    Calls Try.prog 139 #[.pointer (some ⟨bb, o, none⟩), .pointer (some ⟨rb, ob, none⟩), .int .i64 t] w fun e w' => e = .returned (.int .i64 (rsF B d t).er) ∧ RbAt w' bb o (rsF B d t).bt ∧ Rk w' rb ob gb n (rsF B d t).dk ∧ ChB w w' bb o rb ob gb := by
  have hw := hI.wr hi
  unfold rsF
  cases ho : d.off with
  | true =>
    refine (rraise_off bb o rb ob gb n d t w k ho).mono ?_
    rintro e w' ⟨rfl, hB⟩
    exact ⟨rfl, h.below hB, k.below hB, ChB.ofBelow hB _ _ _ _ _⟩
  | false =>
    simp only [Bool.false_eq_true, if_false]
    by_cases hn : t < 0
    · rw [if_pos hn]
      refine (rraise_neg bb o rb ob gb n d t w k ho hn).mono ?_
      rintro e w' ⟨rfl, hB⟩
      exact ⟨rfl, h.below hB, k.below hB, ChB.ofBelow hB _ _ _ _ _⟩
    · rw [if_neg hn]
      obtain ⟨m, rfl⟩ : ∃ m : Nat, t = m := ⟨t.toNat, by omega⟩
      rw [Int.toNat_natCast]
      by_cases hb : 1048576 < (m : Int)
      · rw [if_pos hb]
        refine (rraise_big bb o rb ob gb n d m w k ho hb).mono ?_
        rintro e w' ⟨rfl, hB⟩
        exact ⟨rfl, h.below hB, k.below hB, ChB.ofBelow hB _ _ _ _ _⟩
      · rw [if_neg hb]
        by_cases hl : m ≤ B.tag
        · rw [if_pos hl]
          refine (rraise_low bb o rb ob gb n B d m w h k ho (by omega) hl).mono ?_
          rintro e w' ⟨rfl, hB⟩
          exact ⟨rfl, h.below hB, k.below hB, ChB.ofBelow hB _ _ _ _ _⟩
        · rw [if_neg hl]
          by_cases hk : m ≤ B.ktag
          · rw [if_pos hk]
            refine (rraise_covered bb o rb ob gb n B d m w h k hne ho (by omega) (by omega) hk).mono ?_
            rintro e w' ⟨rfl, hT, hK, hC⟩
            exact ⟨rfl, hT, hK, hC⟩
          · rw [if_neg hk]
            refine (rraise_save bb o rb ob gb n B d m w h k hne hnn ho (by omega) (by omega) hk hI.dk.lt (by omega) hI.dk.fz).mono ?_
            rintro e w' ⟨h0, h1, hC⟩
            split
            · rename_i hs; obtain ⟨rfl, hT, hK⟩ := h0 hs; exact ⟨rfl, hT, hK, hC⟩
            · rename_i hs; obtain ⟨rfl, hT, hK⟩ := h1 hs; exact ⟨rfl, hT, hK, hC⟩
/-- What the program's Open leaves. -/
def BOpen (w : World) (c : Nat) (R : NxR) (e : Ending) (w' : World) : Prop :=
  (R.er = 0 → ∃ b, e = .returned (.tuple #[.pointer (some ⟨b, 0, none⟩), .int .i64 0]) ∧ w.heap.size ≤ b ∧ BtAt w' b c R.bt R.dk) ∧
  (R.er ≠ 0 → e = .returned (.tuple #[.pointer none, .int .i64 R.er]) ∧ DkAt w' c R.dk) ∧ w.grownBy w' (some c)
theorem bopen_F (c : Nat) (d : Dk) (i : Nat) (w : World) (h : DkAt w c d) (hI : SpI d i) (hi : i ≤ 1000000) :
    Calls Try.prog 49 #[.pointer (some ⟨c, 0, none⟩)] w fun e w' => BOpen w c (opF d) e w' := by
  have hw : d.writes ≤ 4611686018427387901 := by have := hI.wr; omega
  unfold opF
  cases ho : d.off with
  | true =>
    refine (open_off c d w h hI.lt ho).mono ?_
    rintro e w' ⟨rfl, hB⟩
    have hz : ¬ (100 : Int) = 0 := by decide
    rw [if_pos rfl]
    exact ⟨fun h => absurd h hz, fun _ => ⟨rfl, h.below hB⟩, but_below hB _⟩
  | false =>
    simp only [Bool.false_eq_true, if_false]
    by_cases hb : (bestL d.bs).2 < 0
    · rw [if_pos hb]
      exact open_none c d w h hI.lt (by omega) hI.fz (by unfold loadA; rw [ho, if_neg (by decide), if_pos hb])
    · rw [if_neg hb]
      have hm := bestL_may (bs := d.bs) (by omega)
      have hl : loadA d = .tuple #[recV (bestL d.bs).1.life (bestL d.bs).1.round (bestL d.bs).1.tag, .int .i64 (bestL d.bs).1.seq, .int .i64 0] := by unfold loadA; rw [ho, if_neg (by decide), if_neg hb]
      by_cases hx : (bestL d.bs).1.life = 1073741824
      · rw [if_pos hx]
        rw [hx] at hl
        refine (open_end c d w h hI.lt _ _ _ hl).mono ?_
        rintro e w' ⟨rfl, hB⟩
        have hz : ¬ (120 : Int) = 0 := by decide
        exact ⟨fun h => absurd h hz, fun _ => ⟨rfl, h.below hB⟩, but_below hB _⟩
      · rw [if_neg hx]
        obtain ⟨m1, m2, m3, m4, _⟩ := hm
        exact open_some c d w h hI.lt (by omega) hI.fz _ _ _ _ _ hl rfl hx m2 (by omega) m4
theorem ropen_F (rb ob gb n : Nat) (d : Dk) (i : Nat) (w : World) (k : Rk w rb ob gb n d) (hn : 256 ≤ n) (hI : SpI d i) (hi : i ≤ 1000000) :
    Calls Try.prog 80 #[.pointer (some ⟨rb, ob, none⟩)] w fun e w' => ROpen w rb ob gb n (opF d).bt ((opF d).dk, (opF d).er) e w' := by
  have hw : d.writes ≤ 4611686018427387901 := by have := hI.wr; omega
  unfold opF
  cases ho : d.off with
  | true =>
    refine (rOpen_off rb ob gb n d w k hn hI.lt ho).mono ?_
    rintro e w' ⟨rfl, hB⟩
    have hz : ¬ (100 : Int) = 0 := by decide
    rw [if_pos rfl]
    exact ⟨fun h => absurd h hz, fun _ => ⟨rfl, k.below hB⟩, Chg.ofBelow hB _ _ _⟩
  | false =>
    simp only [Bool.false_eq_true, if_false]
    by_cases hb : (bestL d.bs).2 < 0
    · rw [if_pos hb]
      exact rOpen_none rb ob gb n d w k hn hI.lt hw hI.fz (by unfold loadA; rw [ho, if_neg (by decide), if_pos hb])
    · rw [if_neg hb]
      have hm := bestL_may (bs := d.bs) (by omega)
      have hl : loadA d = .tuple #[recV (bestL d.bs).1.life (bestL d.bs).1.round (bestL d.bs).1.tag, .int .i64 (bestL d.bs).1.seq, .int .i64 0] := by unfold loadA; rw [ho, if_neg (by decide), if_neg hb]
      by_cases hx : (bestL d.bs).1.life = 1073741824
      · rw [if_pos hx]
        rw [hx] at hl
        refine (rOpen_max rb ob gb n d w k hn hI.lt _ _ _ hl).mono ?_
        rintro e w' ⟨rfl, hB⟩
        have hz : ¬ (120 : Int) = 0 := by decide
        exact ⟨fun h => absurd h hz, fun _ => ⟨rfl, k.below hB⟩, Chg.ofBelow hB _ _ _⟩
      · rw [if_neg hx]
        obtain ⟨m1, m2, m3, m4, _⟩ := hm
        exact rOpen_some rb ob gb n d w k hn hI.lt hw hI.fz _ _ _ _ _ hl rfl hx m2 (by omega) m4
end Go.Proofs.Ythkppkecclnlnaa
namespace Go.Proofs.Ythkppkecclnlnaa
set_option linter.unusedVariables false
set_option linter.unusedSimpArgs false
open Go.RowKit

def bbC (b c rb : Nat) (A : Bt) : Array Value := #[.pointer (some ⟨b, 0, none⟩), .pointer (some ⟨c, 0, none⟩), .int .i64 (A.life : Int), .int .i64 (A.kround : Int), .int .i64 (A.ktag : Int), .int .i64 (A.life : Int), .int .i64 (A.round : Int), .int .i64 (A.tag : Int), .pointer (some ⟨rb, 0, none⟩)]
/-- What a play keeps: the boot in b over the disk in c; in bb what holds both; the document's disk in rb and gb. -/
structure BP (w : World) (b c bb rb gb n : Nat) (B : Bt) (d : Dk) (A : Bt) (e : Dk) (W : World) : Prop where
  bt : BtAt W b c B d
  box : W.heap[bb]? = some (.cells (bbC b c rb A) 138 (0, 0))
  rk : Rk W rb 0 gb n e
  low : Below w.heap.size w W
  far : w.heap.size ≤ b ∧ w.heap.size ≤ c ∧ w.heap.size ≤ bb ∧ w.heap.size ≤ rb ∧ w.heap.size ≤ gb
  ne : (bb ≠ b ∧ bb ≠ c ∧ bb ≠ rb ∧ bb ≠ gb) ∧ (rb ≠ b ∧ rb ≠ c) ∧ (gb ≠ b ∧ gb ≠ c)
theorem BP.below {w W X : World} {b c bb rb gb n : Nat} {B A : Bt} {d e : Dk} (h : BP w b c bb rb gb n B d A e W) (hb : Below W.heap.size W X) : BP w b c bb rb gb n B d A e X :=
  ⟨h.bt.below hb, blk_below' hb h.box, h.rk.below hb, below_then h.low hb, h.far, h.ne⟩
theorem BP.drew {w W : World} {b c bb rb gb n : Nat} {B A : Bt} {d e : Dk} (h : BP w b c bb rb gb n B d A e W) : BP w b c bb rb gb n B d A e W.drew := h.below ((Below.refl _ _).drew)
theorem BP.drewN {w W : World} {b c bb rb gb n : Nat} {B A : Bt} {d e : Dk} (h : BP w b c bb rb gb n B d A e W) (k : Nat) : BP w b c bb rb gb n B d A e (W.drewN k) := h.below (below_drewN (Below.refl _ _) k)
theorem BP.turnB {w W X : World} {b c bb rb gb n : Nat} {B B' A : Bt} {d d' e : Dk} (h : BP w b c bb rb gb n B d A e W) (hT : BtAt X b c B' d') (hC : Ch2 W X b c) : BP w b c bb rb gb n B' d' A e X := by
  obtain ⟨⟨a1, a2, a3, a4⟩, ⟨a5, a6⟩, ⟨a7, a8⟩⟩ := h.ne
  exact ⟨hT, hC.blk h.box a1 a2, h.rk.heap (hC.block rb h.rk.lt.1 a5 a6) (hC.block gb h.rk.lt.2 a7 a8), Below.chg h.low hC h.low.size h.far.1 h.far.2.1, h.far, h.ne⟩
theorem BP.turnK {w W X : World} {b c bb rb gb n : Nat} {B A : Bt} {d e e' : Dk} (h : BP w b c bb rb gb n B d A e W) (hK : Rk X rb 0 gb n e') (hC : Chg W X rb 0 gb) : BP w b c bb rb gb n B d A e' X := by
  obtain ⟨⟨a1, a2, a3, a4⟩, ⟨a5, a6⟩, ⟨a7, a8⟩⟩ := h.ne
  exact ⟨⟨hC.blk h.bt.boot (Ne.symm a5) (Ne.symm a7), ⟨hC.blk h.bt.disk.1 (Ne.symm a6) (Ne.symm a8), h.bt.disk.2⟩, h.bt.ne⟩, hC.blk h.box a3 a4, hK, h.low.trans (hC.low h.far.2.2.2.1 h.far.2.2.2.2 h.low.size), h.far, h.ne⟩
theorem BP.turnD {w W X : World} {b c bb rb gb n : Nat} {B A : Bt} {d d' e : Dk} (h : BP w b c bb rb gb n B d A e W) (hD : DkAt X c d') (hg : W.grownBy X (some c)) : BP w b c bb rb gb n B d' A e X :=
  h.turnB (h.bt.turn hg hD) (Ch2.two hg b)
theorem BP.rb {w W : World} {b c bb rb gb n : Nat} {B A : Bt} {d e : Dk} (h : BP w b c bb rb gb n B d A e W) : RbAt W bb 2 A := by
  refine ⟨_, _, h.box, fun j x hx => ?_⟩
  match j, hx with
  | 0, hx => exact hx
  | 1, hx => exact hx
  | 2, hx => exact hx
  | 3, hx => exact hx
  | 4, hx => exact hx
  | 5, hx => exact hx
  | j + 6, hx => simp [rbC] at hx
theorem nine {cs ds : Array Value} (h : cs.size = 9) (k : ds.size = 9) (e : ∀ j, j < 9 → cs[j]? = ds[j]?) : cs = ds := by
  apply Array.ext_getElem?
  intro j
  by_cases hj : j < 9
  · exact e j hj
  · rw [Array.getElem?_eq_none (by omega), Array.getElem?_eq_none (by omega)]
theorem BP.turnR {w W X : World} {b c bb rb gb n : Nat} {B A A' : Bt} {d e e' : Dk} (h : BP w b c bb rb gb n B d A e W) (hR : RbAt X bb 2 A') (hK : Rk X rb 0 gb n e') (hC : ChB W X bb 2 rb 0 gb) : BP w b c bb rb gb n B d A' e' X := by
  obtain ⟨⟨a1, a2, a3, a4⟩, ⟨a5, a6⟩, ⟨a7, a8⟩⟩ := h.ne
  obtain ⟨cs1, b1, b2, b3⟩ := hC.boot _ _ h.box
  obtain ⟨cs, t, c1, c2⟩ := hR
  have he := b1.symm.trans c1
  have he2 : cs1 = cs := by injection he with he; injection he
  have hcs : cs1 = bbC b c rb A' := by
    refine nine b2 rfl fun j hj => ?_
    match j, hj with
    | 0, _ => exact b3 0 (by omega)
    | 1, _ => exact b3 1 (by omega)
    | 2, _ => rw [he2]; exact c2 0 _ rfl
    | 3, _ => rw [he2]; exact c2 1 _ rfl
    | 4, _ => rw [he2]; exact c2 2 _ rfl
    | 5, _ => rw [he2]; exact c2 3 _ rfl
    | 6, _ => rw [he2]; exact c2 4 _ rfl
    | 7, _ => rw [he2]; exact c2 5 _ rfl
    | 8, _ => exact b3 8 (by omega)
    | j + 9, hj => omega
  rw [hcs] at b1
  exact ⟨⟨hC.blk h.bt.boot (Ne.symm a1) (Ne.symm a5) (Ne.symm a7), ⟨hC.blk h.bt.disk.1 (Ne.symm a2) (Ne.symm a6) (Ne.symm a8), h.bt.disk.2⟩, h.bt.ne⟩, b1, hK, h.low.trans (hC.low h.far.2.2.1 h.far.2.2.2.1 h.far.2.2.2.2 h.low.size), h.far, h.ne⟩
theorem BP.cells {w W : World} {b c bb rb gb n : Nat} {B A : Bt} {d e : Dk} (h : BP w b c bb rb gb n B d A e W) :
    (W.cell? ⟨bb, 0, none⟩ = some (.pointer (some ⟨b, 0, none⟩)) ∧ W.cell? ⟨bb, 1, none⟩ = some (.pointer (some ⟨c, 0, none⟩)) ∧ W.cell? ⟨bb, 2, none⟩ = some (.int .i64 (A.life : Int)) ∧ W.cell? ⟨bb, 3, none⟩ = some (.int .i64 (A.kround : Int)) ∧ W.cell? ⟨bb, 4, none⟩ = some (.int .i64 (A.ktag : Int)) ∧
      W.cell? ⟨bb, 5, none⟩ = some (.int .i64 (A.life : Int)) ∧ W.cell? ⟨bb, 6, none⟩ = some (.int .i64 (A.round : Int)) ∧ W.cell? ⟨bb, 7, none⟩ = some (.int .i64 (A.tag : Int)) ∧ W.cell? ⟨bb, 8, none⟩ = some (.pointer (some ⟨rb, 0, none⟩))) ∧ BP w b c bb rb gb n B d A e W :=
  ⟨⟨(blk_cell h.box 0).trans rfl, (blk_cell h.box 1).trans rfl, (blk_cell h.box 2).trans rfl, (blk_cell h.box 3).trans rfl, (blk_cell h.box 4).trans rfl, (blk_cell h.box 5).trans rfl, (blk_cell h.box 6).trans rfl, (blk_cell h.box 7).trans rfl, (blk_cell h.box 8).trans rfl⟩, h⟩
set_option maxRecDepth 100000 in
set_option maxHeartbeats 2000000 in
theorem looks12 (w : World) (b c bb rb gb n : Nat) (B : Bt) (d : Dk) (W : World) (h : BP w b c bb rb gb n B d B d W) :
    Calls Try.prog 82 #[.pointer (some ⟨bb, 0, none⟩)] W fun e w' => e = .returned (.bool true) ∧ Below W.heap.size W w' := by
  have hS0 := h.drew
  have hB0 : Below W.heap.size W W.drew := (Below.refl _ _).drew
  go_enter Try.func82, Try.ntmps82
  go_wp2_with fail
  go_region_held3 (fun w' => (w'.cell? ⟨bb, 0, none⟩ = some (.pointer (some ⟨b, 0, none⟩)) ∧ w'.cell? ⟨bb, 1, none⟩ = some (.pointer (some ⟨c, 0, none⟩)) ∧ w'.cell? ⟨bb, 2, none⟩ = some (.int .i64 (B.life : Int)) ∧ w'.cell? ⟨bb, 3, none⟩ = some (.int .i64 (B.kround : Int)) ∧ w'.cell? ⟨bb, 4, none⟩ = some (.int .i64 (B.ktag : Int)) ∧
      w'.cell? ⟨bb, 5, none⟩ = some (.int .i64 (B.life : Int)) ∧ w'.cell? ⟨bb, 6, none⟩ = some (.int .i64 (B.round : Int)) ∧ w'.cell? ⟨bb, 7, none⟩ = some (.int .i64 (B.tag : Int)) ∧ w'.cell? ⟨bb, 8, none⟩ = some (.pointer (some ⟨rb, 0, none⟩))) ∧ BP w b c bb rb gb n B d B d w')
    (exact BP.cells (by first | with_reducible exact hS0 | with_reducible exact hK4 | with_reducible exact hK3 | with_reducible exact hK2 | with_reducible exact hK1))
    (first
      | (go_at_call 54; have hk := (‹_ ∧ BP _ _ _ _ _ _ _ _ _ _ _ _›).2; refine (life_eq b B _ _ hk.bt.boot).mono ?_; rintro e w1 ⟨rfl, rfl⟩; have hK1 := hk)
      | (go_at_call 55; have hk := (‹_ ∧ BP _ _ _ _ _ _ _ _ _ _ _ _›).2; refine (round_eq b B _ _ hk.bt.boot).mono ?_; rintro e w2 ⟨rfl, rfl⟩; have hK2 := hk)
      | (go_at_call 52; have hk := (‹_ ∧ BP _ _ _ _ _ _ _ _ _ _ _ _›).2; refine (tag_eq b B _ _ hk.bt.boot).mono ?_; rintro e w3 ⟨rfl, rfl⟩; have hK3 := hk)
      | (go_at_call 51; have hk := (‹_ ∧ BP _ _ _ _ _ _ _ _ _ _ _ _›).2; refine (durable_any b B _ _ hk.bt.boot).mono ?_; rintro e w4 ⟨rfl, hB4⟩; unfold recV; have hK4 := hk.below hB4))
  go_wp2_with fail
  go_ret
  exact ⟨rfl, below_then hB0 hB4⟩
end Go.Proofs.Ythkppkecclnlnaa
namespace Go.Proofs.Ythkppkecclnlnaa
set_option linter.unusedVariables false
set_option linter.unusedSimpArgs false
open Go.RowKit

/-- The step's own record, beside. -/
structure BO (w : World) (b c bb rb gb n g : Nat) (k a : Int) (B : Bt) (d : Dk) (A : Bt) (e : Dk) (W : World) : Prop where
  sp : BP w b c bb rb gb n B d A e W
  bx : W.heap[g]? = some (.cells #[.int .i64 k, .int .i64 a] 141 (0, 0))
  ne : g ≠ b ∧ g ≠ c ∧ g ≠ bb ∧ g ≠ rb ∧ g ≠ gb
theorem BO.below {w W X : World} {b c bb rb gb n g : Nat} {k a : Int} {B A : Bt} {d e : Dk} (h : BO w b c bb rb gb n g k a B d A e W) (hb : Below W.heap.size W X) : BO w b c bb rb gb n g k a B d A e X := ⟨h.sp.below hb, blk_below' hb h.bx, h.ne⟩
theorem BO.drew {w W : World} {b c bb rb gb n g : Nat} {k a : Int} {B A : Bt} {d e : Dk} (h : BO w b c bb rb gb n g k a B d A e W) : BO w b c bb rb gb n g k a B d A e W.drew := h.below ((Below.refl _ _).drew)
theorem BO.turnB {w W X : World} {b c bb rb gb n g : Nat} {k a : Int} {B B' A : Bt} {d d' e : Dk} (h : BO w b c bb rb gb n g k a B d A e W) (hT : BtAt X b c B' d') (hC : Ch2 W X b c) : BO w b c bb rb gb n g k a B' d' A e X := ⟨h.sp.turnB hT hC, hC.blk h.bx h.ne.1 h.ne.2.1, h.ne⟩
theorem BO.turnD {w W X : World} {b c bb rb gb n g : Nat} {k a : Int} {B A : Bt} {d d' e : Dk} (h : BO w b c bb rb gb n g k a B d A e W) (hD : DkAt X c d') (hg : W.grownBy X (some c)) : BO w b c bb rb gb n g k a B d' A e X := h.turnB (h.sp.bt.turn hg hD) (Ch2.two hg b)
theorem BO.turnR {w W X : World} {b c bb rb gb n g : Nat} {k a : Int} {B A A' : Bt} {d e e' : Dk} (h : BO w b c bb rb gb n g k a B d A e W) (hR : RbAt X bb 2 A') (hK : Rk X rb 0 gb n e') (hC : ChB W X bb 2 rb 0 gb) : BO w b c bb rb gb n g k a B d A' e' X := ⟨h.sp.turnR hR hK hC, hC.blk h.bx h.ne.2.2.1 h.ne.2.2.2.1 h.ne.2.2.2.2, h.ne⟩
theorem BO.turnK {w W X : World} {b c bb rb gb n g : Nat} {k a : Int} {B A : Bt} {d e e' : Dk} (h : BO w b c bb rb gb n g k a B d A e W) (hK : Rk X rb 0 gb n e') (hC : Chg W X rb 0 gb) : BO w b c bb rb gb n g k a B d A e' X := ⟨h.sp.turnK hK hC, hC.blk h.bx h.ne.2.2.2.1 h.ne.2.2.2.2, h.ne⟩
theorem BO.cells {w W : World} {b c bb rb gb n g : Nat} {k a : Int} {B A : Bt} {d e : Dk} (h : BO w b c bb rb gb n g k a B d A e W) :
    (W.cell? ⟨bb, 0, none⟩ = some (.pointer (some ⟨b, 0, none⟩)) ∧ W.cell? ⟨bb, 1, none⟩ = some (.pointer (some ⟨c, 0, none⟩)) ∧ W.cell? ⟨bb, 8, none⟩ = some (.pointer (some ⟨rb, 0, none⟩))) ∧ (W.cell? ⟨g, 0, none⟩ = some (.int .i64 k) ∧ W.cell? ⟨g, 1, none⟩ = some (.int .i64 a)) ∧ BO w b c bb rb gb n g k a B d A e W :=
  ⟨⟨(blk_cell h.sp.box 0).trans rfl, (blk_cell h.sp.box 1).trans rfl, (blk_cell h.sp.box 8).trans rfl⟩, ⟨(blk_cell h.bx 0).trans rfl, (blk_cell h.bx 1).trans rfl⟩, h⟩
theorem BI.more {B : Bt} {d : Dk} {i j : Nat} (h : BI B d i) (hj : i ≤ j) : BI B d j := ⟨⟨h.dk.lt, by have := h.dk.wr; omega, h.dk.fz⟩, h.rnd⟩
def BRes (w : World) (c bb rb gb n N : Nat) (e : Ending) (W : World) : Prop := e = .returned (.bool true) ∧ ∃ (b : Nat) (B : Bt) (d : Dk), BI B d (N + 100) ∧ BP w b c bb rb gb n B d B d W
set_option maxRecDepth 100000 in
set_option maxHeartbeats 1000000 in
theorem step12_other (w : World) (b c bb rb gb n N : Nat) (k a : Int) (B : Bt) (d : Dk) (W : World) (h : BP w b c bb rb gb n B d B d W) (hI : BI B d N) (hN : N ≤ 500000) (hn : 256 ≤ n) (h1 : k ≠ 1) (h2 : k ≠ 2) (h3 : k ≠ 3) (h4 : k ≠ 4) (h5 : k ≠ 5) (h6 : k ≠ 6) :
    Calls Try.prog 81 #[.pointer (some ⟨bb, 0, none⟩), .agg #[.int .i64 k, .int .i64 a]] W fun e w' => BRes w c bb rb gb n N e w' := by
  have e1 : (k == 1) = false := by simpa using h1
  have e2 : (k == 2) = false := by simpa using h2
  have e3 : (k == 3) = false := by simpa using h3
  have e4 : (k == 4) = false := by simpa using h4
  have e5 : (k == 5) = false := by simpa using h5
  have e6 : (k == 6) = false := by simpa using h6
  clear h1 h2 h3 h4 h5 h6
  have HN := Lib.hid hN
  have HNN := Lib.hid hn
  have HO0 : Hid (BO w b c bb rb gb n W.heap.size k a B d B d (W.alloc (.cells #[.int .i64 k, .int .i64 a] 141))) := by
    have h1 := blk_lt h.bt.boot; have h2 := blk_lt h.bt.disk.1; have h3 := blk_lt h.box; have h4 := h.rk.lt
    exact ⟨h.below ((Below.refl _ _).alloc (Nat.le_refl _) _), blk_new W _, by omega, by omega, by omega, by omega, by omega⟩
  have HI := Lib.hid hI
  clear h hI hN hn
  go_enter Try.func81, Try.ntmps81
  go_upto_region 1 with fail
  generalize World.alloc W _ = W1 at *
  obtain ⟨g, hg⟩ : ∃ g, W.heap.size = g := ⟨_, rfl⟩
  rw [hg] at HO0
  (try rw [hg])
  clear hg
  obtain ⟨⟨p0, p1, p8⟩, ⟨q0, q1⟩, _⟩ := HO0.out.cells
  by_cases h7 : k = 7
  · subst h7
    go_wp2_with fail
    refine (looks12 w b c bb rb gb n B d _ HO0.out.sp).mono ?_
    rintro e w2 ⟨rfl, hB2⟩
    go_wp2_with fail
    go_ret
    exact ⟨rfl, b, B, d, HI.out.more (by omega), HO0.out.sp.below hB2⟩
  · have e7 : (k == 7) = false := by simpa using h7
    clear h7
    go_wp2_with fail
    go_ret
    exact ⟨rfl, b, B, d, HI.out.more (by omega), HO0.out.sp⟩
set_option maxRecDepth 100000 in
set_option maxHeartbeats 1000000 in
theorem step12_cut (w : World) (b c bb rb gb n N : Nat) (a : Int) (B : Bt) (d : Dk) (W : World) (h : BP w b c bb rb gb n B d B d W) (hI : BI B d N) (hN : N ≤ 500000) (hn : 256 ≤ n) :
    Calls Try.prog 81 #[.pointer (some ⟨bb, 0, none⟩), .agg #[.int .i64 5, .int .i64 a]] W fun e w' => BRes w c bb rb gb n N e w' := by
  obtain ⟨k, hk⟩ : ∃ k : Int, 5 = k := ⟨_, rfl⟩
  rw [hk]
  have HN := Lib.hid hN
  have HNN := Lib.hid hn
  have HO0 : Hid (BO w b c bb rb gb n W.heap.size k a B d B d (W.alloc (.cells #[.int .i64 k, .int .i64 a] 141))) := by
    have h1 := blk_lt h.bt.boot; have h2 := blk_lt h.bt.disk.1; have h3 := blk_lt h.box; have h4 := h.rk.lt
    exact ⟨h.below ((Below.refl _ _).alloc (Nat.le_refl _) _), blk_new W _, by omega, by omega, by omega, by omega, by omega⟩
  have HI := Lib.hid hI
  clear h hI hN hn
  go_enter Try.func81, Try.ntmps81
  go_upto_region 1 with fail
  generalize World.alloc W _ = W1 at *
  obtain ⟨g, hg⟩ : ∃ g, W.heap.size = g := ⟨_, rfl⟩
  rw [hg] at HO0
  (try rw [hg])
  clear hg
  obtain ⟨⟨p0, p1, p8⟩, ⟨q0, q1⟩, _⟩ := HO0.out.cells
  subst hk
  go_wp2_with fail
  refine (cut_any c d _ HO0.out.sp.bt.disk).mono ?_
  rintro e w3 ⟨rfl, hD3, hg3⟩
  have ho3 := HO0.out.turnD hD3 hg3
  obtain ⟨⟨p0, p1, p8⟩, ⟨q0, q1⟩, _⟩ := ho3.cells
  have p2 : w3.cell? ⟨rb, 1, none⟩ = some (.bool d.off) := ho3.sp.rk.cells.2.1
  have p3 : w3.frozen? ⟨rb, 1, none⟩ = false := ho3.sp.rk.free.2.1
  have HO3 := Lib.hid ho3
  clear ho3
  go_wp2_with fail
  go_ret
  have hq := HO3.out.turnK (HO3.out.sp.rk.off true) ((Chg.refl _ _ _ _).set 1 _ (by decide) HO3.out.sp.rk.lt.1)
  exact ⟨rfl, b, B, { d with off := true }, BI.more (i := N + 1) ⟨HI.out.dk.off true, HI.out.rnd⟩ (by omega), hq.sp⟩
set_option maxRecDepth 100000 in
set_option maxHeartbeats 1000000 in
theorem step12_back (w : World) (b c bb rb gb n N : Nat) (a : Int) (B : Bt) (d : Dk) (W : World) (h : BP w b c bb rb gb n B d B d W) (hI : BI B d N) (hN : N ≤ 500000) (hn : 256 ≤ n) :
    Calls Try.prog 81 #[.pointer (some ⟨bb, 0, none⟩), .agg #[.int .i64 6, .int .i64 a]] W fun e w' => BRes w c bb rb gb n N e w' := by
  obtain ⟨k, hk⟩ : ∃ k : Int, 6 = k := ⟨_, rfl⟩
  rw [hk]
  have HN := Lib.hid hN
  have HNN := Lib.hid hn
  have HO0 : Hid (BO w b c bb rb gb n W.heap.size k a B d B d (W.alloc (.cells #[.int .i64 k, .int .i64 a] 141))) := by
    have h1 := blk_lt h.bt.boot; have h2 := blk_lt h.bt.disk.1; have h3 := blk_lt h.box; have h4 := h.rk.lt
    exact ⟨h.below ((Below.refl _ _).alloc (Nat.le_refl _) _), blk_new W _, by omega, by omega, by omega, by omega, by omega⟩
  have HI := Lib.hid hI
  clear h hI hN hn
  go_enter Try.func81, Try.ntmps81
  go_upto_region 1 with fail
  generalize World.alloc W _ = W1 at *
  obtain ⟨g, hg⟩ : ∃ g, W.heap.size = g := ⟨_, rfl⟩
  rw [hg] at HO0
  (try rw [hg])
  clear hg
  obtain ⟨⟨p0, p1, p8⟩, ⟨q0, q1⟩, _⟩ := HO0.out.cells
  subst hk
  go_wp2_with fail
  refine (restore_any c d _ HO0.out.sp.bt.disk).mono ?_
  rintro e w3 ⟨rfl, hD3, hg3⟩
  have ho3 := HO0.out.turnD hD3 hg3
  obtain ⟨⟨p0, p1, p8⟩, ⟨q0, q1⟩, _⟩ := ho3.cells
  have p2 : w3.cell? ⟨rb, 1, none⟩ = some (.bool d.off) := ho3.sp.rk.cells.2.1
  have p3 : w3.frozen? ⟨rb, 1, none⟩ = false := ho3.sp.rk.free.2.1
  have HO3 := Lib.hid ho3
  clear ho3
  go_wp2_with fail
  go_ret
  have hq := HO3.out.turnK (HO3.out.sp.rk.off false) ((Chg.refl _ _ _ _).set 1 _ (by decide) HO3.out.sp.rk.lt.1)
  exact ⟨rfl, b, B, { d with off := false }, BI.more (i := N + 1) ⟨HI.out.dk.off false, HI.out.rnd⟩ (by omega), hq.sp⟩
set_option maxRecDepth 100000 in
set_option maxHeartbeats 1000000 in
theorem step12_fuse (w : World) (b c bb rb gb n N : Nat) (a : Int) (B : Bt) (d : Dk) (W : World) (h : BP w b c bb rb gb n B d B d W) (hI : BI B d N) (hN : N ≤ 500000) (hn : 256 ≤ n) (ha : (Lit.int .i64 a).wf = true) :
    Calls Try.prog 81 #[.pointer (some ⟨bb, 0, none⟩), .agg #[.int .i64 4, .int .i64 a]] W fun e w' => BRes w c bb rb gb n N e w' := by
  obtain ⟨k, hk⟩ : ∃ k : Int, 4 = k := ⟨_, rfl⟩
  rw [hk]
  have HA := Lib.hid ha
  clear ha
  have HN := Lib.hid hN
  have HNN := Lib.hid hn
  have HO0 : Hid (BO w b c bb rb gb n W.heap.size k a B d B d (W.alloc (.cells #[.int .i64 k, .int .i64 a] 141))) := by
    have h1 := blk_lt h.bt.boot; have h2 := blk_lt h.bt.disk.1; have h3 := blk_lt h.box; have h4 := h.rk.lt
    exact ⟨h.below ((Below.refl _ _).alloc (Nat.le_refl _) _), blk_new W _, by omega, by omega, by omega, by omega, by omega⟩
  have HI := Lib.hid hI
  clear h hI hN hn
  go_enter Try.func81, Try.ntmps81
  go_upto_region 1 with fail
  generalize World.alloc W _ = W1 at *
  obtain ⟨g, hg⟩ : ∃ g, W.heap.size = g := ⟨_, rfl⟩
  rw [hg] at HO0
  (try rw [hg])
  clear hg
  obtain ⟨⟨p0, p1, p8⟩, ⟨q0, q1⟩, _⟩ := HO0.out.cells
  subst hk
  have HF := Lib.hid (fun w (h : DkAt w c d) => fuse_any c d a w h)
  have HS := Lib.hid (fun w (h : Rk w rb 0 gb n d) => refSet_any rb 0 gb n d a w h)
  go_wp2_with fail
  go_region_with (go_at_call 22; refine (HF.out _ HO0.out.drew.sp.bt.disk).mono ?_; rintro e w3 ⟨rfl, hD3, hg3⟩; have ho3 := HO0.out.drew.turnD hD3 hg3; obtain ⟨⟨p0, p1, p8⟩, ⟨q0, q1⟩, _⟩ := ho3.cells)
  all_goals
    go_wp2_with fail
    go_region_with (go_at_call 45; refine (HS.out _ ho3.drew.sp.rk).mono ?_; rintro e w4 ⟨rfl, hK4, hC4⟩; have ho4 := ho3.drew.turnK hK4 hC4)
    all_goals
      go_wp2_with fail
      go_ret
      exact ⟨rfl, b, B, _, BI.more (i := N + 1) ⟨HI.out.dk.fuse a HA.out, HI.out.rnd⟩ (by omega), ho4.sp⟩
end Go.Proofs.Ythkppkecclnlnaa
