/- The walk of the law GlyphGoes. -/
import Derived.Test.YteoehhkdmmcglaaAlive
import Derived.Test.YteoehhkdmmcglaaList
import Derived.Test.YteoehhkdmmcglaaAll
namespace Go.Proofs.Yteoehhkdmmcglaa
open Go.RowKit Go.Shelf
attribute [local go_sem] Oper.semAt_some
set_option linter.unusedVariables false

theorem run_eql_all (x : Value) (w : World) : (binOp .eql 25 (.func (.func 39) #[] #[x]) .nilFunc).run Try.prog w = .ok (.bool false) w := by kernel_rfl

/-- What holds between two rounds. -/
def goesI (s : ByteArray) (stop : Int) (B0 B1 n0 : Nat) (la : Option Addr) (lc : Nat) (pre : List Nat) (W : World) : Prop :=
  pre <+: st s 0 ∧ Boxed W B0 3 (.int .i64 stop) ∧ Boxed W (B0 + 1) 4 (.bool false) ∧ Boxed W B1 22 (.slice la (st s 0).length lc) ∧ Boxed W (B1 + 1) 3 (.int .i64 pre.length) ∧
    W.ownsRow n0 29 4 (.slice la (st s 0).length lc) (st s 0).length (chR s (st s 0))
theorem goesI_own (s : ByteArray) (stop : Int) (B0 B1 n0 : Nat) (la : Option Addr) (lc : Nat) : Own (goesI s stop B0 B1 n0 la lc) := fun pre X Y row ⟨h0, h1, h2, h3, h4, h5⟩ hg hr =>
  ⟨h0, boxed_own (β := Unit) B0 _ (fun _ => _) () X Y row h1 hg hr, boxed_own (β := Unit) _ _ (fun _ => _) () X Y row h2 hg hr, boxed_own (β := Unit) _ _ (fun _ => _) () X Y row h3 hg hr, boxed_own (β := Unit) _ _ (fun _ => _) () X Y row h4 hg hr, row_own (β := Unit) _ _ _ _ _ _ () X Y row h5 hg hr⟩
/-- What holds where a round has left. -/
def goesX (s : ByteArray) (B0 : Nat) (c : Code) (pre : List Nat) (W : World) : Prop := c = .ret ∧ (pre <+: st s 0 → Boxed W (B0 + 1) 4 (.bool true))
theorem goesX_own (s : ByteArray) (B0 : Nat) (c : Code) : Own (goesX s B0 c) := fun pre X Y row ⟨h0, h1⟩ hg hr =>
  ⟨h0, fun hp => boxed_own (β := Unit) _ _ (fun _ => _) () X Y row (h1 hp) hg hr⟩

set_option maxRecDepth 100000 in
set_option maxHeartbeats 2000000 in
theorem glyphGoes_walk (s : ByteArray) (stop : Int) (_hw : (Lit.int .i64 stop).wf = true) (hs : s.size ≤ 1048576) (w : World) :
    Calls Try.prog 3 #[.string s, .int .i64 stop] w fun e w' => e = .returned (.bool true) ∧ Below w.heap.size w w' := by
  have feq := run_eql_all
  have HL := Lib.hid (fun w => list_any s (by omega) w)
  refine (callsIn_wide (n := 8)).1 ?_
  refine callsIn_of_wp_marks Try.func3 rfl trivial ?_ rfl
  simp only [Try.ntmps3, List.size_toArray, List.length_cons, List.length_nil, Nat.reduceAdd, Nat.reduceSub, Array.replicate_succ, Array.replicate_zero, List.push_toArray, List.append_toArray, List.nil_append, List.cons_append]
  gi_wp2_with (first
    | (refine ⟨trivial, ?_⟩; gi_at_call 15; refine (callsIn_wide.2 (HL.out _)).mono ?_; rintro e w1 ⟨lv, rfl, hown, hB⟩; obtain ⟨la, lc, rfl, hla⟩ := ownsRow_slice hown))
  refine ⟨trivial, ?_⟩
  refine (callsIn_wide.2 (all_any s _)).mono ?_
  rintro e W2 ⟨rfl, rfl⟩
  gi_wp2_with (first
    | (refine ⟨trivial, ?_⟩; gi_at_call 17; refine (callsIn_wide.2 (alive_any _)).mono ?_; rintro e w2 ⟨rfl, hB2⟩))
  clear feq HL
  -- what lies in the world in which the loop begins
  have b1 : Boxed w1 w.heap.size 3 (.int .i64 stop) := blk_below' hB (blk_old (blk_new w _) _)
  have b2 : Boxed w1 (w.heap.size + 1) 4 (.bool false) := blk_below' hB (by have := blk_new (w.alloc (.cells #[.int .i64 stop] 3)) (.cells #[.bool false] 4); rwa [World.size_alloc] at this)
  have c1 := Boxed.lt b1
  have c2 := Boxed.lt b2
  have b3 : w2.heap[w1.heap.size]? = some (.cells #[.slice la (st s 0).length lc] 22 (0, 0)) := blk_below' hB2 (blk_old (blk_old (blk_new w1 _) _) _)
  have b4 : w2.heap[w1.heap.size + 1]? = some (.cells #[.int .i64 0] 3 (0, 0)) := blk_below' hB2 (blk_old (by have := blk_new (w1.alloc (.cells #[.slice la (st s 0).length lc] 22)) (.cells #[.int .i64 0] 3); rwa [World.size_alloc] at this) _)
  have b5 : w2.heap[w1.heap.size + 1 + 1]? = some (.cells #[.string s] 9 (0, 0)) := blk_below' hB2 (by have := blk_new ((w1.alloc (.cells #[.slice la (st s 0).length lc] 22)).alloc (.cells #[.int .i64 0] 3)) (.cells #[.string s] 9); simpa only [World.size_alloc] using this)
  have b1' : w2.heap[w.heap.size]? = some (.cells #[.int .i64 stop] 3 (0, 0)) := blk_below' hB2 (blk_old (blk_old (blk_old b1 _) _) _)
  have b2' : w2.heap[w.heap.size + 1]? = some (.cells #[.bool false] 4 (0, 0)) := blk_below' hB2 (blk_old (blk_old (blk_old b2 _) _) _)
  have hz2 : w1.heap.size + 3 ≤ w2.heap.size := by have := hB2.size; simp at this; omega
  have hw1 : w.heap.size + 2 ≤ w1.heap.size := by have := hB.size; simp at this; omega
  have hbl : Below w.heap.size w w2 := by
    have h1 : Below w.heap.size w w1 := (((Below.refl _ w).alloc (Nat.le_refl _) _).alloc (by simp) _).trans (hB.mono (by simp; omega))
    exact (((h1.alloc h1.size _).alloc (by simp; omega) _).alloc (by simp; omega) _).trans (hB2.mono (by simp; omega))
  have hown1 : w1.ownsRow (w.heap.size + 2) 29 4 (.slice la (st s 0).length lc) (st s 0).length (chR s (st s 0)) := by simpa using hown
  have hown2 : w2.ownsRow (w.heap.size + 2) 29 4 (.slice la (st s 0).length lc) (st s 0).length (chR s (st s 0)) := by
    have h3 := ((hown1.alloc (.cells #[.slice la (st s 0).length lc] 22)).alloc (.cells #[.int .i64 0] 3)).alloc (.cells #[.string s] 9)
    refine h3.kept (row := none) ⟨hB2.os, hB2.tape, hB2.output, hB2.size, fun k hk _ => hB2.block k hk⟩ ?_
    simp only [ne_eq]
    exact Classical.em _
  clear hB2 hB hown hown1 b1 b2
  apply wpIn_rangeFunc_ownF (F := Fence.wide) (n := 8) (P := Try.prog) rfl (by omega) (gf := 39) (lb := #[.pointer (some ⟨w1.heap.size + 1 + 1, 0, none⟩)]) rfl trivial (enters_of Try.func39 (by kernel_rfl) rfl)
    (encs := allEnc s) (seqStopsA_iff.1 (all1_stops s 7 (by omega) w2 _ b5)) walksK_t walksK_b (Below.refl _ _) (fun _ => rfl)
    (fun pre W => goesI s stop w.heap.size w1.heap.size (w.heap.size + 2) la lc pre W ∧ Below w.heap.size w W)
    (fun c pre W => goesX s w.heap.size c pre W ∧ Below w.heap.size w W)
    (OwnFrom.and ((goesI_own s stop w.heap.size w1.heap.size (w.heap.size + 2) la lc).from _) (ownFrom_below (Nat.le_refl _) (by omega)))
    (fun c => OwnFrom.and ((goesX_own s w.heap.size c).from _) (ownFrom_below (Nat.le_refl _) (by omega)))
    ⟨⟨List.nil_prefix, b1', b2', b3, b4, hown2⟩, hbl⟩
  case hassign =>
    intro l x W K hK
    have HK := Lib.hid hK
    clear hK
    gi_wp2
    exact HK.out
  case hbody =>
    rintro l pre x W ⟨⟨hp, i1, i2, i3, i4, i5⟩, hB⟩ hlen
    obtain ⟨p, hpk⟩ : ∃ p, (st s 0)[pre.length]? = some p := ⟨_, List.getElem?_eq_getElem hlen⟩
    obtain ⟨g, rfl⟩ : ∃ g, la = some ⟨g, 0, none⟩ := by
      rcases hla with h | ⟨g, h, _⟩
      · omega
      · exact ⟨g, h⟩
    obtain ⟨e0, e1, e2, e3⟩ := row_cells i5 rfl hpk
    have k1 := i1.cell
    have k2 := i2.cell
    have k2f := i2.frozen
    have k3 := i3.cell
    have k4 := i4.cell
    have k4f := i4.frozen
    have hN : (st s 0).length ≤ 1048576 := by have := st_len s 0; omega
    have HP := Lib.hid hpk
    have HX := Lib.hid (show pre ++ [x] <+: st s 0 → x = p from fun h => by have := snoc_get h; rw [hpk] at this; exact (Option.some.inj this).symm)
    have HY := Lib.hid (show x = p → pre ++ [x] <+: st s 0 from fun h => snoc_of_get hp (by rw [h]; exact hpk))
    clear hpk hp hla b3 b4 b5 b1' b2'
    by_cases hx : x = p
    · have hpre := Lib.hid (HY.out hx)
      subst hx
      clear HX HY HP
      by_cases hst : (pre.length : Int) + 1 = stop
      · have hst1 : ((pre.length : Int) + 1 == stop) = true := by simpa using hst
        clear hst
        gi_wp2_with (first
          | (refine ⟨trivial, ?_⟩; gi_at_call 17; refine (CallsIn.inRound l (callsIn_wide.2 (alive_any _))).mono ?_; rintro e w3 ⟨rfl, hB3⟩; have j2 : Boxed w3 (w.heap.size + 1) 4 (.bool false) := blk_below' hB3 (i2.other (by omega) _); have j2c := j2.cell; have j2f := j2.frozen))
        have hB4 : Below w.heap.size w w3 := (hB.setCell (p := ⟨w1.heap.size + 1, 0, none⟩) (by simp; omega) (.int .i64 ((pre.length : Int) + 1))).trans (hB3.mono (by have := hB.size; simpa using this))
        exact ⟨((KeepsOthers.setCell _ _ _).trans (keeps_below hB3)).trans (KeepsOthers.setCell _ _ _), ⟨rfl, fun _ => j2.set _⟩, hB4.setCell (p := ⟨w.heap.size + 1, 0, none⟩) (by simp) _⟩
      · have hst1 : ((pre.length : Int) + 1 == stop) = false := by simpa using hst
        clear hst
        gi_wp2
        refine ⟨KeepsOthers.setCell _ _ _, (KeepsOthers.setCell _ _ _).walks, ⟨hpre.out, i1.other (by omega) _, i2.other (by omega) _, i3.other (by omega) _, ?_, ?_⟩, hB.setCell (p := ⟨w1.heap.size + 1, 0, none⟩) (by simp; omega) _⟩
        · have := i4.set (.int .i64 ((pre.length : Int) + 1))
          simpa using this
        · exact i5.kept (grownBy_setCell' _ _ _) (.inr (i4.not_row (by decide) i5).symm)
    · have hx1 : ((x : Int) == (p : Int)) = false := by simp; omega
      have hx2 : ((x : Int) != (p : Int)) = true := by simp; omega
      have HXx := Lib.hid hx
      clear hx
      gi_wp2
      exact ⟨KeepsOthers.setCell _ _ _, ⟨rfl, fun h => absurd (HX.out h) HXx.out⟩, hB.setCell (p := ⟨w.heap.size + 1, 0, none⟩) (by simp) _⟩
  case hdone =>
    rintro D ys W hD rfl ⟨⟨hp, i1, i2, i3, i4, i5⟩, hB⟩ hK
    have k2 := i2.cell
    have k2f := i2.frozen
    have k3 := i3.cell
    have k4 := i4.cell
    gi_wp2_with (first
      | (refine ⟨trivial, ?_⟩; gi_at_call 17; refine (callsIn_wide.2 (alive_any _)).mono ?_; rintro e w3 ⟨rfl, hB3⟩; have j2 : Boxed w3 (w.heap.size + 1) 4 (.bool false) := blk_below' hB3 i2; have j2c := j2.cell; have j2f := j2.frozen; have j3 : Boxed w3 w1.heap.size 22 (.slice la (st s 0).length lc) := blk_below' hB3 i3; have j3c := j3.cell; have j4 : Boxed w3 (w1.heap.size + 1) 3 (.int .i64 (st s 0).length) := blk_below' hB3 i4; have j4c := j4.cell))
    have hK' := blk_set (blk_below' hB3 hK) ⟨w.heap.size + 1, 0, none⟩ (.bool true) (by simp; omega)
    have hb3 := (hB.trans (hB3.mono hB.size)).setCell (p := ⟨w.heap.size + 1, 0, none⟩) (by simp) (.bool true)
    refine ⟨by simp, .inl ⟨_, _, rfl, run_takeDeferred hK', ?_⟩⟩
    have hc5 := cell_kept (j2.set (.bool true)).cell (grownBy_putObj' _ D (.deferred none)) (fun r e => by cases e; exact ⟨_, hK', rfl⟩)
    refine ⟨.bool true, ?_, rfl, hb3.trans (belowK_b (w := w) (Nat.le_refl _) _ D _ _ (by omega) hK' rfl rfl)⟩
    simp [results, Try.results3, go_sem, hc5]
  case hstop =>
    rintro D c pre W hD hSp ⟨⟨rfl, hb⟩, hB⟩ hK
    have j2 := hb hSp
    gi_wp2
    refine ⟨by simp, .inl ⟨_, _, rfl, run_takeDeferred hK, ?_⟩⟩
    have hc5 := cell_kept j2.cell (grownBy_putObj' _ D (.deferred none)) (fun r e => by cases e; exact ⟨_, hK, rfl⟩)
    refine ⟨.bool true, ?_, rfl, hB.trans (belowK_b (w := w) (Nat.le_refl _) _ D _ _ (by omega) hK rfl rfl)⟩
    simp [results, Try.results3, go_sem, hc5]

end Go.Proofs.Yteoehhkdmmcglaa
