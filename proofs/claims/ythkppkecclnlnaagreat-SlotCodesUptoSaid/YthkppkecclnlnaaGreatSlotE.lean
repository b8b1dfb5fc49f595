/- Walks: Load, Save. -/
import Derived.Test.YthkppkecclnlnaaGreatSlotD
namespace Go.Proofs.YthkppkecclnlnaaGreat
set_option linter.unusedVariables false
set_option linter.unusedSimpArgs false
open Go.RowKit

def loadA (d : Dk) : Value := if d.off then .tuple #[recV 0 0 0, .int .i64 0, .int .i64 100] else if (bestL d.bs).2 < 0 then .tuple #[recV 0 0 0, .int .i64 0, .int .i64 40] else .tuple #[recV (bestL d.bs).1.life (bestL d.bs).1.round (bestL d.bs).1.tag, .int .i64 (bestL d.bs).1.seq, .int .i64 0]
theorem load_end {w W : World} {A : Value} {a : Act} {x y z i c : Int} (hd : a.defers = []) (h2 : a.tmps[2]?.getD undef = .pointer (some ⟨w.heap.size, 0, none⟩)) (h3 : a.tmps[3]?.getD undef = .int .i64 i) (h4 : a.tmps[4]?.getD undef = .int .i64 c)
    (hb : W.heap[w.heap.size]? = some (.cells #[.int .i64 x, .int .i64 y, .int .i64 z] 23 (0, 0))) (hl : Below w.heap.size w W)
    (he : .tuple #[.agg #[.int .i64 x, .int .i64 y, .int .i64 z], .int .i64 i, .int .i64 c] = A) :
    bodyPost Tryz.prog Tryz.f15 (fun e w' => e = .returned A ∧ Below w.heap.size w w') Exit.ret a W := by
  obtain ⟨y0, y1, y2, _⟩ := blk3 hb
  refine bodyPost_ret (v := .tuple #[.agg #[.int .i64 x, .int .i64 y, .int .i64 z], .int .i64 i, .int .i64 c]) ?_ hd ⟨by rw [he], hl⟩
  simp [results, Tryz.results15, go_sem, h2, h3, h4, y0, y1, y2]
set_option maxRecDepth 100000 in
set_option maxHeartbeats 2000000 in
theorem load_any (b : Nat) (d : Dk) (w : World) (h : DkAt w b d) (hlt : ∀ c ∈ d.bs, c < 256) :
    Calls Tryz.prog 15 #[.pointer (some ⟨b, 0, none⟩)] w fun e w' => e = .returned (loadA d) ∧ Below w.heap.size w w' := by
  obtain ⟨A, hA⟩ : ∃ A, loadA d = A := ⟨_, rfl⟩
  rw [hA]
  have hb0 : Below w.heap.size w (w.alloc (.cells #[.int .i64 0, .int .i64 0, .int .i64 0] 23)) := (Below.refl _ w).alloc (Nat.le_refl _) _
  have HL := Lib.hid (ld_any b d _ (h.below hb0) hlt)
  have hr0 := box3 w (.int .i64 0) (.int .i64 0) (.int .i64 0) 23
  unfold loadA at hA
  have HA := Lib.hid hA
  unfold ldA keptV at HL
  clear hA h hlt
  cases ho : d.off with
  | true =>
    rw [ho] at HL HA
    simp only [if_true] at HL HA
    go_enter Tryz.func15, Tryz.ntmps15
    go_wp2_with (go_at_call 73; refine HL.out.mono ?_; rintro e w1 ⟨rfl, hB1⟩; have hr1 := blk_below' hB1 hr0; have hb1 := below_then hb0 hB1; have hr2 := blk_old hr1 (.cells #[.int .i64 (Rc.zero.life : Int), .int .i64 (Rc.zero.round : Int), .int .i64 (Rc.zero.tag : Int), .int .i64 (Rc.zero.seq : Int)] 59); have hb2 := hb1.alloc hb1.size (.cells #[.int .i64 (Rc.zero.life : Int), .int .i64 (Rc.zero.round : Int), .int .i64 (Rc.zero.tag : Int), .int .i64 (Rc.zero.seq : Int)] 59); obtain ⟨z0, z1, z2, f0, f1, f2⟩ := blk3 hr1; have hlt1 := blk_lt hr1)
    generalize hWF : World.alloc (World.setCell (World.setCell (World.setCell _ _ _) _ _) _ _) _ = WF
    refine load_end (x := 0) (y := 0) (z := 0) (i := 0) (c := 100) rfl rfl rfl rfl ?_ ?_ HA.out
    · rw [← hWF]; exact blk_old (blk_store (blk_store (blk_store hr1 0 _) 1 _) 2 _) _
    · rw [← hWF]; exact (((hb1.setCell (Nat.le_refl _) _).setCell (Nat.le_refl _) _).setCell (Nat.le_refl _) _).alloc (by simpa using hb1.size) _
  | false =>
    rw [ho] at HL HA
    simp only [Bool.false_eq_true, if_false] at HL HA
    generalize bestL d.bs = B at *
    obtain ⟨r, i⟩ := B
    simp only at HL HA
    by_cases hi : i < 0
    · rw [if_pos hi] at HA
      go_enter Tryz.func15, Tryz.ntmps15
      go_wp2_with (go_at_call 73; refine HL.out.mono ?_; rintro e w1 ⟨rfl, hB1⟩; have hr1 := blk_below' hB1 hr0; have hb1 := below_then hb0 hB1; have hr2 := blk_old hr1 (.cells #[.int .i64 (r.life : Int), .int .i64 (r.round : Int), .int .i64 (r.tag : Int), .int .i64 (r.seq : Int)] 59); have hb2 := hb1.alloc hb1.size (.cells #[.int .i64 (r.life : Int), .int .i64 (r.round : Int), .int .i64 (r.tag : Int), .int .i64 (r.seq : Int)] 59); obtain ⟨z0, z1, z2, f0, f1, f2⟩ := blk3 hr1; have hlt1 := blk_lt hr1)
      generalize hWF : World.alloc (World.setCell (World.setCell (World.setCell _ _ _) _ _) _ _) _ = WF
      refine load_end (x := 0) (y := 0) (z := 0) (i := 0) (c := 40) rfl rfl rfl rfl ?_ ?_ HA.out
      · rw [← hWF]; exact blk_old (blk_store (blk_store (blk_store hr1 0 _) 1 _) 2 _) _
      · rw [← hWF]; exact (((hb1.setCell (Nat.le_refl _) _).setCell (Nat.le_refl _) _).setCell (Nat.le_refl _) _).alloc (by simpa using hb1.size) _
    · rw [if_neg hi] at HA
      go_enter Tryz.func15, Tryz.ntmps15
      go_wp2_with (go_at_call 73; refine HL.out.mono ?_; rintro e w1 ⟨rfl, hB1⟩; have hr1 := blk_below' hB1 hr0; have hb1 := below_then hb0 hB1; have hr2 := blk_old hr1 (.cells #[.int .i64 (r.life : Int), .int .i64 (r.round : Int), .int .i64 (r.tag : Int), .int .i64 (r.seq : Int)] 59); have hb2 := hb1.alloc hb1.size (.cells #[.int .i64 (r.life : Int), .int .i64 (r.round : Int), .int .i64 (r.tag : Int), .int .i64 (r.seq : Int)] 59); obtain ⟨z0, z1, z2, f0, f1, f2⟩ := blk3 hr1; have hlt1 := blk_lt hr1)
      obtain ⟨W2, hW2⟩ : ∃ W2, w1.alloc (.cells #[.int .i64 (r.life : Int), .int .i64 (r.round : Int), .int .i64 (r.tag : Int), .int .i64 (r.seq : Int)] 59) = W2 := ⟨_, rfl⟩
      have hk2 := blk_new w1 (.cells #[.int .i64 (r.life : Int), .int .i64 (r.round : Int), .int .i64 (r.tag : Int), .int .i64 (r.seq : Int)] 59)
      rw [hW2] at hr2 hb2 hk2 ⊢
      obtain ⟨y0, y1, y2, y3, _⟩ := blk4 hk2
      obtain ⟨x0, x1, x2, g0, g1, g2⟩ := blk3 hr2
      have hne : ¬ w1.heap.size = w.heap.size := by omega
      have hne2 : ¬ w.heap.size = w1.heap.size := by omega
      clear hW2 z0 z1 z2 f0 f1 f2 hr1 hb1 hk2 hr0 hb0
      go_region
      all_goals (go_wp2_with fail)
      generalize hWF : World.setCell (World.setCell (World.setCell _ _ _) _ _) _ _ = WF
      refine load_end (x := (r.life : Int)) (y := (r.round : Int)) (z := (r.tag : Int)) (i := (r.seq : Int)) (c := 0) rfl rfl rfl rfl ?_ ?_ HA.out
      · rw [← hWF]; exact blk_store (blk_store (blk_store hr2 0 _) 1 _) 2 _
      · rw [← hWF]; exact (((hb2.setCell (Nat.le_refl _) _).setCell (Nat.le_refl _) _).setCell (Nat.le_refl _) _).drew
/-- The writes of a save, one behind the other. -/
def svK (d : Dk) (q0 : Nat) (l : List Nat) : Nat → Dk × Int
  | 0 => (d, 0)
  | k + 1 => if (svK d q0 l k).2 = 0 then wrV (svK d q0 l k).1 ((2 * q0 + k : Nat) : Int) ((l.drop (k * 32)).take 32) else svK d q0 l k
theorem wrV_fuse (d : Dk) (s : Int) (l : List Nat) : (wrV d s l).1.fuse ≤ d.fuse ∧ (wrV d s l).1.writes ≤ d.writes + 1 := by
  unfold wrV
  split <;> (try split) <;> (try split) <;> (try split) <;> first | exact ⟨Nat.le_refl _, Nat.le_succ _⟩ | exact ⟨Nat.le_refl _, Nat.le_refl _⟩ | exact ⟨Nat.sub_le _ _, Nat.le_refl _⟩
theorem svK_size (d : Dk) (q0 : Nat) (l : List Nat) : ∀ k, (svK d q0 l k).1.fuse ≤ d.fuse ∧ (svK d q0 l k).1.writes ≤ d.writes + k
  | 0 => ⟨Nat.le_refl _, Nat.le_refl _⟩
  | k + 1 => by
    have h := svK_size d q0 l k
    unfold svK
    split
    · have h2 := wrV_fuse (svK d q0 l k).1 ((2 * q0 + k : Nat) : Int) ((l.drop (k * 32)).take 32)
      omega
    · omega
theorem svK_stop {d : Dk} {q0 : Nat} {l : List Nat} {k : Nat} (hk : k < 2) (h : (svK d q0 l (k + 1)).2 ≠ 0) : svK d q0 l 2 = svK d q0 l (k + 1) := by
  match k, hk with
  | 0, _ => show (if (svK d q0 l 1).2 = 0 then _ else svK d q0 l 1) = _; rw [if_neg h]
  | 1, _ => rfl
theorem svK_next {d : Dk} {q0 : Nat} {l : List Nat} {k : Nat} (h : (svK d q0 l k).2 = 0) : svK d q0 l (k + 1) = wrV (svK d q0 l k).1 ((2 * q0 + k : Nat) : Int) ((l.drop (k * 32)).take 32) := if_pos h
/-- What Save does behind its questions. -/
def svT (d : Dk) (a b c : Int) : Dk × Int := svK d (toL d.bs) (nxL d.bs a b c) 2
def saveW (d : Dk) (a b c : Int) : Dk × Int :=
  if mayR a b c then
    if d.off then (d, 100)
    else if 1099511627776 ≤ (bestL d.bs).1.seq then (d, 120)
    else svT d a b c
  else (d, 1)
theorem pick_seq (b : Rc × Int) (i : Int) (o : Option Rc) (h : b.1.seq ≤ 1099511627776) (ho : ∀ r, o = some r → r.seq ≤ 1099511627776) : (pick b i o).1.seq ≤ 1099511627776 := by
  cases o with
  | none => exact h
  | some r =>
    unfold pick
    simp only
    split
    · exact ho r rfl
    · exact h
theorem bestL_seq {bs : List Nat} {r : Rc} {i : Int} (h : bestL bs = (r, i)) : r.seq ≤ 1099511627776 := by
  have hd : ∀ l r, decL l = some r → r.seq ≤ 1099511627776 := fun l r h => (decL_some h).1.2.2.2.2.2
  have := pick_seq (pick (Rc.zero, -1) 0 (decL (slotB bs 0))) 1 (decL (slotB bs 1)) (pick_seq _ _ _ (by decide) (hd _)) (hd _)
  unfold bestL at h
  rw [h] at this
  exact this
theorem cells_blk {W : World} {g : Nat} {l : List Nat} {t : TypeId} (h : W.heap[g]? = some (.cells (bC l).toArray t (0, 0))) : CellsAt W ⟨g, 0, none⟩ l := by
  intro j x hx
  refine ⟨_, rfl, ?_⟩
  rw [Addr.add_mid, Nat.zero_add, blk_cell h, List.getElem?_toArray, bC_get, hx]; rfl
theorem CellsAt.bytes {W : World} {g q n c b : Nat} {l m : List Nat} (h : CellsAt W ⟨g, 0, none⟩ l) (hm : m = (l.drop q).take n) (hn : m.length = n) (hne : g ≠ b) : Bytes W b (.slice (some ⟨g, q, none⟩) n c) m := by
  have h1 := h.part q n
  rw [Addr.add_mid, Nat.zero_add] at h1
  refine ⟨some ⟨g, q, none⟩, c, by rw [hn], fun j x hx => ?_⟩
  rw [hm] at hx
  obtain ⟨p, h2, h3⟩ := h1 j x hx
  cases h2
  exact ⟨_, rfl, hne, h3⟩
set_option maxRecDepth 100000 in
set_option maxHeartbeats 2000000 in
theorem save_any (b : Nat) (d : Dk) (x y z : Int) (w : World) (h : DkAt w b d) (hlt : ∀ c ∈ d.bs, c < 256) (hw : d.writes ≤ 4611686018427387903) (hfu : d.fuse ≤ 9223372036854775807) :
    Calls Tryz.prog 16 #[.pointer (some ⟨b, 0, none⟩), recV x y z] w fun e w' => e = .returned (.int .i64 (saveW d x y z).2) ∧ DkAt w' b (saveW d x y z).1 ∧ w.grownBy w' (some b) := by
  obtain ⟨D, hD⟩ : ∃ D, saveW d x y z = D := ⟨_, rfl⟩
  rw [hD]
  unfold saveW at hD
  have HD := Lib.hid hD
  clear hD
  have HM := Lib.hid (fun w => mayBe_any x y z w)
  have hb0 : Below w.heap.size w (w.alloc (.cells #[.int .i64 x, .int .i64 y, .int .i64 z] 23)) := (Below.refl _ w).alloc (Nat.le_refl _) _
  have hr0 := box3 w (.int .i64 x) (.int .i64 y) (.int .i64 z) 23
  have hlt0 := h.lt
  have hd0 := h.below hb0
  unfold recV at HM ⊢
  have HSZ := Lib.hid (And.intro hw hfu)
  clear hw hfu
  by_cases hm : mayR x y z
  · rw [if_pos hm] at HD
    rw [decide_eq_true hm] at HM
    have HMR := Lib.hid hm
    clear hm
    go_enter Tryz.func16, Tryz.ntmps16
    go_wp2_with fail
    refine (HM.out _).mono ?_
    rintro e w1 ⟨rfl, hB1⟩
    have hr1 := blk_below' hB1 hr0
    have hd1 := hd0.below hB1
    have hb1 := below_then hb0 hB1
    clear hr0 hd0 hb0 hB1
    have HL := Lib.hid (ld_any b d w1 hd1 hlt)
    unfold ldA keptV at HL
    cases ho : d.off with
    | true =>
      rw [ho] at HL HD
      simp only [if_true] at HL HD
      go_wp2_with (go_at_call 73; refine HL.out.mono ?_; rintro e w2 ⟨rfl, hB2⟩)
      go_ret
      have hd2 := hd1.below hB2
      have hb2 := below_then hb1 hB2
      have hD := HD.out
      subst hD
      exact ⟨rfl, hd2.below ((Below.refl _ _).alloc (Nat.le_refl _) _), but_below (hb2.alloc hb2.size _) _⟩
    | false =>
      rw [ho] at HL HD
      simp only [Bool.false_eq_true, if_false] at HL HD
      obtain ⟨B, hB⟩ : ∃ B, bestL d.bs = B := ⟨_, rfl⟩
      rw [hB] at HL HD
      obtain ⟨r, at0⟩ := B
      simp only at HL HD
      by_cases hq : 1099511627776 ≤ r.seq
      · rw [if_pos hq] at HD
        have hno : ¬ encOk x y z ((r.seq : Int) + 1) := fun h => by have := h.2.2; omega
        have HE := Lib.hid (fun w => encode_no x y z ((r.seq : Int) + 1) hno w)
        unfold recV at HE
        have hsq := bestL_seq hB
        have hwr : IntKind.i64.wrap ((r.seq : Int) + 1) = (r.seq : Int) + 1 := by rw [IntKind.wrap_i64]; omega
        clear hno
        go_wp2_with (first
          | (go_at_call 73; refine HL.out.mono ?_; rintro e w2 ⟨rfl, hB2⟩; have hr2 := blk_below' hB2 hr1; obtain ⟨z0, z1, z2, _⟩ := blk3 hr2; have hs2 := blk_lt hr2; have hd2 := hd1.below hB2; have hb2 := below_then hb1 hB2)
          | (go_at_call 5; refine (HE.out _).mono ?_; rintro e w3 ⟨rfl, hB3⟩))
        go_ret
        have hD := HD.out
        subst hD
        have hal : Below w2.heap.size w2 (w2.alloc (.cells #[.int .i64 (r.life : Int), .int .i64 (r.round : Int), .int .i64 (r.tag : Int), .int .i64 (r.seq : Int)] 59)) := (Below.refl _ _).alloc (Nat.le_refl _) _
        exact ⟨rfl, (hd2.below hal).below hB3, but_below (below_then (below_then hb2 hal) hB3) _⟩
      · rw [if_neg hq] at HD
        have hok : encOk x y z ((r.seq : Int) + 1) := ⟨HMR.out, by omega, by omega⟩
        have HE := Lib.hid (fun w => encode_ok x y z ((r.seq : Int) + 1) hok w)
        unfold recV at HE
        have hL : encL (rcN x y z ((r.seq : Int) + 1)) = nxL d.bs x y z := by unfold nxL rcN; rw [hB]; congr 1
        rw [hL] at HE
        have hll : (nxL d.bs x y z).length = 64 := encL_len _
        have HT := Lib.hid (show svT d x y z = svK d (if at0 = 0 then 1 else 0) (nxL d.bs x y z) 2 by unfold svT toL; rw [hB])
        rw [HT.out] at HD
        have HLL := Lib.hid hll
        have hsq : r.seq < 1099511627776 := by omega
        have hwr : IntKind.i64.wrap ((r.seq : Int) + 1) = (r.seq : Int) + 1 := by rw [IntKind.wrap_i64]; omega
        generalize nxL d.bs x y z = L at *
        clear hok hq hL hll
        go_wp2_with (first
          | (go_at_call 73; refine HL.out.mono ?_; rintro e w2 ⟨rfl, hB2⟩; have hr2 := blk_below' hB2 hr1; obtain ⟨z0, z1, z2, _⟩ := blk3 hr2; have hs2 := blk_lt hr2; have hd2 := hd1.below hB2; have hb2 := below_then hb1 hB2))
        refine (HE.out _).mono ?_
        rintro e w3 ⟨v3, rfl, ⟨g, rfl, hg1, hg2⟩, hB3⟩
        have hal : Below w2.heap.size w2 (w2.alloc (.cells #[.int .i64 (r.life : Int), .int .i64 (r.round : Int), .int .i64 (r.tag : Int), .int .i64 (r.seq : Int)] 59)) := (Below.refl _ _).alloc (Nat.le_refl _) _
        have hd3 := (hd2.below hal).below hB3
        have hb3 := below_then (below_then hb2 hal) hB3
        have hgb : ¬ g = b := by have := hd2.lt; have := hal.size; omega
        have hgs : w.heap.size ≤ g := by have := hb2.size; have := hal.size; omega
        have hc3 : CellsAt w3 ⟨g, 0, none⟩ L := cells_blk hg2
        clear hr1 hd1 hb1 HL hB2 hr2 z0 z1 z2 hs2 hd2 hb2 hal hB3 hg2 HE HM HT hg1
        by_cases hat : at0 = 0
        · rw [if_pos hat] at HD
          have hat2 : (at0 == 0) = true := by simpa using hat
          go_wp2_with fail
          go_loopw [36] (fun i wr => ∃ (k : Nat), i = .int .i64 k ∧ k ≤ 2 ∧ Hid ((svK d 1 L k).2 = 0) ∧ DkAt wr b (svK d 1 L k).1 ∧ w.grownBy wr (some b) ∧ CellsAt wr ⟨g, 0, none⟩ L) (fun i _ => 2 - (intOf i).toNat)
          case atStart => exact ⟨0, rfl, by omega, rfl, hd3, but_below hb3 _, hc3⟩
          case round =>
            obtain ⟨k, rfl, hk, h0, hdk, hgk, hck⟩ := hrel
            by_cases hlt : k < 2
            · have i1 : (k : Int) < 2 := by omega
              have i2 : (0 : Int) ≤ (k : Int) := by omega
              have i3 : (k : Int).toNat = k := Int.toNat_natCast k
              have e1 : ((k : Int) + 1) * 32 ≤ 64 := by omega
              have e2 : (0 : Int) ≤ ((k : Int) + 1) * 32 := by omega
              have e3 : (0 : Int) ≤ (k : Int) * 32 := by omega
              have e4 : (k : Int) * 32 ≤ ((k : Int) + 1) * 32 := by omega
              have e5 : (k + 1) * 32 - k * 32 = 32 := by omega
              have e6 : ¬ (k + 1) * 32 = k * 32 := by omega
              have hlen : ((L.drop (k * 32)).take 32).length = 32 := by have := HLL.out; rw [List.length_take, List.length_drop]; omega
              have hnx := svK_next (d := d) (q0 := 1) (l := L) h0.out
              have hs : ((2 * 1 + k : Nat) : Int) = 2 + (k : Int) := by omega
              rw [hs] at hnx
              have hsz := svK_size d 1 L k
              have hst := svK_stop (d := d) (q0 := 1) (l := L) hlt
              have HST := Lib.hid hst
              rw [hnx] at HST
              have HNX := Lib.hid hnx
              have HSV := Lib.hid hsz
              have HLN := Lib.hid hlen
              clear hnx hsz hst hlen hs
              go_wp2_with fail
              refine (write_any b (svK d 1 L k).1 (2 + (k : Int)) _ ((L.drop (k * 32)).take 32) wr hdk (hck.bytes rfl HLN.out hgb) (by rw [HLN.out]; decide) (by have := HSV.out.2; have := HSZ.out.1; omega) (by have := HSV.out.1; have := HSZ.out.2; omega)).mono ?_
              rintro e w5 ⟨rfl, hd5, hg5⟩
              have hg6 := but_then hgk hg5
              have hc5 := hck.but hg5 hgb
              obtain ⟨F, hF⟩ : ∃ F, wrV (svK d 1 L k).1 (2 + (k : Int)) ((L.drop (k * 32)).take 32) = F := ⟨_, rfl⟩
              rw [hF] at hd5 HNX HST ⊢
              clear hdk hgk hck hg5
              obtain ⟨d5, er⟩ := F
              simp only at hd5 HST ⊢
              by_cases her : er = 0
              · subst her
                go_wp2_with fail
                go_roundw
                case rel => exact ⟨k + 1, by go_num, by omega, by show _ = _; rw [HNX.out], by rw [HNX.out]; exact hd5, hg6, hc5⟩
                case measure => simp [intOf]; omega
              · have hne : (er != 0) = true := by simpa using her
                have hfin := HST.out her
                have hD := HD.out
                have HFI := Lib.hid (hD.symm.trans hfin)
                clear her hfin hD
                go_wp2_with fail
                go_ret
                rw [HFI.out]
                exact ⟨rfl, hd5, hg6⟩
            · obtain rfl : k = 2 := by omega
              have hD := HD.out
              have h1 := h0.out
              rw [hD] at h1 hdk
              have HFI := Lib.hid h1
              clear h1 h0 hD
              go_wp2_with fail
              go_ret
              exact ⟨by rw [HFI.out]; rfl, hdk, hgk⟩
        · rw [if_neg hat] at HD
          have hat2 : (at0 == 0) = false := by simpa using hat
          go_wp2_with fail
          go_loopw [36] (fun i wr => ∃ (k : Nat), i = .int .i64 k ∧ k ≤ 2 ∧ Hid ((svK d 0 L k).2 = 0) ∧ DkAt wr b (svK d 0 L k).1 ∧ w.grownBy wr (some b) ∧ CellsAt wr ⟨g, 0, none⟩ L) (fun i _ => 2 - (intOf i).toNat)
          case atStart => exact ⟨0, rfl, by omega, rfl, hd3, but_below hb3 _, hc3⟩
          case round =>
            obtain ⟨k, rfl, hk, h0, hdk, hgk, hck⟩ := hrel
            by_cases hlt : k < 2
            · have i1 : (k : Int) < 2 := by omega
              have i2 : (0 : Int) ≤ (k : Int) := by omega
              have i3 : (k : Int).toNat = k := Int.toNat_natCast k
              have e1 : ((k : Int) + 1) * 32 ≤ 64 := by omega
              have e2 : (0 : Int) ≤ ((k : Int) + 1) * 32 := by omega
              have e3 : (0 : Int) ≤ (k : Int) * 32 := by omega
              have e4 : (k : Int) * 32 ≤ ((k : Int) + 1) * 32 := by omega
              have e5 : (k + 1) * 32 - k * 32 = 32 := by omega
              have e6 : ¬ (k + 1) * 32 = k * 32 := by omega
              have hlen : ((L.drop (k * 32)).take 32).length = 32 := by have := HLL.out; rw [List.length_take, List.length_drop]; omega
              have hnx := svK_next (d := d) (q0 := 0) (l := L) h0.out
              have hs : ((2 * 0 + k : Nat) : Int) = (k : Int) := by omega
              rw [hs] at hnx
              have hsz := svK_size d 0 L k
              have hst := svK_stop (d := d) (q0 := 0) (l := L) hlt
              have HST := Lib.hid hst
              rw [hnx] at HST
              have HNX := Lib.hid hnx
              have HSV := Lib.hid hsz
              have HLN := Lib.hid hlen
              clear hnx hsz hst hlen hs
              go_wp2_with fail
              refine (write_any b (svK d 0 L k).1 ((k : Int)) _ ((L.drop (k * 32)).take 32) wr hdk (hck.bytes rfl HLN.out hgb) (by rw [HLN.out]; decide) (by have := HSV.out.2; have := HSZ.out.1; omega) (by have := HSV.out.1; have := HSZ.out.2; omega)).mono ?_
              rintro e w5 ⟨rfl, hd5, hg5⟩
              have hg6 := but_then hgk hg5
              have hc5 := hck.but hg5 hgb
              obtain ⟨F, hF⟩ : ∃ F, wrV (svK d 0 L k).1 ((k : Int)) ((L.drop (k * 32)).take 32) = F := ⟨_, rfl⟩
              rw [hF] at hd5 HNX HST ⊢
              clear hdk hgk hck hg5
              obtain ⟨d5, er⟩ := F
              simp only at hd5 HST ⊢
              by_cases her : er = 0
              · subst her
                go_wp2_with fail
                go_roundw
                case rel => exact ⟨k + 1, by go_num, by omega, by show _ = _; rw [HNX.out], by rw [HNX.out]; exact hd5, hg6, hc5⟩
                case measure => simp [intOf]; omega
              · have hne : (er != 0) = true := by simpa using her
                have hfin := HST.out her
                have hD := HD.out
                have HFI := Lib.hid (hD.symm.trans hfin)
                clear her hfin hD
                go_wp2_with fail
                go_ret
                rw [HFI.out]
                exact ⟨rfl, hd5, hg6⟩
            · obtain rfl : k = 2 := by omega
              have hD := HD.out
              have h1 := h0.out
              rw [hD] at h1 hdk
              have HFI := Lib.hid h1
              clear h1 h0 hD
              go_wp2_with fail
              go_ret
              exact ⟨by rw [HFI.out]; rfl, hdk, hgk⟩
  · rw [if_neg hm] at HD
    rw [decide_eq_false hm] at HM
    clear hm
    have hD := HD.out
    subst hD
    go_enter Tryz.func16, Tryz.ntmps16
    go_wp2_with fail
    refine (HM.out _).mono ?_
    rintro e w1 ⟨rfl, hB1⟩
    have hd1 := hd0.below hB1
    have hb1 := below_then hb0 hB1
    go_wp2_with fail
    go_ret
    exact ⟨rfl, hd1, but_below hb1 _⟩
end Go.Proofs.YthkppkecclnlnaaGreat
