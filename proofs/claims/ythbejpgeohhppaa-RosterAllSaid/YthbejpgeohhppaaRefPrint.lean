/- Walk: earshotref4.Print. -/
import Derived.Test.YthbejpgeohhppaaPrint
namespace Go.Proofs.Ythbejpgeohhppaa
set_option linter.unusedVariables false
set_option linter.unusedSimpArgs false
open Go.RowKit Go.Maps

theorem natC_cell {W : World} {base n cap g : Nat} {l : List Nat} (h : W.ownsRow base 3 1 (.slice (some ⟨g, 0, none⟩) n cap) n (natC l)) (hn : n = l.length) {k r : Nat} (hk : l[k]? = some r) : W.cell? ⟨g, k, none⟩ = some (.int .i64 r) := by
  have hlt := (List.getElem?_eq_some_iff.1 hk).1
  rw [h.cellAt k (by omega)]
  simp [natC, hk]

set_option maxRecDepth 100000 in
set_option maxHeartbeats 2000000 in
theorem refPrint_any (va : Option Addr) (c : Nat) (o : Option (List Nat)) (B x : Nat) (w : World) (hx : x < 2 ^ 128) (hl : (sgs o).length ≤ 100) (hok : ∀ r ∈ sgs o, okR r)
    (hR : RefAt w B (.agg #[.slice va (sgs o).length c]) o) :
    Calls Try.prog 24 #[.agg #[.slice va (sgs o).length c], setV x] w fun e w' => e = .returned (.tuple #[.string (prV (sgs o) x).1, .int .i64 (prV (sgs o) x).2]) ∧ Below w.heap.size w w' := by
  have HWI := Lib.hid (fun w => refWithin_any x _ hx hl w)
  have HID := Lib.hid (fun w => refIds_any x w)
  have HOK := Lib.hid hok
  clear hx hok
  unfold setV at HWI HID ⊢
  have r0 : ((w.alloc (.cells #[.slice va (sgs o).length c] 31)).alloc (.cells (setC x) 47)).heap[w.heap.size]? = some (.cells #[.slice va (sgs o).length c] 31 (0, 0)) := blk_old (blk_new w _) _
  have s0 : ((w.alloc (.cells #[.slice va (sgs o).length c] 31)).alloc (.cells (setC x) 47)).heap[w.heap.size + 1]? = some (.cells (setC x) 47 (0, 0)) := b1 w _ _
  have hrow0 : ((w.alloc (.cells #[.slice va (sgs o).length c] 31)).alloc (.cells (setC x) 47)).ownsRow B 3 1 (.slice va (sgs o).length c) (sgs o).length (inC (sgs o)) := (hR.row.alloc _).alloc _
  have hb0 : Below w.heap.size w ((w.alloc (.cells #[.slice va (sgs o).length c] 31)).alloc (.cells (setC x) 47)) := ((Below.refl _ w).alloc (Nat.le_refl _) _).alloc (by simp) _
  have c0 := blk_cell r0 0
  simp at c0
  obtain ⟨q0, q1, q2, q3, _⟩ := set_cells s0
  go_enter Try.func24, Try.ntmps24
  go_wp2_with fail
  refine (HWI.out _).mono ?_
  rintro e w1 ⟨rfl, hB1⟩
  have r1 := blk_below' hB1 r0
  have s1 := blk_below' hB1 s0
  have hrow1 := ownsRow_below hrow0 hB1
  have hb1 := below_then hb0 hB1
  clear r0 s0 hrow0 hb0 c0 q0 q1 q2 q3 hB1 hR
  obtain ⟨q0, q1, q2, q3, _⟩ := set_cells s1
  by_cases hin : x < 2 ^ (sgs o).length
  · rw [show decide (x < 2 ^ (sgs o).length) = true from by simpa using hin]
    have hpv : prV (sgs o) x = (if idsL x 100 = [] then dash else txt (sgnL (sgs o) (idsL x 100)), 0) := by unfold prV; rw [if_pos hin]
    have HIN := Lib.hid hin
    clear hin
    go_wp2_with fail
    refine (HID.out _).mono ?_
    rintro e w2 ⟨v, rfl, hid, hB2⟩
    obtain ⟨ia, ic, rfl, hia⟩ := ownsRow_slice hid
    have r2 := blk_below' hB2 r1
    have hrow2 := ownsRow_below hrow1 hB2
    have hb2 := below_then hb1 hB2
    have hz1 : w.heap.size + 1 < w1.heap.size := blk_lt s1
    have hz2 := hB2.size
    clear r1 s1 hrow1 hb1 hB2 q0 q1 q2 q3
    by_cases hem : idsL x 100 = []
    · have HPV := Lib.hid (show prV (sgs o) x = (dash, 0) by rw [hpv, if_pos hem])
      have h0 : (((idsL x 100).length : Int) == 0) = true := by rw [hem]; rfl
      clear hem hpv
      go_wp2
      go_ret2
      exact ⟨by rw [HPV.out]; rfl, hb2⟩
    · have HPV := Lib.hid (show prV (sgs o) x = (txt (sgnL (sgs o) (idsL x 100)), 0) by rw [hpv, if_neg hem])
      have hln : (idsL x 100).length ≠ 0 := fun e => hem (List.eq_nil_of_length_eq_zero e)
      have h0 : (((idsL x 100).length : Int) == 0) = false := by rw [beq_eq_false_iff_ne]; omega
      have HL := Lib.hid (fun i (h : i ∈ idsL x 100) => ids_lt HIN.out h)
      have hn100 := idsL_len x 100
      clear hem hpv
      generalize hids : idsL x 100 = ids at *
      have HIDS := Lib.hid hids
      clear hids HIDS HID
      go_wp2_with fail
      go_loopw [7, 8] (fun v i wr => ∃ k : Nat, i = .int .i64 k ∧ k ≤ ids.length ∧ wr.ownsRow w2.heap.size 5 1 v ((sgnL (sgs o) (ids.take k)).flatMap enc).length (Lib.byteCells ((sgnL (sgs o) (ids.take k)).flatMap enc)) ∧ Below w2.heap.size w2 wr) (fun _ i _ => ids.length - (intOf i).toNat)
      case atStart => exact ⟨0, rfl, by omega, World.ownsRow_nil _ _ _ _, Below.refl _ _⟩
      case round =>
        obtain ⟨k, rfl, hk, hown, hB⟩ := hrel
        by_cases hlt : k < ids.length
        · obtain ⟨i, hi⟩ : ∃ i, ids[k]? = some i := ⟨_, List.getElem?_eq_getElem hlt⟩
          have hil := HL.out i (List.mem_of_getElem? hi)
          obtain ⟨r, hrr⟩ : ∃ r, (sgs o)[i]? = some r := ⟨_, List.getElem?_eq_getElem hil⟩
          obtain ⟨ga, gc, hg, _, hga⟩ := ownsRow_pos hid (by omega)
          injection hg with hg1 hg2 hg3
          subst hg1 hg3
          clear hg2
          obtain ⟨gb, gd, hg, _, hgb⟩ := ownsRow_pos hrow2 (by omega)
          injection hg with hg1 hg2 hg3
          subst hg1 hg3
          clear hg2
          have e1 : wr.cell? ⟨ga, k, none⟩ = _ := (hB.cell (p := ⟨ga, k, none⟩) hga).trans (natC_cell hid rfl hi)
          have e2 : wr.cell? ⟨gb, i, none⟩ = _ := (hB.cell (p := ⟨gb, i, none⟩) hgb).trans (inC_cell hrow2 rfl hrr)
          have e0 := blk_cell (blk_below hB r2 (by omega)) 0
          simp at e0
          have hrok := HOK.out r (List.mem_of_getElem? hrr)
          have hfl : ((sgnL (sgs o) (ids.take k)).flatMap enc).length ≤ 400 := by
            have h1 := (flat_len (sgnL (sgs o) (ids.take k))).2
            have h2 : (sgnL (sgs o) (ids.take k)).length ≤ ids.length := by simp [sgnL]; omega
            omega
          have hsn := Lib.hid (show (sgnL (sgs o) (ids.take (k + 1))).flatMap enc = (sgnL (sgs o) (ids.take k)).flatMap enc ++ enc r by
            rw [List.take_add_one, hi]
            simp [sgnL, List.getD_eq_getElem?_getD, hrr])
          have hsz := hB.size
          have HP := Lib.hid (put_any r hrok.1 _ _ _ wr.drew hown.drew (by omega) hsz)
          have i1 : (i : Int) < ((sgs o).length : Int) := by omega
          have i2 : (0 : Int) ≤ (i : Int) := by omega
          have i3 : (k : Int) < (ids.length : Int) := by omega
          have i4 : (0 : Int) ≤ (k : Int) := by omega
          clear hi hrr
          go_wp2_with fail
          refine wp_region_still_tail 9 (by kernel_rfl) (by kernel_rfl) ?_
          simp only [List.take_succ_cons, List.take_zero, List.drop_succ_cons, List.drop_zero]
          repeat still_step
          try refine wpStill_nil ?_
          change wpList _ _ _ _ _ wr.drew
          go_wp2_with (go_at_call 30; refine HP.out.mono ?_; rintro e w5 ⟨v', rfl, hown5, hB5⟩)
          go_roundw
          case rel => exact ⟨k + 1, by go_num, by omega, by rw [hsn.out]; exact hown5, hB.drew.trans hB5⟩
          case measure => simp [intOf]; omega
        · obtain rfl : k = ids.length := by omega
          rw [List.take_length] at hown
          have hcv := own_string (P := Try.prog) (src := 69) (dst := 9) Try.underlying69 Try.underlying5 Try.underlying9 hown rfl
          go_wp2
          go_ret2
          exact ⟨by rw [HPV.out]; rfl, hb2.trans (hB.mono (by omega))⟩
  · rw [show decide (x < 2 ^ (sgs o).length) = false from by simpa using hin]
    have HIN := Lib.hid hin
    clear hin
    go_wp2
    go_ret2
    exact ⟨by unfold prV; rw [if_neg HIN.out]; rfl, hb1⟩

theorem print_is (t : ByteArray) (va : Option Addr) (c : Nat) (m : Option Nat) (o : Option (List Nat)) (B x : Nat) (w : World) (hx : x < 2 ^ 128) (hl : (sgs o).length ≤ 100) (hok : ∀ r ∈ sgs o, okR r)
    (hR : RostAt w B (.agg #[.string t, .slice va (sgs o).length c, .map m]) o) {p : ByteArray} {e : Int} (hv : prV (sgs o) x = (p, e)) :
    Calls Try.prog 23 #[.agg #[.string t, .slice va (sgs o).length c, .map m], .agg (setC x)] w fun en w' => en = .returned (.tuple #[.string p, .int .i64 e]) ∧ Below w.heap.size w w' := by
  have := print_any t va c m o B x w hx hl hok hR
  rw [hv] at this
  exact this
theorem refPrint_is (va : Option Addr) (c : Nat) (o : Option (List Nat)) (B x : Nat) (w : World) (hx : x < 2 ^ 128) (hl : (sgs o).length ≤ 100) (hok : ∀ r ∈ sgs o, okR r)
    (hR : RefAt w B (.agg #[.slice va (sgs o).length c]) o) {p : ByteArray} {e : Int} (hv : prV (sgs o) x = (p, e)) :
    Calls Try.prog 24 #[.agg #[.slice va (sgs o).length c], .agg (setC x)] w fun en w' => en = .returned (.tuple #[.string p, .int .i64 e]) ∧ Below w.heap.size w w' := by
  have := refPrint_any va c o B x w hx hl hok hR
  rw [hv] at this
  exact this
end Go.Proofs.Ythbejpgeohhppaa
