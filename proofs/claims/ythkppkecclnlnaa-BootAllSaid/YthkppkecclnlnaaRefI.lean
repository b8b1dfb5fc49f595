/- Walk: the document's Save. -/
import Derived.Test.YthkppkecclnlnaaRefG
namespace Go.Proofs.Ythkppkecclnlnaa
set_option linter.unusedVariables false
set_option linter.unusedSimpArgs false
open Go.RowKit

theorem part2 {W : World} {g rb gb : Nat} {L : List Nat} (h : CellsAt W ⟨g, 0, none⟩ L) (hL : L.length = 64) (k c : Nat) (hk : k < 2) (h1 : g ≠ rb) (h2 : g ≠ gb) : Bytes2 W rb gb (.slice (some ⟨g, k * 32, none⟩) 32 c) ((L.drop (k * 32)).take 32) := by
  refine ⟨some ⟨g, k * 32, none⟩, c, by rw [List.length_take, List.length_drop, hL]; congr 1; omega, fun j x hx => ⟨_, rfl, h1, h2, ?_⟩⟩
  have hj : j < 32 := by have := (List.getElem?_eq_some_iff.1 hx).1; rw [List.length_take] at this; omega
  rw [List.getElem?_take_of_lt hj, List.getElem?_drop] at hx
  obtain ⟨b, hb, hc⟩ := h _ x hx
  cases hb
  rw [Addr.add_mid] at hc ⊢
  rw [Nat.zero_add] at hc
  exact hc
set_option maxRecDepth 100000 in
set_option maxHeartbeats 2000000 in
theorem refSave_any (rb o gb n : Nat) (d : Dk) (x y z : Int) (w : World) (h : Rk w rb o gb n d) (hn : 256 ≤ n) (hlt : ∀ c ∈ d.bs, c < 256) (hw : d.writes ≤ 4611686018427387903) (hfu : d.fuse ≤ 9223372036854775807) :
    Calls Try.prog 43 #[.pointer (some ⟨rb, o, none⟩), recV x y z] w fun e w' => e = .returned (.int .i64 (saveW d x y z).2) ∧ Rk w' rb o gb n (saveW d x y z).1 ∧ Chg w w' rb o gb := by
  obtain ⟨D, hD⟩ : ∃ D, saveW d x y z = D := ⟨_, rfl⟩
  rw [hD]
  unfold saveW at hD
  have HD := Lib.hid hD
  clear hD
  have HM := Lib.hid (fun w => refMay_any x y z w)
  have hb0 : Below w.heap.size w (w.alloc (.cells #[.int .i64 x, .int .i64 y, .int .i64 z] 47)) := (Below.refl _ w).alloc (Nat.le_refl _) _
  have hr0 := box3 w (.int .i64 x) (.int .i64 y) (.int .i64 z) 47
  have hlt0 := Lib.hid h.lt
  have hd0 := h.below hb0
  unfold recV at HM ⊢
  have HSZ := Lib.hid (And.intro hw hfu)
  clear hw hfu h
  by_cases hm : mayR x y z
  · rw [if_pos hm] at HD
    rw [decide_eq_true hm] at HM
    have HMR := Lib.hid hm
    clear hm
    go_enter Try.func43, Try.ntmps43
    go_wp2_with fail
    refine (HM.out _).mono ?_
    rintro e w1 ⟨rfl, hB1⟩
    have hr1 := blk_below' hB1 hr0
    have hd1 := hd0.below hB1
    have hb1 := below_then hb0 hB1
    clear hr0 hd0 hb0 hB1 HM
    obtain ⟨c0, c1, c2, c3⟩ := hd1.cells
    cases ho : d.off with
    | true =>
      rw [ho] at c1 HD
      go_wp2_with fail
      go_ret
      have hD := HD.out
      subst hD
      exact ⟨rfl, hd1, Chg.ofBelow hb1 _ _ _⟩
    | false =>
      rw [ho] at c1 HD
      simp only [Bool.false_eq_true, if_false] at HD
      have HL := Lib.hid (refFound_any rb o gb n d w1 hd1 hn hlt)
      unfold fndA recV at HL
      obtain ⟨B, hB⟩ : ∃ B, bestL d.bs = B := ⟨_, rfl⟩
      rw [hB] at HL HD
      obtain ⟨r, at0⟩ := B
      dsimp only at HL HD
      have hsq := bestL_seq hB
      go_wp2_with fail
      refine HL.out.mono ?_
      rintro e w2 ⟨rfl, hB2⟩
      have hr2 := blk_below' hB2 hr1
      have hd2 := hd1.below hB2
      have hb2 := below_then hb1 hB2
      clear hr1 hd1 hb1 hB2 HL c0 c1 c2 c3
      have hr3 := blk_old hr2 (.cells #[.int .i64 (r.life : Int), .int .i64 (r.round : Int), .int .i64 (r.tag : Int)] 47)
      have hal : Below w2.heap.size w2 (w2.alloc (.cells #[.int .i64 (r.life : Int), .int .i64 (r.round : Int), .int .i64 (r.tag : Int)] 47)) := (Below.refl _ _).alloc (Nat.le_refl _) _
      have hd3 := hd2.below hal
      have hb3 := below_then hb2 hal
      go_upto_region 6 with fail
      generalize World.alloc w2 _ = W2 at *
      clear hr2 hd2 hb2 hal
      by_cases hq : 1099511627776 ≤ r.seq
      · rw [if_pos hq] at HD
        have he : (r.seq : Int) = 1099511627776 := by omega
        go_wp2_with fail
        go_ret
        have hD := HD.out
        subst hD
        exact ⟨rfl, hd3, Chg.ofBelow hb3 _ _ _⟩
      · rw [if_neg hq] at HD
        have he : ¬ (r.seq : Int) = 1099511627776 := by omega
        have he2 : (r.seq : Int) < 1099511627776 := by omega
        have hmay : (⟨x.toNat, y.toNat, z.toNat, r.seq + 1⟩ : Rc).may := by
          obtain ⟨m1, m2, m3, m4, m5, m6⟩ := HMR.out
          exact ⟨by show 1 ≤ x.toNat; omega, by show x.toNat ≤ _; omega, by show y.toNat ≤ _; omega, by show z.toNat ≤ _; omega, by show 1 ≤ r.seq + 1; omega, by show r.seq + 1 ≤ _; omega⟩
        have hE := fun w => refEncode_ok ⟨x.toNat, y.toNat, z.toNat, r.seq + 1⟩ hmay w
        have e1 : ((x.toNat : Nat) : Int) = x := Int.toNat_of_nonneg (by have := HMR.out.1; omega)
        have e2 : ((y.toNat : Nat) : Int) = y := Int.toNat_of_nonneg HMR.out.2.2.1
        have e3 : ((z.toNat : Nat) : Int) = z := Int.toNat_of_nonneg HMR.out.2.2.2.2.1
        dsimp only at hE
        rw [e1, e2, e3, show ((r.seq + 1 : Nat) : Int) = (r.seq : Int) + 1 from rfl] at hE
        have hL : encL ⟨x.toNat, y.toNat, z.toNat, r.seq + 1⟩ = nxL d.bs x y z := by unfold nxL; rw [hB]
        rw [hL] at hE
        have HE := Lib.hid hE
        unfold recV at HE
        have hll : (nxL d.bs x y z).length = 64 := encL_len _
        have HT := Lib.hid (show svT d x y z = svK d (if at0 = 0 then 1 else 0) (nxL d.bs x y z) 2 by unfold svT toL; rw [hB])
        rw [HT.out] at HD
        have HLL := Lib.hid hll
        generalize nxL d.bs x y z = L at *
        obtain ⟨z0, z1, z2, g0, g1, g2⟩ := blk3 hr3
        have hwr : IntKind.i64.wrap ((r.seq : Int) + 1) = (r.seq : Int) + 1 := by rw [IntKind.wrap_i64]; omega
        have hbe : ((r.seq : Int) == 1099511627776) = false := by simp; omega
        clear hq hL hll hE e1 e2 e3 hmay HT hsq hB he he2
        by_cases hat : at0 = 0
        · rw [if_pos hat] at HD
          subst hat
          go_wp2_with fail
          refine (HE.out _).mono ?_
          rintro e w3 ⟨v3, rfl, ⟨g, rfl, hg1, hg2⟩, hB3⟩
          have hd4 := hd3.below hB3
          have hG4 := Chg.ofBelow (below_then hb3 hB3) rb o gb
          have hc4 : CellsAt w3 ⟨g, 0, none⟩ L := cells_blk hg2
          have hgr : g ≠ rb := by have := hd3.lt.1; omega
          have hgg : g ≠ gb := by have := hd3.lt.2; omega
          have hgs : w.heap.size ≤ g := by have := hb3.size; omega
          have hS : svK d 1 L 1 = wrV d ((2 * 1 + 0 : Nat) : Int) ((L.drop (0 * 32)).take 32) := svK_next (k := 0) rfl
          have hW1 := refWrite_any rb o gb n d ((2 * 1 + 0 : Nat) : Int) (.slice (some ⟨g, 0 * 32, none⟩) 32 64) ((L.drop (0 * 32)).take 32) w3 hd4 (part2 hc4 HLL.out 0 64 (by decide) hgr hgg) (by rw [List.length_take]; omega) (by have := HSZ.out.1; omega) HSZ.out.2
          rw [← hS] at hW1
          have hz := svK_size d 1 L 1
          have hst := svK_stop (d := d) (q0 := 1) (l := L) (k := 0) (by decide)
          have hnx := svK_next (d := d) (q0 := 1) (l := L) (k := 1)
          obtain ⟨E1, hE1⟩ : ∃ E1, svK d 1 L 1 = E1 := ⟨_, rfl⟩
          rw [hE1] at hW1 hz hst hnx
          obtain ⟨d1, e1⟩ := E1
          dsimp only at hW1 hz hst hnx
          have HW1 := Lib.hid hW1
          have HST := Lib.hid (fun h : e1 ≠ 0 => (hst h).symm.trans HD.out)
          have HNX := Lib.hid (fun h : e1 = 0 => (hnx h).symm.trans HD.out)
          have HC := Lib.hid hc4
          have HZ := Lib.hid hz
          clear hS hW1 hE1 hst hnx hc4 hz hg2 hd4 hB3 hb3 z0 z1 z2 g0 g1 g2 hr3 hd3
          go_wp2_with fail
          refine HW1.out.mono ?_
          rintro e w4 ⟨rfl, hd5, hG5⟩
          clear HW1
          by_cases h1 : e1 = 0
          · have hdd := HNX.out h1
            subst h1
            clear HNX HST HE HD
            obtain ⟨a5, c5, he5, hc5⟩ := (part2 (rb := rb) (gb := gb) HC.out HLL.out 1 32 (by decide) hgr hgg).chg hG5
            have hW2 := refWrite_any rb o gb n d1 ((2 * 1 + 1 : Nat) : Int) (.slice (some ⟨g, 1 * 32, none⟩) 32 32) ((L.drop (1 * 32)).take 32) w4 hd5 ((part2 (rb := rb) (gb := gb) HC.out HLL.out 1 32 (by decide) hgr hgg).chg hG5) (by rw [List.length_take]; omega) (by have := HSZ.out.1; have := HZ.out.2; omega) (by have := HSZ.out.2; have := HZ.out.1; omega)
            rw [hdd] at hW2
            have HW2 := Lib.hid hW2
            clear hW2 hdd hc5 he5
            go_wp2_with fail
            refine HW2.out.mono ?_
            rintro e w5 ⟨rfl, hd6, hG6⟩
            go_wp2_with fail
            go_ret
            exact ⟨rfl, hd6, (hG4.trans hG5).trans hG6⟩
          · have hdd := HST.out h1
            have h2 : (e1 == 0) = false := by simpa using h1
            clear HNX HST HE HD
            go_wp2_with fail
            go_ret
            rw [← hdd]
            exact ⟨rfl, hd5, hG4.trans hG5⟩
        · rw [if_neg hat] at HD
          have hat2 : (at0 == 0) = false := by simpa using hat
          go_wp2_with fail
          refine (HE.out _).mono ?_
          rintro e w3 ⟨v3, rfl, ⟨g, rfl, hg1, hg2⟩, hB3⟩
          have hd4 := hd3.below hB3
          have hG4 := Chg.ofBelow (below_then hb3 hB3) rb o gb
          have hc4 : CellsAt w3 ⟨g, 0, none⟩ L := cells_blk hg2
          have hgr : g ≠ rb := by have := hd3.lt.1; omega
          have hgg : g ≠ gb := by have := hd3.lt.2; omega
          have hgs : w.heap.size ≤ g := by have := hb3.size; omega
          have hS : svK d 0 L 1 = wrV d ((2 * 0 + 0 : Nat) : Int) ((L.drop (0 * 32)).take 32) := svK_next (k := 0) rfl
          have hW1 := refWrite_any rb o gb n d ((2 * 0 + 0 : Nat) : Int) (.slice (some ⟨g, 0 * 32, none⟩) 32 64) ((L.drop (0 * 32)).take 32) w3 hd4 (part2 hc4 HLL.out 0 64 (by decide) hgr hgg) (by rw [List.length_take]; omega) (by have := HSZ.out.1; omega) HSZ.out.2
          rw [← hS] at hW1
          have hz := svK_size d 0 L 1
          have hst := svK_stop (d := d) (q0 := 0) (l := L) (k := 0) (by decide)
          have hnx := svK_next (d := d) (q0 := 0) (l := L) (k := 1)
          obtain ⟨E1, hE1⟩ : ∃ E1, svK d 0 L 1 = E1 := ⟨_, rfl⟩
          rw [hE1] at hW1 hz hst hnx
          obtain ⟨d1, e1⟩ := E1
          dsimp only at hW1 hz hst hnx
          have HW1 := Lib.hid hW1
          have HST := Lib.hid (fun h : e1 ≠ 0 => (hst h).symm.trans HD.out)
          have HNX := Lib.hid (fun h : e1 = 0 => (hnx h).symm.trans HD.out)
          have HC := Lib.hid hc4
          have HZ := Lib.hid hz
          clear hS hW1 hE1 hst hnx hc4 hz hg2 hd4 hB3 hb3 z0 z1 z2 g0 g1 g2 hr3 hd3
          go_wp2_with fail
          refine HW1.out.mono ?_
          rintro e w4 ⟨rfl, hd5, hG5⟩
          clear HW1
          by_cases h1 : e1 = 0
          · have hdd := HNX.out h1
            subst h1
            clear HNX HST HE HD
            obtain ⟨a5, c5, he5, hc5⟩ := (part2 (rb := rb) (gb := gb) HC.out HLL.out 1 32 (by decide) hgr hgg).chg hG5
            have hW2 := refWrite_any rb o gb n d1 ((2 * 0 + 1 : Nat) : Int) (.slice (some ⟨g, 1 * 32, none⟩) 32 32) ((L.drop (1 * 32)).take 32) w4 hd5 ((part2 (rb := rb) (gb := gb) HC.out HLL.out 1 32 (by decide) hgr hgg).chg hG5) (by rw [List.length_take]; omega) (by have := HSZ.out.1; have := HZ.out.2; omega) (by have := HSZ.out.2; have := HZ.out.1; omega)
            rw [hdd] at hW2
            have HW2 := Lib.hid hW2
            clear hW2 hdd hc5 he5
            go_wp2_with fail
            refine HW2.out.mono ?_
            rintro e w5 ⟨rfl, hd6, hG6⟩
            go_wp2_with fail
            go_ret
            exact ⟨rfl, hd6, (hG4.trans hG5).trans hG6⟩
          · have hdd := HST.out h1
            have h2 : (e1 == 0) = false := by simpa using h1
            clear HNX HST HE HD
            go_wp2_with fail
            go_ret
            rw [← hdd]
            exact ⟨rfl, hd5, hG4.trans hG5⟩
  · rw [if_neg hm] at HD
    rw [decide_eq_false hm] at HM
    clear hm
    go_enter Try.func43, Try.ntmps43
    go_wp2_with fail
    refine (HM.out _).mono ?_
    rintro e w1 ⟨rfl, hB1⟩
    go_wp2_with fail
    go_ret
    have hD := HD.out
    subst hD
    exact ⟨rfl, hd0.below hB1, Chg.ofBelow (below_then hb0 hB1) _ _ _⟩
end Go.Proofs.Ythkppkecclnlnaa
