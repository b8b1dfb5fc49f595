/- Lemmas of this claim, laid one behind the other. -/
import Derived.Test.YtpfiaepoibablaaMDiskAll2
namespace Go.Proofs.Ytpfiaepoibablaa
set_option linter.unusedVariables false
set_option linter.unusedSimpArgs false
open Go.RowKit

theorem image_atB {w : World} {a0 : Option Addr} {im : List Nat} (h0 : RdP w a0 im) (hl : im.length = 256) : ∃ p, a0 = some p ∧ p.block < w.heap.size ∧ ∀ j x : Nat, im[j]? = some x → w.cell? (p.add j) = some (.int .u8 (x : Int)) := by
  obtain ⟨x0, hx0⟩ : ∃ x, im[0]? = some x := ⟨_, List.getElem?_eq_getElem (by omega)⟩
  obtain ⟨p, rfl, hp⟩ := h0 0 x0 hx0
  refine ⟨p, rfl, by have := cell_lt hp; rwa [add_block] at this, fun j x hx => ?_⟩
  obtain ⟨q, hq, hc⟩ := h0 j x hx
  cases hq
  exact hc
set_option maxRecDepth 100000 in
set_option maxHeartbeats 4000000 in
theorem play_full_t (w : World) (a0 a1 : Option Addr) (c0 c1 : Nat) (im : List Nat) (h0 : RdP w a0 im) (hc0 : im.length ≤ c0) (hl : im.length = 256) (xs : List (List Value)) (hxs : xs.length ≤ 150)
    (hx : ∀ i x, xs[i]? = some x → ShL w [.int .i64, .int .i64, .int .i64, .ints .u8] x ∧ ∃ g o, a1 = some ⟨g, o, none⟩ ∧ g < w.heap.size ∧ ∀ j y, x[j]? = some y → w.cell? ⟨g, o + i * 4 + j, none⟩ = some y) :
    Calls Try.prog 5 #[.slice a0 im.length c0, .slice a1 xs.length c1, .bool true] w fun e w' => e = .returned (.bool true) ∧ Below w.heap.size w w' := by
  obtain ⟨p, rfl, hpb, hpr⟩ := image_atB h0 hl
  have HX := Lib.hid hx
  have HP := Lib.hid hpr
  have HL := Lib.hid hl
  rw [hl] at hc0 ⊢
  have b0 : ¬ (150 : Int) < (xs.length : Int) := by omega
  clear hx hpr hl h0
  go_enter Try.func5, Try.ntmps5
  go_upto_region 5 with (go_at_call 6; refine (alive_any _).mono ?_; rintro e w9 ⟨rfl, hB9⟩)
  go_upto_region 7 with fail
  have hK0 := blk_old (blk_new w9 (.cells (bookC (.slice none 0 0) (.slice none 0 0)) 41)) (.cells zero12 47)
  have hL0 := blk_new (w9.alloc (.cells (bookC (.slice none 0 0) (.slice none 0 0)) 41)) (.cells zero12 47)
  have hB0 := (hB9.alloc hB9.size (.cells (bookC (.slice none 0 0) (.slice none 0 0)) 41)).alloc (by have := hB9.size; simp; omega) (.cells zero12 47)
  rw [show (w9.alloc (.cells (bookC (.slice none 0 0) (.slice none 0 0)) 41)).heap.size = w9.heap.size + 1 by simp] at hL0
  have hsz := hB9.size
  clear hB9
  generalize hW2 : World.alloc (World.alloc w9 _) _ = W2
  rw [show (w9.alloc (.cells (bookC (.slice none 0 0) (.slice none 0 0)) 41)).alloc (.cells zero12 47) = W2 from hW2] at hK0 hL0 hB0
  clear hW2
  obtain ⟨K, hK⟩ : ∃ K, w9.heap.size = K := ⟨_, rfl⟩
  obtain ⟨LB, hLB⟩ : ∃ LB, K + 1 = LB := ⟨_, rfl⟩
  rw [hK] at hK0 hL0 hsz ⊢
  rw [hLB] at hL0 ⊢
  have HK := Lib.hid hK0
  have HLB := Lib.hid hL0
  have HB := Lib.hid hB0
  have HKL : Hid (w.heap.size ≤ K ∧ K < LB) := ⟨hsz, by omega⟩
  clear hK hLB hK0 hL0 hB0 hsz
  have hpr : ∀ j x : Nat, im[j]? = some x → W2.cell? (p.add j) = some (.int .u8 (x : Int)) := fun j x hx => (HB.out.cell (cell_lt (HP.out j x hx))).trans (HP.out j x hx)
  have hp2 : p.block < W2.heap.size := by have := HB.out.size; omega
  go_upto_region 8 with (go_at_call 7; refine (of_any p c0 im _ HL.out hc0 hp2 hpr).mono ?_; rintro e w3 ⟨b, rfl, hb3, hD3, hB3⟩)
  have hK := blk_below' hB3 HK.out
  have hLB := blk_below' hB3 HLB.out
  have hB := below_then HB.out hB3
  have hpr3 : ∀ j x : Nat, im[j]? = some x → w3.cell? (p.add j) = some (.int .u8 (x : Int)) := fun j x hx => (hB3.cell (cell_lt (hpr j x hx))).trans (hpr j x hx)
  have hp3 : p.block < w3.heap.size := by have := hB3.size; omega
  have hs2 := blk_lt HLB.out
  have hs3 := hB3.size
  have hb4 := hD3.lt
  go_wp2_with fail
  refine (refOf_any p c0 im w3 HL.out hp3 hpr3).mono ?_
  rintro e w4 ⟨v4, rfl, ⟨g, n, rest, rfl, hn, hg, hcs, hclen⟩, hB4⟩
  have hv4 : rkV g n { Dk.new with bs := im } = .agg #[.slice (some ⟨g, 0, none⟩) 256 n, .bool false, .int .i64 (-1), .int .i64 0] := rfl
  rw [hv4]
  obtain ⟨D0, hD0⟩ : ∃ D0, ({ Dk.new with bs := im } : Dk) = D0 := ⟨_, rfl⟩
  have hD0c : D0.off = false ∧ fuZ D0 = -1 ∧ D0.writes = 0 ∧ D0.bs = im ∧ DI D0 0 := by rw [← hD0]; exact ⟨rfl, rfl, rfl, rfl, Nat.le_refl _, Nat.zero_le _⟩
  have hal := (Below.refl w4.heap.size w4).alloc (Nat.le_refl _) (.cells #[.slice (some ⟨g, 0, none⟩) 256 n, .bool false, .int .i64 (-1), .int .i64 0] 44)
  have hbr := blk_new w4 (.cells #[.slice (some ⟨g, 0, none⟩) 256 n, .bool false, .int .i64 (-1), .int .i64 0] 44)
  obtain ⟨W5, hW5⟩ : ∃ W5, w4.alloc (.cells #[.slice (some ⟨g, 0, none⟩) 256 n, .bool false, .int .i64 (-1), .int .i64 0] 44) = W5 := ⟨_, rfl⟩
  obtain ⟨rq, hrq⟩ : ∃ rq, w4.heap.size = rq := ⟨_, rfl⟩
  rw [hW5] at hal hbr
  rw [hrq] at hbr
  have HW5 := Lib.hid hW5
  have HRQ := Lib.hid hrq
  have hD4 : DkAt w4 b D0 := by rw [← hD0]; exact hD3.below hB4
  have hs4 := hB4.size
  have hg4 := blk_lt hcs
  have HD := Lib.hid (hD4.below hal)
  have HG := Lib.hid (blk_below' hal hcs)
  have HK := Lib.hid (blk_below' hal (blk_below' hB4 hK))
  have HLB := Lib.hid (blk_below' hal (blk_below' hB4 hLB))
  have HB := Lib.hid (below_then (below_then hB hB4) hal)
  have HNE : Hid (LB < b ∧ b < g ∧ g < rq) := by rw [← hrq]; exact ⟨by omega, by omega, by omega⟩
  have HBR := Lib.hid hbr
  have HD0 := Lib.hid hD0c
  clear hbr hW5 hrq hal hD0 hD0c hD3 hD4 hcs hclen hK hLB hB hB3 hB4 hpr3 hp3 hs2 hs3 hb4 hs4 hg4 hb3 hg hpr hp2 hv4 HP hpb
  go_upto_region 9 with fail
  rw [HW5.out, HRQ.out]
  clear HW5 HRQ
  obtain ⟨⟨r0, r1, r2, r3⟩, ⟨f0, f1, f2, f3⟩⟩ := blk4' HBR.out
  go_upto_region 13 with fail
  obtain ⟨⟨⟨l0, l1, l2, l3, l4, l5⟩, l6⟩, ⟨⟨e0, e1, e2, e3, e4, e5⟩, e6⟩⟩ := blk12 (by have := HLB.out; unfold zero12 at this; exact this)
  go_upto_region 14 with fail
  generalize hW6 : World.setCell (World.setCell (World.setCell (World.setCell (World.setCell (World.setCell _ _ _) _ _) _ _) _ _) _ _) _ _ = W6
  have h6 : put6 W5 LB 0 (.pointer (some ⟨b, 0, none⟩)) (.slice (some ⟨g, 0, none⟩) 256 n) (.bool false) (.int .i64 (-1)) (.int .i64 0) (.pointer (some ⟨K, 0, none⟩)) = W6 := hW6
  have hL6 := put6_zero (.pointer (some ⟨b, 0, none⟩)) (.slice (some ⟨g, 0, none⟩) 256 n) (.bool false) (.int .i64 (-1)) (.int .i64 0) (.pointer (some ⟨K, 0, none⟩)) HLB.out
  have hbut := put6_but W5 (o := 0) (a0 := .pointer (some ⟨b, 0, none⟩)) (a1 := .slice (some ⟨g, 0, none⟩) 256 n) (a2 := .bool false) (a3 := .int .i64 (-1)) (a4 := .int .i64 0) (a5 := .pointer (some ⟨K, 0, none⟩)) (blk_lt HLB.out)
  rw [h6] at hL6 hbut
  have hne := HNE.out
  have hkl := HKL.out
  have HD := Lib.hid (show DkAt W6 b D0 from ⟨blk_grown hbut HD.out.1 (by simp; omega), HD.out.2⟩)
  have HG := Lib.hid (blk_grown hbut HG.out (by simp; omega))
  have HK := Lib.hid (blk_grown hbut HK.out (by simp; omega))
  have HB := Lib.hid (HB.out.grown hbut HB.out.size (fun j hj => by cases hj; omega))
  have hg6 := blk_lt HG.out
  have HLB := Lib.hid hL6
  clear h6 hW6 hbut hL6 l0 l1 l2 l3 l4 l5 e0 e1 e2 e3 e4 e5 r0 r1 r2 r3 f0 f1 f2 f3 HBR l6 e6
  go_wp2_with fail
  refine (new_any _).mono ?_
  rintro e w7 ⟨rfl, hD7, hB7⟩
  obtain ⟨c', hc'⟩ : ∃ c', W6.heap.size = c' := ⟨_, rfl⟩
  have HD := Lib.hid (HD.out.below hB7)
  have HG := Lib.hid (blk_below' hB7 HG.out)
  have HK := Lib.hid (blk_below' hB7 HK.out)
  have HLB := Lib.hid (blk_below' hB7 HLB.out)
  have HB := Lib.hid (below_then HB.out hB7)
  rw [hc'] at hD7 hg6
  rw [hc']
  have hc7 := hD7.lt
  clear hB7 hc'
  go_wp2_with fail
  refine (refNew_any _).mono ?_
  rintro e w8 ⟨v8, rfl, ⟨g', n', rest', rfl, hn', hg', hcs', hcl'⟩, hB8⟩
  have hv8 : rkV g' n' Dk.new = .agg #[.slice (some ⟨g', 0, none⟩) 256 n', .bool false, .int .i64 (-1), .int .i64 0] := rfl
  rw [hv8]
  have HD := Lib.hid (HD.out.below hB8)
  have HD7 := Lib.hid (hD7.below hB8)
  have HG := Lib.hid (blk_below' hB8 HG.out)
  have HG7 := Lib.hid hcs'
  have HK := Lib.hid (blk_below' hB8 HK.out)
  have HLB := Lib.hid (blk_below' hB8 HLB.out)
  have HB := Lib.hid (below_then HB.out hB8)
  clear hB8 hv8 hcs' hcl' hD7
  obtain ⟨⟨l6, ⟨l0, l1, l2, l3, l4, l5⟩⟩, ⟨e6, ⟨e0, e1, e2, e3, e4, e5⟩⟩⟩ := blk12 HLB.out
  clear l6 e6
  go_upto_region 15 with fail
  generalize hW9 : World.setCell (World.setCell (World.setCell (World.setCell (World.setCell (World.setCell _ _ _) _ _) _ _) _ _) _ _) _ _ = W9
  have h9 : put6 w8 LB 6 (.pointer (some ⟨c', 0, none⟩)) (.slice (some ⟨g', 0, none⟩) 256 n') (.bool false) (.int .i64 (-1)) (.int .i64 0) (.pointer (some ⟨K, 0, none⟩)) = W9 := hW9
  have hlast : ∃ cs : Array Value, w8.heap[LB]? = some (.cells cs 47 (0, 0)) ∧ 6 + 5 < cs.size ∧ ∀ j x, (sideC b g n K D0)[j]? = some x → cs[0 + j]? = some x := by
    refine ⟨_, HLB.out, by show 11 < 12; omega, get6 (x0 := .pointer (some ⟨b, 0, none⟩)) (x1 := .slice (some ⟨g, 0, none⟩) 256 n) (x2 := .bool false) (x3 := .int .i64 (-1)) (x4 := .int .i64 0) (x5 := .pointer (some ⟨K, 0, none⟩)) ?_ ⟨rfl, rfl, rfl, rfl, rfl, rfl⟩⟩
    unfold sideC; rw [HD0.out.1, HD0.out.2.1, HD0.out.2.2.1]; rfl
  have hLl := blk_lt HLB.out
  clear hW9 HLB l0 l1 l2 l3 l4 l5 e0 e1 e2 e3 e4 e5
  have hDP : Dp w LB K (.slice none 0 0) (.slice none 0 0) [] 0 b g n D0 D0 6 c' g' n' Dk.new W9 := by
    obtain ⟨cs, k1, k2, k3⟩ := hlast
    obtain ⟨s1, s2⟩ := set6 cs 6 (.pointer (some ⟨c', 0, none⟩)) (.slice (some ⟨g', 0, none⟩) 256 n') (.bool false) (.int .i64 (-1)) (.int .i64 0) (.pointer (some ⟨K, 0, none⟩)) k2
    have hL9 := put6_heap (o := 6) (a0 := .pointer (some ⟨c', 0, none⟩)) (a1 := .slice (some ⟨g', 0, none⟩) 256 n') (a2 := .bool false) (a3 := .int .i64 (-1)) (a4 := .int .i64 0) (a5 := .pointer (some ⟨K, 0, none⟩)) k1
    have hbut := put6_but w8 (o := 6) (a0 := .pointer (some ⟨c', 0, none⟩)) (a1 := .slice (some ⟨g', 0, none⟩) 256 n') (a2 := .bool false) (a3 := .int .i64 (-1)) (a4 := .int .i64 0) (a5 := .pointer (some ⟨K, 0, none⟩)) hLl
    rw [h9] at hL9 hbut
    refine Dp.start hL9 (fun j x hx => ?_) s1 ⟨blk_grown hbut HD.out.1 (by simp; omega), HD.out.2⟩ (rest := rest) ?_ hn ⟨blk_grown hbut HD7.out.1 (by simp; omega), HD7.out.2⟩ (blk_grown hbut HG7.out (by simp; omega)) hn' (blk_grown hbut HK.out (by simp; omega)) (HB.out.grown hbut HB.out.size (fun j hj => by cases hj; omega)) (by omega) (by omega) (by omega) hkl.1
    · have hj : j < 6 := by have := (List.getElem?_eq_some_iff.1 hx).1; simpa [sideC] using this
      rw [s2 _ (by omega)]; exact k3 j x hx
    · rw [HD0.out.2.2.2.1]; exact blk_grown hbut HG.out (by simp; omega)
  have HDP := Lib.hid hDP
  have HI := Lib.hid HD0.out.2.2.2.2
  clear h9 hlast hLl hDP HD HD7 HG HG7 HK HB HD0 hne hkl hg6 hc7 hg' HNE hn hn'
  go_wp2_with fail
  go_loopw [13] (fun i wr => ∃ (k : Nat) (vb vw : Value) (L : List Ls) (c g n : Nat) (d : Dk) (c' g' n' : Nat) (d' : Dk), i = .int .i64 (k : Nat) ∧ k ≤ xs.length ∧ Hid (Dp w LB K vb vw L 0 c g n d d 6 c' g' n' d' wr) ∧ Hid (DI d k) ∧ Hid (DI d' k)) (fun i _ => xs.length - (intOf i).toNat)
  case atStart => exact ⟨0, _, _, _, _, _, _, _, _, _, _, _, rfl, Nat.zero_le _, HDP.out, HI.out, ⟨Nat.le_refl _, Nat.zero_le _⟩⟩
  case round =>
    clear HDP HI
    obtain ⟨k, vb, vw, L, c, g, n, d, c', g', n', d', rfl, hk, HDP, HI, HI'⟩ := hrel
    by_cases hlt : k < xs.length
    · have b4 : ((k : Nat) : Int) < ((xs.length : Nat) : Int) := by omega
      obtain ⟨x, hx⟩ : ∃ x, xs[k]? = some x := ⟨_, List.getElem?_eq_getElem hlt⟩
      obtain ⟨hsh, gx, ox, rfl, hgx, hcx⟩ := HX.out k x hx
      obtain ⟨kk, who, a, av, cv, ld, rfl, ha, hr⟩ := op_at hsh
      have HCX : Hid (∀ W, Below w.heap.size w W → W.cell? ⟨gx, ox + k * 4, none⟩ = some (.int .i64 kk) ∧ W.cell? ⟨gx, ox + k * 4 + 1, none⟩ = some (.int .i64 who) ∧ W.cell? ⟨gx, ox + k * 4 + 2, none⟩ = some (.int .i64 a) ∧ W.cell? ⟨gx, ox + k * 4 + 3, none⟩ = some (.slice av ld.length cv)) := fun W hW =>
        ⟨(hW.cell hgx).trans (hcx 0 _ rfl), (hW.cell hgx).trans (hcx 1 _ rfl), (hW.cell hgx).trans (hcx 2 _ rfl), (hW.cell hgx).trans (hcx 3 _ rfl)⟩
      obtain ⟨t0, t1, t2, t3⟩ := HCX.out _ HDP.out.low
      have HA := Lib.hid ha
      have HR := Lib.hid hr
      clear hsh hgx hcx ha hr
      obtain ⟨wh, hwh⟩ : ∃ wh, bits .and .i64 who 1 = wh := ⟨_, rfl⟩
      have hw01 : wh = 0 ∨ wh = 1 := hwh ▸ and1 who
      have hbe := (Below.refl wr.heap.size wr).alloc (Nat.le_refl _) (.cells #[.int .i64 kk, .int .i64 who, .int .i64 a, .slice av ld.length cv] 60)
      have hq := blk_new wr (.cells #[.int .i64 kk, .int .i64 who, .int .i64 a, .slice av ld.length cv] 60)
      obtain ⟨W1, hW1⟩ : ∃ W1, wr.alloc (.cells #[.int .i64 kk, .int .i64 who, .int .i64 a, .slice av ld.length cv] 60) = W1 := ⟨_, rfl⟩
      obtain ⟨q, hqq⟩ : ∃ q, wr.heap.size = q := ⟨_, rfl⟩
      rw [hW1] at hbe hq
      rw [hqq] at hq
      have HW1 := Lib.hid hW1
      have HQQ := Lib.hid hqq
      have HDP := Lib.hid (HDP.out.below hbe)
      have HQ := Lib.hid hq
      clear hbe hq hW1 hqq
      go_upto_region 19 with fail
      rw [HW1.out, HQQ.out]
      clear HW1 HQQ HCX t0 t1 t2 t3 hx
      obtain ⟨⟨q0, q1, q2, q3⟩, _⟩ := blk4' HQ.out
      by_cases hl : 300 < ld.length
      · have b5 : (300 : Int) < (ld.length : Int) := by omega
        go_wp2_with fail
        go_ret
        exact ⟨rfl, HDP.out.low⟩
      · have b5 : ¬ (300 : Int) < (ld.length : Int) := by omega
        rcases hw01 with rfl | rfl
        · skip
          have HIA := HI
          by_cases hkk : kk = 6
          · subst hkk
            have HDA := Lib.hid (HDP.out)
            go_upto_region 23 with fail
            clear q0 q1 q2 q3
            have wr0 : IntKind.i64.wrap 0 = 0 := by decide
            have wr1 : IntKind.i64.wrap 1 = 1 := by decide
            refine wp_region_early (fun w' => w'.cell? ⟨LB, 0, none⟩ = some (.pointer (some ⟨c, 0, none⟩)) ∧ w'.cell? ⟨LB, 1, none⟩ = some (.slice (some ⟨g, 0, none⟩) 256 n) ∧ w'.cell? ⟨LB, 2, none⟩ = some (.bool (d).off) ∧ w'.cell? ⟨LB, 3, none⟩ = some (.int .i64 (fuZ d)) ∧ w'.cell? ⟨LB, 4, none⟩ = some (.int .i64 ((d).writes : Nat))) (fun k => k == 15) (by kernel_rfl) ?_
            simp only [List.size_toArray, List.length_cons, List.length_nil, Nat.reduceAdd, Array.replicate_succ, Array.replicate_zero, List.push_toArray, List.nil_append, List.cons_append]
            have HDA := Lib.hid HDA.out.drew
            generalize World.drew W1 = W3 at *
            have hSS : W3.cell? ⟨LB, 0, none⟩ = some (.pointer (some ⟨c, 0, none⟩)) ∧ W3.cell? ⟨LB, 1, none⟩ = some (.slice (some ⟨g, 0, none⟩) 256 n) ∧ W3.cell? ⟨LB, 2, none⟩ = some (.bool (d).off) ∧ W3.cell? ⟨LB, 3, none⟩ = some (.int .i64 (fuZ d)) ∧ W3.cell? ⟨LB, 4, none⟩ = some (.int .i64 ((d).writes : Nat)) := HDA.out.all
            refine wpAnyE_take (i := 0) (v := ?_) rfl (by kernel_rfl) (by kernel_rfl) (by kernel_rfl) (by kernel_rfl) (fun _ _ _ h => h) (Or.inl ⟨by rfl, ?_⟩) hSS ?_
            rotate_left
            · intro w hSw
              obtain ⟨j0, j1, j2, j3, j4⟩ := hSw
              go_simp
              all_goals with_reducible rfl
            simp only [Act.put, List.setIfInBounds_toArray, List.set_cons_zero, List.set_cons_succ, List.getElem_toArray, List.getElem_cons_zero, List.getElem_cons_succ]
            refine wpAnyE_take (i := 1) (v := ?_) rfl (by kernel_rfl) (by kernel_rfl) (by kernel_rfl) (by kernel_rfl) (fun _ _ _ h => h) (Or.inl ⟨by rfl, ?_⟩) hSS ?_
            rotate_left
            · intro w hSw
              obtain ⟨j0, j1, j2, j3, j4⟩ := hSw
              go_simp
              all_goals with_reducible rfl
            simp only [Act.put, List.setIfInBounds_toArray, List.set_cons_zero, List.set_cons_succ, List.getElem_toArray, List.getElem_cons_zero, List.getElem_cons_succ]
            refine wpAnyE_take (i := 2) (v := ?_) rfl (by kernel_rfl) (by kernel_rfl) (by kernel_rfl) (by kernel_rfl) (fun _ _ _ h => h) (Or.inl ⟨by rfl, ?_⟩) hSS ?_
            rotate_left
            · intro w hSw
              obtain ⟨j0, j1, j2, j3, j4⟩ := hSw
              go_simp
              all_goals with_reducible rfl
            simp only [Act.put, List.setIfInBounds_toArray, List.set_cons_zero, List.set_cons_succ, List.getElem_toArray, List.getElem_cons_zero, List.getElem_cons_succ]
            refine wpAnyE_take (i := 3) (v := ?_) rfl (by kernel_rfl) (by kernel_rfl) (by kernel_rfl) (by kernel_rfl) (fun _ _ _ h => h) (Or.inl ⟨by rfl, ?_⟩) hSS ?_
            rotate_left
            · intro w hSw
              obtain ⟨j0, j1, j2, j3, j4⟩ := hSw
              go_simp
              all_goals with_reducible rfl
            simp only [Act.put, List.setIfInBounds_toArray, List.set_cons_zero, List.set_cons_succ, List.getElem_toArray, List.getElem_cons_zero, List.getElem_cons_succ]
            refine wpAnyE_take (i := 4) (v := ?_) rfl (by kernel_rfl) (by kernel_rfl) (by kernel_rfl) (by kernel_rfl) (fun _ _ _ h => h) (Or.inl ⟨by rfl, ?_⟩) hSS ?_
            rotate_left
            · intro w hSw
              obtain ⟨j0, j1, j2, j3, j4⟩ := hSw
              go_simp
              all_goals with_reducible rfl
            simp only [Act.put, List.setIfInBounds_toArray, List.set_cons_zero, List.set_cons_succ, List.getElem_toArray, List.getElem_cons_zero, List.getElem_cons_succ]
            refine wpAnyE_take (i := 5) (v := ?_) rfl (by kernel_rfl) (by kernel_rfl) (by kernel_rfl) (by kernel_rfl) (fun _ _ _ h => h) (Or.inl ⟨by rfl, ?_⟩) hSS ?_
            rotate_left
            · intro w hSw
              obtain ⟨j0, j1, j2, j3, j4⟩ := hSw
              go_simp
              all_goals with_reducible rfl
            simp only [Act.put, List.setIfInBounds_toArray, List.set_cons_zero, List.set_cons_succ, List.getElem_toArray, List.getElem_cons_zero, List.getElem_cons_succ]
            refine wpAnyE_take (i := 7) (v := ?_) rfl (by kernel_rfl) (by kernel_rfl) (by kernel_rfl) (by kernel_rfl) (fun _ _ _ h => h) (Or.inl ⟨by rfl, ?_⟩) hSS ?_
            rotate_left
            · intro w hSw
              obtain ⟨j0, j1, j2, j3, j4⟩ := hSw
              go_simp
              all_goals with_reducible rfl
            simp only [Act.put, List.setIfInBounds_toArray, List.set_cons_zero, List.set_cons_succ, List.getElem_toArray, List.getElem_cons_zero, List.getElem_cons_succ]
            refine wpAnyE_take (i := 8) (v := ?_) rfl (by kernel_rfl) (by kernel_rfl) (by kernel_rfl) (by kernel_rfl) (fun _ _ _ h => h) (Or.inl ⟨by rfl, ?_⟩) hSS ?_
            rotate_left
            · intro w hSw
              obtain ⟨j0, j1, j2, j3, j4⟩ := hSw
              go_simp
              all_goals with_reducible rfl
            simp only [Act.put, List.setIfInBounds_toArray, List.set_cons_zero, List.set_cons_succ, List.getElem_toArray, List.getElem_cons_zero, List.getElem_cons_succ]
            refine wpAnyE_take (i := 9) (v := ?_) rfl (by kernel_rfl) (by kernel_rfl) (by kernel_rfl) (by kernel_rfl) (fun _ _ _ h => h) (Or.inl ⟨by rfl, ?_⟩) hSS ?_
            rotate_left
            · intro w hSw
              obtain ⟨j0, j1, j2, j3, j4⟩ := hSw
              go_simp
              all_goals with_reducible rfl
            simp only [Act.put, List.setIfInBounds_toArray, List.set_cons_zero, List.set_cons_succ, List.getElem_toArray, List.getElem_cons_zero, List.getElem_cons_succ]
            refine wpAnyE_take (i := 10) (v := ?_) rfl (by kernel_rfl) (by kernel_rfl) (by kernel_rfl) (by kernel_rfl) (fun _ _ _ h => h) (Or.inl ⟨by rfl, ?_⟩) hSS ?_
            rotate_left
            · intro w hSw
              obtain ⟨j0, j1, j2, j3, j4⟩ := hSw
              go_simp
              all_goals with_reducible rfl
            simp only [Act.put, List.setIfInBounds_toArray, List.set_cons_zero, List.set_cons_succ, List.getElem_toArray, List.getElem_cons_zero, List.getElem_cons_succ]
            refine wpAnyE_take (i := 12) (v := ?_) rfl (by kernel_rfl) (by kernel_rfl) (by kernel_rfl) (by kernel_rfl) (fun _ _ _ h => h) (Or.inl ⟨by rfl, ?_⟩) hSS ?_
            rotate_left
            · intro w hSw
              obtain ⟨j0, j1, j2, j3, j4⟩ := hSw
              go_simp
              all_goals with_reducible rfl
            simp only [Act.put, List.setIfInBounds_toArray, List.set_cons_zero, List.set_cons_succ, List.getElem_toArray, List.getElem_cons_zero, List.getElem_cons_succ]
            refine wpAnyE_one (i := 6) (by kernel_rfl) rfl ?_
            change wpList _ _ (Exit.then _ _) [_] _ _
            try simp only [List.setIfInBounds_toArray, List.set_cons_zero, List.set_cons_succ, List.getElem_toArray, List.getElem_cons_zero, List.getElem_cons_succ]
            go_wp2_with (go_at_call 11; refine (twin_any c d _ HDA.out.x.disk).mono ?_; rintro e w4 ⟨c2, rfl, hc2, hD4, hB4⟩)
            have hlt := And.intro HDA.out.x.lt (And.intro HDA.out.y.lt HDA.out.low.size)
            have hbk := fun k hk => (HDA.out.bk.lt k hk).2
            have HDA := Lib.hid (HDA.out.below hB4)
            have hs4 := hB4.size
            clear hSS hB4
            have hSS : w4.cell? ⟨LB, 0, none⟩ = some (.pointer (some ⟨c, 0, none⟩)) ∧ w4.cell? ⟨LB, 1, none⟩ = some (.slice (some ⟨g, 0, none⟩) 256 n) ∧ w4.cell? ⟨LB, 2, none⟩ = some (.bool (d).off) ∧ w4.cell? ⟨LB, 3, none⟩ = some (.int .i64 (fuZ d)) ∧ w4.cell? ⟨LB, 4, none⟩ = some (.int .i64 ((d).writes : Nat)) := HDA.out.all
            refine ⟨fun _ => hSS, ?_⟩
            try simp only [List.setIfInBounds_toArray, List.set_cons_zero, List.set_cons_succ, List.getElem_toArray, List.getElem_cons_zero, List.getElem_cons_succ]
            refine wpAnyE_one (i := 11) (by kernel_rfl) rfl ?_
            change wpList _ _ (Exit.then _ _) [_] _ _
            try simp only [List.setIfInBounds_toArray, List.set_cons_zero, List.set_cons_succ, List.getElem_toArray, List.getElem_cons_zero, List.getElem_cons_succ]
            go_wp2_with (go_at_call 12; refine (refCopy_any g n d _ HDA.out.x.rk.bytes HDA.out.x.rk.len).mono ?_; rintro e w5 ⟨v5, rfl, ⟨g2, n2, rest2, rfl, hn2, hg2, hcs2, hcl2⟩, hB5⟩; rw [show rkV g2 n2 d = .agg #[.slice (some ⟨g2, 0, none⟩) 256 n2, .bool (d).off, .int .i64 (fuZ d), .int .i64 ((d).writes : Nat)] from rfl])
            have hc4 := hD4.lt
            have HDA := Lib.hid (HDA.out.below hB5)
            have HD5 := Lib.hid (hD4.below hB5)
            have HG5 := Lib.hid hcs2
            have HFR : Hid ((c2 ≠ LB ∧ c2 ≠ c ∧ c2 ≠ g) ∧ (g2 ≠ LB ∧ g2 ≠ c ∧ g2 ≠ g) ∧ c2 ≠ g2) := by
              obtain ⟨h1, h2, h3⟩ := hlt
              exact ⟨by omega, by omega, by omega⟩
            have HSP : Hid (c2 ∉ bkB K vb vw L ∧ g2 ∉ bkB K vb vw L) := ⟨fun hm => by have := hbk c2 hm; omega, fun hm => by have := hbk g2 hm; omega⟩
            have HGE : Hid (w.heap.size ≤ c2 ∧ w.heap.size ≤ g2) := by
              obtain ⟨h1, h2, h3⟩ := hlt
              exact ⟨by omega, by omega⟩
            clear hSS hB5 hcs2 hcl2 hD4 hlt hbk hs4 hc2 hg2 hc4
            have hSS : w5.cell? ⟨LB, 0, none⟩ = some (.pointer (some ⟨c, 0, none⟩)) ∧ w5.cell? ⟨LB, 1, none⟩ = some (.slice (some ⟨g, 0, none⟩) 256 n) ∧ w5.cell? ⟨LB, 2, none⟩ = some (.bool (d).off) ∧ w5.cell? ⟨LB, 3, none⟩ = some (.int .i64 (fuZ d)) ∧ w5.cell? ⟨LB, 4, none⟩ = some (.int .i64 ((d).writes : Nat)) := HDA.out.all
            refine ⟨fun _ => hSS, ?_⟩
            try simp only [List.setIfInBounds_toArray, List.set_cons_zero, List.set_cons_succ, List.getElem_toArray, List.getElem_cons_zero, List.getElem_cons_succ]
            refine wpAnyE_take (i := 13) (v := ?_) rfl (by kernel_rfl) (by kernel_rfl) (by kernel_rfl) (by kernel_rfl) (fun _ _ _ h => h) (Or.inl ⟨by rfl, ?_⟩) hSS ?_
            rotate_left
            · intro w hSw
              obtain ⟨j0, j1, j2, j3, j4⟩ := hSw
              go_simp
              all_goals with_reducible rfl
            simp only [Act.put, List.setIfInBounds_toArray, List.set_cons_zero, List.set_cons_succ, List.getElem_toArray, List.getElem_cons_zero, List.getElem_cons_succ]
            refine wpAnyE_take (i := 14) (v := ?_) rfl (by kernel_rfl) (by kernel_rfl) (by kernel_rfl) (by kernel_rfl) (fun _ _ _ h => h) (Or.inl ⟨by rfl, ?_⟩) hSS ?_
            rotate_left
            · intro w hSw
              obtain ⟨j0, j1, j2, j3, j4⟩ := hSw
              go_simp
              all_goals with_reducible rfl
            simp only [Act.put, List.setIfInBounds_toArray, List.set_cons_zero, List.set_cons_succ, List.getElem_toArray, List.getElem_cons_zero, List.getElem_cons_succ]
            obtain ⟨csB, tB, hbB⟩ := HDA.out.y.rk.blk
            have k0 : w5.cell? ⟨LB, 6, none⟩ = _ := HDA.out.y.p
            have k1 : w5.cell? ⟨LB, 7, none⟩ = _ := HDA.out.y.rk.cells.1
            have k2 : w5.cell? ⟨LB, 8, none⟩ = _ := HDA.out.y.rk.cells.2.1
            have k3 : w5.cell? ⟨LB, 9, none⟩ = _ := HDA.out.y.rk.cells.2.2.1
            have k4 : w5.cell? ⟨LB, 10, none⟩ = _ := HDA.out.y.rk.cells.2.2.2
            have k5 : w5.cell? ⟨LB, 11, none⟩ = _ := HDA.out.y.b
            have f0 := blk_free hbB 6
            have f1 := blk_free hbB 7
            have f2 := blk_free hbB 8
            have f3 := blk_free hbB 9
            have f4 := blk_free hbB 10
            have f5 := blk_free hbB 11
            clear hSS hbB
            refine wpAnyE_one (i := 15) (by kernel_rfl) rfl ?_
            change wpList _ _ (Exit.then _ _) [_] _ _
            try simp only [List.setIfInBounds_toArray, List.set_cons_zero, List.set_cons_succ, List.getElem_toArray, List.getElem_cons_zero, List.getElem_cons_succ]
            go_wp2_with fail
            generalize hW6 : World.setCell (World.setCell (World.setCell (World.setCell (World.setCell (World.setCell _ _ _) _ _) _ _) _ _) _ _) _ _ = W6
            have h6 : put6 w5 LB 6 (.pointer (some ⟨c2, 0, none⟩)) (.slice (some ⟨g2, 0, none⟩) 256 n2) (.bool (d).off) (.int .i64 (fuZ d)) (.int .i64 ((d).writes : Nat)) (.pointer (some ⟨K, 0, none⟩)) = W6 := hW6
            have hD6 := HDA.out.twin HD5.out HG5.out hn2 HFR.out HSP.out HGE.out
            rw [h6] at hD6
            have HD6 := Lib.hid hD6
            clear hW6 h6 hD6 k0 k1 k2 k3 k4 k5 f0 f1 f2 f3 f4 f5 HD5 HG5 hn2 HFR HSP HGE
            first | refine ⟨fun h => absurd h (by decide), ?_⟩ | refine ⟨trivial, ?_⟩ | skip
            try simp only [List.setIfInBounds_toArray, List.set_cons_zero, List.set_cons_succ, List.getElem_toArray, List.getElem_cons_zero, List.getElem_cons_succ]
            refine wpAnyE_end (by kernel_rfl) ?_
            go_wp2_with fail
            have HE := HD6
            refine (looks_any _ _ _ _ _ _ _ _ _ _ _ _ _ _ _ _ _ HE.out).mono ?_
            rintro e w8 ⟨rfl, vb8, vw8, L8, hD8⟩
            have HE := Lib.hid hD8.swap
            clear hD8
            go_wp2_with fail
            refine (looks_any _ _ _ _ _ _ _ _ _ _ _ _ _ _ _ _ _ HE.out).mono ?_
            rintro e w9' ⟨rfl, vb9, vw9, L9, hD9⟩
            have HE := Lib.hid hD9.swap
            clear hD9
            go_wp2_with fail
            go_roundw
            case rel => exact ⟨k + 1, _, _, _, _, _, _, _, _, _, _, _, by go_num, by omega, HE.out, HI.out.up, HI.out.up⟩
            case measure => simp [intOf]; omega
          · have e6 : (kk == 6) = false := by simpa using hkk
            go_wp2_with fail
            refine wp_region_early (fun w' => w'.cell? ⟨q, 0, none⟩ = some (.int .i64 kk) ∧ w'.cell? ⟨q, 1, none⟩ = some (.int .i64 who) ∧ w'.cell? ⟨q, 2, none⟩ = some (.int .i64 a) ∧ w'.cell? ⟨q, 3, none⟩ = some (.slice av ld.length cv)) (fun k => k == 3 || k == 4) (by kernel_rfl) ?_
            simp only [List.size_toArray, List.length_cons, List.length_nil, Nat.reduceAdd, Array.replicate_succ, Array.replicate_zero, List.push_toArray, List.nil_append, List.cons_append]
            have HDA := Lib.hid (HDP.out).drew
            have hSS := (blk4' (blk_below' ((Below.refl W1.heap.size W1).drew) HQ.out)).1
            clear q0 q1 q2 q3
            generalize World.drew W1 = W3 at *
            refine wpAnyE_take (i := 0) (v := ?_) rfl (by kernel_rfl) (by kernel_rfl) (by kernel_rfl) (by kernel_rfl) (fun _ _ _ h => h) (Or.inl ⟨by rfl, ?_⟩) hSS ?_
            rotate_left
            · intro w hSw
              obtain ⟨j0, j1, j2, j3⟩ := hSw
              go_simp
              all_goals with_reducible rfl
            simp only [Act.put, List.setIfInBounds_toArray, List.set_cons_zero, List.set_cons_succ, List.getElem_toArray, List.getElem_cons_zero, List.getElem_cons_succ]
            refine wpAnyE_take (i := 1) (v := ?_) rfl (by kernel_rfl) (by kernel_rfl) (by kernel_rfl) (by kernel_rfl) (fun _ _ _ h => h) (Or.inl ⟨by rfl, ?_⟩) hSS ?_
            rotate_left
            · intro w hSw
              obtain ⟨j0, j1, j2, j3⟩ := hSw
              go_simp
              all_goals with_reducible rfl
            simp only [Act.put, List.setIfInBounds_toArray, List.set_cons_zero, List.set_cons_succ, List.getElem_toArray, List.getElem_cons_zero, List.getElem_cons_succ]
            refine wpAnyE_take (i := 2) (v := ?_) rfl (by kernel_rfl) (by kernel_rfl) (by kernel_rfl) (by kernel_rfl) (fun _ _ _ h => h) (Or.inl ⟨by rfl, ?_⟩) hSS ?_
            rotate_left
            · intro w hSw
              obtain ⟨j0, j1, j2, j3⟩ := hSw
              go_simp
              all_goals with_reducible rfl
            simp only [Act.put, List.setIfInBounds_toArray, List.set_cons_zero, List.set_cons_succ, List.getElem_toArray, List.getElem_cons_zero, List.getElem_cons_succ]
            refine wpAnyE_one (i := 3) (by kernel_rfl) rfl ?_
            change wpList _ _ (Exit.then _ _) [_] _ _
            try simp only [List.setIfInBounds_toArray, List.set_cons_zero, List.set_cons_succ, List.getElem_toArray, List.getElem_cons_zero, List.getElem_cons_succ]
            go_wp2_with (go_at_call 13; refine (step_any _ _ _ _ _ _ _ _ _ _ _ _ _ _ _ _ kk who a av cv ld k _ HDA.out HIA.out (by omega) HA.out (by omega) HR.out).mono ?_; rintro e w4 ⟨rfl, vb2, vw2, L2, d2, hD2, hI2⟩)
            clear hSS
            first | refine ⟨fun h => absurd h (by decide), ?_⟩ | refine ⟨trivial, ?_⟩ | skip
            try simp only [List.setIfInBounds_toArray, List.set_cons_zero, List.set_cons_succ, List.getElem_toArray, List.getElem_cons_zero, List.getElem_cons_succ]
            refine wpAnyE_one (i := 4) (by kernel_rfl) rfl ?_
            change wpList _ _ (Exit.then _ _) [_] _ _
            try simp only [List.setIfInBounds_toArray, List.set_cons_zero, List.set_cons_succ, List.getElem_toArray, List.getElem_cons_zero, List.getElem_cons_succ]
            go_wp2_with fail
            first | refine ⟨fun h => absurd h (by decide), ?_⟩ | refine ⟨trivial, ?_⟩ | skip
            try simp only [List.setIfInBounds_toArray, List.set_cons_zero, List.set_cons_succ, List.getElem_toArray, List.getElem_cons_zero, List.getElem_cons_succ]
            refine wpAnyE_end (by kernel_rfl) ?_
            have HD2 := Lib.hid hD2
            have HI2 := Lib.hid hI2
            clear hD2 hI2
            go_wp2_with fail
            have HE := HD2
            refine (looks_any _ _ _ _ _ _ _ _ _ _ _ _ _ _ _ _ _ HE.out).mono ?_
            rintro e w8 ⟨rfl, vb8, vw8, L8, hD8⟩
            have HE := Lib.hid hD8.swap
            clear hD8
            go_wp2_with fail
            refine (looks_any _ _ _ _ _ _ _ _ _ _ _ _ _ _ _ _ _ HE.out).mono ?_
            rintro e w9' ⟨rfl, vb9, vw9, L9, hD9⟩
            have HE := Lib.hid hD9.swap
            clear hD9
            go_wp2_with fail
            go_roundw
            case rel => exact ⟨k + 1, _, _, _, _, _, _, _, _, _, _, _, by go_num, by omega, HE.out, HI2.out, HI'.out.up⟩
            case measure => simp [intOf]; omega
        · skip
          have HIA := HI'
          by_cases hkk : kk = 6
          · subst hkk
            have HDA := Lib.hid (HDP.out.swap)
            go_upto_region 23 with fail
            clear q0 q1 q2 q3
            have wr0 : IntKind.i64.wrap 0 = 0 := by decide
            have wr1 : IntKind.i64.wrap 1 = 1 := by decide
            refine wp_region_early (fun w' => w'.cell? ⟨LB, 6, none⟩ = some (.pointer (some ⟨c', 0, none⟩)) ∧ w'.cell? ⟨LB, 7, none⟩ = some (.slice (some ⟨g', 0, none⟩) 256 n') ∧ w'.cell? ⟨LB, 8, none⟩ = some (.bool (d').off) ∧ w'.cell? ⟨LB, 9, none⟩ = some (.int .i64 (fuZ d')) ∧ w'.cell? ⟨LB, 10, none⟩ = some (.int .i64 ((d').writes : Nat))) (fun k => k == 15) (by kernel_rfl) ?_
            simp only [List.size_toArray, List.length_cons, List.length_nil, Nat.reduceAdd, Array.replicate_succ, Array.replicate_zero, List.push_toArray, List.nil_append, List.cons_append]
            have HDA := Lib.hid HDA.out.drew
            generalize World.drew W1 = W3 at *
            have hSS : W3.cell? ⟨LB, 6, none⟩ = some (.pointer (some ⟨c', 0, none⟩)) ∧ W3.cell? ⟨LB, 7, none⟩ = some (.slice (some ⟨g', 0, none⟩) 256 n') ∧ W3.cell? ⟨LB, 8, none⟩ = some (.bool (d').off) ∧ W3.cell? ⟨LB, 9, none⟩ = some (.int .i64 (fuZ d')) ∧ W3.cell? ⟨LB, 10, none⟩ = some (.int .i64 ((d').writes : Nat)) := HDA.out.all
            refine wpAnyE_take (i := 0) (v := ?_) rfl (by kernel_rfl) (by kernel_rfl) (by kernel_rfl) (by kernel_rfl) (fun _ _ _ h => h) (Or.inl ⟨by rfl, ?_⟩) hSS ?_
            rotate_left
            · intro w hSw
              obtain ⟨j0, j1, j2, j3, j4⟩ := hSw
              go_simp
              all_goals with_reducible rfl
            simp only [Act.put, List.setIfInBounds_toArray, List.set_cons_zero, List.set_cons_succ, List.getElem_toArray, List.getElem_cons_zero, List.getElem_cons_succ]
            refine wpAnyE_take (i := 1) (v := ?_) rfl (by kernel_rfl) (by kernel_rfl) (by kernel_rfl) (by kernel_rfl) (fun _ _ _ h => h) (Or.inl ⟨by rfl, ?_⟩) hSS ?_
            rotate_left
            · intro w hSw
              obtain ⟨j0, j1, j2, j3, j4⟩ := hSw
              go_simp
              all_goals with_reducible rfl
            simp only [Act.put, List.setIfInBounds_toArray, List.set_cons_zero, List.set_cons_succ, List.getElem_toArray, List.getElem_cons_zero, List.getElem_cons_succ]
            refine wpAnyE_take (i := 2) (v := ?_) rfl (by kernel_rfl) (by kernel_rfl) (by kernel_rfl) (by kernel_rfl) (fun _ _ _ h => h) (Or.inl ⟨by rfl, ?_⟩) hSS ?_
            rotate_left
            · intro w hSw
              obtain ⟨j0, j1, j2, j3, j4⟩ := hSw
              go_simp
              all_goals with_reducible rfl
            simp only [Act.put, List.setIfInBounds_toArray, List.set_cons_zero, List.set_cons_succ, List.getElem_toArray, List.getElem_cons_zero, List.getElem_cons_succ]
            refine wpAnyE_take (i := 3) (v := ?_) rfl (by kernel_rfl) (by kernel_rfl) (by kernel_rfl) (by kernel_rfl) (fun _ _ _ h => h) (Or.inl ⟨by rfl, ?_⟩) hSS ?_
            rotate_left
            · intro w hSw
              obtain ⟨j0, j1, j2, j3, j4⟩ := hSw
              go_simp
              all_goals with_reducible rfl
            simp only [Act.put, List.setIfInBounds_toArray, List.set_cons_zero, List.set_cons_succ, List.getElem_toArray, List.getElem_cons_zero, List.getElem_cons_succ]
            refine wpAnyE_take (i := 4) (v := ?_) rfl (by kernel_rfl) (by kernel_rfl) (by kernel_rfl) (by kernel_rfl) (fun _ _ _ h => h) (Or.inl ⟨by rfl, ?_⟩) hSS ?_
            rotate_left
            · intro w hSw
              obtain ⟨j0, j1, j2, j3, j4⟩ := hSw
              go_simp
              all_goals with_reducible rfl
            simp only [Act.put, List.setIfInBounds_toArray, List.set_cons_zero, List.set_cons_succ, List.getElem_toArray, List.getElem_cons_zero, List.getElem_cons_succ]
            refine wpAnyE_take (i := 5) (v := ?_) rfl (by kernel_rfl) (by kernel_rfl) (by kernel_rfl) (by kernel_rfl) (fun _ _ _ h => h) (Or.inl ⟨by rfl, ?_⟩) hSS ?_
            rotate_left
            · intro w hSw
              obtain ⟨j0, j1, j2, j3, j4⟩ := hSw
              go_simp
              all_goals with_reducible rfl
            simp only [Act.put, List.setIfInBounds_toArray, List.set_cons_zero, List.set_cons_succ, List.getElem_toArray, List.getElem_cons_zero, List.getElem_cons_succ]
            refine wpAnyE_take (i := 7) (v := ?_) rfl (by kernel_rfl) (by kernel_rfl) (by kernel_rfl) (by kernel_rfl) (fun _ _ _ h => h) (Or.inl ⟨by rfl, ?_⟩) hSS ?_
            rotate_left
            · intro w hSw
              obtain ⟨j0, j1, j2, j3, j4⟩ := hSw
              go_simp
              all_goals with_reducible rfl
            simp only [Act.put, List.setIfInBounds_toArray, List.set_cons_zero, List.set_cons_succ, List.getElem_toArray, List.getElem_cons_zero, List.getElem_cons_succ]
            refine wpAnyE_take (i := 8) (v := ?_) rfl (by kernel_rfl) (by kernel_rfl) (by kernel_rfl) (by kernel_rfl) (fun _ _ _ h => h) (Or.inl ⟨by rfl, ?_⟩) hSS ?_
            rotate_left
            · intro w hSw
              obtain ⟨j0, j1, j2, j3, j4⟩ := hSw
              go_simp
              all_goals with_reducible rfl
            simp only [Act.put, List.setIfInBounds_toArray, List.set_cons_zero, List.set_cons_succ, List.getElem_toArray, List.getElem_cons_zero, List.getElem_cons_succ]
            refine wpAnyE_take (i := 9) (v := ?_) rfl (by kernel_rfl) (by kernel_rfl) (by kernel_rfl) (by kernel_rfl) (fun _ _ _ h => h) (Or.inl ⟨by rfl, ?_⟩) hSS ?_
            rotate_left
            · intro w hSw
              obtain ⟨j0, j1, j2, j3, j4⟩ := hSw
              go_simp
              all_goals with_reducible rfl
            simp only [Act.put, List.setIfInBounds_toArray, List.set_cons_zero, List.set_cons_succ, List.getElem_toArray, List.getElem_cons_zero, List.getElem_cons_succ]
            refine wpAnyE_take (i := 10) (v := ?_) rfl (by kernel_rfl) (by kernel_rfl) (by kernel_rfl) (by kernel_rfl) (fun _ _ _ h => h) (Or.inl ⟨by rfl, ?_⟩) hSS ?_
            rotate_left
            · intro w hSw
              obtain ⟨j0, j1, j2, j3, j4⟩ := hSw
              go_simp
              all_goals with_reducible rfl
            simp only [Act.put, List.setIfInBounds_toArray, List.set_cons_zero, List.set_cons_succ, List.getElem_toArray, List.getElem_cons_zero, List.getElem_cons_succ]
            refine wpAnyE_take (i := 12) (v := ?_) rfl (by kernel_rfl) (by kernel_rfl) (by kernel_rfl) (by kernel_rfl) (fun _ _ _ h => h) (Or.inl ⟨by rfl, ?_⟩) hSS ?_
            rotate_left
            · intro w hSw
              obtain ⟨j0, j1, j2, j3, j4⟩ := hSw
              go_simp
              all_goals with_reducible rfl
            simp only [Act.put, List.setIfInBounds_toArray, List.set_cons_zero, List.set_cons_succ, List.getElem_toArray, List.getElem_cons_zero, List.getElem_cons_succ]
            refine wpAnyE_one (i := 6) (by kernel_rfl) rfl ?_
            change wpList _ _ (Exit.then _ _) [_] _ _
            try simp only [List.setIfInBounds_toArray, List.set_cons_zero, List.set_cons_succ, List.getElem_toArray, List.getElem_cons_zero, List.getElem_cons_succ]
            go_wp2_with (go_at_call 11; refine (twin_any c' d' _ HDA.out.x.disk).mono ?_; rintro e w4 ⟨c2, rfl, hc2, hD4, hB4⟩)
            have hlt := And.intro HDA.out.x.lt (And.intro HDA.out.y.lt HDA.out.low.size)
            have hbk := fun k hk => (HDA.out.bk.lt k hk).2
            have HDA := Lib.hid (HDA.out.below hB4)
            have hs4 := hB4.size
            clear hSS hB4
            have hSS : w4.cell? ⟨LB, 6, none⟩ = some (.pointer (some ⟨c', 0, none⟩)) ∧ w4.cell? ⟨LB, 7, none⟩ = some (.slice (some ⟨g', 0, none⟩) 256 n') ∧ w4.cell? ⟨LB, 8, none⟩ = some (.bool (d').off) ∧ w4.cell? ⟨LB, 9, none⟩ = some (.int .i64 (fuZ d')) ∧ w4.cell? ⟨LB, 10, none⟩ = some (.int .i64 ((d').writes : Nat)) := HDA.out.all
            refine ⟨fun _ => hSS, ?_⟩
            try simp only [List.setIfInBounds_toArray, List.set_cons_zero, List.set_cons_succ, List.getElem_toArray, List.getElem_cons_zero, List.getElem_cons_succ]
            refine wpAnyE_one (i := 11) (by kernel_rfl) rfl ?_
            change wpList _ _ (Exit.then _ _) [_] _ _
            try simp only [List.setIfInBounds_toArray, List.set_cons_zero, List.set_cons_succ, List.getElem_toArray, List.getElem_cons_zero, List.getElem_cons_succ]
            go_wp2_with (go_at_call 12; refine (refCopy_any g' n' d' _ HDA.out.x.rk.bytes HDA.out.x.rk.len).mono ?_; rintro e w5 ⟨v5, rfl, ⟨g2, n2, rest2, rfl, hn2, hg2, hcs2, hcl2⟩, hB5⟩; rw [show rkV g2 n2 d' = .agg #[.slice (some ⟨g2, 0, none⟩) 256 n2, .bool (d').off, .int .i64 (fuZ d'), .int .i64 ((d').writes : Nat)] from rfl])
            have hc4 := hD4.lt
            have HDA := Lib.hid (HDA.out.below hB5)
            have HD5 := Lib.hid (hD4.below hB5)
            have HG5 := Lib.hid hcs2
            have HFR : Hid ((c2 ≠ LB ∧ c2 ≠ c' ∧ c2 ≠ g') ∧ (g2 ≠ LB ∧ g2 ≠ c' ∧ g2 ≠ g') ∧ c2 ≠ g2) := by
              obtain ⟨h1, h2, h3⟩ := hlt
              exact ⟨by omega, by omega, by omega⟩
            have HSP : Hid (c2 ∉ bkB K vb vw L ∧ g2 ∉ bkB K vb vw L) := ⟨fun hm => by have := hbk c2 hm; omega, fun hm => by have := hbk g2 hm; omega⟩
            have HGE : Hid (w.heap.size ≤ c2 ∧ w.heap.size ≤ g2) := by
              obtain ⟨h1, h2, h3⟩ := hlt
              exact ⟨by omega, by omega⟩
            clear hSS hB5 hcs2 hcl2 hD4 hlt hbk hs4 hc2 hg2 hc4
            have hSS : w5.cell? ⟨LB, 6, none⟩ = some (.pointer (some ⟨c', 0, none⟩)) ∧ w5.cell? ⟨LB, 7, none⟩ = some (.slice (some ⟨g', 0, none⟩) 256 n') ∧ w5.cell? ⟨LB, 8, none⟩ = some (.bool (d').off) ∧ w5.cell? ⟨LB, 9, none⟩ = some (.int .i64 (fuZ d')) ∧ w5.cell? ⟨LB, 10, none⟩ = some (.int .i64 ((d').writes : Nat)) := HDA.out.all
            refine ⟨fun _ => hSS, ?_⟩
            try simp only [List.setIfInBounds_toArray, List.set_cons_zero, List.set_cons_succ, List.getElem_toArray, List.getElem_cons_zero, List.getElem_cons_succ]
            refine wpAnyE_take (i := 13) (v := ?_) rfl (by kernel_rfl) (by kernel_rfl) (by kernel_rfl) (by kernel_rfl) (fun _ _ _ h => h) (Or.inl ⟨by rfl, ?_⟩) hSS ?_
            rotate_left
            · intro w hSw
              obtain ⟨j0, j1, j2, j3, j4⟩ := hSw
              go_simp
              all_goals with_reducible rfl
            simp only [Act.put, List.setIfInBounds_toArray, List.set_cons_zero, List.set_cons_succ, List.getElem_toArray, List.getElem_cons_zero, List.getElem_cons_succ]
            refine wpAnyE_take (i := 14) (v := ?_) rfl (by kernel_rfl) (by kernel_rfl) (by kernel_rfl) (by kernel_rfl) (fun _ _ _ h => h) (Or.inl ⟨by rfl, ?_⟩) hSS ?_
            rotate_left
            · intro w hSw
              obtain ⟨j0, j1, j2, j3, j4⟩ := hSw
              go_simp
              all_goals with_reducible rfl
            simp only [Act.put, List.setIfInBounds_toArray, List.set_cons_zero, List.set_cons_succ, List.getElem_toArray, List.getElem_cons_zero, List.getElem_cons_succ]
            obtain ⟨csB, tB, hbB⟩ := HDA.out.y.rk.blk
            have k0 : w5.cell? ⟨LB, 0, none⟩ = _ := HDA.out.y.p
            have k1 : w5.cell? ⟨LB, 1, none⟩ = _ := HDA.out.y.rk.cells.1
            have k2 : w5.cell? ⟨LB, 2, none⟩ = _ := HDA.out.y.rk.cells.2.1
            have k3 : w5.cell? ⟨LB, 3, none⟩ = _ := HDA.out.y.rk.cells.2.2.1
            have k4 : w5.cell? ⟨LB, 4, none⟩ = _ := HDA.out.y.rk.cells.2.2.2
            have k5 : w5.cell? ⟨LB, 5, none⟩ = _ := HDA.out.y.b
            have f0 := blk_free hbB 0
            have f1 := blk_free hbB 1
            have f2 := blk_free hbB 2
            have f3 := blk_free hbB 3
            have f4 := blk_free hbB 4
            have f5 := blk_free hbB 5
            clear hSS hbB
            refine wpAnyE_one (i := 15) (by kernel_rfl) rfl ?_
            change wpList _ _ (Exit.then _ _) [_] _ _
            try simp only [List.setIfInBounds_toArray, List.set_cons_zero, List.set_cons_succ, List.getElem_toArray, List.getElem_cons_zero, List.getElem_cons_succ]
            go_wp2_with fail
            generalize hW6 : World.setCell (World.setCell (World.setCell (World.setCell (World.setCell (World.setCell _ _ _) _ _) _ _) _ _) _ _) _ _ = W6
            have h6 : put6 w5 LB 0 (.pointer (some ⟨c2, 0, none⟩)) (.slice (some ⟨g2, 0, none⟩) 256 n2) (.bool (d').off) (.int .i64 (fuZ d')) (.int .i64 ((d').writes : Nat)) (.pointer (some ⟨K, 0, none⟩)) = W6 := hW6
            have hD6 := HDA.out.twin HD5.out HG5.out hn2 HFR.out HSP.out HGE.out
            rw [h6] at hD6
            have HD6 := Lib.hid hD6
            clear hW6 h6 hD6 k0 k1 k2 k3 k4 k5 f0 f1 f2 f3 f4 f5 HD5 HG5 hn2 HFR HSP HGE
            first | refine ⟨fun h => absurd h (by decide), ?_⟩ | refine ⟨trivial, ?_⟩ | skip
            try simp only [List.setIfInBounds_toArray, List.set_cons_zero, List.set_cons_succ, List.getElem_toArray, List.getElem_cons_zero, List.getElem_cons_succ]
            refine wpAnyE_end (by kernel_rfl) ?_
            go_wp2_with fail
            have HE := Lib.hid HD6.out.swap
            refine (looks_any _ _ _ _ _ _ _ _ _ _ _ _ _ _ _ _ _ HE.out).mono ?_
            rintro e w8 ⟨rfl, vb8, vw8, L8, hD8⟩
            have HE := Lib.hid hD8.swap
            clear hD8
            go_wp2_with fail
            refine (looks_any _ _ _ _ _ _ _ _ _ _ _ _ _ _ _ _ _ HE.out).mono ?_
            rintro e w9' ⟨rfl, vb9, vw9, L9, hD9⟩
            have HE := Lib.hid hD9.swap
            clear hD9
            go_wp2_with fail
            go_roundw
            case rel => exact ⟨k + 1, _, _, _, _, _, _, _, _, _, _, _, by go_num, by omega, HE.out, HI'.out.up, HI'.out.up⟩
            case measure => simp [intOf]; omega
          · have e6 : (kk == 6) = false := by simpa using hkk
            go_wp2_with fail
            refine wp_region_early (fun w' => w'.cell? ⟨q, 0, none⟩ = some (.int .i64 kk) ∧ w'.cell? ⟨q, 1, none⟩ = some (.int .i64 who) ∧ w'.cell? ⟨q, 2, none⟩ = some (.int .i64 a) ∧ w'.cell? ⟨q, 3, none⟩ = some (.slice av ld.length cv)) (fun k => k == 3 || k == 4) (by kernel_rfl) ?_
            simp only [List.size_toArray, List.length_cons, List.length_nil, Nat.reduceAdd, Array.replicate_succ, Array.replicate_zero, List.push_toArray, List.nil_append, List.cons_append]
            have HDA := Lib.hid (HDP.out.swap).drew
            have hSS := (blk4' (blk_below' ((Below.refl W1.heap.size W1).drew) HQ.out)).1
            clear q0 q1 q2 q3
            generalize World.drew W1 = W3 at *
            refine wpAnyE_take (i := 0) (v := ?_) rfl (by kernel_rfl) (by kernel_rfl) (by kernel_rfl) (by kernel_rfl) (fun _ _ _ h => h) (Or.inl ⟨by rfl, ?_⟩) hSS ?_
            rotate_left
            · intro w hSw
              obtain ⟨j0, j1, j2, j3⟩ := hSw
              go_simp
              all_goals with_reducible rfl
            simp only [Act.put, List.setIfInBounds_toArray, List.set_cons_zero, List.set_cons_succ, List.getElem_toArray, List.getElem_cons_zero, List.getElem_cons_succ]
            refine wpAnyE_take (i := 1) (v := ?_) rfl (by kernel_rfl) (by kernel_rfl) (by kernel_rfl) (by kernel_rfl) (fun _ _ _ h => h) (Or.inl ⟨by rfl, ?_⟩) hSS ?_
            rotate_left
            · intro w hSw
              obtain ⟨j0, j1, j2, j3⟩ := hSw
              go_simp
              all_goals with_reducible rfl
            simp only [Act.put, List.setIfInBounds_toArray, List.set_cons_zero, List.set_cons_succ, List.getElem_toArray, List.getElem_cons_zero, List.getElem_cons_succ]
            refine wpAnyE_take (i := 2) (v := ?_) rfl (by kernel_rfl) (by kernel_rfl) (by kernel_rfl) (by kernel_rfl) (fun _ _ _ h => h) (Or.inl ⟨by rfl, ?_⟩) hSS ?_
            rotate_left
            · intro w hSw
              obtain ⟨j0, j1, j2, j3⟩ := hSw
              go_simp
              all_goals with_reducible rfl
            simp only [Act.put, List.setIfInBounds_toArray, List.set_cons_zero, List.set_cons_succ, List.getElem_toArray, List.getElem_cons_zero, List.getElem_cons_succ]
            refine wpAnyE_one (i := 3) (by kernel_rfl) rfl ?_
            change wpList _ _ (Exit.then _ _) [_] _ _
            try simp only [List.setIfInBounds_toArray, List.set_cons_zero, List.set_cons_succ, List.getElem_toArray, List.getElem_cons_zero, List.getElem_cons_succ]
            go_wp2_with (go_at_call 13; refine (step_any _ _ _ _ _ _ _ _ _ _ _ _ _ _ _ _ kk who a av cv ld k _ HDA.out HIA.out (by omega) HA.out (by omega) HR.out).mono ?_; rintro e w4 ⟨rfl, vb2, vw2, L2, d2, hD2, hI2⟩)
            clear hSS
            first | refine ⟨fun h => absurd h (by decide), ?_⟩ | refine ⟨trivial, ?_⟩ | skip
            try simp only [List.setIfInBounds_toArray, List.set_cons_zero, List.set_cons_succ, List.getElem_toArray, List.getElem_cons_zero, List.getElem_cons_succ]
            refine wpAnyE_one (i := 4) (by kernel_rfl) rfl ?_
            change wpList _ _ (Exit.then _ _) [_] _ _
            try simp only [List.setIfInBounds_toArray, List.set_cons_zero, List.set_cons_succ, List.getElem_toArray, List.getElem_cons_zero, List.getElem_cons_succ]
            go_wp2_with fail
            first | refine ⟨fun h => absurd h (by decide), ?_⟩ | refine ⟨trivial, ?_⟩ | skip
            try simp only [List.setIfInBounds_toArray, List.set_cons_zero, List.set_cons_succ, List.getElem_toArray, List.getElem_cons_zero, List.getElem_cons_succ]
            refine wpAnyE_end (by kernel_rfl) ?_
            have HD2 := Lib.hid hD2
            have HI2 := Lib.hid hI2
            clear hD2 hI2
            go_wp2_with fail
            have HE := Lib.hid HD2.out.swap
            refine (looks_any _ _ _ _ _ _ _ _ _ _ _ _ _ _ _ _ _ HE.out).mono ?_
            rintro e w8 ⟨rfl, vb8, vw8, L8, hD8⟩
            have HE := Lib.hid hD8.swap
            clear hD8
            go_wp2_with fail
            refine (looks_any _ _ _ _ _ _ _ _ _ _ _ _ _ _ _ _ _ HE.out).mono ?_
            rintro e w9' ⟨rfl, vb9, vw9, L9, hD9⟩
            have HE := Lib.hid hD9.swap
            clear hD9
            go_wp2_with fail
            go_roundw
            case rel => exact ⟨k + 1, _, _, _, _, _, _, _, _, _, _, _, by go_num, by omega, HE.out, HI.out.up, HI2.out⟩
            case measure => simp [intOf]; omega
    · obtain rfl : k = xs.length := by omega
      have b4 : ¬ ((xs.length : Nat) : Int) < ((xs.length : Nat) : Int) := by omega
      go_wp2_with fail
      refine (looks_any _ _ _ _ _ _ _ _ _ _ _ _ _ _ _ _ _ HDP.out).mono ?_
      rintro e w2 ⟨rfl, vb2, vw2, L2, hD2⟩
      have HD2 := Lib.hid hD2.swap
      clear hD2 HDP
      go_wp2_with fail
      refine (looks_any _ _ _ _ _ _ _ _ _ _ _ _ _ _ _ _ _ HD2.out).mono ?_
      rintro e w3 ⟨rfl, vb3, vw3, L3, hD3⟩
      have HD3 := Lib.hid hD3
      clear hD3 HD2
      go_wp2_with fail
      refine (apart_any _ _ _ _ _ _ HD3.out.bk HD3.out.low.size).mono ?_
      rintro e w4 ⟨rfl, hB4⟩
      go_wp2_with fail
      go_ret
      exact ⟨rfl, HD3.out.low.trans hB4⟩
end Go.Proofs.Ytpfiaepoibablaa
namespace Go.Proofs.Ytpfiaepoibablaa
set_option linter.unusedVariables false
set_option linter.unusedSimpArgs false
open Go.RowKit

def zeroDk : Array Value := dkC Dk.new
set_option maxRecDepth 100000 in
set_option maxHeartbeats 4000000 in
theorem play_short_f (w : World) (a0 a1 : Option Addr) (c0 c1 : Nat) (im0 : List Nat) (hlm : im0.length ≤ 1000) (hl : im0.length ≠ 256) (xs : List (List Value)) (hxs : xs.length ≤ 150)
    (hx : ∀ i x, xs[i]? = some x → ShL w [.int .i64, .int .i64, .int .i64, .ints .u8] x ∧ ∃ g o, a1 = some ⟨g, o, none⟩ ∧ g < w.heap.size ∧ ∀ j y, x[j]? = some y → w.cell? ⟨g, o + i * 4 + j, none⟩ = some y) :
    Calls Try.prog 5 #[.slice a0 im0.length c0, .slice a1 xs.length c1, .bool false] w fun e w' => e = .returned (.bool true) ∧ Below w.heap.size w w' := by
  have HX := Lib.hid hx
  obtain ⟨nn, hnn⟩ : ∃ nn, im0.length = nn := ⟨_, rfl⟩
  rw [hnn] at hlm hl ⊢
  have b0 : ¬ (150 : Int) < (xs.length : Int) := by omega
  have b1 : ¬ (1000 : Int) < (nn : Int) := by omega
  clear hx hnn
  have HS := Lib.hid (fun w => of_short a0 nn c0 w hl)
  have HS2 := Lib.hid (fun w => refOf_short a0 nn c0 w hl)
  clear hl
  go_enter Try.func5, Try.ntmps5
  go_upto_region 5 with (go_at_call 6; refine (alive_any _).mono ?_; rintro e w9 ⟨rfl, hB9⟩)
  go_upto_region 7 with fail
  have hK0 := blk_old (blk_new w9 (.cells (bookC (.slice none 0 0) (.slice none 0 0)) 41)) (.cells zero12 47)
  have hL0 := blk_new (w9.alloc (.cells (bookC (.slice none 0 0) (.slice none 0 0)) 41)) (.cells zero12 47)
  have hB0 := (hB9.alloc hB9.size (.cells (bookC (.slice none 0 0) (.slice none 0 0)) 41)).alloc (by have := hB9.size; simp; omega) (.cells zero12 47)
  rw [show (w9.alloc (.cells (bookC (.slice none 0 0) (.slice none 0 0)) 41)).heap.size = w9.heap.size + 1 by simp] at hL0
  have hsz := hB9.size
  clear hB9
  generalize hW2 : World.alloc (World.alloc w9 _) _ = W2
  rw [show (w9.alloc (.cells (bookC (.slice none 0 0) (.slice none 0 0)) 41)).alloc (.cells zero12 47) = W2 from hW2] at hK0 hL0 hB0
  clear hW2
  obtain ⟨K, hK⟩ : ∃ K, w9.heap.size = K := ⟨_, rfl⟩
  obtain ⟨LB, hLB⟩ : ∃ LB, K + 1 = LB := ⟨_, rfl⟩
  rw [hK] at hK0 hL0 hsz ⊢
  rw [hLB] at hL0 ⊢
  have HK := Lib.hid hK0
  have HLB := Lib.hid hL0
  have HB := Lib.hid hB0
  have HKL : Hid (w.heap.size ≤ K ∧ K < LB) := ⟨hsz, by omega⟩
  clear hK hLB hK0 hL0 hB0 hsz
  go_upto_region 8 with (go_at_call 7; refine (HS.out _).mono ?_; rintro e w3 ⟨rfl, hB3⟩)
  have hK := blk_below' hB3 HK.out
  have hLB := blk_below' hB3 HLB.out
  have hB := below_then HB.out hB3
  go_wp2_with fail
  refine (HS2.out _).mono ?_
  rintro e w4 ⟨rfl, hB4⟩
  unfold rkZero
  have hK := blk_below' hB4 hK
  have hLB := blk_below' hB4 hLB
  have hB := below_then hB hB4
  obtain ⟨W5, hW5⟩ : ∃ W5, w4.alloc (.cells #[.slice none 0 0, .bool false, .int .i64 0, .int .i64 0] 44) = W5 := ⟨_, rfl⟩
  obtain ⟨rq, hrq⟩ : ∃ rq, w4.heap.size = rq := ⟨_, rfl⟩
  have hal := (Below.refl w4.heap.size w4).alloc (Nat.le_refl _) (.cells #[.slice none 0 0, .bool false, .int .i64 0, .int .i64 0] 44)
  have hbr := blk_new w4 (.cells #[.slice none 0 0, .bool false, .int .i64 0, .int .i64 0] 44)
  rw [hW5] at hal hbr
  rw [hrq] at hbr
  have HW5 := Lib.hid hW5
  have HRQ := Lib.hid hrq
  have hs4 := blk_lt hLB
  have HK := Lib.hid (blk_below' hal hK)
  have HLB := Lib.hid (blk_below' hal hLB)
  have HB := Lib.hid (below_then hB hal)
  have HBR := Lib.hid hbr
  have hlr : LB < rq := by omega
  clear hal hbr hW5 hrq hK hLB hB hB3 hB4 hs4
  go_upto_region 9 with fail
  rw [HW5.out, HRQ.out]
  clear HW5 HRQ
  go_upto_region 12 with fail
  go_wp2_with fail
  have hrl := blk_lt HBR.out
  have hdk : DkAt (W5.alloc (.cells zeroDk 56)) W5.heap.size Dk.new := ⟨(blk_new _ _).trans (by kernel_rfl), List.length_replicate⟩
  have hal := (Below.refl W5.heap.size W5).alloc (Nat.le_refl _) (.cells zeroDk 56)
  generalize hZ : World.alloc W5 _ = W6
  rw [show W5.alloc (.cells zeroDk 56) = W6 from hZ] at hdk hal
  obtain ⟨b, hb⟩ : ∃ b, W5.heap.size = b := ⟨_, rfl⟩
  rw [hb] at hdk hrl ⊢
  have HK := Lib.hid (blk_below' hal HK.out)
  have HLB := Lib.hid (blk_below' hal HLB.out)
  have HBR := Lib.hid (blk_below' hal HBR.out)
  have HB := Lib.hid (below_then HB.out hal)
  have hbl := hdk.lt
  clear hZ hal hb
  refine (refNew_any _).mono ?_
  rintro e w7 ⟨v7, rfl, ⟨g, n, rest, rfl, hn, hg, hcs, hcl⟩, hB7⟩
  rw [show rkV g n Dk.new = .agg #[.slice (some ⟨g, 0, none⟩) 256 n, .bool false, .int .i64 (-1), .int .i64 0] from rfl]
  have hdk := hdk.below hB7
  have HK := Lib.hid (blk_below' hB7 HK.out)
  have HLB := Lib.hid (blk_below' hB7 HLB.out)
  have HBR := Lib.hid (blk_below' hB7 HBR.out)
  have HB := Lib.hid (below_then HB.out hB7)
  obtain ⟨⟨r0, r1, r2, r3⟩, ⟨f0, f1, f2, f3⟩⟩ := blk4' HBR.out
  have hge : w.heap.size ≤ rq := by have := HKL.out; omega
  clear hB7
  go_upto_region 13 with fail
  generalize hX : World.setCell (World.setCell (World.setCell (World.setCell _ _ _) _ _) _ _) _ _ = W5
  have hbut : w7.grownBy W5 (some rq) := by rw [← hX]; exact but_set (but_set (but_set (but_set (but_refl w7 _) (blk_lt HBR.out) 0 _) (blk_lt HBR.out) 1 _) (blk_lt HBR.out) 2 _) (blk_lt HBR.out) 3 _
  have hbr : W5.heap[rq]? = some (.cells #[.slice (some ⟨g, 0, none⟩) 256 n, .bool false, .int .i64 (-1), .int .i64 0] 44 (0, 0)) := by rw [← hX]; exact blk_store (blk_store (blk_store (blk_store HBR.out 0 _) 1 _) 2 _) 3 _
  have hkl := HKL.out
  obtain ⟨D0, hD0⟩ : ∃ D0, Dk.new = D0 := ⟨_, rfl⟩
  obtain ⟨im, him⟩ : ∃ im, D0.bs = im := ⟨_, rfl⟩
  have hD0c : D0.off = false ∧ fuZ D0 = -1 ∧ D0.writes = 0 ∧ D0.bs = im ∧ DI D0 0 := by rw [← hD0] at him ⊢; exact ⟨rfl, rfl, rfl, him, Nat.le_refl _, Nat.zero_le _⟩
  have HD : Hid (DkAt W5 b D0) := by rw [← hD0]; exact ⟨blk_grown hbut hdk.1 (by simp; omega), hdk.2⟩
  have HG : Hid (W5.heap[g]? = some (.cells (bC im ++ rest).toArray 5 (0, 0))) := by rw [← him, ← hD0]; exact blk_grown hbut hcs (by simp; omega)
  have HK := Lib.hid (blk_grown hbut HK.out (by simp; omega))
  have HLB := Lib.hid (blk_grown hbut HLB.out (by simp; omega))
  have HB := Lib.hid (HB.out.grown hbut HB.out.size (fun j hj => by cases hj; omega))
  have HNE : Hid (LB < b ∧ b < g ∧ True) := ⟨by omega, by omega, trivial⟩
  have HD0 := Lib.hid hD0c
  have HBR := Lib.hid hbr
  clear hX hbut hbr hkl hD0 him hD0c hdk hcs hcl hg hbl hrl hge hlr r0 r1 r2 r3 f0 f1 f2 f3
  obtain ⟨⟨r0, r1, r2, r3⟩, ⟨f0, f1, f2, f3⟩⟩ := blk4' HBR.out
  obtain ⟨⟨⟨l0, l1, l2, l3, l4, l5⟩, l6⟩, ⟨⟨e0, e1, e2, e3, e4, e5⟩, e6⟩⟩ := blk12 (by have := HLB.out; unfold zero12 at this; exact this)
  go_upto_region 14 with fail
  generalize hW6 : World.setCell (World.setCell (World.setCell (World.setCell (World.setCell (World.setCell _ _ _) _ _) _ _) _ _) _ _) _ _ = W6
  have h6 : put6 W5 LB 0 (.pointer (some ⟨b, 0, none⟩)) (.slice (some ⟨g, 0, none⟩) 256 n) (.bool false) (.int .i64 (-1)) (.int .i64 0) (.pointer (some ⟨K, 0, none⟩)) = W6 := hW6
  have hL6 := put6_zero (.pointer (some ⟨b, 0, none⟩)) (.slice (some ⟨g, 0, none⟩) 256 n) (.bool false) (.int .i64 (-1)) (.int .i64 0) (.pointer (some ⟨K, 0, none⟩)) HLB.out
  have hbut := put6_but W5 (o := 0) (a0 := .pointer (some ⟨b, 0, none⟩)) (a1 := .slice (some ⟨g, 0, none⟩) 256 n) (a2 := .bool false) (a3 := .int .i64 (-1)) (a4 := .int .i64 0) (a5 := .pointer (some ⟨K, 0, none⟩)) (blk_lt HLB.out)
  rw [h6] at hL6 hbut
  have hne := HNE.out
  have hkl := HKL.out
  have HD := Lib.hid (show DkAt W6 b D0 from ⟨blk_grown hbut HD.out.1 (by simp; omega), HD.out.2⟩)
  have HG := Lib.hid (blk_grown hbut HG.out (by simp; omega))
  have HK := Lib.hid (blk_grown hbut HK.out (by simp; omega))
  have HB := Lib.hid (HB.out.grown hbut HB.out.size (fun j hj => by cases hj; omega))
  have hg6 := blk_lt HG.out
  have HLB := Lib.hid hL6
  clear h6 hW6 hbut hL6 l0 l1 l2 l3 l4 l5 e0 e1 e2 e3 e4 e5 r0 r1 r2 r3 f0 f1 f2 f3 HBR l6 e6
  go_wp2_with fail
  refine (new_any _).mono ?_
  rintro e w7 ⟨rfl, hD7, hB7⟩
  obtain ⟨c', hc'⟩ : ∃ c', W6.heap.size = c' := ⟨_, rfl⟩
  have HD := Lib.hid (HD.out.below hB7)
  have HG := Lib.hid (blk_below' hB7 HG.out)
  have HK := Lib.hid (blk_below' hB7 HK.out)
  have HLB := Lib.hid (blk_below' hB7 HLB.out)
  have HB := Lib.hid (below_then HB.out hB7)
  rw [hc'] at hD7 hg6
  rw [hc']
  have hc7 := hD7.lt
  clear hB7 hc'
  go_wp2_with fail
  refine (refNew_any _).mono ?_
  rintro e w8 ⟨v8, rfl, ⟨g', n', rest', rfl, hn', hg', hcs', hcl'⟩, hB8⟩
  have hv8 : rkV g' n' Dk.new = .agg #[.slice (some ⟨g', 0, none⟩) 256 n', .bool false, .int .i64 (-1), .int .i64 0] := rfl
  rw [hv8]
  have HD := Lib.hid (HD.out.below hB8)
  have HD7 := Lib.hid (hD7.below hB8)
  have HG := Lib.hid (blk_below' hB8 HG.out)
  have HG7 := Lib.hid hcs'
  have HK := Lib.hid (blk_below' hB8 HK.out)
  have HLB := Lib.hid (blk_below' hB8 HLB.out)
  have HB := Lib.hid (below_then HB.out hB8)
  clear hB8 hv8 hcs' hcl' hD7
  obtain ⟨⟨l6, ⟨l0, l1, l2, l3, l4, l5⟩⟩, ⟨e6, ⟨e0, e1, e2, e3, e4, e5⟩⟩⟩ := blk12 HLB.out
  clear l6 e6
  go_upto_region 15 with fail
  generalize hW9 : World.setCell (World.setCell (World.setCell (World.setCell (World.setCell (World.setCell _ _ _) _ _) _ _) _ _) _ _) _ _ = W9
  have h9 : put6 w8 LB 6 (.pointer (some ⟨c', 0, none⟩)) (.slice (some ⟨g', 0, none⟩) 256 n') (.bool false) (.int .i64 (-1)) (.int .i64 0) (.pointer (some ⟨K, 0, none⟩)) = W9 := hW9
  have hlast : ∃ cs : Array Value, w8.heap[LB]? = some (.cells cs 47 (0, 0)) ∧ 6 + 5 < cs.size ∧ ∀ j x, (sideC b g n K D0)[j]? = some x → cs[0 + j]? = some x := by
    refine ⟨_, HLB.out, by show 11 < 12; omega, get6 (x0 := .pointer (some ⟨b, 0, none⟩)) (x1 := .slice (some ⟨g, 0, none⟩) 256 n) (x2 := .bool false) (x3 := .int .i64 (-1)) (x4 := .int .i64 0) (x5 := .pointer (some ⟨K, 0, none⟩)) ?_ ⟨rfl, rfl, rfl, rfl, rfl, rfl⟩⟩
    unfold sideC; rw [HD0.out.1, HD0.out.2.1, HD0.out.2.2.1]; rfl
  have hLl := blk_lt HLB.out
  clear hW9 HLB l0 l1 l2 l3 l4 l5 e0 e1 e2 e3 e4 e5
  have hDP : Dp w LB K (.slice none 0 0) (.slice none 0 0) [] 0 b g n D0 D0 6 c' g' n' Dk.new W9 := by
    obtain ⟨cs, k1, k2, k3⟩ := hlast
    obtain ⟨s1, s2⟩ := set6 cs 6 (.pointer (some ⟨c', 0, none⟩)) (.slice (some ⟨g', 0, none⟩) 256 n') (.bool false) (.int .i64 (-1)) (.int .i64 0) (.pointer (some ⟨K, 0, none⟩)) k2
    have hL9 := put6_heap (o := 6) (a0 := .pointer (some ⟨c', 0, none⟩)) (a1 := .slice (some ⟨g', 0, none⟩) 256 n') (a2 := .bool false) (a3 := .int .i64 (-1)) (a4 := .int .i64 0) (a5 := .pointer (some ⟨K, 0, none⟩)) k1
    have hbut := put6_but w8 (o := 6) (a0 := .pointer (some ⟨c', 0, none⟩)) (a1 := .slice (some ⟨g', 0, none⟩) 256 n') (a2 := .bool false) (a3 := .int .i64 (-1)) (a4 := .int .i64 0) (a5 := .pointer (some ⟨K, 0, none⟩)) hLl
    rw [h9] at hL9 hbut
    refine Dp.start hL9 (fun j x hx => ?_) s1 ⟨blk_grown hbut HD.out.1 (by simp; omega), HD.out.2⟩ (rest := rest) ?_ hn ⟨blk_grown hbut HD7.out.1 (by simp; omega), HD7.out.2⟩ (blk_grown hbut HG7.out (by simp; omega)) hn' (blk_grown hbut HK.out (by simp; omega)) (HB.out.grown hbut HB.out.size (fun j hj => by cases hj; omega)) (by omega) (by omega) (by omega) hkl.1
    · have hj : j < 6 := by have := (List.getElem?_eq_some_iff.1 hx).1; simpa [sideC] using this
      rw [s2 _ (by omega)]; exact k3 j x hx
    · rw [HD0.out.2.2.2.1]; exact blk_grown hbut HG.out (by simp; omega)
  have HDP := Lib.hid hDP
  have HI := Lib.hid HD0.out.2.2.2.2
  clear h9 hlast hLl hDP HD HD7 HG HG7 HK HB HD0 hne hkl hg6 hc7 hg' HNE hn hn'
  go_wp2_with fail
  go_loopw [13] (fun i wr => ∃ (k : Nat) (vb vw : Value) (L : List Ls) (c g n : Nat) (d : Dk) (c' g' n' : Nat) (d' : Dk), i = .int .i64 (k : Nat) ∧ k ≤ xs.length ∧ Hid (Dp w LB K vb vw L 0 c g n d d 6 c' g' n' d' wr) ∧ Hid (DI d k) ∧ Hid (DI d' k)) (fun i _ => xs.length - (intOf i).toNat)
  case atStart => exact ⟨0, _, _, _, _, _, _, _, _, _, _, _, rfl, Nat.zero_le _, HDP.out, HI.out, ⟨Nat.le_refl _, Nat.zero_le _⟩⟩
  case round =>
    clear HDP HI
    obtain ⟨k, vb, vw, L, c, g, n, d, c', g', n', d', rfl, hk, HDP, HI, HI'⟩ := hrel
    by_cases hlt : k < xs.length
    · have b4 : ((k : Nat) : Int) < ((xs.length : Nat) : Int) := by omega
      obtain ⟨x, hx⟩ : ∃ x, xs[k]? = some x := ⟨_, List.getElem?_eq_getElem hlt⟩
      obtain ⟨hsh, gx, ox, rfl, hgx, hcx⟩ := HX.out k x hx
      obtain ⟨kk, who, a, av, cv, ld, rfl, ha, hr⟩ := op_at hsh
      have HCX : Hid (∀ W, Below w.heap.size w W → W.cell? ⟨gx, ox + k * 4, none⟩ = some (.int .i64 kk) ∧ W.cell? ⟨gx, ox + k * 4 + 1, none⟩ = some (.int .i64 who) ∧ W.cell? ⟨gx, ox + k * 4 + 2, none⟩ = some (.int .i64 a) ∧ W.cell? ⟨gx, ox + k * 4 + 3, none⟩ = some (.slice av ld.length cv)) := fun W hW =>
        ⟨(hW.cell hgx).trans (hcx 0 _ rfl), (hW.cell hgx).trans (hcx 1 _ rfl), (hW.cell hgx).trans (hcx 2 _ rfl), (hW.cell hgx).trans (hcx 3 _ rfl)⟩
      obtain ⟨t0, t1, t2, t3⟩ := HCX.out _ HDP.out.low
      have HA := Lib.hid ha
      have HR := Lib.hid hr
      clear hsh hgx hcx ha hr
      obtain ⟨wh, hwh⟩ : ∃ wh, bits .and .i64 who 1 = wh := ⟨_, rfl⟩
      have hw01 : wh = 0 ∨ wh = 1 := hwh ▸ and1 who
      have hbe := (Below.refl wr.heap.size wr).alloc (Nat.le_refl _) (.cells #[.int .i64 kk, .int .i64 who, .int .i64 a, .slice av ld.length cv] 60)
      have hq := blk_new wr (.cells #[.int .i64 kk, .int .i64 who, .int .i64 a, .slice av ld.length cv] 60)
      obtain ⟨W1, hW1⟩ : ∃ W1, wr.alloc (.cells #[.int .i64 kk, .int .i64 who, .int .i64 a, .slice av ld.length cv] 60) = W1 := ⟨_, rfl⟩
      obtain ⟨q, hqq⟩ : ∃ q, wr.heap.size = q := ⟨_, rfl⟩
      rw [hW1] at hbe hq
      rw [hqq] at hq
      have HW1 := Lib.hid hW1
      have HQQ := Lib.hid hqq
      have HDP := Lib.hid (HDP.out.below hbe)
      have HQ := Lib.hid hq
      clear hbe hq hW1 hqq
      go_upto_region 19 with fail
      rw [HW1.out, HQQ.out]
      clear HW1 HQQ HCX t0 t1 t2 t3 hx
      obtain ⟨⟨q0, q1, q2, q3⟩, _⟩ := blk4' HQ.out
      by_cases hl : 300 < ld.length
      · have b5 : (300 : Int) < (ld.length : Int) := by omega
        go_wp2_with fail
        go_ret
        exact ⟨rfl, HDP.out.low⟩
      · have b5 : ¬ (300 : Int) < (ld.length : Int) := by omega
        rcases hw01 with rfl | rfl
        · skip
          have HIA := HI
          by_cases hkk : kk = 6
          · subst hkk
            have HDA := Lib.hid (HDP.out)
            go_upto_region 23 with fail
            clear q0 q1 q2 q3
            have wr0 : IntKind.i64.wrap 0 = 0 := by decide
            have wr1 : IntKind.i64.wrap 1 = 1 := by decide
            refine wp_region_early (fun w' => w'.cell? ⟨LB, 0, none⟩ = some (.pointer (some ⟨c, 0, none⟩)) ∧ w'.cell? ⟨LB, 1, none⟩ = some (.slice (some ⟨g, 0, none⟩) 256 n) ∧ w'.cell? ⟨LB, 2, none⟩ = some (.bool (d).off) ∧ w'.cell? ⟨LB, 3, none⟩ = some (.int .i64 (fuZ d)) ∧ w'.cell? ⟨LB, 4, none⟩ = some (.int .i64 ((d).writes : Nat))) (fun k => k == 15) (by kernel_rfl) ?_
            simp only [List.size_toArray, List.length_cons, List.length_nil, Nat.reduceAdd, Array.replicate_succ, Array.replicate_zero, List.push_toArray, List.nil_append, List.cons_append]
            have HDA := Lib.hid HDA.out.drew
            generalize World.drew W1 = W3 at *
            have hSS : W3.cell? ⟨LB, 0, none⟩ = some (.pointer (some ⟨c, 0, none⟩)) ∧ W3.cell? ⟨LB, 1, none⟩ = some (.slice (some ⟨g, 0, none⟩) 256 n) ∧ W3.cell? ⟨LB, 2, none⟩ = some (.bool (d).off) ∧ W3.cell? ⟨LB, 3, none⟩ = some (.int .i64 (fuZ d)) ∧ W3.cell? ⟨LB, 4, none⟩ = some (.int .i64 ((d).writes : Nat)) := HDA.out.all
            refine wpAnyE_take (i := 0) (v := ?_) rfl (by kernel_rfl) (by kernel_rfl) (by kernel_rfl) (by kernel_rfl) (fun _ _ _ h => h) (Or.inl ⟨by rfl, ?_⟩) hSS ?_
            rotate_left
            · intro w hSw
              obtain ⟨j0, j1, j2, j3, j4⟩ := hSw
              go_simp
              all_goals with_reducible rfl
            simp only [Act.put, List.setIfInBounds_toArray, List.set_cons_zero, List.set_cons_succ, List.getElem_toArray, List.getElem_cons_zero, List.getElem_cons_succ]
            refine wpAnyE_take (i := 1) (v := ?_) rfl (by kernel_rfl) (by kernel_rfl) (by kernel_rfl) (by kernel_rfl) (fun _ _ _ h => h) (Or.inl ⟨by rfl, ?_⟩) hSS ?_
            rotate_left
            · intro w hSw
              obtain ⟨j0, j1, j2, j3, j4⟩ := hSw
              go_simp
              all_goals with_reducible rfl
            simp only [Act.put, List.setIfInBounds_toArray, List.set_cons_zero, List.set_cons_succ, List.getElem_toArray, List.getElem_cons_zero, List.getElem_cons_succ]
            refine wpAnyE_take (i := 2) (v := ?_) rfl (by kernel_rfl) (by kernel_rfl) (by kernel_rfl) (by kernel_rfl) (fun _ _ _ h => h) (Or.inl ⟨by rfl, ?_⟩) hSS ?_
            rotate_left
            · intro w hSw
              obtain ⟨j0, j1, j2, j3, j4⟩ := hSw
              go_simp
              all_goals with_reducible rfl
            simp only [Act.put, List.setIfInBounds_toArray, List.set_cons_zero, List.set_cons_succ, List.getElem_toArray, List.getElem_cons_zero, List.getElem_cons_succ]
            refine wpAnyE_take (i := 3) (v := ?_) rfl (by kernel_rfl) (by kernel_rfl) (by kernel_rfl) (by kernel_rfl) (fun _ _ _ h => h) (Or.inl ⟨by rfl, ?_⟩) hSS ?_
            rotate_left
            · intro w hSw
              obtain ⟨j0, j1, j2, j3, j4⟩ := hSw
              go_simp
              all_goals with_reducible rfl
            simp only [Act.put, List.setIfInBounds_toArray, List.set_cons_zero, List.set_cons_succ, List.getElem_toArray, List.getElem_cons_zero, List.getElem_cons_succ]
            refine wpAnyE_take (i := 4) (v := ?_) rfl (by kernel_rfl) (by kernel_rfl) (by kernel_rfl) (by kernel_rfl) (fun _ _ _ h => h) (Or.inl ⟨by rfl, ?_⟩) hSS ?_
            rotate_left
            · intro w hSw
              obtain ⟨j0, j1, j2, j3, j4⟩ := hSw
              go_simp
              all_goals with_reducible rfl
            simp only [Act.put, List.setIfInBounds_toArray, List.set_cons_zero, List.set_cons_succ, List.getElem_toArray, List.getElem_cons_zero, List.getElem_cons_succ]
            refine wpAnyE_take (i := 5) (v := ?_) rfl (by kernel_rfl) (by kernel_rfl) (by kernel_rfl) (by kernel_rfl) (fun _ _ _ h => h) (Or.inl ⟨by rfl, ?_⟩) hSS ?_
            rotate_left
            · intro w hSw
              obtain ⟨j0, j1, j2, j3, j4⟩ := hSw
              go_simp
              all_goals with_reducible rfl
            simp only [Act.put, List.setIfInBounds_toArray, List.set_cons_zero, List.set_cons_succ, List.getElem_toArray, List.getElem_cons_zero, List.getElem_cons_succ]
            refine wpAnyE_take (i := 7) (v := ?_) rfl (by kernel_rfl) (by kernel_rfl) (by kernel_rfl) (by kernel_rfl) (fun _ _ _ h => h) (Or.inl ⟨by rfl, ?_⟩) hSS ?_
            rotate_left
            · intro w hSw
              obtain ⟨j0, j1, j2, j3, j4⟩ := hSw
              go_simp
              all_goals with_reducible rfl
            simp only [Act.put, List.setIfInBounds_toArray, List.set_cons_zero, List.set_cons_succ, List.getElem_toArray, List.getElem_cons_zero, List.getElem_cons_succ]
            refine wpAnyE_take (i := 8) (v := ?_) rfl (by kernel_rfl) (by kernel_rfl) (by kernel_rfl) (by kernel_rfl) (fun _ _ _ h => h) (Or.inl ⟨by rfl, ?_⟩) hSS ?_
            rotate_left
            · intro w hSw
              obtain ⟨j0, j1, j2, j3, j4⟩ := hSw
              go_simp
              all_goals with_reducible rfl
            simp only [Act.put, List.setIfInBounds_toArray, List.set_cons_zero, List.set_cons_succ, List.getElem_toArray, List.getElem_cons_zero, List.getElem_cons_succ]
            refine wpAnyE_take (i := 9) (v := ?_) rfl (by kernel_rfl) (by kernel_rfl) (by kernel_rfl) (by kernel_rfl) (fun _ _ _ h => h) (Or.inl ⟨by rfl, ?_⟩) hSS ?_
            rotate_left
            · intro w hSw
              obtain ⟨j0, j1, j2, j3, j4⟩ := hSw
              go_simp
              all_goals with_reducible rfl
            simp only [Act.put, List.setIfInBounds_toArray, List.set_cons_zero, List.set_cons_succ, List.getElem_toArray, List.getElem_cons_zero, List.getElem_cons_succ]
            refine wpAnyE_take (i := 10) (v := ?_) rfl (by kernel_rfl) (by kernel_rfl) (by kernel_rfl) (by kernel_rfl) (fun _ _ _ h => h) (Or.inl ⟨by rfl, ?_⟩) hSS ?_
            rotate_left
            · intro w hSw
              obtain ⟨j0, j1, j2, j3, j4⟩ := hSw
              go_simp
              all_goals with_reducible rfl
            simp only [Act.put, List.setIfInBounds_toArray, List.set_cons_zero, List.set_cons_succ, List.getElem_toArray, List.getElem_cons_zero, List.getElem_cons_succ]
            refine wpAnyE_take (i := 12) (v := ?_) rfl (by kernel_rfl) (by kernel_rfl) (by kernel_rfl) (by kernel_rfl) (fun _ _ _ h => h) (Or.inl ⟨by rfl, ?_⟩) hSS ?_
            rotate_left
            · intro w hSw
              obtain ⟨j0, j1, j2, j3, j4⟩ := hSw
              go_simp
              all_goals with_reducible rfl
            simp only [Act.put, List.setIfInBounds_toArray, List.set_cons_zero, List.set_cons_succ, List.getElem_toArray, List.getElem_cons_zero, List.getElem_cons_succ]
            refine wpAnyE_one (i := 6) (by kernel_rfl) rfl ?_
            change wpList _ _ (Exit.then _ _) [_] _ _
            try simp only [List.setIfInBounds_toArray, List.set_cons_zero, List.set_cons_succ, List.getElem_toArray, List.getElem_cons_zero, List.getElem_cons_succ]
            go_wp2_with (go_at_call 11; refine (twin_any c d _ HDA.out.x.disk).mono ?_; rintro e w4 ⟨c2, rfl, hc2, hD4, hB4⟩)
            have hlt := And.intro HDA.out.x.lt (And.intro HDA.out.y.lt HDA.out.low.size)
            have hbk := fun k hk => (HDA.out.bk.lt k hk).2
            have HDA := Lib.hid (HDA.out.below hB4)
            have hs4 := hB4.size
            clear hSS hB4
            have hSS : w4.cell? ⟨LB, 0, none⟩ = some (.pointer (some ⟨c, 0, none⟩)) ∧ w4.cell? ⟨LB, 1, none⟩ = some (.slice (some ⟨g, 0, none⟩) 256 n) ∧ w4.cell? ⟨LB, 2, none⟩ = some (.bool (d).off) ∧ w4.cell? ⟨LB, 3, none⟩ = some (.int .i64 (fuZ d)) ∧ w4.cell? ⟨LB, 4, none⟩ = some (.int .i64 ((d).writes : Nat)) := HDA.out.all
            refine ⟨fun _ => hSS, ?_⟩
            try simp only [List.setIfInBounds_toArray, List.set_cons_zero, List.set_cons_succ, List.getElem_toArray, List.getElem_cons_zero, List.getElem_cons_succ]
            refine wpAnyE_one (i := 11) (by kernel_rfl) rfl ?_
            change wpList _ _ (Exit.then _ _) [_] _ _
            try simp only [List.setIfInBounds_toArray, List.set_cons_zero, List.set_cons_succ, List.getElem_toArray, List.getElem_cons_zero, List.getElem_cons_succ]
            go_wp2_with (go_at_call 12; refine (refCopy_any g n d _ HDA.out.x.rk.bytes HDA.out.x.rk.len).mono ?_; rintro e w5 ⟨v5, rfl, ⟨g2, n2, rest2, rfl, hn2, hg2, hcs2, hcl2⟩, hB5⟩; rw [show rkV g2 n2 d = .agg #[.slice (some ⟨g2, 0, none⟩) 256 n2, .bool (d).off, .int .i64 (fuZ d), .int .i64 ((d).writes : Nat)] from rfl])
            have hc4 := hD4.lt
            have HDA := Lib.hid (HDA.out.below hB5)
            have HD5 := Lib.hid (hD4.below hB5)
            have HG5 := Lib.hid hcs2
            have HFR : Hid ((c2 ≠ LB ∧ c2 ≠ c ∧ c2 ≠ g) ∧ (g2 ≠ LB ∧ g2 ≠ c ∧ g2 ≠ g) ∧ c2 ≠ g2) := by
              obtain ⟨h1, h2, h3⟩ := hlt
              exact ⟨by omega, by omega, by omega⟩
            have HSP : Hid (c2 ∉ bkB K vb vw L ∧ g2 ∉ bkB K vb vw L) := ⟨fun hm => by have := hbk c2 hm; omega, fun hm => by have := hbk g2 hm; omega⟩
            have HGE : Hid (w.heap.size ≤ c2 ∧ w.heap.size ≤ g2) := by
              obtain ⟨h1, h2, h3⟩ := hlt
              exact ⟨by omega, by omega⟩
            clear hSS hB5 hcs2 hcl2 hD4 hlt hbk hs4 hc2 hg2 hc4
            have hSS : w5.cell? ⟨LB, 0, none⟩ = some (.pointer (some ⟨c, 0, none⟩)) ∧ w5.cell? ⟨LB, 1, none⟩ = some (.slice (some ⟨g, 0, none⟩) 256 n) ∧ w5.cell? ⟨LB, 2, none⟩ = some (.bool (d).off) ∧ w5.cell? ⟨LB, 3, none⟩ = some (.int .i64 (fuZ d)) ∧ w5.cell? ⟨LB, 4, none⟩ = some (.int .i64 ((d).writes : Nat)) := HDA.out.all
            refine ⟨fun _ => hSS, ?_⟩
            try simp only [List.setIfInBounds_toArray, List.set_cons_zero, List.set_cons_succ, List.getElem_toArray, List.getElem_cons_zero, List.getElem_cons_succ]
            refine wpAnyE_take (i := 13) (v := ?_) rfl (by kernel_rfl) (by kernel_rfl) (by kernel_rfl) (by kernel_rfl) (fun _ _ _ h => h) (Or.inl ⟨by rfl, ?_⟩) hSS ?_
            rotate_left
            · intro w hSw
              obtain ⟨j0, j1, j2, j3, j4⟩ := hSw
              go_simp
              all_goals with_reducible rfl
            simp only [Act.put, List.setIfInBounds_toArray, List.set_cons_zero, List.set_cons_succ, List.getElem_toArray, List.getElem_cons_zero, List.getElem_cons_succ]
            refine wpAnyE_take (i := 14) (v := ?_) rfl (by kernel_rfl) (by kernel_rfl) (by kernel_rfl) (by kernel_rfl) (fun _ _ _ h => h) (Or.inl ⟨by rfl, ?_⟩) hSS ?_
            rotate_left
            · intro w hSw
              obtain ⟨j0, j1, j2, j3, j4⟩ := hSw
              go_simp
              all_goals with_reducible rfl
            simp only [Act.put, List.setIfInBounds_toArray, List.set_cons_zero, List.set_cons_succ, List.getElem_toArray, List.getElem_cons_zero, List.getElem_cons_succ]
            obtain ⟨csB, tB, hbB⟩ := HDA.out.y.rk.blk
            have k0 : w5.cell? ⟨LB, 6, none⟩ = _ := HDA.out.y.p
            have k1 : w5.cell? ⟨LB, 7, none⟩ = _ := HDA.out.y.rk.cells.1
            have k2 : w5.cell? ⟨LB, 8, none⟩ = _ := HDA.out.y.rk.cells.2.1
            have k3 : w5.cell? ⟨LB, 9, none⟩ = _ := HDA.out.y.rk.cells.2.2.1
            have k4 : w5.cell? ⟨LB, 10, none⟩ = _ := HDA.out.y.rk.cells.2.2.2
            have k5 : w5.cell? ⟨LB, 11, none⟩ = _ := HDA.out.y.b
            have f0 := blk_free hbB 6
            have f1 := blk_free hbB 7
            have f2 := blk_free hbB 8
            have f3 := blk_free hbB 9
            have f4 := blk_free hbB 10
            have f5 := blk_free hbB 11
            clear hSS hbB
            refine wpAnyE_one (i := 15) (by kernel_rfl) rfl ?_
            change wpList _ _ (Exit.then _ _) [_] _ _
            try simp only [List.setIfInBounds_toArray, List.set_cons_zero, List.set_cons_succ, List.getElem_toArray, List.getElem_cons_zero, List.getElem_cons_succ]
            go_wp2_with fail
            generalize hW6 : World.setCell (World.setCell (World.setCell (World.setCell (World.setCell (World.setCell _ _ _) _ _) _ _) _ _) _ _) _ _ = W6
            have h6 : put6 w5 LB 6 (.pointer (some ⟨c2, 0, none⟩)) (.slice (some ⟨g2, 0, none⟩) 256 n2) (.bool (d).off) (.int .i64 (fuZ d)) (.int .i64 ((d).writes : Nat)) (.pointer (some ⟨K, 0, none⟩)) = W6 := hW6
            have hD6 := HDA.out.twin HD5.out HG5.out hn2 HFR.out HSP.out HGE.out
            rw [h6] at hD6
            have HD6 := Lib.hid hD6
            clear hW6 h6 hD6 k0 k1 k2 k3 k4 k5 f0 f1 f2 f3 f4 f5 HD5 HG5 hn2 HFR HSP HGE
            first | refine ⟨fun h => absurd h (by decide), ?_⟩ | refine ⟨trivial, ?_⟩ | skip
            try simp only [List.setIfInBounds_toArray, List.set_cons_zero, List.set_cons_succ, List.getElem_toArray, List.getElem_cons_zero, List.getElem_cons_succ]
            refine wpAnyE_end (by kernel_rfl) ?_
            go_wp2_with fail
            have HE := HD6
            skip
            go_roundw
            case rel => exact ⟨k + 1, _, _, _, _, _, _, _, _, _, _, _, by go_num, by omega, HE.out, HI.out.up, HI.out.up⟩
            case measure => simp [intOf]; omega
          · have e6 : (kk == 6) = false := by simpa using hkk
            go_wp2_with fail
            refine wp_region_early (fun w' => w'.cell? ⟨q, 0, none⟩ = some (.int .i64 kk) ∧ w'.cell? ⟨q, 1, none⟩ = some (.int .i64 who) ∧ w'.cell? ⟨q, 2, none⟩ = some (.int .i64 a) ∧ w'.cell? ⟨q, 3, none⟩ = some (.slice av ld.length cv)) (fun k => k == 3 || k == 4) (by kernel_rfl) ?_
            simp only [List.size_toArray, List.length_cons, List.length_nil, Nat.reduceAdd, Array.replicate_succ, Array.replicate_zero, List.push_toArray, List.nil_append, List.cons_append]
            have HDA := Lib.hid (HDP.out).drew
            have hSS := (blk4' (blk_below' ((Below.refl W1.heap.size W1).drew) HQ.out)).1
            clear q0 q1 q2 q3
            generalize World.drew W1 = W3 at *
            refine wpAnyE_take (i := 0) (v := ?_) rfl (by kernel_rfl) (by kernel_rfl) (by kernel_rfl) (by kernel_rfl) (fun _ _ _ h => h) (Or.inl ⟨by rfl, ?_⟩) hSS ?_
            rotate_left
            · intro w hSw
              obtain ⟨j0, j1, j2, j3⟩ := hSw
              go_simp
              all_goals with_reducible rfl
            simp only [Act.put, List.setIfInBounds_toArray, List.set_cons_zero, List.set_cons_succ, List.getElem_toArray, List.getElem_cons_zero, List.getElem_cons_succ]
            refine wpAnyE_take (i := 1) (v := ?_) rfl (by kernel_rfl) (by kernel_rfl) (by kernel_rfl) (by kernel_rfl) (fun _ _ _ h => h) (Or.inl ⟨by rfl, ?_⟩) hSS ?_
            rotate_left
            · intro w hSw
              obtain ⟨j0, j1, j2, j3⟩ := hSw
              go_simp
              all_goals with_reducible rfl
            simp only [Act.put, List.setIfInBounds_toArray, List.set_cons_zero, List.set_cons_succ, List.getElem_toArray, List.getElem_cons_zero, List.getElem_cons_succ]
            refine wpAnyE_take (i := 2) (v := ?_) rfl (by kernel_rfl) (by kernel_rfl) (by kernel_rfl) (by kernel_rfl) (fun _ _ _ h => h) (Or.inl ⟨by rfl, ?_⟩) hSS ?_
            rotate_left
            · intro w hSw
              obtain ⟨j0, j1, j2, j3⟩ := hSw
              go_simp
              all_goals with_reducible rfl
            simp only [Act.put, List.setIfInBounds_toArray, List.set_cons_zero, List.set_cons_succ, List.getElem_toArray, List.getElem_cons_zero, List.getElem_cons_succ]
            refine wpAnyE_one (i := 3) (by kernel_rfl) rfl ?_
            change wpList _ _ (Exit.then _ _) [_] _ _
            try simp only [List.setIfInBounds_toArray, List.set_cons_zero, List.set_cons_succ, List.getElem_toArray, List.getElem_cons_zero, List.getElem_cons_succ]
            go_wp2_with (go_at_call 13; refine (step_any _ _ _ _ _ _ _ _ _ _ _ _ _ _ _ _ kk who a av cv ld k _ HDA.out HIA.out (by omega) HA.out (by omega) HR.out).mono ?_; rintro e w4 ⟨rfl, vb2, vw2, L2, d2, hD2, hI2⟩)
            clear hSS
            first | refine ⟨fun h => absurd h (by decide), ?_⟩ | refine ⟨trivial, ?_⟩ | skip
            try simp only [List.setIfInBounds_toArray, List.set_cons_zero, List.set_cons_succ, List.getElem_toArray, List.getElem_cons_zero, List.getElem_cons_succ]
            refine wpAnyE_one (i := 4) (by kernel_rfl) rfl ?_
            change wpList _ _ (Exit.then _ _) [_] _ _
            try simp only [List.setIfInBounds_toArray, List.set_cons_zero, List.set_cons_succ, List.getElem_toArray, List.getElem_cons_zero, List.getElem_cons_succ]
            go_wp2_with fail
            first | refine ⟨fun h => absurd h (by decide), ?_⟩ | refine ⟨trivial, ?_⟩ | skip
            try simp only [List.setIfInBounds_toArray, List.set_cons_zero, List.set_cons_succ, List.getElem_toArray, List.getElem_cons_zero, List.getElem_cons_succ]
            refine wpAnyE_end (by kernel_rfl) ?_
            have HD2 := Lib.hid hD2
            have HI2 := Lib.hid hI2
            clear hD2 hI2
            go_wp2_with fail
            have HE := HD2
            skip
            go_roundw
            case rel => exact ⟨k + 1, _, _, _, _, _, _, _, _, _, _, _, by go_num, by omega, HE.out, HI2.out, HI'.out.up⟩
            case measure => simp [intOf]; omega
        · skip
          have HIA := HI'
          by_cases hkk : kk = 6
          · subst hkk
            have HDA := Lib.hid (HDP.out.swap)
            go_upto_region 23 with fail
            clear q0 q1 q2 q3
            have wr0 : IntKind.i64.wrap 0 = 0 := by decide
            have wr1 : IntKind.i64.wrap 1 = 1 := by decide
            refine wp_region_early (fun w' => w'.cell? ⟨LB, 6, none⟩ = some (.pointer (some ⟨c', 0, none⟩)) ∧ w'.cell? ⟨LB, 7, none⟩ = some (.slice (some ⟨g', 0, none⟩) 256 n') ∧ w'.cell? ⟨LB, 8, none⟩ = some (.bool (d').off) ∧ w'.cell? ⟨LB, 9, none⟩ = some (.int .i64 (fuZ d')) ∧ w'.cell? ⟨LB, 10, none⟩ = some (.int .i64 ((d').writes : Nat))) (fun k => k == 15) (by kernel_rfl) ?_
            simp only [List.size_toArray, List.length_cons, List.length_nil, Nat.reduceAdd, Array.replicate_succ, Array.replicate_zero, List.push_toArray, List.nil_append, List.cons_append]
            have HDA := Lib.hid HDA.out.drew
            generalize World.drew W1 = W3 at *
            have hSS : W3.cell? ⟨LB, 6, none⟩ = some (.pointer (some ⟨c', 0, none⟩)) ∧ W3.cell? ⟨LB, 7, none⟩ = some (.slice (some ⟨g', 0, none⟩) 256 n') ∧ W3.cell? ⟨LB, 8, none⟩ = some (.bool (d').off) ∧ W3.cell? ⟨LB, 9, none⟩ = some (.int .i64 (fuZ d')) ∧ W3.cell? ⟨LB, 10, none⟩ = some (.int .i64 ((d').writes : Nat)) := HDA.out.all
            refine wpAnyE_take (i := 0) (v := ?_) rfl (by kernel_rfl) (by kernel_rfl) (by kernel_rfl) (by kernel_rfl) (fun _ _ _ h => h) (Or.inl ⟨by rfl, ?_⟩) hSS ?_
            rotate_left
            · intro w hSw
              obtain ⟨j0, j1, j2, j3, j4⟩ := hSw
              go_simp
              all_goals with_reducible rfl
            simp only [Act.put, List.setIfInBounds_toArray, List.set_cons_zero, List.set_cons_succ, List.getElem_toArray, List.getElem_cons_zero, List.getElem_cons_succ]
            refine wpAnyE_take (i := 1) (v := ?_) rfl (by kernel_rfl) (by kernel_rfl) (by kernel_rfl) (by kernel_rfl) (fun _ _ _ h => h) (Or.inl ⟨by rfl, ?_⟩) hSS ?_
            rotate_left
            · intro w hSw
              obtain ⟨j0, j1, j2, j3, j4⟩ := hSw
              go_simp
              all_goals with_reducible rfl
            simp only [Act.put, List.setIfInBounds_toArray, List.set_cons_zero, List.set_cons_succ, List.getElem_toArray, List.getElem_cons_zero, List.getElem_cons_succ]
            refine wpAnyE_take (i := 2) (v := ?_) rfl (by kernel_rfl) (by kernel_rfl) (by kernel_rfl) (by kernel_rfl) (fun _ _ _ h => h) (Or.inl ⟨by rfl, ?_⟩) hSS ?_
            rotate_left
            · intro w hSw
              obtain ⟨j0, j1, j2, j3, j4⟩ := hSw
              go_simp
              all_goals with_reducible rfl
            simp only [Act.put, List.setIfInBounds_toArray, List.set_cons_zero, List.set_cons_succ, List.getElem_toArray, List.getElem_cons_zero, List.getElem_cons_succ]
            refine wpAnyE_take (i := 3) (v := ?_) rfl (by kernel_rfl) (by kernel_rfl) (by kernel_rfl) (by kernel_rfl) (fun _ _ _ h => h) (Or.inl ⟨by rfl, ?_⟩) hSS ?_
            rotate_left
            · intro w hSw
              obtain ⟨j0, j1, j2, j3, j4⟩ := hSw
              go_simp
              all_goals with_reducible rfl
            simp only [Act.put, List.setIfInBounds_toArray, List.set_cons_zero, List.set_cons_succ, List.getElem_toArray, List.getElem_cons_zero, List.getElem_cons_succ]
            refine wpAnyE_take (i := 4) (v := ?_) rfl (by kernel_rfl) (by kernel_rfl) (by kernel_rfl) (by kernel_rfl) (fun _ _ _ h => h) (Or.inl ⟨by rfl, ?_⟩) hSS ?_
            rotate_left
            · intro w hSw
              obtain ⟨j0, j1, j2, j3, j4⟩ := hSw
              go_simp
              all_goals with_reducible rfl
            simp only [Act.put, List.setIfInBounds_toArray, List.set_cons_zero, List.set_cons_succ, List.getElem_toArray, List.getElem_cons_zero, List.getElem_cons_succ]
            refine wpAnyE_take (i := 5) (v := ?_) rfl (by kernel_rfl) (by kernel_rfl) (by kernel_rfl) (by kernel_rfl) (fun _ _ _ h => h) (Or.inl ⟨by rfl, ?_⟩) hSS ?_
            rotate_left
            · intro w hSw
              obtain ⟨j0, j1, j2, j3, j4⟩ := hSw
              go_simp
              all_goals with_reducible rfl
            simp only [Act.put, List.setIfInBounds_toArray, List.set_cons_zero, List.set_cons_succ, List.getElem_toArray, List.getElem_cons_zero, List.getElem_cons_succ]
            refine wpAnyE_take (i := 7) (v := ?_) rfl (by kernel_rfl) (by kernel_rfl) (by kernel_rfl) (by kernel_rfl) (fun _ _ _ h => h) (Or.inl ⟨by rfl, ?_⟩) hSS ?_
            rotate_left
            · intro w hSw
              obtain ⟨j0, j1, j2, j3, j4⟩ := hSw
              go_simp
              all_goals with_reducible rfl
            simp only [Act.put, List.setIfInBounds_toArray, List.set_cons_zero, List.set_cons_succ, List.getElem_toArray, List.getElem_cons_zero, List.getElem_cons_succ]
            refine wpAnyE_take (i := 8) (v := ?_) rfl (by kernel_rfl) (by kernel_rfl) (by kernel_rfl) (by kernel_rfl) (fun _ _ _ h => h) (Or.inl ⟨by rfl, ?_⟩) hSS ?_
            rotate_left
            · intro w hSw
              obtain ⟨j0, j1, j2, j3, j4⟩ := hSw
              go_simp
              all_goals with_reducible rfl
            simp only [Act.put, List.setIfInBounds_toArray, List.set_cons_zero, List.set_cons_succ, List.getElem_toArray, List.getElem_cons_zero, List.getElem_cons_succ]
            refine wpAnyE_take (i := 9) (v := ?_) rfl (by kernel_rfl) (by kernel_rfl) (by kernel_rfl) (by kernel_rfl) (fun _ _ _ h => h) (Or.inl ⟨by rfl, ?_⟩) hSS ?_
            rotate_left
            · intro w hSw
              obtain ⟨j0, j1, j2, j3, j4⟩ := hSw
              go_simp
              all_goals with_reducible rfl
            simp only [Act.put, List.setIfInBounds_toArray, List.set_cons_zero, List.set_cons_succ, List.getElem_toArray, List.getElem_cons_zero, List.getElem_cons_succ]
            refine wpAnyE_take (i := 10) (v := ?_) rfl (by kernel_rfl) (by kernel_rfl) (by kernel_rfl) (by kernel_rfl) (fun _ _ _ h => h) (Or.inl ⟨by rfl, ?_⟩) hSS ?_
            rotate_left
            · intro w hSw
              obtain ⟨j0, j1, j2, j3, j4⟩ := hSw
              go_simp
              all_goals with_reducible rfl
            simp only [Act.put, List.setIfInBounds_toArray, List.set_cons_zero, List.set_cons_succ, List.getElem_toArray, List.getElem_cons_zero, List.getElem_cons_succ]
            refine wpAnyE_take (i := 12) (v := ?_) rfl (by kernel_rfl) (by kernel_rfl) (by kernel_rfl) (by kernel_rfl) (fun _ _ _ h => h) (Or.inl ⟨by rfl, ?_⟩) hSS ?_
            rotate_left
            · intro w hSw
              obtain ⟨j0, j1, j2, j3, j4⟩ := hSw
              go_simp
              all_goals with_reducible rfl
            simp only [Act.put, List.setIfInBounds_toArray, List.set_cons_zero, List.set_cons_succ, List.getElem_toArray, List.getElem_cons_zero, List.getElem_cons_succ]
            refine wpAnyE_one (i := 6) (by kernel_rfl) rfl ?_
            change wpList _ _ (Exit.then _ _) [_] _ _
            try simp only [List.setIfInBounds_toArray, List.set_cons_zero, List.set_cons_succ, List.getElem_toArray, List.getElem_cons_zero, List.getElem_cons_succ]
            go_wp2_with (go_at_call 11; refine (twin_any c' d' _ HDA.out.x.disk).mono ?_; rintro e w4 ⟨c2, rfl, hc2, hD4, hB4⟩)
            have hlt := And.intro HDA.out.x.lt (And.intro HDA.out.y.lt HDA.out.low.size)
            have hbk := fun k hk => (HDA.out.bk.lt k hk).2
            have HDA := Lib.hid (HDA.out.below hB4)
            have hs4 := hB4.size
            clear hSS hB4
            have hSS : w4.cell? ⟨LB, 6, none⟩ = some (.pointer (some ⟨c', 0, none⟩)) ∧ w4.cell? ⟨LB, 7, none⟩ = some (.slice (some ⟨g', 0, none⟩) 256 n') ∧ w4.cell? ⟨LB, 8, none⟩ = some (.bool (d').off) ∧ w4.cell? ⟨LB, 9, none⟩ = some (.int .i64 (fuZ d')) ∧ w4.cell? ⟨LB, 10, none⟩ = some (.int .i64 ((d').writes : Nat)) := HDA.out.all
            refine ⟨fun _ => hSS, ?_⟩
            try simp only [List.setIfInBounds_toArray, List.set_cons_zero, List.set_cons_succ, List.getElem_toArray, List.getElem_cons_zero, List.getElem_cons_succ]
            refine wpAnyE_one (i := 11) (by kernel_rfl) rfl ?_
            change wpList _ _ (Exit.then _ _) [_] _ _
            try simp only [List.setIfInBounds_toArray, List.set_cons_zero, List.set_cons_succ, List.getElem_toArray, List.getElem_cons_zero, List.getElem_cons_succ]
            go_wp2_with (go_at_call 12; refine (refCopy_any g' n' d' _ HDA.out.x.rk.bytes HDA.out.x.rk.len).mono ?_; rintro e w5 ⟨v5, rfl, ⟨g2, n2, rest2, rfl, hn2, hg2, hcs2, hcl2⟩, hB5⟩; rw [show rkV g2 n2 d' = .agg #[.slice (some ⟨g2, 0, none⟩) 256 n2, .bool (d').off, .int .i64 (fuZ d'), .int .i64 ((d').writes : Nat)] from rfl])
            have hc4 := hD4.lt
            have HDA := Lib.hid (HDA.out.below hB5)
            have HD5 := Lib.hid (hD4.below hB5)
            have HG5 := Lib.hid hcs2
            have HFR : Hid ((c2 ≠ LB ∧ c2 ≠ c' ∧ c2 ≠ g') ∧ (g2 ≠ LB ∧ g2 ≠ c' ∧ g2 ≠ g') ∧ c2 ≠ g2) := by
              obtain ⟨h1, h2, h3⟩ := hlt
              exact ⟨by omega, by omega, by omega⟩
            have HSP : Hid (c2 ∉ bkB K vb vw L ∧ g2 ∉ bkB K vb vw L) := ⟨fun hm => by have := hbk c2 hm; omega, fun hm => by have := hbk g2 hm; omega⟩
            have HGE : Hid (w.heap.size ≤ c2 ∧ w.heap.size ≤ g2) := by
              obtain ⟨h1, h2, h3⟩ := hlt
              exact ⟨by omega, by omega⟩
            clear hSS hB5 hcs2 hcl2 hD4 hlt hbk hs4 hc2 hg2 hc4
            have hSS : w5.cell? ⟨LB, 6, none⟩ = some (.pointer (some ⟨c', 0, none⟩)) ∧ w5.cell? ⟨LB, 7, none⟩ = some (.slice (some ⟨g', 0, none⟩) 256 n') ∧ w5.cell? ⟨LB, 8, none⟩ = some (.bool (d').off) ∧ w5.cell? ⟨LB, 9, none⟩ = some (.int .i64 (fuZ d')) ∧ w5.cell? ⟨LB, 10, none⟩ = some (.int .i64 ((d').writes : Nat)) := HDA.out.all
            refine ⟨fun _ => hSS, ?_⟩
            try simp only [List.setIfInBounds_toArray, List.set_cons_zero, List.set_cons_succ, List.getElem_toArray, List.getElem_cons_zero, List.getElem_cons_succ]
            refine wpAnyE_take (i := 13) (v := ?_) rfl (by kernel_rfl) (by kernel_rfl) (by kernel_rfl) (by kernel_rfl) (fun _ _ _ h => h) (Or.inl ⟨by rfl, ?_⟩) hSS ?_
            rotate_left
            · intro w hSw
              obtain ⟨j0, j1, j2, j3, j4⟩ := hSw
              go_simp
              all_goals with_reducible rfl
            simp only [Act.put, List.setIfInBounds_toArray, List.set_cons_zero, List.set_cons_succ, List.getElem_toArray, List.getElem_cons_zero, List.getElem_cons_succ]
            refine wpAnyE_take (i := 14) (v := ?_) rfl (by kernel_rfl) (by kernel_rfl) (by kernel_rfl) (by kernel_rfl) (fun _ _ _ h => h) (Or.inl ⟨by rfl, ?_⟩) hSS ?_
            rotate_left
            · intro w hSw
              obtain ⟨j0, j1, j2, j3, j4⟩ := hSw
              go_simp
              all_goals with_reducible rfl
            simp only [Act.put, List.setIfInBounds_toArray, List.set_cons_zero, List.set_cons_succ, List.getElem_toArray, List.getElem_cons_zero, List.getElem_cons_succ]
            obtain ⟨csB, tB, hbB⟩ := HDA.out.y.rk.blk
            have k0 : w5.cell? ⟨LB, 0, none⟩ = _ := HDA.out.y.p
            have k1 : w5.cell? ⟨LB, 1, none⟩ = _ := HDA.out.y.rk.cells.1
            have k2 : w5.cell? ⟨LB, 2, none⟩ = _ := HDA.out.y.rk.cells.2.1
            have k3 : w5.cell? ⟨LB, 3, none⟩ = _ := HDA.out.y.rk.cells.2.2.1
            have k4 : w5.cell? ⟨LB, 4, none⟩ = _ := HDA.out.y.rk.cells.2.2.2
            have k5 : w5.cell? ⟨LB, 5, none⟩ = _ := HDA.out.y.b
            have f0 := blk_free hbB 0
            have f1 := blk_free hbB 1
            have f2 := blk_free hbB 2
            have f3 := blk_free hbB 3
            have f4 := blk_free hbB 4
            have f5 := blk_free hbB 5
            clear hSS hbB
            refine wpAnyE_one (i := 15) (by kernel_rfl) rfl ?_
            change wpList _ _ (Exit.then _ _) [_] _ _
            try simp only [List.setIfInBounds_toArray, List.set_cons_zero, List.set_cons_succ, List.getElem_toArray, List.getElem_cons_zero, List.getElem_cons_succ]
            go_wp2_with fail
            generalize hW6 : World.setCell (World.setCell (World.setCell (World.setCell (World.setCell (World.setCell _ _ _) _ _) _ _) _ _) _ _) _ _ = W6
            have h6 : put6 w5 LB 0 (.pointer (some ⟨c2, 0, none⟩)) (.slice (some ⟨g2, 0, none⟩) 256 n2) (.bool (d').off) (.int .i64 (fuZ d')) (.int .i64 ((d').writes : Nat)) (.pointer (some ⟨K, 0, none⟩)) = W6 := hW6
            have hD6 := HDA.out.twin HD5.out HG5.out hn2 HFR.out HSP.out HGE.out
            rw [h6] at hD6
            have HD6 := Lib.hid hD6
            clear hW6 h6 hD6 k0 k1 k2 k3 k4 k5 f0 f1 f2 f3 f4 f5 HD5 HG5 hn2 HFR HSP HGE
            first | refine ⟨fun h => absurd h (by decide), ?_⟩ | refine ⟨trivial, ?_⟩ | skip
            try simp only [List.setIfInBounds_toArray, List.set_cons_zero, List.set_cons_succ, List.getElem_toArray, List.getElem_cons_zero, List.getElem_cons_succ]
            refine wpAnyE_end (by kernel_rfl) ?_
            go_wp2_with fail
            have HE := Lib.hid HD6.out.swap
            skip
            go_roundw
            case rel => exact ⟨k + 1, _, _, _, _, _, _, _, _, _, _, _, by go_num, by omega, HE.out, HI'.out.up, HI'.out.up⟩
            case measure => simp [intOf]; omega
          · have e6 : (kk == 6) = false := by simpa using hkk
            go_wp2_with fail
            refine wp_region_early (fun w' => w'.cell? ⟨q, 0, none⟩ = some (.int .i64 kk) ∧ w'.cell? ⟨q, 1, none⟩ = some (.int .i64 who) ∧ w'.cell? ⟨q, 2, none⟩ = some (.int .i64 a) ∧ w'.cell? ⟨q, 3, none⟩ = some (.slice av ld.length cv)) (fun k => k == 3 || k == 4) (by kernel_rfl) ?_
            simp only [List.size_toArray, List.length_cons, List.length_nil, Nat.reduceAdd, Array.replicate_succ, Array.replicate_zero, List.push_toArray, List.nil_append, List.cons_append]
            have HDA := Lib.hid (HDP.out.swap).drew
            have hSS := (blk4' (blk_below' ((Below.refl W1.heap.size W1).drew) HQ.out)).1
            clear q0 q1 q2 q3
            generalize World.drew W1 = W3 at *
            refine wpAnyE_take (i := 0) (v := ?_) rfl (by kernel_rfl) (by kernel_rfl) (by kernel_rfl) (by kernel_rfl) (fun _ _ _ h => h) (Or.inl ⟨by rfl, ?_⟩) hSS ?_
            rotate_left
            · intro w hSw
              obtain ⟨j0, j1, j2, j3⟩ := hSw
              go_simp
              all_goals with_reducible rfl
            simp only [Act.put, List.setIfInBounds_toArray, List.set_cons_zero, List.set_cons_succ, List.getElem_toArray, List.getElem_cons_zero, List.getElem_cons_succ]
            refine wpAnyE_take (i := 1) (v := ?_) rfl (by kernel_rfl) (by kernel_rfl) (by kernel_rfl) (by kernel_rfl) (fun _ _ _ h => h) (Or.inl ⟨by rfl, ?_⟩) hSS ?_
            rotate_left
            · intro w hSw
              obtain ⟨j0, j1, j2, j3⟩ := hSw
              go_simp
              all_goals with_reducible rfl
            simp only [Act.put, List.setIfInBounds_toArray, List.set_cons_zero, List.set_cons_succ, List.getElem_toArray, List.getElem_cons_zero, List.getElem_cons_succ]
            refine wpAnyE_take (i := 2) (v := ?_) rfl (by kernel_rfl) (by kernel_rfl) (by kernel_rfl) (by kernel_rfl) (fun _ _ _ h => h) (Or.inl ⟨by rfl, ?_⟩) hSS ?_
            rotate_left
            · intro w hSw
              obtain ⟨j0, j1, j2, j3⟩ := hSw
              go_simp
              all_goals with_reducible rfl
            simp only [Act.put, List.setIfInBounds_toArray, List.set_cons_zero, List.set_cons_succ, List.getElem_toArray, List.getElem_cons_zero, List.getElem_cons_succ]
            refine wpAnyE_one (i := 3) (by kernel_rfl) rfl ?_
            change wpList _ _ (Exit.then _ _) [_] _ _
            try simp only [List.setIfInBounds_toArray, List.set_cons_zero, List.set_cons_succ, List.getElem_toArray, List.getElem_cons_zero, List.getElem_cons_succ]
            go_wp2_with (go_at_call 13; refine (step_any _ _ _ _ _ _ _ _ _ _ _ _ _ _ _ _ kk who a av cv ld k _ HDA.out HIA.out (by omega) HA.out (by omega) HR.out).mono ?_; rintro e w4 ⟨rfl, vb2, vw2, L2, d2, hD2, hI2⟩)
            clear hSS
            first | refine ⟨fun h => absurd h (by decide), ?_⟩ | refine ⟨trivial, ?_⟩ | skip
            try simp only [List.setIfInBounds_toArray, List.set_cons_zero, List.set_cons_succ, List.getElem_toArray, List.getElem_cons_zero, List.getElem_cons_succ]
            refine wpAnyE_one (i := 4) (by kernel_rfl) rfl ?_
            change wpList _ _ (Exit.then _ _) [_] _ _
            try simp only [List.setIfInBounds_toArray, List.set_cons_zero, List.set_cons_succ, List.getElem_toArray, List.getElem_cons_zero, List.getElem_cons_succ]
            go_wp2_with fail
            first | refine ⟨fun h => absurd h (by decide), ?_⟩ | refine ⟨trivial, ?_⟩ | skip
            try simp only [List.setIfInBounds_toArray, List.set_cons_zero, List.set_cons_succ, List.getElem_toArray, List.getElem_cons_zero, List.getElem_cons_succ]
            refine wpAnyE_end (by kernel_rfl) ?_
            have HD2 := Lib.hid hD2
            have HI2 := Lib.hid hI2
            clear hD2 hI2
            go_wp2_with fail
            have HE := Lib.hid HD2.out.swap
            skip
            go_roundw
            case rel => exact ⟨k + 1, _, _, _, _, _, _, _, _, _, _, _, by go_num, by omega, HE.out, HI.out.up, HI2.out⟩
            case measure => simp [intOf]; omega
    · obtain rfl : k = xs.length := by omega
      have b4 : ¬ ((xs.length : Nat) : Int) < ((xs.length : Nat) : Int) := by omega
      go_wp2_with fail
      refine (looks_any _ _ _ _ _ _ _ _ _ _ _ _ _ _ _ _ _ HDP.out).mono ?_
      rintro e w2 ⟨rfl, vb2, vw2, L2, hD2⟩
      have HD2 := Lib.hid hD2.swap
      clear hD2 HDP
      go_wp2_with fail
      refine (looks_any _ _ _ _ _ _ _ _ _ _ _ _ _ _ _ _ _ HD2.out).mono ?_
      rintro e w3 ⟨rfl, vb3, vw3, L3, hD3⟩
      have HD3 := Lib.hid hD3
      clear hD3 HD2
      go_wp2_with fail
      go_ret
      exact ⟨rfl, HD3.out.low⟩
end Go.Proofs.Ytpfiaepoibablaa
namespace Go.Proofs.Ytpfiaepoibablaa
set_option linter.unusedVariables false
set_option linter.unusedSimpArgs false
open Go.RowKit

set_option maxRecDepth 100000 in
set_option maxHeartbeats 4000000 in
theorem play_short_t (w : World) (a0 a1 : Option Addr) (c0 c1 : Nat) (im0 : List Nat) (hlm : im0.length ≤ 1000) (hl : im0.length ≠ 256) (xs : List (List Value)) (hxs : xs.length ≤ 150)
    (hx : ∀ i x, xs[i]? = some x → ShL w [.int .i64, .int .i64, .int .i64, .ints .u8] x ∧ ∃ g o, a1 = some ⟨g, o, none⟩ ∧ g < w.heap.size ∧ ∀ j y, x[j]? = some y → w.cell? ⟨g, o + i * 4 + j, none⟩ = some y) :
    Calls Try.prog 5 #[.slice a0 im0.length c0, .slice a1 xs.length c1, .bool true] w fun e w' => e = .returned (.bool true) ∧ Below w.heap.size w w' := by
  have HX := Lib.hid hx
  obtain ⟨nn, hnn⟩ : ∃ nn, im0.length = nn := ⟨_, rfl⟩
  rw [hnn] at hlm hl ⊢
  have b0 : ¬ (150 : Int) < (xs.length : Int) := by omega
  have b1 : ¬ (1000 : Int) < (nn : Int) := by omega
  clear hx hnn
  have HS := Lib.hid (fun w => of_short a0 nn c0 w hl)
  have HS2 := Lib.hid (fun w => refOf_short a0 nn c0 w hl)
  clear hl
  go_enter Try.func5, Try.ntmps5
  go_upto_region 5 with (go_at_call 6; refine (alive_any _).mono ?_; rintro e w9 ⟨rfl, hB9⟩)
  go_upto_region 7 with fail
  have hK0 := blk_old (blk_new w9 (.cells (bookC (.slice none 0 0) (.slice none 0 0)) 41)) (.cells zero12 47)
  have hL0 := blk_new (w9.alloc (.cells (bookC (.slice none 0 0) (.slice none 0 0)) 41)) (.cells zero12 47)
  have hB0 := (hB9.alloc hB9.size (.cells (bookC (.slice none 0 0) (.slice none 0 0)) 41)).alloc (by have := hB9.size; simp; omega) (.cells zero12 47)
  rw [show (w9.alloc (.cells (bookC (.slice none 0 0) (.slice none 0 0)) 41)).heap.size = w9.heap.size + 1 by simp] at hL0
  have hsz := hB9.size
  clear hB9
  generalize hW2 : World.alloc (World.alloc w9 _) _ = W2
  rw [show (w9.alloc (.cells (bookC (.slice none 0 0) (.slice none 0 0)) 41)).alloc (.cells zero12 47) = W2 from hW2] at hK0 hL0 hB0
  clear hW2
  obtain ⟨K, hK⟩ : ∃ K, w9.heap.size = K := ⟨_, rfl⟩
  obtain ⟨LB, hLB⟩ : ∃ LB, K + 1 = LB := ⟨_, rfl⟩
  rw [hK] at hK0 hL0 hsz ⊢
  rw [hLB] at hL0 ⊢
  have HK := Lib.hid hK0
  have HLB := Lib.hid hL0
  have HB := Lib.hid hB0
  have HKL : Hid (w.heap.size ≤ K ∧ K < LB) := ⟨hsz, by omega⟩
  clear hK hLB hK0 hL0 hB0 hsz
  go_upto_region 8 with (go_at_call 7; refine (HS.out _).mono ?_; rintro e w3 ⟨rfl, hB3⟩)
  have hK := blk_below' hB3 HK.out
  have hLB := blk_below' hB3 HLB.out
  have hB := below_then HB.out hB3
  go_wp2_with fail
  refine (HS2.out _).mono ?_
  rintro e w4 ⟨rfl, hB4⟩
  unfold rkZero
  have hK := blk_below' hB4 hK
  have hLB := blk_below' hB4 hLB
  have hB := below_then hB hB4
  obtain ⟨W5, hW5⟩ : ∃ W5, w4.alloc (.cells #[.slice none 0 0, .bool false, .int .i64 0, .int .i64 0] 44) = W5 := ⟨_, rfl⟩
  obtain ⟨rq, hrq⟩ : ∃ rq, w4.heap.size = rq := ⟨_, rfl⟩
  have hal := (Below.refl w4.heap.size w4).alloc (Nat.le_refl _) (.cells #[.slice none 0 0, .bool false, .int .i64 0, .int .i64 0] 44)
  have hbr := blk_new w4 (.cells #[.slice none 0 0, .bool false, .int .i64 0, .int .i64 0] 44)
  rw [hW5] at hal hbr
  rw [hrq] at hbr
  have HW5 := Lib.hid hW5
  have HRQ := Lib.hid hrq
  have hs4 := blk_lt hLB
  have HK := Lib.hid (blk_below' hal hK)
  have HLB := Lib.hid (blk_below' hal hLB)
  have HB := Lib.hid (below_then hB hal)
  have HBR := Lib.hid hbr
  have hlr : LB < rq := by omega
  clear hal hbr hW5 hrq hK hLB hB hB3 hB4 hs4
  go_upto_region 9 with fail
  rw [HW5.out, HRQ.out]
  clear HW5 HRQ
  go_upto_region 12 with fail
  go_wp2_with fail
  have hrl := blk_lt HBR.out
  have hdk : DkAt (W5.alloc (.cells zeroDk 56)) W5.heap.size Dk.new := ⟨(blk_new _ _).trans (by kernel_rfl), List.length_replicate⟩
  have hal := (Below.refl W5.heap.size W5).alloc (Nat.le_refl _) (.cells zeroDk 56)
  generalize hZ : World.alloc W5 _ = W6
  rw [show W5.alloc (.cells zeroDk 56) = W6 from hZ] at hdk hal
  obtain ⟨b, hb⟩ : ∃ b, W5.heap.size = b := ⟨_, rfl⟩
  rw [hb] at hdk hrl ⊢
  have HK := Lib.hid (blk_below' hal HK.out)
  have HLB := Lib.hid (blk_below' hal HLB.out)
  have HBR := Lib.hid (blk_below' hal HBR.out)
  have HB := Lib.hid (below_then HB.out hal)
  have hbl := hdk.lt
  clear hZ hal hb
  refine (refNew_any _).mono ?_
  rintro e w7 ⟨v7, rfl, ⟨g, n, rest, rfl, hn, hg, hcs, hcl⟩, hB7⟩
  rw [show rkV g n Dk.new = .agg #[.slice (some ⟨g, 0, none⟩) 256 n, .bool false, .int .i64 (-1), .int .i64 0] from rfl]
  have hdk := hdk.below hB7
  have HK := Lib.hid (blk_below' hB7 HK.out)
  have HLB := Lib.hid (blk_below' hB7 HLB.out)
  have HBR := Lib.hid (blk_below' hB7 HBR.out)
  have HB := Lib.hid (below_then HB.out hB7)
  obtain ⟨⟨r0, r1, r2, r3⟩, ⟨f0, f1, f2, f3⟩⟩ := blk4' HBR.out
  have hge : w.heap.size ≤ rq := by have := HKL.out; omega
  clear hB7
  go_upto_region 13 with fail
  generalize hX : World.setCell (World.setCell (World.setCell (World.setCell _ _ _) _ _) _ _) _ _ = W5
  have hbut : w7.grownBy W5 (some rq) := by rw [← hX]; exact but_set (but_set (but_set (but_set (but_refl w7 _) (blk_lt HBR.out) 0 _) (blk_lt HBR.out) 1 _) (blk_lt HBR.out) 2 _) (blk_lt HBR.out) 3 _
  have hbr : W5.heap[rq]? = some (.cells #[.slice (some ⟨g, 0, none⟩) 256 n, .bool false, .int .i64 (-1), .int .i64 0] 44 (0, 0)) := by rw [← hX]; exact blk_store (blk_store (blk_store (blk_store HBR.out 0 _) 1 _) 2 _) 3 _
  have hkl := HKL.out
  obtain ⟨D0, hD0⟩ : ∃ D0, Dk.new = D0 := ⟨_, rfl⟩
  obtain ⟨im, him⟩ : ∃ im, D0.bs = im := ⟨_, rfl⟩
  have hD0c : D0.off = false ∧ fuZ D0 = -1 ∧ D0.writes = 0 ∧ D0.bs = im ∧ DI D0 0 := by rw [← hD0] at him ⊢; exact ⟨rfl, rfl, rfl, him, Nat.le_refl _, Nat.zero_le _⟩
  have HD : Hid (DkAt W5 b D0) := by rw [← hD0]; exact ⟨blk_grown hbut hdk.1 (by simp; omega), hdk.2⟩
  have HG : Hid (W5.heap[g]? = some (.cells (bC im ++ rest).toArray 5 (0, 0))) := by rw [← him, ← hD0]; exact blk_grown hbut hcs (by simp; omega)
  have HK := Lib.hid (blk_grown hbut HK.out (by simp; omega))
  have HLB := Lib.hid (blk_grown hbut HLB.out (by simp; omega))
  have HB := Lib.hid (HB.out.grown hbut HB.out.size (fun j hj => by cases hj; omega))
  have HNE : Hid (LB < b ∧ b < g ∧ True) := ⟨by omega, by omega, trivial⟩
  have HD0 := Lib.hid hD0c
  have HBR := Lib.hid hbr
  clear hX hbut hbr hkl hD0 him hD0c hdk hcs hcl hg hbl hrl hge hlr r0 r1 r2 r3 f0 f1 f2 f3
  obtain ⟨⟨r0, r1, r2, r3⟩, ⟨f0, f1, f2, f3⟩⟩ := blk4' HBR.out
  obtain ⟨⟨⟨l0, l1, l2, l3, l4, l5⟩, l6⟩, ⟨⟨e0, e1, e2, e3, e4, e5⟩, e6⟩⟩ := blk12 (by have := HLB.out; unfold zero12 at this; exact this)
  go_upto_region 14 with fail
  generalize hW6 : World.setCell (World.setCell (World.setCell (World.setCell (World.setCell (World.setCell _ _ _) _ _) _ _) _ _) _ _) _ _ = W6
  have h6 : put6 W5 LB 0 (.pointer (some ⟨b, 0, none⟩)) (.slice (some ⟨g, 0, none⟩) 256 n) (.bool false) (.int .i64 (-1)) (.int .i64 0) (.pointer (some ⟨K, 0, none⟩)) = W6 := hW6
  have hL6 := put6_zero (.pointer (some ⟨b, 0, none⟩)) (.slice (some ⟨g, 0, none⟩) 256 n) (.bool false) (.int .i64 (-1)) (.int .i64 0) (.pointer (some ⟨K, 0, none⟩)) HLB.out
  have hbut := put6_but W5 (o := 0) (a0 := .pointer (some ⟨b, 0, none⟩)) (a1 := .slice (some ⟨g, 0, none⟩) 256 n) (a2 := .bool false) (a3 := .int .i64 (-1)) (a4 := .int .i64 0) (a5 := .pointer (some ⟨K, 0, none⟩)) (blk_lt HLB.out)
  rw [h6] at hL6 hbut
  have hne := HNE.out
  have hkl := HKL.out
  have HD := Lib.hid (show DkAt W6 b D0 from ⟨blk_grown hbut HD.out.1 (by simp; omega), HD.out.2⟩)
  have HG := Lib.hid (blk_grown hbut HG.out (by simp; omega))
  have HK := Lib.hid (blk_grown hbut HK.out (by simp; omega))
  have HB := Lib.hid (HB.out.grown hbut HB.out.size (fun j hj => by cases hj; omega))
  have hg6 := blk_lt HG.out
  have HLB := Lib.hid hL6
  clear h6 hW6 hbut hL6 l0 l1 l2 l3 l4 l5 e0 e1 e2 e3 e4 e5 r0 r1 r2 r3 f0 f1 f2 f3 HBR l6 e6
  go_wp2_with fail
  refine (new_any _).mono ?_
  rintro e w7 ⟨rfl, hD7, hB7⟩
  obtain ⟨c', hc'⟩ : ∃ c', W6.heap.size = c' := ⟨_, rfl⟩
  have HD := Lib.hid (HD.out.below hB7)
  have HG := Lib.hid (blk_below' hB7 HG.out)
  have HK := Lib.hid (blk_below' hB7 HK.out)
  have HLB := Lib.hid (blk_below' hB7 HLB.out)
  have HB := Lib.hid (below_then HB.out hB7)
  rw [hc'] at hD7 hg6
  rw [hc']
  have hc7 := hD7.lt
  clear hB7 hc'
  go_wp2_with fail
  refine (refNew_any _).mono ?_
  rintro e w8 ⟨v8, rfl, ⟨g', n', rest', rfl, hn', hg', hcs', hcl'⟩, hB8⟩
  have hv8 : rkV g' n' Dk.new = .agg #[.slice (some ⟨g', 0, none⟩) 256 n', .bool false, .int .i64 (-1), .int .i64 0] := rfl
  rw [hv8]
  have HD := Lib.hid (HD.out.below hB8)
  have HD7 := Lib.hid (hD7.below hB8)
  have HG := Lib.hid (blk_below' hB8 HG.out)
  have HG7 := Lib.hid hcs'
  have HK := Lib.hid (blk_below' hB8 HK.out)
  have HLB := Lib.hid (blk_below' hB8 HLB.out)
  have HB := Lib.hid (below_then HB.out hB8)
  clear hB8 hv8 hcs' hcl' hD7
  obtain ⟨⟨l6, ⟨l0, l1, l2, l3, l4, l5⟩⟩, ⟨e6, ⟨e0, e1, e2, e3, e4, e5⟩⟩⟩ := blk12 HLB.out
  clear l6 e6
  go_upto_region 15 with fail
  generalize hW9 : World.setCell (World.setCell (World.setCell (World.setCell (World.setCell (World.setCell _ _ _) _ _) _ _) _ _) _ _) _ _ = W9
  have h9 : put6 w8 LB 6 (.pointer (some ⟨c', 0, none⟩)) (.slice (some ⟨g', 0, none⟩) 256 n') (.bool false) (.int .i64 (-1)) (.int .i64 0) (.pointer (some ⟨K, 0, none⟩)) = W9 := hW9
  have hlast : ∃ cs : Array Value, w8.heap[LB]? = some (.cells cs 47 (0, 0)) ∧ 6 + 5 < cs.size ∧ ∀ j x, (sideC b g n K D0)[j]? = some x → cs[0 + j]? = some x := by
    refine ⟨_, HLB.out, by show 11 < 12; omega, get6 (x0 := .pointer (some ⟨b, 0, none⟩)) (x1 := .slice (some ⟨g, 0, none⟩) 256 n) (x2 := .bool false) (x3 := .int .i64 (-1)) (x4 := .int .i64 0) (x5 := .pointer (some ⟨K, 0, none⟩)) ?_ ⟨rfl, rfl, rfl, rfl, rfl, rfl⟩⟩
    unfold sideC; rw [HD0.out.1, HD0.out.2.1, HD0.out.2.2.1]; rfl
  have hLl := blk_lt HLB.out
  clear hW9 HLB l0 l1 l2 l3 l4 l5 e0 e1 e2 e3 e4 e5
  have hDP : Dp w LB K (.slice none 0 0) (.slice none 0 0) [] 0 b g n D0 D0 6 c' g' n' Dk.new W9 := by
    obtain ⟨cs, k1, k2, k3⟩ := hlast
    obtain ⟨s1, s2⟩ := set6 cs 6 (.pointer (some ⟨c', 0, none⟩)) (.slice (some ⟨g', 0, none⟩) 256 n') (.bool false) (.int .i64 (-1)) (.int .i64 0) (.pointer (some ⟨K, 0, none⟩)) k2
    have hL9 := put6_heap (o := 6) (a0 := .pointer (some ⟨c', 0, none⟩)) (a1 := .slice (some ⟨g', 0, none⟩) 256 n') (a2 := .bool false) (a3 := .int .i64 (-1)) (a4 := .int .i64 0) (a5 := .pointer (some ⟨K, 0, none⟩)) k1
    have hbut := put6_but w8 (o := 6) (a0 := .pointer (some ⟨c', 0, none⟩)) (a1 := .slice (some ⟨g', 0, none⟩) 256 n') (a2 := .bool false) (a3 := .int .i64 (-1)) (a4 := .int .i64 0) (a5 := .pointer (some ⟨K, 0, none⟩)) hLl
    rw [h9] at hL9 hbut
    refine Dp.start hL9 (fun j x hx => ?_) s1 ⟨blk_grown hbut HD.out.1 (by simp; omega), HD.out.2⟩ (rest := rest) ?_ hn ⟨blk_grown hbut HD7.out.1 (by simp; omega), HD7.out.2⟩ (blk_grown hbut HG7.out (by simp; omega)) hn' (blk_grown hbut HK.out (by simp; omega)) (HB.out.grown hbut HB.out.size (fun j hj => by cases hj; omega)) (by omega) (by omega) (by omega) hkl.1
    · have hj : j < 6 := by have := (List.getElem?_eq_some_iff.1 hx).1; simpa [sideC] using this
      rw [s2 _ (by omega)]; exact k3 j x hx
    · rw [HD0.out.2.2.2.1]; exact blk_grown hbut HG.out (by simp; omega)
  have HDP := Lib.hid hDP
  have HI := Lib.hid HD0.out.2.2.2.2
  clear h9 hlast hLl hDP HD HD7 HG HG7 HK HB HD0 hne hkl hg6 hc7 hg' HNE hn hn'
  go_wp2_with fail
  go_loopw [13] (fun i wr => ∃ (k : Nat) (vb vw : Value) (L : List Ls) (c g n : Nat) (d : Dk) (c' g' n' : Nat) (d' : Dk), i = .int .i64 (k : Nat) ∧ k ≤ xs.length ∧ Hid (Dp w LB K vb vw L 0 c g n d d 6 c' g' n' d' wr) ∧ Hid (DI d k) ∧ Hid (DI d' k)) (fun i _ => xs.length - (intOf i).toNat)
  case atStart => exact ⟨0, _, _, _, _, _, _, _, _, _, _, _, rfl, Nat.zero_le _, HDP.out, HI.out, ⟨Nat.le_refl _, Nat.zero_le _⟩⟩
  case round =>
    clear HDP HI
    obtain ⟨k, vb, vw, L, c, g, n, d, c', g', n', d', rfl, hk, HDP, HI, HI'⟩ := hrel
    by_cases hlt : k < xs.length
    · have b4 : ((k : Nat) : Int) < ((xs.length : Nat) : Int) := by omega
      obtain ⟨x, hx⟩ : ∃ x, xs[k]? = some x := ⟨_, List.getElem?_eq_getElem hlt⟩
      obtain ⟨hsh, gx, ox, rfl, hgx, hcx⟩ := HX.out k x hx
      obtain ⟨kk, who, a, av, cv, ld, rfl, ha, hr⟩ := op_at hsh
      have HCX : Hid (∀ W, Below w.heap.size w W → W.cell? ⟨gx, ox + k * 4, none⟩ = some (.int .i64 kk) ∧ W.cell? ⟨gx, ox + k * 4 + 1, none⟩ = some (.int .i64 who) ∧ W.cell? ⟨gx, ox + k * 4 + 2, none⟩ = some (.int .i64 a) ∧ W.cell? ⟨gx, ox + k * 4 + 3, none⟩ = some (.slice av ld.length cv)) := fun W hW =>
        ⟨(hW.cell hgx).trans (hcx 0 _ rfl), (hW.cell hgx).trans (hcx 1 _ rfl), (hW.cell hgx).trans (hcx 2 _ rfl), (hW.cell hgx).trans (hcx 3 _ rfl)⟩
      obtain ⟨t0, t1, t2, t3⟩ := HCX.out _ HDP.out.low
      have HA := Lib.hid ha
      have HR := Lib.hid hr
      clear hsh hgx hcx ha hr
      obtain ⟨wh, hwh⟩ : ∃ wh, bits .and .i64 who 1 = wh := ⟨_, rfl⟩
      have hw01 : wh = 0 ∨ wh = 1 := hwh ▸ and1 who
      have hbe := (Below.refl wr.heap.size wr).alloc (Nat.le_refl _) (.cells #[.int .i64 kk, .int .i64 who, .int .i64 a, .slice av ld.length cv] 60)
      have hq := blk_new wr (.cells #[.int .i64 kk, .int .i64 who, .int .i64 a, .slice av ld.length cv] 60)
      obtain ⟨W1, hW1⟩ : ∃ W1, wr.alloc (.cells #[.int .i64 kk, .int .i64 who, .int .i64 a, .slice av ld.length cv] 60) = W1 := ⟨_, rfl⟩
      obtain ⟨q, hqq⟩ : ∃ q, wr.heap.size = q := ⟨_, rfl⟩
      rw [hW1] at hbe hq
      rw [hqq] at hq
      have HW1 := Lib.hid hW1
      have HQQ := Lib.hid hqq
      have HDP := Lib.hid (HDP.out.below hbe)
      have HQ := Lib.hid hq
      clear hbe hq hW1 hqq
      go_upto_region 19 with fail
      rw [HW1.out, HQQ.out]
      clear HW1 HQQ HCX t0 t1 t2 t3 hx
      obtain ⟨⟨q0, q1, q2, q3⟩, _⟩ := blk4' HQ.out
      by_cases hl : 300 < ld.length
      · have b5 : (300 : Int) < (ld.length : Int) := by omega
        go_wp2_with fail
        go_ret
        exact ⟨rfl, HDP.out.low⟩
      · have b5 : ¬ (300 : Int) < (ld.length : Int) := by omega
        rcases hw01 with rfl | rfl
        · skip
          have HIA := HI
          by_cases hkk : kk = 6
          · subst hkk
            have HDA := Lib.hid (HDP.out)
            go_upto_region 23 with fail
            clear q0 q1 q2 q3
            have wr0 : IntKind.i64.wrap 0 = 0 := by decide
            have wr1 : IntKind.i64.wrap 1 = 1 := by decide
            refine wp_region_early (fun w' => w'.cell? ⟨LB, 0, none⟩ = some (.pointer (some ⟨c, 0, none⟩)) ∧ w'.cell? ⟨LB, 1, none⟩ = some (.slice (some ⟨g, 0, none⟩) 256 n) ∧ w'.cell? ⟨LB, 2, none⟩ = some (.bool (d).off) ∧ w'.cell? ⟨LB, 3, none⟩ = some (.int .i64 (fuZ d)) ∧ w'.cell? ⟨LB, 4, none⟩ = some (.int .i64 ((d).writes : Nat))) (fun k => k == 15) (by kernel_rfl) ?_
            simp only [List.size_toArray, List.length_cons, List.length_nil, Nat.reduceAdd, Array.replicate_succ, Array.replicate_zero, List.push_toArray, List.nil_append, List.cons_append]
            have HDA := Lib.hid HDA.out.drew
            generalize World.drew W1 = W3 at *
            have hSS : W3.cell? ⟨LB, 0, none⟩ = some (.pointer (some ⟨c, 0, none⟩)) ∧ W3.cell? ⟨LB, 1, none⟩ = some (.slice (some ⟨g, 0, none⟩) 256 n) ∧ W3.cell? ⟨LB, 2, none⟩ = some (.bool (d).off) ∧ W3.cell? ⟨LB, 3, none⟩ = some (.int .i64 (fuZ d)) ∧ W3.cell? ⟨LB, 4, none⟩ = some (.int .i64 ((d).writes : Nat)) := HDA.out.all
            refine wpAnyE_take (i := 0) (v := ?_) rfl (by kernel_rfl) (by kernel_rfl) (by kernel_rfl) (by kernel_rfl) (fun _ _ _ h => h) (Or.inl ⟨by rfl, ?_⟩) hSS ?_
            rotate_left
            · intro w hSw
              obtain ⟨j0, j1, j2, j3, j4⟩ := hSw
              go_simp
              all_goals with_reducible rfl
            simp only [Act.put, List.setIfInBounds_toArray, List.set_cons_zero, List.set_cons_succ, List.getElem_toArray, List.getElem_cons_zero, List.getElem_cons_succ]
            refine wpAnyE_take (i := 1) (v := ?_) rfl (by kernel_rfl) (by kernel_rfl) (by kernel_rfl) (by kernel_rfl) (fun _ _ _ h => h) (Or.inl ⟨by rfl, ?_⟩) hSS ?_
            rotate_left
            · intro w hSw
              obtain ⟨j0, j1, j2, j3, j4⟩ := hSw
              go_simp
              all_goals with_reducible rfl
            simp only [Act.put, List.setIfInBounds_toArray, List.set_cons_zero, List.set_cons_succ, List.getElem_toArray, List.getElem_cons_zero, List.getElem_cons_succ]
            refine wpAnyE_take (i := 2) (v := ?_) rfl (by kernel_rfl) (by kernel_rfl) (by kernel_rfl) (by kernel_rfl) (fun _ _ _ h => h) (Or.inl ⟨by rfl, ?_⟩) hSS ?_
            rotate_left
            · intro w hSw
              obtain ⟨j0, j1, j2, j3, j4⟩ := hSw
              go_simp
              all_goals with_reducible rfl
            simp only [Act.put, List.setIfInBounds_toArray, List.set_cons_zero, List.set_cons_succ, List.getElem_toArray, List.getElem_cons_zero, List.getElem_cons_succ]
            refine wpAnyE_take (i := 3) (v := ?_) rfl (by kernel_rfl) (by kernel_rfl) (by kernel_rfl) (by kernel_rfl) (fun _ _ _ h => h) (Or.inl ⟨by rfl, ?_⟩) hSS ?_
            rotate_left
            · intro w hSw
              obtain ⟨j0, j1, j2, j3, j4⟩ := hSw
              go_simp
              all_goals with_reducible rfl
            simp only [Act.put, List.setIfInBounds_toArray, List.set_cons_zero, List.set_cons_succ, List.getElem_toArray, List.getElem_cons_zero, List.getElem_cons_succ]
            refine wpAnyE_take (i := 4) (v := ?_) rfl (by kernel_rfl) (by kernel_rfl) (by kernel_rfl) (by kernel_rfl) (fun _ _ _ h => h) (Or.inl ⟨by rfl, ?_⟩) hSS ?_
            rotate_left
            · intro w hSw
              obtain ⟨j0, j1, j2, j3, j4⟩ := hSw
              go_simp
              all_goals with_reducible rfl
            simp only [Act.put, List.setIfInBounds_toArray, List.set_cons_zero, List.set_cons_succ, List.getElem_toArray, List.getElem_cons_zero, List.getElem_cons_succ]
            refine wpAnyE_take (i := 5) (v := ?_) rfl (by kernel_rfl) (by kernel_rfl) (by kernel_rfl) (by kernel_rfl) (fun _ _ _ h => h) (Or.inl ⟨by rfl, ?_⟩) hSS ?_
            rotate_left
            · intro w hSw
              obtain ⟨j0, j1, j2, j3, j4⟩ := hSw
              go_simp
              all_goals with_reducible rfl
            simp only [Act.put, List.setIfInBounds_toArray, List.set_cons_zero, List.set_cons_succ, List.getElem_toArray, List.getElem_cons_zero, List.getElem_cons_succ]
            refine wpAnyE_take (i := 7) (v := ?_) rfl (by kernel_rfl) (by kernel_rfl) (by kernel_rfl) (by kernel_rfl) (fun _ _ _ h => h) (Or.inl ⟨by rfl, ?_⟩) hSS ?_
            rotate_left
            · intro w hSw
              obtain ⟨j0, j1, j2, j3, j4⟩ := hSw
              go_simp
              all_goals with_reducible rfl
            simp only [Act.put, List.setIfInBounds_toArray, List.set_cons_zero, List.set_cons_succ, List.getElem_toArray, List.getElem_cons_zero, List.getElem_cons_succ]
            refine wpAnyE_take (i := 8) (v := ?_) rfl (by kernel_rfl) (by kernel_rfl) (by kernel_rfl) (by kernel_rfl) (fun _ _ _ h => h) (Or.inl ⟨by rfl, ?_⟩) hSS ?_
            rotate_left
            · intro w hSw
              obtain ⟨j0, j1, j2, j3, j4⟩ := hSw
              go_simp
              all_goals with_reducible rfl
            simp only [Act.put, List.setIfInBounds_toArray, List.set_cons_zero, List.set_cons_succ, List.getElem_toArray, List.getElem_cons_zero, List.getElem_cons_succ]
            refine wpAnyE_take (i := 9) (v := ?_) rfl (by kernel_rfl) (by kernel_rfl) (by kernel_rfl) (by kernel_rfl) (fun _ _ _ h => h) (Or.inl ⟨by rfl, ?_⟩) hSS ?_
            rotate_left
            · intro w hSw
              obtain ⟨j0, j1, j2, j3, j4⟩ := hSw
              go_simp
              all_goals with_reducible rfl
            simp only [Act.put, List.setIfInBounds_toArray, List.set_cons_zero, List.set_cons_succ, List.getElem_toArray, List.getElem_cons_zero, List.getElem_cons_succ]
            refine wpAnyE_take (i := 10) (v := ?_) rfl (by kernel_rfl) (by kernel_rfl) (by kernel_rfl) (by kernel_rfl) (fun _ _ _ h => h) (Or.inl ⟨by rfl, ?_⟩) hSS ?_
            rotate_left
            · intro w hSw
              obtain ⟨j0, j1, j2, j3, j4⟩ := hSw
              go_simp
              all_goals with_reducible rfl
            simp only [Act.put, List.setIfInBounds_toArray, List.set_cons_zero, List.set_cons_succ, List.getElem_toArray, List.getElem_cons_zero, List.getElem_cons_succ]
            refine wpAnyE_take (i := 12) (v := ?_) rfl (by kernel_rfl) (by kernel_rfl) (by kernel_rfl) (by kernel_rfl) (fun _ _ _ h => h) (Or.inl ⟨by rfl, ?_⟩) hSS ?_
            rotate_left
            · intro w hSw
              obtain ⟨j0, j1, j2, j3, j4⟩ := hSw
              go_simp
              all_goals with_reducible rfl
            simp only [Act.put, List.setIfInBounds_toArray, List.set_cons_zero, List.set_cons_succ, List.getElem_toArray, List.getElem_cons_zero, List.getElem_cons_succ]
            refine wpAnyE_one (i := 6) (by kernel_rfl) rfl ?_
            change wpList _ _ (Exit.then _ _) [_] _ _
            try simp only [List.setIfInBounds_toArray, List.set_cons_zero, List.set_cons_succ, List.getElem_toArray, List.getElem_cons_zero, List.getElem_cons_succ]
            go_wp2_with (go_at_call 11; refine (twin_any c d _ HDA.out.x.disk).mono ?_; rintro e w4 ⟨c2, rfl, hc2, hD4, hB4⟩)
            have hlt := And.intro HDA.out.x.lt (And.intro HDA.out.y.lt HDA.out.low.size)
            have hbk := fun k hk => (HDA.out.bk.lt k hk).2
            have HDA := Lib.hid (HDA.out.below hB4)
            have hs4 := hB4.size
            clear hSS hB4
            have hSS : w4.cell? ⟨LB, 0, none⟩ = some (.pointer (some ⟨c, 0, none⟩)) ∧ w4.cell? ⟨LB, 1, none⟩ = some (.slice (some ⟨g, 0, none⟩) 256 n) ∧ w4.cell? ⟨LB, 2, none⟩ = some (.bool (d).off) ∧ w4.cell? ⟨LB, 3, none⟩ = some (.int .i64 (fuZ d)) ∧ w4.cell? ⟨LB, 4, none⟩ = some (.int .i64 ((d).writes : Nat)) := HDA.out.all
            refine ⟨fun _ => hSS, ?_⟩
            try simp only [List.setIfInBounds_toArray, List.set_cons_zero, List.set_cons_succ, List.getElem_toArray, List.getElem_cons_zero, List.getElem_cons_succ]
            refine wpAnyE_one (i := 11) (by kernel_rfl) rfl ?_
            change wpList _ _ (Exit.then _ _) [_] _ _
            try simp only [List.setIfInBounds_toArray, List.set_cons_zero, List.set_cons_succ, List.getElem_toArray, List.getElem_cons_zero, List.getElem_cons_succ]
            go_wp2_with (go_at_call 12; refine (refCopy_any g n d _ HDA.out.x.rk.bytes HDA.out.x.rk.len).mono ?_; rintro e w5 ⟨v5, rfl, ⟨g2, n2, rest2, rfl, hn2, hg2, hcs2, hcl2⟩, hB5⟩; rw [show rkV g2 n2 d = .agg #[.slice (some ⟨g2, 0, none⟩) 256 n2, .bool (d).off, .int .i64 (fuZ d), .int .i64 ((d).writes : Nat)] from rfl])
            have hc4 := hD4.lt
            have HDA := Lib.hid (HDA.out.below hB5)
            have HD5 := Lib.hid (hD4.below hB5)
            have HG5 := Lib.hid hcs2
            have HFR : Hid ((c2 ≠ LB ∧ c2 ≠ c ∧ c2 ≠ g) ∧ (g2 ≠ LB ∧ g2 ≠ c ∧ g2 ≠ g) ∧ c2 ≠ g2) := by
              obtain ⟨h1, h2, h3⟩ := hlt
              exact ⟨by omega, by omega, by omega⟩
            have HSP : Hid (c2 ∉ bkB K vb vw L ∧ g2 ∉ bkB K vb vw L) := ⟨fun hm => by have := hbk c2 hm; omega, fun hm => by have := hbk g2 hm; omega⟩
            have HGE : Hid (w.heap.size ≤ c2 ∧ w.heap.size ≤ g2) := by
              obtain ⟨h1, h2, h3⟩ := hlt
              exact ⟨by omega, by omega⟩
            clear hSS hB5 hcs2 hcl2 hD4 hlt hbk hs4 hc2 hg2 hc4
            have hSS : w5.cell? ⟨LB, 0, none⟩ = some (.pointer (some ⟨c, 0, none⟩)) ∧ w5.cell? ⟨LB, 1, none⟩ = some (.slice (some ⟨g, 0, none⟩) 256 n) ∧ w5.cell? ⟨LB, 2, none⟩ = some (.bool (d).off) ∧ w5.cell? ⟨LB, 3, none⟩ = some (.int .i64 (fuZ d)) ∧ w5.cell? ⟨LB, 4, none⟩ = some (.int .i64 ((d).writes : Nat)) := HDA.out.all
            refine ⟨fun _ => hSS, ?_⟩
            try simp only [List.setIfInBounds_toArray, List.set_cons_zero, List.set_cons_succ, List.getElem_toArray, List.getElem_cons_zero, List.getElem_cons_succ]
            refine wpAnyE_take (i := 13) (v := ?_) rfl (by kernel_rfl) (by kernel_rfl) (by kernel_rfl) (by kernel_rfl) (fun _ _ _ h => h) (Or.inl ⟨by rfl, ?_⟩) hSS ?_
            rotate_left
            · intro w hSw
              obtain ⟨j0, j1, j2, j3, j4⟩ := hSw
              go_simp
              all_goals with_reducible rfl
            simp only [Act.put, List.setIfInBounds_toArray, List.set_cons_zero, List.set_cons_succ, List.getElem_toArray, List.getElem_cons_zero, List.getElem_cons_succ]
            refine wpAnyE_take (i := 14) (v := ?_) rfl (by kernel_rfl) (by kernel_rfl) (by kernel_rfl) (by kernel_rfl) (fun _ _ _ h => h) (Or.inl ⟨by rfl, ?_⟩) hSS ?_
            rotate_left
            · intro w hSw
              obtain ⟨j0, j1, j2, j3, j4⟩ := hSw
              go_simp
              all_goals with_reducible rfl
            simp only [Act.put, List.setIfInBounds_toArray, List.set_cons_zero, List.set_cons_succ, List.getElem_toArray, List.getElem_cons_zero, List.getElem_cons_succ]
            obtain ⟨csB, tB, hbB⟩ := HDA.out.y.rk.blk
            have k0 : w5.cell? ⟨LB, 6, none⟩ = _ := HDA.out.y.p
            have k1 : w5.cell? ⟨LB, 7, none⟩ = _ := HDA.out.y.rk.cells.1
            have k2 : w5.cell? ⟨LB, 8, none⟩ = _ := HDA.out.y.rk.cells.2.1
            have k3 : w5.cell? ⟨LB, 9, none⟩ = _ := HDA.out.y.rk.cells.2.2.1
            have k4 : w5.cell? ⟨LB, 10, none⟩ = _ := HDA.out.y.rk.cells.2.2.2
            have k5 : w5.cell? ⟨LB, 11, none⟩ = _ := HDA.out.y.b
            have f0 := blk_free hbB 6
            have f1 := blk_free hbB 7
            have f2 := blk_free hbB 8
            have f3 := blk_free hbB 9
            have f4 := blk_free hbB 10
            have f5 := blk_free hbB 11
            clear hSS hbB
            refine wpAnyE_one (i := 15) (by kernel_rfl) rfl ?_
            change wpList _ _ (Exit.then _ _) [_] _ _
            try simp only [List.setIfInBounds_toArray, List.set_cons_zero, List.set_cons_succ, List.getElem_toArray, List.getElem_cons_zero, List.getElem_cons_succ]
            go_wp2_with fail
            generalize hW6 : World.setCell (World.setCell (World.setCell (World.setCell (World.setCell (World.setCell _ _ _) _ _) _ _) _ _) _ _) _ _ = W6
            have h6 : put6 w5 LB 6 (.pointer (some ⟨c2, 0, none⟩)) (.slice (some ⟨g2, 0, none⟩) 256 n2) (.bool (d).off) (.int .i64 (fuZ d)) (.int .i64 ((d).writes : Nat)) (.pointer (some ⟨K, 0, none⟩)) = W6 := hW6
            have hD6 := HDA.out.twin HD5.out HG5.out hn2 HFR.out HSP.out HGE.out
            rw [h6] at hD6
            have HD6 := Lib.hid hD6
            clear hW6 h6 hD6 k0 k1 k2 k3 k4 k5 f0 f1 f2 f3 f4 f5 HD5 HG5 hn2 HFR HSP HGE
            first | refine ⟨fun h => absurd h (by decide), ?_⟩ | refine ⟨trivial, ?_⟩ | skip
            try simp only [List.setIfInBounds_toArray, List.set_cons_zero, List.set_cons_succ, List.getElem_toArray, List.getElem_cons_zero, List.getElem_cons_succ]
            refine wpAnyE_end (by kernel_rfl) ?_
            go_wp2_with fail
            have HE := HD6
            refine (looks_any _ _ _ _ _ _ _ _ _ _ _ _ _ _ _ _ _ HE.out).mono ?_
            rintro e w8 ⟨rfl, vb8, vw8, L8, hD8⟩
            have HE := Lib.hid hD8.swap
            clear hD8
            go_wp2_with fail
            refine (looks_any _ _ _ _ _ _ _ _ _ _ _ _ _ _ _ _ _ HE.out).mono ?_
            rintro e w9' ⟨rfl, vb9, vw9, L9, hD9⟩
            have HE := Lib.hid hD9.swap
            clear hD9
            go_wp2_with fail
            go_roundw
            case rel => exact ⟨k + 1, _, _, _, _, _, _, _, _, _, _, _, by go_num, by omega, HE.out, HI.out.up, HI.out.up⟩
            case measure => simp [intOf]; omega
          · have e6 : (kk == 6) = false := by simpa using hkk
            go_wp2_with fail
            refine wp_region_early (fun w' => w'.cell? ⟨q, 0, none⟩ = some (.int .i64 kk) ∧ w'.cell? ⟨q, 1, none⟩ = some (.int .i64 who) ∧ w'.cell? ⟨q, 2, none⟩ = some (.int .i64 a) ∧ w'.cell? ⟨q, 3, none⟩ = some (.slice av ld.length cv)) (fun k => k == 3 || k == 4) (by kernel_rfl) ?_
            simp only [List.size_toArray, List.length_cons, List.length_nil, Nat.reduceAdd, Array.replicate_succ, Array.replicate_zero, List.push_toArray, List.nil_append, List.cons_append]
            have HDA := Lib.hid (HDP.out).drew
            have hSS := (blk4' (blk_below' ((Below.refl W1.heap.size W1).drew) HQ.out)).1
            clear q0 q1 q2 q3
            generalize World.drew W1 = W3 at *
            refine wpAnyE_take (i := 0) (v := ?_) rfl (by kernel_rfl) (by kernel_rfl) (by kernel_rfl) (by kernel_rfl) (fun _ _ _ h => h) (Or.inl ⟨by rfl, ?_⟩) hSS ?_
            rotate_left
            · intro w hSw
              obtain ⟨j0, j1, j2, j3⟩ := hSw
              go_simp
              all_goals with_reducible rfl
            simp only [Act.put, List.setIfInBounds_toArray, List.set_cons_zero, List.set_cons_succ, List.getElem_toArray, List.getElem_cons_zero, List.getElem_cons_succ]
            refine wpAnyE_take (i := 1) (v := ?_) rfl (by kernel_rfl) (by kernel_rfl) (by kernel_rfl) (by kernel_rfl) (fun _ _ _ h => h) (Or.inl ⟨by rfl, ?_⟩) hSS ?_
            rotate_left
            · intro w hSw
              obtain ⟨j0, j1, j2, j3⟩ := hSw
              go_simp
              all_goals with_reducible rfl
            simp only [Act.put, List.setIfInBounds_toArray, List.set_cons_zero, List.set_cons_succ, List.getElem_toArray, List.getElem_cons_zero, List.getElem_cons_succ]
            refine wpAnyE_take (i := 2) (v := ?_) rfl (by kernel_rfl) (by kernel_rfl) (by kernel_rfl) (by kernel_rfl) (fun _ _ _ h => h) (Or.inl ⟨by rfl, ?_⟩) hSS ?_
            rotate_left
            · intro w hSw
              obtain ⟨j0, j1, j2, j3⟩ := hSw
              go_simp
              all_goals with_reducible rfl
            simp only [Act.put, List.setIfInBounds_toArray, List.set_cons_zero, List.set_cons_succ, List.getElem_toArray, List.getElem_cons_zero, List.getElem_cons_succ]
            refine wpAnyE_one (i := 3) (by kernel_rfl) rfl ?_
            change wpList _ _ (Exit.then _ _) [_] _ _
            try simp only [List.setIfInBounds_toArray, List.set_cons_zero, List.set_cons_succ, List.getElem_toArray, List.getElem_cons_zero, List.getElem_cons_succ]
            go_wp2_with (go_at_call 13; refine (step_any _ _ _ _ _ _ _ _ _ _ _ _ _ _ _ _ kk who a av cv ld k _ HDA.out HIA.out (by omega) HA.out (by omega) HR.out).mono ?_; rintro e w4 ⟨rfl, vb2, vw2, L2, d2, hD2, hI2⟩)
            clear hSS
            first | refine ⟨fun h => absurd h (by decide), ?_⟩ | refine ⟨trivial, ?_⟩ | skip
            try simp only [List.setIfInBounds_toArray, List.set_cons_zero, List.set_cons_succ, List.getElem_toArray, List.getElem_cons_zero, List.getElem_cons_succ]
            refine wpAnyE_one (i := 4) (by kernel_rfl) rfl ?_
            change wpList _ _ (Exit.then _ _) [_] _ _
            try simp only [List.setIfInBounds_toArray, List.set_cons_zero, List.set_cons_succ, List.getElem_toArray, List.getElem_cons_zero, List.getElem_cons_succ]
            go_wp2_with fail
            first | refine ⟨fun h => absurd h (by decide), ?_⟩ | refine ⟨trivial, ?_⟩ | skip
            try simp only [List.setIfInBounds_toArray, List.set_cons_zero, List.set_cons_succ, List.getElem_toArray, List.getElem_cons_zero, List.getElem_cons_succ]
            refine wpAnyE_end (by kernel_rfl) ?_
            have HD2 := Lib.hid hD2
            have HI2 := Lib.hid hI2
            clear hD2 hI2
            go_wp2_with fail
            have HE := HD2
            refine (looks_any _ _ _ _ _ _ _ _ _ _ _ _ _ _ _ _ _ HE.out).mono ?_
            rintro e w8 ⟨rfl, vb8, vw8, L8, hD8⟩
            have HE := Lib.hid hD8.swap
            clear hD8
            go_wp2_with fail
            refine (looks_any _ _ _ _ _ _ _ _ _ _ _ _ _ _ _ _ _ HE.out).mono ?_
            rintro e w9' ⟨rfl, vb9, vw9, L9, hD9⟩
            have HE := Lib.hid hD9.swap
            clear hD9
            go_wp2_with fail
            go_roundw
            case rel => exact ⟨k + 1, _, _, _, _, _, _, _, _, _, _, _, by go_num, by omega, HE.out, HI2.out, HI'.out.up⟩
            case measure => simp [intOf]; omega
        · skip
          have HIA := HI'
          by_cases hkk : kk = 6
          · subst hkk
            have HDA := Lib.hid (HDP.out.swap)
            go_upto_region 23 with fail
            clear q0 q1 q2 q3
            have wr0 : IntKind.i64.wrap 0 = 0 := by decide
            have wr1 : IntKind.i64.wrap 1 = 1 := by decide
            refine wp_region_early (fun w' => w'.cell? ⟨LB, 6, none⟩ = some (.pointer (some ⟨c', 0, none⟩)) ∧ w'.cell? ⟨LB, 7, none⟩ = some (.slice (some ⟨g', 0, none⟩) 256 n') ∧ w'.cell? ⟨LB, 8, none⟩ = some (.bool (d').off) ∧ w'.cell? ⟨LB, 9, none⟩ = some (.int .i64 (fuZ d')) ∧ w'.cell? ⟨LB, 10, none⟩ = some (.int .i64 ((d').writes : Nat))) (fun k => k == 15) (by kernel_rfl) ?_
            simp only [List.size_toArray, List.length_cons, List.length_nil, Nat.reduceAdd, Array.replicate_succ, Array.replicate_zero, List.push_toArray, List.nil_append, List.cons_append]
            have HDA := Lib.hid HDA.out.drew
            generalize World.drew W1 = W3 at *
            have hSS : W3.cell? ⟨LB, 6, none⟩ = some (.pointer (some ⟨c', 0, none⟩)) ∧ W3.cell? ⟨LB, 7, none⟩ = some (.slice (some ⟨g', 0, none⟩) 256 n') ∧ W3.cell? ⟨LB, 8, none⟩ = some (.bool (d').off) ∧ W3.cell? ⟨LB, 9, none⟩ = some (.int .i64 (fuZ d')) ∧ W3.cell? ⟨LB, 10, none⟩ = some (.int .i64 ((d').writes : Nat)) := HDA.out.all
            refine wpAnyE_take (i := 0) (v := ?_) rfl (by kernel_rfl) (by kernel_rfl) (by kernel_rfl) (by kernel_rfl) (fun _ _ _ h => h) (Or.inl ⟨by rfl, ?_⟩) hSS ?_
            rotate_left
            · intro w hSw
              obtain ⟨j0, j1, j2, j3, j4⟩ := hSw
              go_simp
              all_goals with_reducible rfl
            simp only [Act.put, List.setIfInBounds_toArray, List.set_cons_zero, List.set_cons_succ, List.getElem_toArray, List.getElem_cons_zero, List.getElem_cons_succ]
            refine wpAnyE_take (i := 1) (v := ?_) rfl (by kernel_rfl) (by kernel_rfl) (by kernel_rfl) (by kernel_rfl) (fun _ _ _ h => h) (Or.inl ⟨by rfl, ?_⟩) hSS ?_
            rotate_left
            · intro w hSw
              obtain ⟨j0, j1, j2, j3, j4⟩ := hSw
              go_simp
              all_goals with_reducible rfl
            simp only [Act.put, List.setIfInBounds_toArray, List.set_cons_zero, List.set_cons_succ, List.getElem_toArray, List.getElem_cons_zero, List.getElem_cons_succ]
            refine wpAnyE_take (i := 2) (v := ?_) rfl (by kernel_rfl) (by kernel_rfl) (by kernel_rfl) (by kernel_rfl) (fun _ _ _ h => h) (Or.inl ⟨by rfl, ?_⟩) hSS ?_
            rotate_left
            · intro w hSw
              obtain ⟨j0, j1, j2, j3, j4⟩ := hSw
              go_simp
              all_goals with_reducible rfl
            simp only [Act.put, List.setIfInBounds_toArray, List.set_cons_zero, List.set_cons_succ, List.getElem_toArray, List.getElem_cons_zero, List.getElem_cons_succ]
            refine wpAnyE_take (i := 3) (v := ?_) rfl (by kernel_rfl) (by kernel_rfl) (by kernel_rfl) (by kernel_rfl) (fun _ _ _ h => h) (Or.inl ⟨by rfl, ?_⟩) hSS ?_
            rotate_left
            · intro w hSw
              obtain ⟨j0, j1, j2, j3, j4⟩ := hSw
              go_simp
              all_goals with_reducible rfl
            simp only [Act.put, List.setIfInBounds_toArray, List.set_cons_zero, List.set_cons_succ, List.getElem_toArray, List.getElem_cons_zero, List.getElem_cons_succ]
            refine wpAnyE_take (i := 4) (v := ?_) rfl (by kernel_rfl) (by kernel_rfl) (by kernel_rfl) (by kernel_rfl) (fun _ _ _ h => h) (Or.inl ⟨by rfl, ?_⟩) hSS ?_
            rotate_left
            · intro w hSw
              obtain ⟨j0, j1, j2, j3, j4⟩ := hSw
              go_simp
              all_goals with_reducible rfl
            simp only [Act.put, List.setIfInBounds_toArray, List.set_cons_zero, List.set_cons_succ, List.getElem_toArray, List.getElem_cons_zero, List.getElem_cons_succ]
            refine wpAnyE_take (i := 5) (v := ?_) rfl (by kernel_rfl) (by kernel_rfl) (by kernel_rfl) (by kernel_rfl) (fun _ _ _ h => h) (Or.inl ⟨by rfl, ?_⟩) hSS ?_
            rotate_left
            · intro w hSw
              obtain ⟨j0, j1, j2, j3, j4⟩ := hSw
              go_simp
              all_goals with_reducible rfl
            simp only [Act.put, List.setIfInBounds_toArray, List.set_cons_zero, List.set_cons_succ, List.getElem_toArray, List.getElem_cons_zero, List.getElem_cons_succ]
            refine wpAnyE_take (i := 7) (v := ?_) rfl (by kernel_rfl) (by kernel_rfl) (by kernel_rfl) (by kernel_rfl) (fun _ _ _ h => h) (Or.inl ⟨by rfl, ?_⟩) hSS ?_
            rotate_left
            · intro w hSw
              obtain ⟨j0, j1, j2, j3, j4⟩ := hSw
              go_simp
              all_goals with_reducible rfl
            simp only [Act.put, List.setIfInBounds_toArray, List.set_cons_zero, List.set_cons_succ, List.getElem_toArray, List.getElem_cons_zero, List.getElem_cons_succ]
            refine wpAnyE_take (i := 8) (v := ?_) rfl (by kernel_rfl) (by kernel_rfl) (by kernel_rfl) (by kernel_rfl) (fun _ _ _ h => h) (Or.inl ⟨by rfl, ?_⟩) hSS ?_
            rotate_left
            · intro w hSw
              obtain ⟨j0, j1, j2, j3, j4⟩ := hSw
              go_simp
              all_goals with_reducible rfl
            simp only [Act.put, List.setIfInBounds_toArray, List.set_cons_zero, List.set_cons_succ, List.getElem_toArray, List.getElem_cons_zero, List.getElem_cons_succ]
            refine wpAnyE_take (i := 9) (v := ?_) rfl (by kernel_rfl) (by kernel_rfl) (by kernel_rfl) (by kernel_rfl) (fun _ _ _ h => h) (Or.inl ⟨by rfl, ?_⟩) hSS ?_
            rotate_left
            · intro w hSw
              obtain ⟨j0, j1, j2, j3, j4⟩ := hSw
              go_simp
              all_goals with_reducible rfl
            simp only [Act.put, List.setIfInBounds_toArray, List.set_cons_zero, List.set_cons_succ, List.getElem_toArray, List.getElem_cons_zero, List.getElem_cons_succ]
            refine wpAnyE_take (i := 10) (v := ?_) rfl (by kernel_rfl) (by kernel_rfl) (by kernel_rfl) (by kernel_rfl) (fun _ _ _ h => h) (Or.inl ⟨by rfl, ?_⟩) hSS ?_
            rotate_left
            · intro w hSw
              obtain ⟨j0, j1, j2, j3, j4⟩ := hSw
              go_simp
              all_goals with_reducible rfl
            simp only [Act.put, List.setIfInBounds_toArray, List.set_cons_zero, List.set_cons_succ, List.getElem_toArray, List.getElem_cons_zero, List.getElem_cons_succ]
            refine wpAnyE_take (i := 12) (v := ?_) rfl (by kernel_rfl) (by kernel_rfl) (by kernel_rfl) (by kernel_rfl) (fun _ _ _ h => h) (Or.inl ⟨by rfl, ?_⟩) hSS ?_
            rotate_left
            · intro w hSw
              obtain ⟨j0, j1, j2, j3, j4⟩ := hSw
              go_simp
              all_goals with_reducible rfl
            simp only [Act.put, List.setIfInBounds_toArray, List.set_cons_zero, List.set_cons_succ, List.getElem_toArray, List.getElem_cons_zero, List.getElem_cons_succ]
            refine wpAnyE_one (i := 6) (by kernel_rfl) rfl ?_
            change wpList _ _ (Exit.then _ _) [_] _ _
            try simp only [List.setIfInBounds_toArray, List.set_cons_zero, List.set_cons_succ, List.getElem_toArray, List.getElem_cons_zero, List.getElem_cons_succ]
            go_wp2_with (go_at_call 11; refine (twin_any c' d' _ HDA.out.x.disk).mono ?_; rintro e w4 ⟨c2, rfl, hc2, hD4, hB4⟩)
            have hlt := And.intro HDA.out.x.lt (And.intro HDA.out.y.lt HDA.out.low.size)
            have hbk := fun k hk => (HDA.out.bk.lt k hk).2
            have HDA := Lib.hid (HDA.out.below hB4)
            have hs4 := hB4.size
            clear hSS hB4
            have hSS : w4.cell? ⟨LB, 6, none⟩ = some (.pointer (some ⟨c', 0, none⟩)) ∧ w4.cell? ⟨LB, 7, none⟩ = some (.slice (some ⟨g', 0, none⟩) 256 n') ∧ w4.cell? ⟨LB, 8, none⟩ = some (.bool (d').off) ∧ w4.cell? ⟨LB, 9, none⟩ = some (.int .i64 (fuZ d')) ∧ w4.cell? ⟨LB, 10, none⟩ = some (.int .i64 ((d').writes : Nat)) := HDA.out.all
            refine ⟨fun _ => hSS, ?_⟩
            try simp only [List.setIfInBounds_toArray, List.set_cons_zero, List.set_cons_succ, List.getElem_toArray, List.getElem_cons_zero, List.getElem_cons_succ]
            refine wpAnyE_one (i := 11) (by kernel_rfl) rfl ?_
            change wpList _ _ (Exit.then _ _) [_] _ _
            try simp only [List.setIfInBounds_toArray, List.set_cons_zero, List.set_cons_succ, List.getElem_toArray, List.getElem_cons_zero, List.getElem_cons_succ]
            go_wp2_with (go_at_call 12; refine (refCopy_any g' n' d' _ HDA.out.x.rk.bytes HDA.out.x.rk.len).mono ?_; rintro e w5 ⟨v5, rfl, ⟨g2, n2, rest2, rfl, hn2, hg2, hcs2, hcl2⟩, hB5⟩; rw [show rkV g2 n2 d' = .agg #[.slice (some ⟨g2, 0, none⟩) 256 n2, .bool (d').off, .int .i64 (fuZ d'), .int .i64 ((d').writes : Nat)] from rfl])
            have hc4 := hD4.lt
            have HDA := Lib.hid (HDA.out.below hB5)
            have HD5 := Lib.hid (hD4.below hB5)
            have HG5 := Lib.hid hcs2
            have HFR : Hid ((c2 ≠ LB ∧ c2 ≠ c' ∧ c2 ≠ g') ∧ (g2 ≠ LB ∧ g2 ≠ c' ∧ g2 ≠ g') ∧ c2 ≠ g2) := by
              obtain ⟨h1, h2, h3⟩ := hlt
              exact ⟨by omega, by omega, by omega⟩
            have HSP : Hid (c2 ∉ bkB K vb vw L ∧ g2 ∉ bkB K vb vw L) := ⟨fun hm => by have := hbk c2 hm; omega, fun hm => by have := hbk g2 hm; omega⟩
            have HGE : Hid (w.heap.size ≤ c2 ∧ w.heap.size ≤ g2) := by
              obtain ⟨h1, h2, h3⟩ := hlt
              exact ⟨by omega, by omega⟩
            clear hSS hB5 hcs2 hcl2 hD4 hlt hbk hs4 hc2 hg2 hc4
            have hSS : w5.cell? ⟨LB, 6, none⟩ = some (.pointer (some ⟨c', 0, none⟩)) ∧ w5.cell? ⟨LB, 7, none⟩ = some (.slice (some ⟨g', 0, none⟩) 256 n') ∧ w5.cell? ⟨LB, 8, none⟩ = some (.bool (d').off) ∧ w5.cell? ⟨LB, 9, none⟩ = some (.int .i64 (fuZ d')) ∧ w5.cell? ⟨LB, 10, none⟩ = some (.int .i64 ((d').writes : Nat)) := HDA.out.all
            refine ⟨fun _ => hSS, ?_⟩
            try simp only [List.setIfInBounds_toArray, List.set_cons_zero, List.set_cons_succ, List.getElem_toArray, List.getElem_cons_zero, List.getElem_cons_succ]
            refine wpAnyE_take (i := 13) (v := ?_) rfl (by kernel_rfl) (by kernel_rfl) (by kernel_rfl) (by kernel_rfl) (fun _ _ _ h => h) (Or.inl ⟨by rfl, ?_⟩) hSS ?_
            rotate_left
            · intro w hSw
              obtain ⟨j0, j1, j2, j3, j4⟩ := hSw
              go_simp
              all_goals with_reducible rfl
            simp only [Act.put, List.setIfInBounds_toArray, List.set_cons_zero, List.set_cons_succ, List.getElem_toArray, List.getElem_cons_zero, List.getElem_cons_succ]
            refine wpAnyE_take (i := 14) (v := ?_) rfl (by kernel_rfl) (by kernel_rfl) (by kernel_rfl) (by kernel_rfl) (fun _ _ _ h => h) (Or.inl ⟨by rfl, ?_⟩) hSS ?_
            rotate_left
            · intro w hSw
              obtain ⟨j0, j1, j2, j3, j4⟩ := hSw
              go_simp
              all_goals with_reducible rfl
            simp only [Act.put, List.setIfInBounds_toArray, List.set_cons_zero, List.set_cons_succ, List.getElem_toArray, List.getElem_cons_zero, List.getElem_cons_succ]
            obtain ⟨csB, tB, hbB⟩ := HDA.out.y.rk.blk
            have k0 : w5.cell? ⟨LB, 0, none⟩ = _ := HDA.out.y.p
            have k1 : w5.cell? ⟨LB, 1, none⟩ = _ := HDA.out.y.rk.cells.1
            have k2 : w5.cell? ⟨LB, 2, none⟩ = _ := HDA.out.y.rk.cells.2.1
            have k3 : w5.cell? ⟨LB, 3, none⟩ = _ := HDA.out.y.rk.cells.2.2.1
            have k4 : w5.cell? ⟨LB, 4, none⟩ = _ := HDA.out.y.rk.cells.2.2.2
            have k5 : w5.cell? ⟨LB, 5, none⟩ = _ := HDA.out.y.b
            have f0 := blk_free hbB 0
            have f1 := blk_free hbB 1
            have f2 := blk_free hbB 2
            have f3 := blk_free hbB 3
            have f4 := blk_free hbB 4
            have f5 := blk_free hbB 5
            clear hSS hbB
            refine wpAnyE_one (i := 15) (by kernel_rfl) rfl ?_
            change wpList _ _ (Exit.then _ _) [_] _ _
            try simp only [List.setIfInBounds_toArray, List.set_cons_zero, List.set_cons_succ, List.getElem_toArray, List.getElem_cons_zero, List.getElem_cons_succ]
            go_wp2_with fail
            generalize hW6 : World.setCell (World.setCell (World.setCell (World.setCell (World.setCell (World.setCell _ _ _) _ _) _ _) _ _) _ _) _ _ = W6
            have h6 : put6 w5 LB 0 (.pointer (some ⟨c2, 0, none⟩)) (.slice (some ⟨g2, 0, none⟩) 256 n2) (.bool (d').off) (.int .i64 (fuZ d')) (.int .i64 ((d').writes : Nat)) (.pointer (some ⟨K, 0, none⟩)) = W6 := hW6
            have hD6 := HDA.out.twin HD5.out HG5.out hn2 HFR.out HSP.out HGE.out
            rw [h6] at hD6
            have HD6 := Lib.hid hD6
            clear hW6 h6 hD6 k0 k1 k2 k3 k4 k5 f0 f1 f2 f3 f4 f5 HD5 HG5 hn2 HFR HSP HGE
            first | refine ⟨fun h => absurd h (by decide), ?_⟩ | refine ⟨trivial, ?_⟩ | skip
            try simp only [List.setIfInBounds_toArray, List.set_cons_zero, List.set_cons_succ, List.getElem_toArray, List.getElem_cons_zero, List.getElem_cons_succ]
            refine wpAnyE_end (by kernel_rfl) ?_
            go_wp2_with fail
            have HE := Lib.hid HD6.out.swap
            refine (looks_any _ _ _ _ _ _ _ _ _ _ _ _ _ _ _ _ _ HE.out).mono ?_
            rintro e w8 ⟨rfl, vb8, vw8, L8, hD8⟩
            have HE := Lib.hid hD8.swap
            clear hD8
            go_wp2_with fail
            refine (looks_any _ _ _ _ _ _ _ _ _ _ _ _ _ _ _ _ _ HE.out).mono ?_
            rintro e w9' ⟨rfl, vb9, vw9, L9, hD9⟩
            have HE := Lib.hid hD9.swap
            clear hD9
            go_wp2_with fail
            go_roundw
            case rel => exact ⟨k + 1, _, _, _, _, _, _, _, _, _, _, _, by go_num, by omega, HE.out, HI'.out.up, HI'.out.up⟩
            case measure => simp [intOf]; omega
          · have e6 : (kk == 6) = false := by simpa using hkk
            go_wp2_with fail
            refine wp_region_early (fun w' => w'.cell? ⟨q, 0, none⟩ = some (.int .i64 kk) ∧ w'.cell? ⟨q, 1, none⟩ = some (.int .i64 who) ∧ w'.cell? ⟨q, 2, none⟩ = some (.int .i64 a) ∧ w'.cell? ⟨q, 3, none⟩ = some (.slice av ld.length cv)) (fun k => k == 3 || k == 4) (by kernel_rfl) ?_
            simp only [List.size_toArray, List.length_cons, List.length_nil, Nat.reduceAdd, Array.replicate_succ, Array.replicate_zero, List.push_toArray, List.nil_append, List.cons_append]
            have HDA := Lib.hid (HDP.out.swap).drew
            have hSS := (blk4' (blk_below' ((Below.refl W1.heap.size W1).drew) HQ.out)).1
            clear q0 q1 q2 q3
            generalize World.drew W1 = W3 at *
            refine wpAnyE_take (i := 0) (v := ?_) rfl (by kernel_rfl) (by kernel_rfl) (by kernel_rfl) (by kernel_rfl) (fun _ _ _ h => h) (Or.inl ⟨by rfl, ?_⟩) hSS ?_
            rotate_left
            · intro w hSw
              obtain ⟨j0, j1, j2, j3⟩ := hSw
              go_simp
              all_goals with_reducible rfl
            simp only [Act.put, List.setIfInBounds_toArray, List.set_cons_zero, List.set_cons_succ, List.getElem_toArray, List.getElem_cons_zero, List.getElem_cons_succ]
            refine wpAnyE_take (i := 1) (v := ?_) rfl (by kernel_rfl) (by kernel_rfl) (by kernel_rfl) (by kernel_rfl) (fun _ _ _ h => h) (Or.inl ⟨by rfl, ?_⟩) hSS ?_
            rotate_left
            · intro w hSw
              obtain ⟨j0, j1, j2, j3⟩ := hSw
              go_simp
              all_goals with_reducible rfl
            simp only [Act.put, List.setIfInBounds_toArray, List.set_cons_zero, List.set_cons_succ, List.getElem_toArray, List.getElem_cons_zero, List.getElem_cons_succ]
            refine wpAnyE_take (i := 2) (v := ?_) rfl (by kernel_rfl) (by kernel_rfl) (by kernel_rfl) (by kernel_rfl) (fun _ _ _ h => h) (Or.inl ⟨by rfl, ?_⟩) hSS ?_
            rotate_left
            · intro w hSw
              obtain ⟨j0, j1, j2, j3⟩ := hSw
              go_simp
              all_goals with_reducible rfl
            simp only [Act.put, List.setIfInBounds_toArray, List.set_cons_zero, List.set_cons_succ, List.getElem_toArray, List.getElem_cons_zero, List.getElem_cons_succ]
            refine wpAnyE_one (i := 3) (by kernel_rfl) rfl ?_
            change wpList _ _ (Exit.then _ _) [_] _ _
            try simp only [List.setIfInBounds_toArray, List.set_cons_zero, List.set_cons_succ, List.getElem_toArray, List.getElem_cons_zero, List.getElem_cons_succ]
            go_wp2_with (go_at_call 13; refine (step_any _ _ _ _ _ _ _ _ _ _ _ _ _ _ _ _ kk who a av cv ld k _ HDA.out HIA.out (by omega) HA.out (by omega) HR.out).mono ?_; rintro e w4 ⟨rfl, vb2, vw2, L2, d2, hD2, hI2⟩)
            clear hSS
            first | refine ⟨fun h => absurd h (by decide), ?_⟩ | refine ⟨trivial, ?_⟩ | skip
            try simp only [List.setIfInBounds_toArray, List.set_cons_zero, List.set_cons_succ, List.getElem_toArray, List.getElem_cons_zero, List.getElem_cons_succ]
            refine wpAnyE_one (i := 4) (by kernel_rfl) rfl ?_
            change wpList _ _ (Exit.then _ _) [_] _ _
            try simp only [List.setIfInBounds_toArray, List.set_cons_zero, List.set_cons_succ, List.getElem_toArray, List.getElem_cons_zero, List.getElem_cons_succ]
            go_wp2_with fail
            first | refine ⟨fun h => absurd h (by decide), ?_⟩ | refine ⟨trivial, ?_⟩ | skip
            try simp only [List.setIfInBounds_toArray, List.set_cons_zero, List.set_cons_succ, List.getElem_toArray, List.getElem_cons_zero, List.getElem_cons_succ]
            refine wpAnyE_end (by kernel_rfl) ?_
            have HD2 := Lib.hid hD2
            have HI2 := Lib.hid hI2
            clear hD2 hI2
            go_wp2_with fail
            have HE := Lib.hid HD2.out.swap
            refine (looks_any _ _ _ _ _ _ _ _ _ _ _ _ _ _ _ _ _ HE.out).mono ?_
            rintro e w8 ⟨rfl, vb8, vw8, L8, hD8⟩
            have HE := Lib.hid hD8.swap
            clear hD8
            go_wp2_with fail
            refine (looks_any _ _ _ _ _ _ _ _ _ _ _ _ _ _ _ _ _ HE.out).mono ?_
            rintro e w9' ⟨rfl, vb9, vw9, L9, hD9⟩
            have HE := Lib.hid hD9.swap
            clear hD9
            go_wp2_with fail
            go_roundw
            case rel => exact ⟨k + 1, _, _, _, _, _, _, _, _, _, _, _, by go_num, by omega, HE.out, HI.out.up, HI2.out⟩
            case measure => simp [intOf]; omega
    · obtain rfl : k = xs.length := by omega
      have b4 : ¬ ((xs.length : Nat) : Int) < ((xs.length : Nat) : Int) := by omega
      go_wp2_with fail
      refine (looks_any _ _ _ _ _ _ _ _ _ _ _ _ _ _ _ _ _ HDP.out).mono ?_
      rintro e w2 ⟨rfl, vb2, vw2, L2, hD2⟩
      have HD2 := Lib.hid hD2.swap
      clear hD2 HDP
      go_wp2_with fail
      refine (looks_any _ _ _ _ _ _ _ _ _ _ _ _ _ _ _ _ _ HD2.out).mono ?_
      rintro e w3 ⟨rfl, vb3, vw3, L3, hD3⟩
      have HD3 := Lib.hid hD3
      clear hD3 HD2
      go_wp2_with fail
      refine (apart_any _ _ _ _ _ _ HD3.out.bk HD3.out.low.size).mono ?_
      rintro e w4 ⟨rfl, hB4⟩
      go_wp2_with fail
      go_ret
      exact ⟨rfl, HD3.out.low.trans hB4⟩
end Go.Proofs.Ytpfiaepoibablaa
namespace Go.Proofs.Ytpfiaepoibablaa
set_option linter.unusedVariables false
set_option linter.unusedSimpArgs false
open Go.RowKit

set_option maxRecDepth 100000 in
set_option maxHeartbeats 1000000 in
theorem play_out_f (w : World) (a0 a1 : Option Addr) (n0 n1 c0 c1 : Nat) (h : 150 < n1 ∨ 1000 < n0) :
    Calls Try.prog 5 #[.slice a0 n0 c0, .slice a1 n1 c1, .bool false] w fun e w' => e = .returned (.bool true) ∧ Below w.heap.size w w' := by
  by_cases h1 : 150 < n1
  · have b0 : (150 : Int) < (n1 : Int) := by omega
    clear h h1
    go_enter Try.func5, Try.ntmps5
    go_wp2_with (go_at_call 6; refine (alive_any _).mono ?_; rintro e w9 ⟨rfl, hB9⟩)
    all_goals (go_ret; exact ⟨rfl, hB9⟩)
  · have b0 : ¬ (150 : Int) < (n1 : Int) := by omega
    have b1 : (1000 : Int) < (n0 : Int) := by omega
    clear h h1
    go_enter Try.func5, Try.ntmps5
    go_wp2_with (go_at_call 6; refine (alive_any _).mono ?_; rintro e w9 ⟨rfl, hB9⟩)
    all_goals (go_ret; exact ⟨rfl, hB9⟩)
theorem play_any_f (w : World) (v0 v1 : Value) (x0 : List Int) (s0 : RowOf w .u8 v0 x0) (w0 : ∀ x ∈ x0, (Lit.int .u8 x).wf = true) (x1 : List (List Value)) (s1 : RowsS w [.int .i64, .int .i64, .int .i64, .ints .u8] v1 x1) :
    Calls Try.prog 5 #[v0, v1, .bool false] w fun e w' => e = .returned (.bool true) ∧ Below w.heap.size w w' := by
  obtain ⟨a0, c0, im, rfl, h0, hc0, _⟩ := row_rd s0 w0
  obtain ⟨a1, c1, rfl, _, _, hx⟩ := s1
  by_cases hout : 150 < x1.length ∨ 1000 < im.length
  · exact play_out_f w a0 a1 _ _ c0 c1 hout
  by_cases hl : im.length = 256
  · exact play_full_f w a0 a1 c0 c1 im h0 hc0 hl x1 (by omega) hx
  · exact play_short_f w a0 a1 c0 c1 im (by omega) hl x1 (by omega) hx
set_option maxRecDepth 100000 in
set_option maxHeartbeats 1000000 in
theorem play_out_t (w : World) (a0 a1 : Option Addr) (n0 n1 c0 c1 : Nat) (h : 150 < n1 ∨ 1000 < n0) :
    Calls Try.prog 5 #[.slice a0 n0 c0, .slice a1 n1 c1, .bool true] w fun e w' => e = .returned (.bool true) ∧ Below w.heap.size w w' := by
  by_cases h1 : 150 < n1
  · have b0 : (150 : Int) < (n1 : Int) := by omega
    clear h h1
    go_enter Try.func5, Try.ntmps5
    go_wp2_with (go_at_call 6; refine (alive_any _).mono ?_; rintro e w9 ⟨rfl, hB9⟩)
    all_goals (go_ret; exact ⟨rfl, hB9⟩)
  · have b0 : ¬ (150 : Int) < (n1 : Int) := by omega
    have b1 : (1000 : Int) < (n0 : Int) := by omega
    clear h h1
    go_enter Try.func5, Try.ntmps5
    go_wp2_with (go_at_call 6; refine (alive_any _).mono ?_; rintro e w9 ⟨rfl, hB9⟩)
    all_goals (go_ret; exact ⟨rfl, hB9⟩)
theorem play_any_t (w : World) (v0 v1 : Value) (x0 : List Int) (s0 : RowOf w .u8 v0 x0) (w0 : ∀ x ∈ x0, (Lit.int .u8 x).wf = true) (x1 : List (List Value)) (s1 : RowsS w [.int .i64, .int .i64, .int .i64, .ints .u8] v1 x1) :
    Calls Try.prog 5 #[v0, v1, .bool true] w fun e w' => e = .returned (.bool true) ∧ Below w.heap.size w w' := by
  obtain ⟨a0, c0, im, rfl, h0, hc0, _⟩ := row_rd s0 w0
  obtain ⟨a1, c1, rfl, _, _, hx⟩ := s1
  by_cases hout : 150 < x1.length ∨ 1000 < im.length
  · exact play_out_t w a0 a1 _ _ c0 c1 hout
  by_cases hl : im.length = 256
  · exact play_full_t w a0 a1 c0 c1 im h0 hc0 hl x1 (by omega) hx
  · exact play_short_t w a0 a1 c0 c1 im (by omega) hl x1 (by omega) hx
theorem diskPlays_w (w : World) (v0 v1 : Value) (x0 : List Int) (s0 : RowOf w .u8 v0 x0) (w0 : ∀ x ∈ x0, (Lit.int .u8 x).wf = true) (x1 : List (List Value)) (s1 : RowsS w [.int .i64, .int .i64, .int .i64, .ints .u8] v1 x1) :
    Calls Try.prog 3 #[v0, v1] w fun e w' => e = .returned (.bool true) ∧ Below w.heap.size w w' := by
  go_enter Try.func3, Try.ntmps3
  go_wp2_with (go_at_call 5; refine (play_any_f _ v0 v1 x0 s0 w0 x1 s1).mono ?_; rintro e w9 ⟨rfl, hB9⟩)
  go_ret
  exact ⟨rfl, hB9⟩
theorem diskAll_w (w : World) (v0 v1 : Value) (x0 : List Int) (s0 : RowOf w .u8 v0 x0) (w0 : ∀ x ∈ x0, (Lit.int .u8 x).wf = true) (x1 : List (List Value)) (s1 : RowsS w [.int .i64, .int .i64, .int .i64, .ints .u8] v1 x1) :
    Calls Try.prog 4 #[v0, v1] w fun e w' => e = .returned (.bool true) ∧ Below w.heap.size w w' := by
  go_enter Try.func4, Try.ntmps4
  go_wp2_with (go_at_call 5; refine (play_any_t _ v0 v1 x0 s0 w0 x1 s1).mono ?_; rintro e w9 ⟨rfl, hB9⟩)
  go_ret
  exact ⟨rfl, hB9⟩
end Go.Proofs.Ytpfiaepoibablaa
