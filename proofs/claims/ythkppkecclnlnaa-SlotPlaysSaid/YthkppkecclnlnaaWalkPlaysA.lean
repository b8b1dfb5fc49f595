/- The walk of the law SlotPlays, of an image that fits. -/
import Derived.Test.YthkppkecclnlnaaPlayN
import Derived.Test.YthkppkecclnlnaaSlotAl
import Derived.Test.YthkppkecclnlnaaOpsQ
import Derived.Test.YthkppkecclnlnaaOf
import Derived.Test.YthkppkecclnlnaaArgs
import Derived.Deep.RegionHeld3
import Derived.BigQuiet
import Derived.BigRegion
import Derived.Deep.CutBlock
namespace Go.Proofs.Ythkppkecclnlnaa
set_option linter.unusedVariables false
set_option linter.unusedSimpArgs false
open Go.RowKit

set_option maxRecDepth 100000 in
set_option maxHeartbeats 4000000 in
theorem slotPlays_full (w : World) (v0 v : Value) (zs : List Int) (xs : List (List Int)) (hz : RowOf w .u8 v0 zs) (hzf : ∀ x ∈ zs, (Lit.int .u8 x).wf = true) (hrow : RowsOf w 6 v xs) (hwf : ∀ x ∈ xs, ∀ y ∈ x, (Lit.int .i64 y).wf = true) (h256 : zs.length = 256) :
    Calls Try.prog 12 #[v0, v] w fun e w' => e = .returned (.bool true) ∧ Below w.heap.size w w' := by
  have H256 := Lib.hid h256
  clear h256
  have HR := Lib.hid hrow
  have HW := Lib.hid hwf
  obtain ⟨p, cap, rfl, _, _, _⟩ := hrow
  obtain ⟨a0, cap0, rfl, hcap0, _, hcell0⟩ := hz.slice
  have HZ := Lib.hid hcell0
  clear hwf hz hcell0
  by_cases hout : 100 < xs.length
  · have b0 : (100 : Int) < (xs.length : Int) := by omega
    clear hout
    go_enter Try.func12, Try.ntmps12
    go_wp2_with (go_at_call 37; refine (alive11_any _).mono ?_; rintro e w9 ⟨rfl, hB9⟩)
    all_goals (go_ret; exact ⟨rfl, hB9⟩)
  have b0 : ¬ (100 : Int) < (xs.length : Int) := by omega
  have HN := Lib.hid hout
  clear hout
  by_cases hout2 : 1000 < zs.length
  · have b1 : (1000 : Int) < (zs.length : Int) := by omega
    clear hout2
    go_enter Try.func12, Try.ntmps12
    go_wp2_with (go_at_call 37; refine (alive11_any _).mono ?_; rintro e w9 ⟨rfl, hB9⟩)
    all_goals (go_ret; exact ⟨rfl, hB9⟩)
  have b1 : ¬ (1000 : Int) < (zs.length : Int) := by omega
  clear hout2
  · have h256 := H256.out
    obtain ⟨x0, hx0⟩ : ∃ x, zs[0]? = some x := ⟨_, List.getElem?_eq_getElem (by omega)⟩
    obtain ⟨p0, rfl, hp0⟩ := HZ.out 0 x0 hx0
    obtain ⟨l, hl⟩ : ∃ l : List Nat, zs.map Int.toNat = l := ⟨_, rfl⟩
    have hll : l.length = 256 := by rw [← hl, List.length_map, h256]
    have hbnd : ∀ x ∈ zs, 0 ≤ x ∧ x < 256 := fun x hx => by
      have h := hzf x hx
      simp only [Lit.wf, Bool.and_eq_true, decide_eq_true_eq] at h
      have h5 : IntKind.u8.max = 255 := by decide
      have h6 : IntKind.u8.min = 0 := by decide
      omega
    have hcl : ∀ j x : Nat, l[j]? = some x → w.cell? (p0.add j) = some (.int .u8 (x : Int)) := fun j x hx => by
      rw [← hl, List.getElem?_map] at hx
      obtain ⟨y, hy, rfl⟩ := Option.map_eq_some_iff.1 hx
      obtain ⟨p', hp', hc'⟩ := HZ.out j y hy
      cases hp'
      rw [hc', Int.toNat_of_nonneg (hbnd y (List.mem_of_getElem? hy)).1]
    have hlt256 : ∀ c ∈ l, c < 256 := fun c hc => by
      rw [← hl] at hc
      obtain ⟨y, hy, rfl⟩ := List.mem_map.1 hc
      have := hbnd y hy
      omega
    have hpb : p0.block < w.heap.size := by have := cell_lt hp0; rwa [add_block] at this
    have HD := Lib.hid (of_any p0 cap0 l w hll (by omega) hpb hcl)
    have HCL := Lib.hid (And.intro hll (And.intro hcl (And.intro hlt256 hpb)))
    rw [h256]
    clear hx0 hp0 hl hll hbnd hcl hlt256 hpb h256 hcap0 hzf HZ b1
    go_enter Try.func12, Try.ntmps12
    go_wp2_with (go_at_call 34; refine HD.out.mono ?_; rintro e w1 ⟨b, rfl, hb1, hD1, hB1⟩)
    have hpb1 : p0.block < w1.heap.size := by have := HCL.out.2.2.2; have := hB1.size; omega
    refine (refOf_any p0 cap0 l w1 HCL.out.1 hpb1 (fun j x hx => by have h0 := HCL.out.2.1 j x hx; exact (hB1.cell (cell_lt h0)).trans h0)).mono ?_
    rintro e w2 ⟨v4, rfl, ⟨gb, n, rest, rfl, hn, hgb, hcs, hclen⟩, hB2⟩
    have hv4 : rkV gb n { Dk.new with bs := l } = .agg #[.slice (some ⟨gb, 0, none⟩) 256 n, .bool false, .int .i64 (-1), .int .i64 0] := rfl
    rw [hv4]
    have hb2 := below_then hB1 hB2
    have hs2 := hb2.size
    have hbl := (hD1.below hB2).lt
    have hgl := blk_lt hcs
    have hsz1 := hB1.size
    have hblt := hD1.lt
    obtain ⟨W2, hW2⟩ : ∃ W2, w2.alloc (.cells #[.slice (some ⟨gb, 0, none⟩) 256 n, .bool false, .int .i64 (-1), .int .i64 0] 59) = W2 := ⟨_, rfl⟩
    obtain ⟨rb, hrb⟩ : ∃ rb, w2.heap.size = rb := ⟨_, rfl⟩
    obtain ⟨D0, hD0⟩ : ∃ D0, ({ Dk.new with bs := l } : Dk) = D0 := ⟨_, rfl⟩
    have HI0 : Hid (SpI D0 0) := by rw [← hD0]; exact ⟨HCL.out.2.2.1, Nat.le_refl _, Nat.zero_le _⟩
    have HS0 : Hid (SP w b rb 0 gb n D0 D0 W2) := by
      have hal : Below w2.heap.size w2 W2 := by rw [← hW2]; exact (Below.refl _ w2).alloc (Nat.le_refl _) _
      refine ⟨by rw [← hD0]; exact (hD1.below hB2).below hal, ?_, below_then hb2 hal, by omega, by omega, by omega, by omega, by omega⟩
      rw [← hD0, ← hrb]
      refine .ofBox (t := 59) (rest := rest) ?_ (blk_below' hal hcs) hclen (by omega)
      rw [← hW2]; exact blk_new w2 _
    have HW2 := Lib.hid hW2
    have HRB := Lib.hid hrb
    clear hW2 hrb hD0 hcs hclen hb2 hs2 hbl hgl hD1 hB1 hB2 hb1 hgb hpb1 hv4 HD HCL hsz1 hblt
    go_upto_region 9 with fail
    rw [HW2.out, HRB.out]
    clear HW2 HRB
    go_wp2_with fail
    go_loopw [9] (fun iv wr => ∃ (i : Nat) (d : Dk), iv = .int .i64 i ∧ i ≤ xs.length ∧ Hid (SpI d i) ∧ Hid (SP w b rb 0 gb n d d wr)) (fun iv _ => xs.length - (intOf iv).toNat)
    case atStart => exact ⟨0, D0, rfl, by omega, HI0.out, HS0.out⟩
    case round =>
      obtain ⟨i, d, rfl, hi, HI, HS⟩ := hrel
      by_cases hlt : i < xs.length
      · obtain ⟨k, a, s, x, y, z, g, o, cap', hx, hv, r0, r1, r2, r3, r4, r5⟩ := rows6 HR.out hlt
        injection hv with hv1 hv2 hv3
        subst hv1 hv3
        have i1 : (i : Int) < (xs.length : Int) := by omega
        have i2 : (0 : Int) ≤ (i : Int) := by omega
        have i3 : (i : Int).toNat = i := Int.toNat_natCast i
        have r0 := (HS.out.low.cell (cell_lt r0)).trans r0
        have r1 := (HS.out.low.cell (cell_lt r1)).trans r1
        have r2 := (HS.out.low.cell (cell_lt r2)).trans r2
        have r3 := (HS.out.low.cell (cell_lt r3)).trans r3
        have r4 := (HS.out.low.cell (cell_lt r4)).trans r4
        have r5 := (HS.out.low.cell (cell_lt r5)).trans r5
        have HWF := Lib.hid (show (Lit.int .i64 a).wf = true from HW.out _ (List.mem_of_getElem? hx) a (by simp))
        clear hx
        go_upto_block 2 with fail
        have HO : Hid (SO w b rb 0 gb n wr.heap.size k a s x y z d d (wr.alloc (.cells #[.int .i64 k, .int .i64 a, .int .i64 s, .int .i64 x, .int .i64 y, .int .i64 z] 64))) :=
          ⟨HS.out.below ((Below.refl _ _).alloc (Nat.le_refl _) _), blk_new wr _, ⟨by have := HS.out.disk.lt; omega, by have := HS.out.ref.lt.1; omega, by have := HS.out.ref.lt.2; omega⟩⟩
        obtain ⟨g2, hg2⟩ : ∃ g2, wr.heap.size = g2 := ⟨_, rfl⟩
        obtain ⟨W2, hW2⟩ : ∃ W2, wr.alloc (.cells #[.int .i64 k, .int .i64 a, .int .i64 s, .int .i64 x, .int .i64 y, .int .i64 z] 64) = W2 := ⟨_, rfl⟩
        rw [hg2, hW2] at HO
        rw [hg2, hW2]
        have hwb : d.writes ≤ 4611686018427387900 := by have := HI.out.wr; have := HN.out; omega
        have HWB := Lib.hid hwb
        clear hg2 hW2 r0 r1 r2 r3 r4 r5 HS hwb
        go_cut [11, 12, 13, 14, 15, 16, 17, 18, 19] from 50 to 182 (fun v11 v12 v13 v14 v15 v16 v17 v18 v19 wx => ∃ d' : Dk, Hid (SpI d' (i + 1)) ∧ Hid (SP w b rb 0 gb n d' d' wx))
        case first =>
          by_cases k1 : k = 1
          · subst k1
            have HSV := Lib.hid (save_any b d x y z W2.drew HO.out.drew.sp.disk HI.out.lt (by have := HWB.out; omega) HI.out.fz)
            unfold recV at HSV
            obtain ⟨⟨q0, q1, q2⟩, ⟨q3, q4, q5⟩, _⟩ := HO.out.cells
            go_wp2_with fail
            go_region_with (first
              | (go_at_call 39; refine HSV.out.mono ?_; rintro e w3 ⟨rfl, hD3, hg3⟩; have ho3 := HO.out.drew.turnD hD3 hg3; obtain ⟨⟨p0, p1, p2⟩, ⟨p3, p4, p5⟩, _⟩ := ho3.cells; have HSR := Lib.hid (refSave_any rb 0 gb n d x y z w3 ho3.sp.ref hn HI.out.lt (by have := HWB.out; omega) HI.out.fz); unfold recV at HSR)
              | (go_at_call 43; refine HSR.out.mono ?_; rintro e w4 ⟨rfl, hR4, hG4⟩; have ho4 := ho3.turnR hR4 hG4; obtain ⟨⟨p0, p1, p2⟩, ⟨p3, p4, p5⟩, _⟩ := ho4.cells))
            all_goals (go_wp2_with fail; go_meet; exact ⟨_, HI.out.save x y z, ho4.sp⟩)
          by_cases k2 : k = 2
          · subst k2
            obtain ⟨l1, l2, l3, l4, l5, hform⟩ := loadA_form d
            have hla := load_any b d W2 HO.out.sp.disk HI.out.lt
            rw [hform] at hla
            have HLA := Lib.hid hla
            have HFO := Lib.hid hform
            clear hla hform
            obtain ⟨⟨q0, q1, q2⟩, ⟨q3, q4, q5⟩, _⟩ := HO.out.cells
            go_wp2_with fail
            refine HLA.out.mono ?_
            rintro e w3 ⟨rfl, hB3⟩
            have ho3 := HO.out.sp.below hB3
            have ho4 := ho3.below ((Below.refl _ w3).alloc (Nat.le_refl _) (.cells #[.int .i64 l1, .int .i64 l2, .int .i64 l3] 47))
            have hm4 := box3 w3 (.int .i64 l1) (.int .i64 l2) (.int .i64 l3) 47
            clear hB3 ho3 q0 q1 q2 q3 q4 q5
            go_upto_region 19 with fail
            generalize World.alloc w3 _ = W4 at *
            have hra := refLoad_any rb 0 gb n d W4 ho4.ref hn HI.out.lt
            rw [HFO.out] at hra
            have HRA := Lib.hid hra
            clear hra
            go_wp2_with fail
            refine HRA.out.mono ?_
            rintro e w5 ⟨rfl, hB5⟩
            have ho5 := ho4.below hB5
            have hm5 := blk_below' hB5 hm4
            have ho6 := ho5.below ((Below.refl _ w5).alloc (Nat.le_refl _) (.cells #[.int .i64 l1, .int .i64 l2, .int .i64 l3] 47))
            have hm6 := blk_old hm5 (.cells #[.int .i64 l1, .int .i64 l2, .int .i64 l3] 47)
            have hn6 := box3 w5 (.int .i64 l1) (.int .i64 l2) (.int .i64 l3) 47
            clear hB5 ho5 hm5 ho4 hm4
            go_upto_region 20 with fail
            generalize World.alloc w5 _ = W6 at *
            obtain ⟨y0, y1, y2, _⟩ := blk3 hm6
            obtain ⟨z0, z1, z2, _⟩ := blk3 hn6
            go_wp2_with fail
            go_meet
            exact ⟨d, HI.out.up, ho6⟩
          by_cases k3 : k = 3
          · subst k3
            obtain ⟨⟨q0, q1, q2⟩, ⟨q3, q4, q5⟩, _⟩ := HO.out.cells
            go_wp2_with fail
            refine (fuse_any b d a W2 HO.out.sp.disk).mono ?_
            rintro e w3 ⟨rfl, hD3, hg3⟩
            have ho3 := HO.out.turnD hD3 hg3
            obtain ⟨⟨p0, p1, p2⟩, ⟨p3, p4, p5⟩, _⟩ := ho3.cells
            have HSE := Lib.hid (refSet_any rb 0 gb n _ a w3 ho3.sp.ref)
            go_wp2_with fail
            refine HSE.out.mono ?_
            rintro e w4 ⟨rfl, hR4, hG4⟩
            have ho4 := ho3.turnR hR4 hG4
            go_wp2_with fail
            go_meet
            exact ⟨_, HI.out.fuse a HWF.out, ho4.sp⟩
          by_cases k4 : k = 4
          · subst k4
            obtain ⟨⟨q0, q1, q2⟩, ⟨q3, q4, q5⟩, _⟩ := HO.out.cells
            go_wp2_with fail
            refine (cut_any b d W2 HO.out.sp.disk).mono ?_
            rintro e w3 ⟨rfl, hD3, hg3⟩
            have ho3 := HO.out.turnD hD3 hg3
            have p1 : w3.cell? ⟨rb, 1, none⟩ = some (.bool d.off) := ho3.sp.ref.cells.2.1
            have p2 : w3.frozen? ⟨rb, 1, none⟩ = false := ho3.sp.ref.free.2.1
            have HO3 := Lib.hid ho3
            clear ho3
            go_wp2_with fail
            go_meet
            exact ⟨_, HI.out.off true, (HO3.out.turnR (HO3.out.sp.ref.off true) ((Chg.refl _ _ _ _).set 1 _ (by decide) HO3.out.sp.ref.lt.1)).sp⟩
          by_cases k5 : k = 5
          · subst k5
            obtain ⟨⟨q0, q1, q2⟩, ⟨q3, q4, q5⟩, _⟩ := HO.out.cells
            go_wp2_with fail
            refine (restore_any b d W2 HO.out.sp.disk).mono ?_
            rintro e w3 ⟨rfl, hD3, hg3⟩
            have ho3 := HO.out.turnD hD3 hg3
            have p1 : w3.cell? ⟨rb, 1, none⟩ = some (.bool d.off) := ho3.sp.ref.cells.2.1
            have p2 : w3.frozen? ⟨rb, 1, none⟩ = false := ho3.sp.ref.free.2.1
            have HO3 := Lib.hid ho3
            clear ho3
            go_wp2_with fail
            go_meet
            exact ⟨_, HI.out.off false, (HO3.out.turnR (HO3.out.sp.ref.off false) ((Chg.refl _ _ _ _).set 1 _ (by decide) HO3.out.sp.ref.lt.1)).sp⟩
          by_cases k6 : k = 6
          · subst k6
            obtain ⟨⟨q0, q1, q2⟩, ⟨q3, q4, q5⟩, _⟩ := HO.out.cells
            by_cases hok : encOk x y z s
            · have hmay : (⟨x.toNat, y.toNat, z.toNat, s.toNat⟩ : Rc).may := by
                obtain ⟨⟨m1, m2, m3, m4, m5, m6⟩, m7, m8⟩ := hok
                exact ⟨by show 1 ≤ x.toNat; omega, by show x.toNat ≤ _; omega, by show y.toNat ≤ _; omega, by show z.toNat ≤ _; omega, by show 1 ≤ s.toNat; omega, by show s.toNat ≤ _; omega⟩
              have hE := refEncode_ok ⟨x.toNat, y.toNat, z.toNat, s.toNat⟩ hmay W2
              have e1 : ((x.toNat : Nat) : Int) = x := Int.toNat_of_nonneg (by have := hok.1.1; omega)
              have e2 : ((y.toNat : Nat) : Int) = y := Int.toNat_of_nonneg hok.1.2.2.1
              have e3 : ((z.toNat : Nat) : Int) = z := Int.toNat_of_nonneg hok.1.2.2.2.2.1
              have e4 : ((s.toNat : Nat) : Int) = s := Int.toNat_of_nonneg (by have := hok.2.1; omega)
              dsimp only at hE
              rw [e1, e2, e3, e4] at hE
              have hlL := encL_len ⟨x.toNat, y.toNat, z.toNat, s.toNat⟩
              have hltL := encL_lt ⟨x.toNat, y.toNat, z.toNat, s.toNat⟩
              generalize encL ⟨x.toNat, y.toNat, z.toNat, s.toNat⟩ = L at hE hlL hltL
              have HE := Lib.hid hE
              unfold recV at HE
              have HLL := Lib.hid (And.intro hlL hltL)
              clear e1 e2 e3 e4 hmay hok hE hlL hltL
              go_wp2_with fail
              refine HE.out.mono ?_
              rintro e w3 ⟨v3, rfl, ⟨g3, rfl, hg31, hg32⟩, hB3⟩
              have ho3 := HO.out.below hB3
              obtain ⟨⟨p0, p1, p2⟩, ⟨p3, p4, p5⟩, _⟩ := ho3.cells
              have hc3 : CellsAt w3 ⟨g3, 0, none⟩ L := cells_blk hg32
              have HO3 := Lib.hid ho3
              clear ho3 hg32 q0 q1 q2 q3 q4 q5
              go_upto_region 35 with fail
              have hgb : g3 ≠ b := by have := HO.out.sp.disk.lt; omega
              have hgr : g3 ≠ rb := by have := HO.out.sp.ref.lt.1; omega
              have hgg : g3 ≠ gb := by have := HO.out.sp.ref.lt.2; omega
              have HG := Lib.hid (And.intro hgb (And.intro hgr hgg))
              have HC3 := Lib.hid hc3
              clear hgb hgr hgg hc3 hg31 hB3
              rcases and3 a with hm | hm | hm | hm
              · rw [hm]
                clear hm
                have HW1 := Lib.hid (write_any b d 0 (.slice (some ⟨g3, 0 * 32, none⟩) 32 64) ((L.drop (0 * 32)).take 32) w3 HO3.out.sp.disk (bytes_of2 (part2 HC3.out HLL.out.1 0 64 (by decide) HG.out.1 HG.out.1)) (by rw [List.length_take]; omega) (by have := HWB.out; omega) HI.out.fz)
                go_wp2_with fail
                refine HW1.out.mono ?_
                rintro e w4 ⟨rfl, hD4, hg4⟩
                have ho4 := HO3.out.sp.turnD hD4 hg4
                have HW2 := Lib.hid (refWrite_any rb 0 gb n d 0 (.slice (some ⟨g3, 0 * 32, none⟩) 32 64) ((L.drop (0 * 32)).take 32) w4 ho4.ref (part2 (HC3.out.but hg4 HG.out.1) HLL.out.1 0 64 (by decide) HG.out.2.1 HG.out.2.2) (by rw [List.length_take]; omega) (by have := HWB.out; omega) HI.out.fz)
                clear HW1 hD4 hg4
                go_wp2_with fail
                refine HW2.out.mono ?_
                rintro e w5 ⟨rfl, hR5, hG5⟩
                have ho5 := ho4.turnR hR5 hG5
                clear HW2 hR5 hG5
                go_wp2_with fail
                go_meet
                exact ⟨_, HI.out.write 0 (fun c hc => HLL.out.2 c (List.mem_of_mem_drop (List.mem_of_mem_take hc))), ho5⟩
              · rw [hm]
                clear hm
                have HW1 := Lib.hid (write_any b d 1 (.slice (some ⟨g3, 1 * 32, none⟩) 32 32) ((L.drop (1 * 32)).take 32) w3 HO3.out.sp.disk (bytes_of2 (part2 HC3.out HLL.out.1 1 32 (by decide) HG.out.1 HG.out.1)) (by rw [List.length_take]; omega) (by have := HWB.out; omega) HI.out.fz)
                go_wp2_with fail
                refine HW1.out.mono ?_
                rintro e w4 ⟨rfl, hD4, hg4⟩
                have ho4 := HO3.out.sp.turnD hD4 hg4
                have HW2 := Lib.hid (refWrite_any rb 0 gb n d 1 (.slice (some ⟨g3, 1 * 32, none⟩) 32 32) ((L.drop (1 * 32)).take 32) w4 ho4.ref (part2 (HC3.out.but hg4 HG.out.1) HLL.out.1 1 32 (by decide) HG.out.2.1 HG.out.2.2) (by rw [List.length_take]; omega) (by have := HWB.out; omega) HI.out.fz)
                clear HW1 hD4 hg4
                go_wp2_with fail
                refine HW2.out.mono ?_
                rintro e w5 ⟨rfl, hR5, hG5⟩
                have ho5 := ho4.turnR hR5 hG5
                clear HW2 hR5 hG5
                go_wp2_with fail
                go_meet
                exact ⟨_, HI.out.write 1 (fun c hc => HLL.out.2 c (List.mem_of_mem_drop (List.mem_of_mem_take hc))), ho5⟩
              · rw [hm]
                clear hm
                have HW1 := Lib.hid (write_any b d 2 (.slice (some ⟨g3, 0 * 32, none⟩) 32 64) ((L.drop (0 * 32)).take 32) w3 HO3.out.sp.disk (bytes_of2 (part2 HC3.out HLL.out.1 0 64 (by decide) HG.out.1 HG.out.1)) (by rw [List.length_take]; omega) (by have := HWB.out; omega) HI.out.fz)
                go_wp2_with fail
                refine HW1.out.mono ?_
                rintro e w4 ⟨rfl, hD4, hg4⟩
                have ho4 := HO3.out.sp.turnD hD4 hg4
                have HW2 := Lib.hid (refWrite_any rb 0 gb n d 2 (.slice (some ⟨g3, 0 * 32, none⟩) 32 64) ((L.drop (0 * 32)).take 32) w4 ho4.ref (part2 (HC3.out.but hg4 HG.out.1) HLL.out.1 0 64 (by decide) HG.out.2.1 HG.out.2.2) (by rw [List.length_take]; omega) (by have := HWB.out; omega) HI.out.fz)
                clear HW1 hD4 hg4
                go_wp2_with fail
                refine HW2.out.mono ?_
                rintro e w5 ⟨rfl, hR5, hG5⟩
                have ho5 := ho4.turnR hR5 hG5
                clear HW2 hR5 hG5
                go_wp2_with fail
                go_meet
                exact ⟨_, HI.out.write 2 (fun c hc => HLL.out.2 c (List.mem_of_mem_drop (List.mem_of_mem_take hc))), ho5⟩
              · rw [hm]
                clear hm
                have HW1 := Lib.hid (write_any b d 3 (.slice (some ⟨g3, 1 * 32, none⟩) 32 32) ((L.drop (1 * 32)).take 32) w3 HO3.out.sp.disk (bytes_of2 (part2 HC3.out HLL.out.1 1 32 (by decide) HG.out.1 HG.out.1)) (by rw [List.length_take]; omega) (by have := HWB.out; omega) HI.out.fz)
                go_wp2_with fail
                refine HW1.out.mono ?_
                rintro e w4 ⟨rfl, hD4, hg4⟩
                have ho4 := HO3.out.sp.turnD hD4 hg4
                have HW2 := Lib.hid (refWrite_any rb 0 gb n d 3 (.slice (some ⟨g3, 1 * 32, none⟩) 32 32) ((L.drop (1 * 32)).take 32) w4 ho4.ref (part2 (HC3.out.but hg4 HG.out.1) HLL.out.1 1 32 (by decide) HG.out.2.1 HG.out.2.2) (by rw [List.length_take]; omega) (by have := HWB.out; omega) HI.out.fz)
                clear HW1 hD4 hg4
                go_wp2_with fail
                refine HW2.out.mono ?_
                rintro e w5 ⟨rfl, hR5, hG5⟩
                have ho5 := ho4.turnR hR5 hG5
                clear HW2 hR5 hG5
                go_wp2_with fail
                go_meet
                exact ⟨_, HI.out.write 3 (fun c hc => HLL.out.2 c (List.mem_of_mem_drop (List.mem_of_mem_take hc))), ho5⟩
            · have hE := refEncode_no x y z s hok W2
              unfold recV at hE
              have HE := Lib.hid hE
              clear hok hE
              go_wp2_with fail
              refine HE.out.mono ?_
              rintro e w3 ⟨rfl, hB3⟩
              have HO3 := Lib.hid (HO.out.below hB3)
              clear hB3
              go_wp2_with fail
              go_meet
              exact ⟨d, HI.out.up, HO3.out.sp⟩
          obtain ⟨⟨q0, q1, q2⟩, ⟨q3, q4, q5⟩, _⟩ := HO.out.cells
          go_wp2_with fail
          go_meet
          exact ⟨d, HI.out.up, HO.out.sp⟩
        case rest =>
          obtain ⟨d', HI', HS'⟩ := hcut
          clear HO HI HWB
          have hS0 := HS'.out.drew
          have HLE := Lib.hid (fun (w : World) (h : DkAt w b d') => (show Calls Try.prog 29 #[.pointer (some ⟨b, 0, none⟩)] w fun e w' => e = .returned (.int .i64 (fuZ d')) ∧ Below w.heap.size w w' from left_any b d' w h))
          go_upto_region 37 with fail
          go_region_held3 (fun w' => (w'.cell? ⟨rb, 0, none⟩ = some (.slice (some ⟨gb, 0, none⟩) 256 n) ∧ w'.cell? ⟨rb, 0 + 1, none⟩ = some (.bool d'.off) ∧ w'.cell? ⟨rb, 0 + 2, none⟩ = some (.int .i64 (fuZ d')) ∧ w'.cell? ⟨rb, 0 + 3, none⟩ = some (.int .i64 (d'.writes : Nat))) ∧ SP w b rb 0 gb n d' d' w')
            (exact SP.all (by first | with_reducible exact hS0 | with_reducible exact hK5 | with_reducible exact hK4 | with_reducible exact hK3 | with_reducible exact hK2 | with_reducible exact hK1))
            (first
              | (go_at_call 25; have hk := (‹_ ∧ SP _ _ _ _ _ _ _ _ _›).2; refine (image_any b d' _ hk.disk).mono ?_; rintro e w5 ⟨v5, rfl, ho5, hB5⟩; have hK1 := hk.below hB5; obtain ⟨g5, c5, rfl, _, _⟩ := ownsRow_pos ho5 (by omega); have hc5 := row_all ho5 hk.disk.2)
              | (go_at_call 26; have hk := (‹_ ∧ SP _ _ _ _ _ _ _ _ _›).2; refine (same_any _ _ d'.bs d'.bs _ _ _ _ _ (by rw [hk.disk.2]) (by rw [hk.disk.2]) (by rw [hk.disk.2]; decide) (by rw [hk.disk.2]; decide) hc5 (fun j x hx => ⟨_, rfl, by rw [Addr.add_mid, Nat.zero_add]; exact (hk.ref.cell j x hx).1⟩)).mono ?_; rintro e w6 ⟨rfl, hB6⟩; rw [decide_eq_true (rfl : d'.bs = d'.bs)]; have hK2 := hk.below hB6)
              | (go_at_call 28; have hk := (‹_ ∧ SP _ _ _ _ _ _ _ _ _›).2; refine (on_any b d' _ hk.disk).mono ?_; rintro e w7 ⟨rfl, hB7⟩; have hK3 := hk.below hB7)
              | (go_at_call 27; have hk := (‹_ ∧ SP _ _ _ _ _ _ _ _ _›).2; refine (writes_any b d' _ hk.disk).mono ?_; rintro e w8 ⟨rfl, hB8⟩; have hK4 := hk.below hB8)
              | (go_at_call 29; have hk := (‹_ ∧ SP _ _ _ _ _ _ _ _ _›).2; refine (HLE.out _ hk.disk).mono ?_; rintro e w9 ⟨rfl, hB9⟩; have hK5 := hk.below hB9))
          go_wp2_with fail
          go_roundw
          case rel => exact ⟨i + 1, d', by go_num, by omega, HI', hK5⟩
          case measure => simp [intOf]; omega
      · go_wp2_with fail
        refine (loadR_nil _).mono ?_
        rintro e w5 ⟨rfl, hB5⟩
        unfold recV
        have hS5 := HS.out.below hB5
        go_wp2_with (go_at_call 37; refine (alive11_any _).mono ?_; rintro e w9 ⟨rfl, hB9⟩)
        all_goals (go_ret; exact ⟨rfl, below_then (hS5.low.alloc hS5.low.size _) hB9⟩)
end Go.Proofs.Ythkppkecclnlnaa
