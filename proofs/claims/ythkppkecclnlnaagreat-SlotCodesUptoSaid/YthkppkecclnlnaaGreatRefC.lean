/- Walks: the document's Decode. -/
import Derived.Test.YthkppkecclnlnaaGreatRefB
namespace Go.Proofs.YthkppkecclnlnaaGreat
set_option linter.unusedVariables false
set_option linter.unusedSimpArgs false
open Go.RowKit

theorem refDec_end {w W : World} {A : Value} {a : Act} {x y z i c : Int} (hd : a.defers = []) (h2 : a.tmps[2]?.getD undef = .pointer (some ⟨w.heap.size, 0, none⟩)) (h3 : a.tmps[3]?.getD undef = .int .i64 i) (h4 : a.tmps[4]?.getD undef = .int .i64 c)
    (hb : W.heap[w.heap.size]? = some (.cells #[.int .i64 x, .int .i64 y, .int .i64 z] 23 (0, 0))) (hl : Below w.heap.size w W)
    (he : .tuple #[.agg #[.int .i64 x, .int .i64 y, .int .i64 z], .int .i64 i, .int .i64 c] = A) :
    bodyPost Tryz.prog Tryz.f9 (fun e w' => e = .returned A ∧ Below w.heap.size w w') Exit.ret a W := by
  obtain ⟨y0, y1, y2, _⟩ := blk3 hb
  refine bodyPost_ret (v := .tuple #[.agg #[.int .i64 x, .int .i64 y, .int .i64 z], .int .i64 i, .int .i64 c]) ?_ hd ⟨by rw [he], hl⟩
  simp [results, Tryz.results9, go_sem, h2, h3, h4, y0, y1, y2]
set_option maxRecDepth 100000 in
set_option maxHeartbeats 2000000 in
theorem refDecode_any (g q : Nat) (cp : Nat) (l : List Nat) (hl : l.length = 64) (hlt : ∀ c ∈ l, c < 256) (w : World) (hc : CellsAt w ⟨g, q, none⟩ l) (hgw : g < w.heap.size) : Calls Tryz.prog 9 #[.slice (some ⟨g, q, none⟩) 64 cp] w fun e w' =>
    e = .returned (decA (decL l)) ∧ Below w.heap.size w w' := by
  have hk : TK w ⟨g, q, none⟩ l (w.alloc (.cells #[.int .i64 0, .int .i64 0, .int .i64 0] 23)) := ⟨hc.below ((Below.refl _ w).alloc (Nat.le_refl _) _), (Below.refl _ w).alloc (Nat.le_refl _) _, box3 w _ _ _ _⟩
  obtain ⟨A, hA⟩ : ∃ A, decA (decL l) = A := ⟨_, rfl⟩
  rw [hA]
  have HA := Lib.hid hA
  obtain ⟨c4, hc4⟩ : ∃ c, l[4]? = some c := ⟨_, List.getElem?_eq_getElem (by omega)⟩
  obtain ⟨r, hr⟩ : ∃ r, rcVal l = r := ⟨_, rfl⟩
  have hr1 : valF 0 ((l.drop 12).take 4) = r.life := by rw [← hr]; rfl
  have hr2 : valF 0 ((l.drop 16).take 5) = r.round := by rw [← hr]; rfl
  have hr3 : valF 0 ((l.drop 44).take 3) = r.tag := by rw [← hr]; rfl
  have hr4 : valF 0 ((l.drop 4).take 8) = r.seq := by rw [← hr]; rfl
  have HR := Lib.hid hr
  clear hA hc hr
  go_enter Tryz.func9, Tryz.ntmps9
  go_wp2_with fail
  generalize World.alloc w _ = W1 at *
  refine (value_any g q 12 4 64 cp l _ hl (by decide) (by decide) hlt (part_bound hlt 12 4 (by decide)) (hk).bytes).mono ?_
  rintro e w2 ⟨rfl, hB⟩
  have hk2 := (hk).below hB
  clear hB
  go_wp2_with fail
  refine (value_any g q 16 5 64 cp l _ hl (by decide) (by decide) hlt (part_bound hlt 16 5 (by decide)) (hk2).bytes).mono ?_
  rintro e w3 ⟨rfl, hB⟩
  have hk3 := (hk2).below hB
  clear hB
  go_wp2_with fail
  refine (value_any g q 44 3 64 cp l _ hl (by decide) (by decide) hlt (part_bound hlt 44 3 (by decide)) (hk3).bytes).mono ?_
  rintro e w4 ⟨rfl, hB⟩
  have hk4 := (hk3).below hB
  clear hB
  rw [hr3]
  clear hk hk2 hk3
  have hk5 := hk4.below ((Below.refl _ w4).alloc (Nat.le_refl _) (.cells #[.int .i64 (r.life : Int), .int .i64 (r.round : Int), .int .i64 (r.tag : Int)] 23))
  have hb5 := box3 w4 (.int .i64 (r.life : Int)) (.int .i64 (r.round : Int)) (.int .i64 (r.tag : Int)) 23
  obtain ⟨W5, hW5⟩ : ∃ W5, w4.alloc (.cells #[.int .i64 (r.life : Int), .int .i64 (r.round : Int), .int .i64 (r.tag : Int)] 23) = W5 := ⟨_, rfl⟩
  rw [hW5] at hk5 hb5
  obtain ⟨p4, hp4, hcell⟩ := hk5.bytes 4 c4 hc4
  cases hp4
  rw [Addr.add_mid] at hcell
  by_cases h0 : c4 = 0
  · subst h0
    have hbx := hk4.low
    clear hk4
    go_wp2_with fail
    (try rw [hW5])
    clear hW5
    refine (value_any g q 4 8 64 cp l _ hl (by decide) (by decide) hlt (part_bound8 hlt hc4) hk5.bytes).mono ?_
    rintro e w6 ⟨rfl, hB6⟩
    rw [hr4]
    have hk6 := hk5.below hB6
    have hb6 := blk_below' hB6 hb5
    obtain ⟨y0, y1, y2, _⟩ := blk3 hb6
    clear hk5 hb5 hB6 hr1 hr2 hr3 hr4 hcell hbx
    by_cases hok : encOk (r.life : Int) r.round r.tag r.seq
    · have hmay : r.may := by
        obtain ⟨⟨m1, m2, m3, m4, m5, m6⟩, m7, m8⟩ := hok
        exact ⟨by omega, by omega, by omega, by omega, by omega, by omega⟩
      have HM := Lib.hid hmay
      have HE := Lib.hid (fun w => refEncode_ok r hmay w)
      unfold recV at HE
      clear hmay hok
      go_wp2_with fail
      refine (HE.out _).mono ?_
      rintro e w7 ⟨v, rfl, ⟨g2, rfl, hg2, hn⟩, hB7⟩
      have hk7 := hk6.below hB7
      have hb7 := blk_below' hB7 hb6
      have hc7 := cells_blk hn
      clear hk6 hb6 hB7 hn y0 y1 y2
      go_wp2_with fail
      go_loopw [9] (fun i wr => ∃ k : Nat, i = .int .i64 k ∧ k ≤ 64 ∧ Hid (∀ j, j < k → l[j]? = (encL r)[j]?) ∧ Below w7.heap.size w7 wr) (fun i _ => 64 - (intOf i).toNat)
      case atStart => exact ⟨0, rfl, by omega, fun j hj => by omega, Below.refl _ _⟩
      case round =>
        obtain ⟨k, rfl, hk, heq, hbl⟩ := hrel
        have hkr := hk7.below hbl
        have hbr := blk_below' hbl hb7
        have hcr := hc7.below hbl
        by_cases hlt2 : k < 64
        · obtain ⟨x, hx⟩ : ∃ x, l[k]? = some x := ⟨_, List.getElem?_eq_getElem (by rw [hl]; exact hlt2)⟩
          obtain ⟨y, hy⟩ : ∃ y, (encL r)[k]? = some y := ⟨_, List.getElem?_eq_getElem (by rw [encL_len]; exact hlt2)⟩
          obtain ⟨p, hp, hpx⟩ := hkr.bytes k x hx
          obtain ⟨p', hp', hqy⟩ := hcr k y hy
          cases hp
          cases hp'
          rw [Addr.add_mid] at hpx hqy
          rw [Nat.zero_add] at hqy
          have i1 : (k : Int) < 64 := by omega
          have i2 : (0 : Int) ≤ (k : Int) := by omega
          have i3 : (k : Int).toNat = k := Int.toNat_natCast k
          have HX := Lib.hid hx
          have HY := Lib.hid hy
          clear hx hy
          by_cases hxy : x = y
          · subst hxy
            clear hbr hkr hcr hk7 hb7 hc7
            go_wp2
            refine wp_region_still_tail 8 (by kernel_rfl) (by kernel_rfl) ?_
            simp only [List.take_succ_cons, List.take_zero, List.drop_succ_cons, List.drop_zero]
            repeat still_step
            try refine wpStill_nil ?_
            change wpList _ _ _ _ _ wr.drew
            go_wp2
            go_roundw
            case rel => exact ⟨k + 1, by go_num, by omega, fun j hj => by
              by_cases hjk : j = k
              · subst hjk; rw [HX.out, HY.out]
              · exact heq.out j (by omega), hbl.drew⟩
            case measure => simp [intOf]; omega
          · have hne : ((x : Int) == (y : Int)) = false := by simp; omega
            have HD : Hid (decL l = none) := by
              show _ = _
              cases hd : decL l with
              | none => rfl
              | some t =>
                obtain ⟨e1, e2, e3, e4⟩ := decL_val hd
                have e5 : t = r := e1.symm.trans HR.out
                subst e5
                have := HX.out
                rw [e4, HY.out] at this
                exact absurd (Option.some.inj this).symm hxy
            clear hk7 hb7 hc7
            go_wp2
            refine wp_region_still_tail 8 (by kernel_rfl) (by kernel_rfl) ?_
            simp only [List.take_succ_cons, List.take_zero, List.drop_succ_cons, List.drop_zero]
            repeat still_step
            try refine wpStill_nil ?_
            change wpList _ _ _ _ _ wr.drew
            have hkd := hkr.below ((Below.refl _ wr).drew)
            clear hkr
            generalize wr.drew = WD at hkd ⊢
            obtain ⟨z0, z1, z2, f0, f1, f2⟩ := blk3 (hkd).out
            have HK := Lib.hid hkd
            go_wp2_with fail
            generalize hWF : World.setCell (World.setCell (World.setCell _ _ _) _ _) _ _ = WF
            try simp only [Exit.inBlock, Exit.then]
            refine refDec_end (x := 0) (y := 0) (z := 0) (i := 0) (c := 70) rfl rfl rfl rfl ?_ ?_ (by rw [← HA.out, HD.out]; rfl)
            · rw [← hWF]; exact blk_store (blk_store (blk_store HK.out.out 0 _) 1 _) 2 _
            · rw [← hWF]; exact ((HK.out.low.setCell (Nat.le_refl _) _).setCell (Nat.le_refl _) _).setCell (Nat.le_refl _) _
        · obtain rfl : k = 64 := by omega
          have hle : l = encL r := by
            apply List.ext_getElem?
            intro j
            by_cases hj : j < 64
            · exact heq.out j hj
            · rw [List.getElem?_eq_none (by omega), List.getElem?_eq_none (by rw [encL_len]; omega)]
          have HD : Hid (decL l = some r) := by
            show _ = _
            rw [hle]; exact decL_enc HM.out
          obtain ⟨y0, y1, y2, g0, g1, g2⟩ := blk3 hbr
          obtain ⟨z0, z1, z2, f0, f1, f2⟩ := blk3 hkr.out
          have HK := Lib.hid hkr
          clear hkr hbr hcr hk7 hb7 hc7
          go_wp2_with fail
          generalize hWF : World.setCell (World.setCell (World.setCell _ _ _) _ _) _ _ = WF
          refine refDec_end (x := (r.life : Int)) (y := (r.round : Int)) (z := (r.tag : Int)) (i := (r.seq : Int)) (c := 0) rfl rfl rfl rfl ?_ ?_ (by rw [← HA.out, HD.out]; rfl)
          · rw [← hWF]; exact blk_store (blk_store (blk_store HK.out.out 0 _) 1 _) 2 _
          · rw [← hWF]; exact ((HK.out.low.setCell (Nat.le_refl _) _).setCell (Nat.le_refl _) _).setCell (Nat.le_refl _) _
    · have HD : Hid (decL l = none) := by
        show _ = _
        cases hd : decL l with
        | none => rfl
        | some t =>
          obtain ⟨e1, e2, e3, e4⟩ := decL_val hd
          have e5 : t = r := e1.symm.trans HR.out
          subst e5
          obtain ⟨h1, h2, h3, h4, h5, h6⟩ := e3
          exact absurd ⟨⟨by omega, by omega, by omega, by omega, by omega, by omega⟩, by omega, by omega⟩ hok
      have HE := Lib.hid (fun w => refEncode_no (r.life : Int) r.round r.tag r.seq hok w)
      unfold recV at HE
      clear hok
      go_wp2_with fail
      refine (HE.out _).mono ?_
      rintro e w7 ⟨rfl, hB7⟩
      have hk7 := hk6.below hB7
      clear hk6 hb6 hB7 y0 y1 y2
      obtain ⟨z0, z1, z2, f0, f1, f2⟩ := blk3 (hk7).out
      have HK := Lib.hid hk7
      go_wp2_with fail
      generalize hWF : World.setCell (World.setCell (World.setCell _ _ _) _ _) _ _ = WF
      try simp only [Exit.inBlock, Exit.then]
      refine refDec_end (x := 0) (y := 0) (z := 0) (i := 0) (c := 70) rfl rfl rfl rfl ?_ ?_ (by rw [← HA.out, HD.out]; rfl)
      · rw [← hWF]; exact blk_store (blk_store (blk_store HK.out.out 0 _) 1 _) 2 _
      · rw [← hWF]; exact ((HK.out.low.setCell (Nat.le_refl _) _).setCell (Nat.le_refl _) _).setCell (Nat.le_refl _) _
  · have HD : Hid (decL l = none) := by
      show _ = _
      cases hd : decL l with
      | none => rfl
      | some t => have := (decL_val hd).2.1; rw [hc4] at this; exact absurd (Option.some.inj this) h0
    have hne : ((c4 : Int) != 0) = true := by simp; omega
    clear hk4 h0
    go_upto_region 4 with fail
    (try rw [hW5])
    clear hW5
    obtain ⟨z0, z1, z2, f0, f1, f2⟩ := blk3 (hk5).out
    have HK := Lib.hid hk5
    go_wp2_with fail
    generalize hWF : World.setCell (World.setCell (World.setCell _ _ _) _ _) _ _ = WF
    try simp only [Exit.inBlock, Exit.then]
    refine refDec_end (x := 0) (y := 0) (z := 0) (i := 0) (c := 70) rfl rfl rfl rfl ?_ ?_ (by rw [← HA.out, HD.out]; rfl)
    · rw [← hWF]; exact blk_store (blk_store (blk_store HK.out.out 0 _) 1 _) 2 _
    · rw [← hWF]; exact ((HK.out.low.setCell (Nat.le_refl _) _).setCell (Nat.le_refl _) _).setCell (Nat.le_refl _) _
end Go.Proofs.YthkppkecclnlnaaGreat
