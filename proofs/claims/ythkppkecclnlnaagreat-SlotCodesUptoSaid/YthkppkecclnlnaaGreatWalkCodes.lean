/- The walk of SlotCodes. -/
import Derived.Test.YthkppkecclnlnaaGreatCodes
import Derived.Test.YthkppkecclnlnaaGreatBkZ
import Derived.Deep.DeepCutAuto
namespace Go.Proofs.YthkppkecclnlnaaGreat
set_option linter.unusedVariables false
set_option linter.unusedSimpArgs false
open Go.RowKit

theorem box_any (w : World) (cs : Array Value) (t : TypeId) : (w.alloc (.cells cs t)).heap[w.heap.size]? = some (.cells cs t (0, 0)) := blk_new w _
set_option maxRecDepth 100000 in
set_option maxHeartbeats 4000000 in
theorem slotCodes_w (w : World) (a b c s : Int) (v : Value) (h0 : ∀ y ∈ [a, b, c], (Lit.int .i64 y).wf = true) (h1 : (Lit.int .i64 s).wf = true) (zs : List Int) (hz : RowOf w .u8 v zs) (hzf : ∀ x ∈ zs, (Lit.int .u8 x).wf = true) :
    Calls Tryz.prog 3 #[.agg #[.int .i64 a, .int .i64 b, .int .i64 c], .int .i64 s, v] w fun e w' => e = .returned (.bool true) ∧ Below w.heap.size w w' := by
  clear h0 h1
  obtain ⟨av, cv, rfl, hcap, _, hcell⟩ := hz.slice
  obtain ⟨ld, hld⟩ : ∃ ld : List Nat, zs.map Int.toNat = ld := ⟨_, rfl⟩
  have hll : zs.length = ld.length := by rw [← hld, List.length_map]
  have hbnd : ∀ x ∈ zs, 0 ≤ x ∧ x < 256 := fun x hx => by
    have h := hzf x hx
    simp only [Lit.wf, Bool.and_eq_true, decide_eq_true_eq] at h
    have h5 : IntKind.u8.max = 255 := by decide
    have h6 : IntKind.u8.min = 0 := by decide
    omega
  have hrd : RdP w av ld := fun j x hx => by
    rw [← hld, List.getElem?_map] at hx
    obtain ⟨y, hy, rfl⟩ := Option.map_eq_some_iff.1 hx
    obtain ⟨p', hp', hc'⟩ := hcell j y hy
    exact ⟨p', hp', by rw [hc', Int.toNat_of_nonneg (hbnd y (List.mem_of_getElem? hy)).1]⟩
  have hlt256 : ∀ c ∈ ld, c < 256 := fun c hc => by
    rw [← hld] at hc
    obtain ⟨y, hy, rfl⟩ := List.mem_map.1 hc
    have := hbnd y hy
    omega
  have HRD := Lib.hid hrd
  have HLT := Lib.hid hlt256
  rw [hll]
  clear hz hcell hcap hld hll hbnd hrd hlt256 hzf
  have HX0 := Lib.hid (box3 w (.int .i64 a) (.int .i64 b) (.int .i64 c) 23)
  have HB0 : Hid (Below w.heap.size w (w.alloc (.cells #[.int .i64 a, .int .i64 b, .int .i64 c] 23))) := (Below.refl _ _).alloc (Nat.le_refl _) _
  by_cases hout : 1000 < ld.length
  · have b0 : (1000 : Int) < (ld.length : Int) := by omega
    clear hout
    go_enter Tryz.func3, Tryz.ntmps3
    go_wp2_with (go_at_call 4; refine (alive11_any _).mono ?_; rintro e w9 ⟨rfl, hB9⟩)
    go_ret
    exact ⟨rfl, below_then HB0.out hB9⟩
  have hn : ld.length ≤ 1000 := by omega
  have b0 : ¬ (1000 : Int) < (ld.length : Int) := by omega
  clear hout
  go_enter Tryz.func3, Tryz.ntmps3
  go_upto_region 1 with fail
  generalize World.alloc w _ = W0 at *
  obtain ⟨g0, hg0⟩ : ∃ g0, w.heap.size = g0 := ⟨_, rfl⟩
  have hx0 := HX0.out
  rw [hg0] at hx0
  (try rw [hg0])
  clear hg0 HX0
  obtain ⟨x0, x1, x2, _⟩ := blk3 hx0
  go_wp2_with fail
  refine (enc_o a b c s _).mono ?_
  rintro e w1 ⟨v1, rfl, ⟨t1, ht1, hw1⟩, hB1⟩
  have hb1 := below_then HB0.out hB1
  have hx1 := blk_below' hB1 hx0
  have hw1 := ownsRow_base hw1 HB0.out.size
  clear x0 x1 x2 hx0 hB1
  obtain ⟨x0, x1, x2, _⟩ := blk3 hx1
  go_wp2_with fail
  refine (renc_o a b c s _).mono ?_
  rintro e w2 ⟨v2, rfl, ⟨t2, ht2, hw2⟩, hB2⟩
  have hb2 := below_then hb1 hB2
  have hx2 := blk_below' hB2 hx1
  have hw1 := ownsRow_same hw1 (fun g hg => hB2.block g (ownsRow_obs hw1 g hg).2)
  have hr2 := HRD.out.below hb2
  clear x0 x1 x2 hx1 hB2 hb1
  go_wp2_with fail
  refine (lent_any av cv ld _ hn hr2).mono ?_
  rintro e w3 ⟨g3, rfl, hg3, hc3, hB3⟩
  have hb3 := below_then hb2 hB3
  have hx3 := blk_below' hB3 hx2
  have hw1 := ownsRow_same hw1 (fun g hg => hB3.block g (ownsRow_obs hw1 g hg).2)
  have hw2 := ownsRow_same hw2 (fun g hg => hB3.block g (ownsRow_obs hw2 g hg).2)
  clear hx2 hB3 hb2 hr2
  obtain ⟨l1, l2, l3, l4, l5, hform⟩ := decV_form ld
  have HD := Lib.hid (fun w (hc : CellsAt w ⟨g3, 0, none⟩ ld) (hgw : g3 < w.heap.size) => hform ▸ dec_o g3 (ld.length + 9) ld HLT.out (Nat.le_add_right _ _) w hc hgw)
  have HRDE := Lib.hid (fun w (hr : RdP w av ld) => hform ▸ rdec_o av cv ld HLT.out w hr)
  have hcat : CellsAt w3 ⟨g3, 0, none⟩ ld := fun j x hx => ⟨_, rfl, by
    rw [Addr.add_mid, Nat.zero_add, blk_cell hc3, List.getElem?_toArray, bC_get]
    unfold lentL
    rw [List.getElem?_append_left (List.getElem?_eq_some_iff.1 hx).1, hx]; rfl⟩
  clear hform
  go_wp2_with fail
  refine (HD.out _ hcat (blk_lt hc3)).mono ?_
  rintro e w4 ⟨rfl, hB4⟩
  have hb4 := below_then hb3 hB4
  have HXR := Lib.hid (blk_below' hB4 hx3)
  have hc4 := blk_below' hB4 hc3
  have hw1 := ownsRow_same hw1 (fun g hg => hB4.block g (ownsRow_obs hw1 g hg).2)
  have hw2 := ownsRow_same hw2 (fun g hg => hB4.block g (ownsRow_obs hw2 g hg).2)
  clear hc3 hB4 hb3 hcat hx3
  go_upto_region 8 with fail
  have hx4 := box3 w4 (.int .i64 l1) (.int .i64 l2) (.int .i64 l3) 23
  have hb5 : Below w.heap.size w (w4.alloc (.cells #[.int .i64 l1, .int .i64 l2, .int .i64 l3] 23)) := hb4.alloc hb4.size _
  have hc5 := blk_below' ((Below.refl w4.heap.size w4).alloc (Nat.le_refl _) (.cells #[.int .i64 l1, .int .i64 l2, .int .i64 l3] 23)) hc4
  have hw1 := ownsRow_same hw1 (fun g hg => ((Below.refl w4.heap.size w4).alloc (Nat.le_refl _) (.cells #[.int .i64 l1, .int .i64 l2, .int .i64 l3] 23)).block g (ownsRow_obs hw1 g hg).2)
  have hw2 := ownsRow_same hw2 (fun g hg => ((Below.refl w4.heap.size w4).alloc (Nat.le_refl _) (.cells #[.int .i64 l1, .int .i64 l2, .int .i64 l3] 23)).block g (ownsRow_obs hw2 g hg).2)
  have HXR := Lib.hid (blk_below' ((Below.refl w4.heap.size w4).alloc (Nat.le_refl _) (.cells #[.int .i64 l1, .int .i64 l2, .int .i64 l3] 23)) HXR.out)
  have HX4 := Lib.hid hx4
  have HB5 := Lib.hid hb5
  have HC5 := Lib.hid hc5
  have HW1 := Lib.hid hw1
  have HW2 := Lib.hid hw2
  clear hx4 hb5 hc5 hw1 hw2 hb4 hc4
  generalize World.alloc w4 _ = W5 at *
  obtain ⟨g5, hg5⟩ : ∃ g5, w4.heap.size = g5 := ⟨_, rfl⟩
  have hx5 := HX4.out
  rw [hg5] at hx5
  (try rw [hg5])
  clear hg5 HX4
  refine (HRDE.out _ (HRD.out.below HB5.out)).mono ?_
  rintro e w6 ⟨rfl, hB6⟩
  have hx6 := blk_below' hB6 hx5
  have HXR := Lib.hid (blk_below' hB6 HXR.out)
  have HC6 := Lib.hid (blk_below' hB6 HC5.out)
  have HW1 := Lib.hid (ownsRow_same HW1.out (fun g hg => hB6.block g (ownsRow_obs HW1.out g hg).2))
  have HW2 := Lib.hid (ownsRow_same HW2.out (fun g hg => hB6.block g (ownsRow_obs HW2.out g hg).2))
  have HB6 := Lib.hid (below_then HB5.out hB6)
  clear hB6 HB5 HC5 hx5
  obtain ⟨y0, y1, y2, _⟩ := blk3 hx6
  go_upto_region 9 with fail
  have hx7 := box3 w6 (.int .i64 l1) (.int .i64 l2) (.int .i64 l3) 23
  have hbe := (Below.refl w6.heap.size w6).alloc (Nat.le_refl _) (.cells #[.int .i64 l1, .int .i64 l2, .int .i64 l3] 23)
  have hx6 := blk_below' hbe hx6
  have HXR := Lib.hid (blk_below' hbe HXR.out)
  have HC6 := Lib.hid (blk_below' hbe HC6.out)
  have HW1 := Lib.hid (ownsRow_same HW1.out (fun g hg => hbe.block g (ownsRow_obs HW1.out g hg).2))
  have HW2 := Lib.hid (ownsRow_same HW2.out (fun g hg => hbe.block g (ownsRow_obs HW2.out g hg).2))
  have HB6 := Lib.hid (below_then HB6.out hbe)
  have HX7 := Lib.hid hx7
  have HX6 := Lib.hid hx6
  clear hbe hx7 hx6 y0 y1 y2
  generalize World.alloc w6 _ = W7 at *
  obtain ⟨g7, hg7⟩ : ∃ g7, w6.heap.size = g7 := ⟨_, rfl⟩
  have hx7 := HX7.out
  rw [hg7] at hx7
  (try rw [hg7])
  clear hg7 HX7
  obtain ⟨a1, c1, rfl⟩ := sl_form HW1.out
  obtain ⟨a2, c2, rfl⟩ := sl_form HW2.out
  refine (same_any _ _ (encLs a b c s) (encLs a b c s) _ _ _ _ _ rfl rfl (Nat.le_trans (encLs_len _ _ _ _) (by decide)) (Nat.le_trans (encLs_len _ _ _ _) (by decide)) (rd_own HW1.out rfl) (rd_own HW2.out rfl)).mono ?_
  rintro e w8 ⟨rfl, hB8⟩
  rw [decide_eq_true (rfl : encLs a b c s = encLs a b c s)]
  have hx8 := blk_below' hB8 hx7
  have HXR := Lib.hid (blk_below' hB8 HXR.out)
  have hx6 := blk_below' hB8 HX6.out
  have HC6 := Lib.hid (blk_below' hB8 HC6.out)
  have HW1 := Lib.hid (ownsRow_same HW1.out (fun g hg => hB8.block g (ownsRow_obs HW1.out g hg).2))
  have HB8 := Lib.hid (below_then HB6.out hB8)
  clear hB8 HB6 hx7 HX6 HW2
  have HX6 := Lib.hid hx6
  have HX8 := Lib.hid hx8
  obtain ⟨y0, y1, y2, _⟩ := blk3 hx8
  obtain ⟨z0, z1, z2, _⟩ := blk3 hx6
  clear hx6 hx8
  go_wp2_with fail
  refine (stays_any av av cv g3 ld _ hn (HRD.out.below HB8.out) HC6.out).mono ?_
  rintro e w9 ⟨rfl, hB9⟩
  have hxr := blk_below' hB9 HXR.out
  have HW1 := Lib.hid (ownsRow_same HW1.out (fun g hg => hB9.block g (ownsRow_obs HW1.out g hg).2))
  have HB9 := Lib.hid (below_then HB8.out hB9)
  clear hB9 HB8 HX6 HX8 HXR y0 y1 y2 z0 z1 z2
  have HXR := Lib.hid hxr
  obtain ⟨y0, y1, y2, _⟩ := blk3 hxr
  clear hxr
  go_upto_region 13 with fail
  have hk10 : (w9.alloc (.cells #[.slice none 0 0, .slice none 0 0, .slice none 0 0, .slice none 0 0, .slice none 0 0, .slice none 0 0, .slice none 0 0, .slice none 0 0, .slice none 0 0, .slice none 0 0, .slice none 0 0, .slice none 0 0, .slice none 0 0, .slice none 0 0, .slice none 0 0, .slice none 0 0, .slice none 0 0, .slice none 0 0, .slice none 0 0, .slice none 0 0, .slice none 0 0, .slice none 0 0, .slice none 0 0, .slice none 0 0] 47)).heap[w9.heap.size]? = some (.cells (bookC (.slice none 0 0) (.slice none 0 0)) 47 (0, 0)) := box_any w9 _ _
  have hbe := (Below.refl w9.heap.size w9).alloc (Nat.le_refl _) (.cells #[.slice none 0 0, .slice none 0 0, .slice none 0 0, .slice none 0 0, .slice none 0 0, .slice none 0 0, .slice none 0 0, .slice none 0 0, .slice none 0 0, .slice none 0 0, .slice none 0 0, .slice none 0 0, .slice none 0 0, .slice none 0 0, .slice none 0 0, .slice none 0 0, .slice none 0 0, .slice none 0 0, .slice none 0 0, .slice none 0 0, .slice none 0 0, .slice none 0 0, .slice none 0 0, .slice none 0 0] 47)
  have hxr := blk_below' hbe HXR.out
  have hg0 : g0 < w9.heap.size := blk_lt HXR.out
  have hw1 := ownsRow_same HW1.out (fun g hg => hbe.block g (ownsRow_obs HW1.out g hg).2)
  have hob : ∀ g ∈ obs (.slice a1 (encLs a b c s).length c1), g < w9.heap.size := fun g hg => (ownsRow_obs HW1.out g hg).2
  have hb10 := below_then HB9.out hbe
  have hk0 : w.heap.size ≤ w9.heap.size := HB9.out.size
  clear hbe HXR HW1 HB9 y0 y1 y2
  generalize World.alloc w9 _ = W10 at *
  obtain ⟨K, hK⟩ : ∃ K, w9.heap.size = K := ⟨_, rfl⟩
  rw [hK] at hk10 hg0 hob hk0
  (try rw [hK])
  clear hK
  have hBK := Bk.new (w := w) hk10 hk0
  refine (bkBytes_any w.heap.size K _ _ [] _ (encLs a b c s) t1 W10 ht1 hBK hb10.size hw1 (Nat.le_trans (encLs_len _ _ _ _) (by decide)) (fun g hg hc => ?_)).mono ?_
  · simp only [bkB, obs, Value.ownBlock, Option.toList, List.nil_append, List.flatMap_nil, List.mem_cons, List.not_mem_nil, or_false] at hc
    have := hob g hg; omega
  rintro e w11 ⟨rfl, vb, vw, L, hBK1, hF1, hM1⟩
  have hxr := (hF1.block g0 (blk_lt hxr) (by omega) (by simp [obs, Value.ownBlock]) (by simp [obs, Value.ownBlock])).trans hxr
  have hb11 := hb10.trans (hF1.low hBK hb10.size)
  obtain ⟨y0, y1, y2, _⟩ := blk3 hxr
  have HBK1 := Lib.hid hBK1
  have HB11 := Lib.hid hb11
  clear hBK1 hb11 hF1 hM1 hBK hb10 hob hw1 hk10 hg0 hk0 hxr
  go_wp2_with fail
  refine (enc_o a b c s _).mono ?_
  rintro e w12 ⟨v3, rfl, ⟨t3, ht3, hw3⟩, hB12⟩
  have hBK2 := HBK1.out.below hB12
  have hnew : ∀ g ∈ obs v3, g ∉ bkB K vb vw L := fun g hg hc => by
    have := (ownsRow_obs hw3 g hg).1
    have := (HBK1.out.lt g hc).2
    omega
  have hw3 := ownsRow_base hw3 HB11.out.size
  have hb12 := below_then HB11.out hB12
  clear hB12 HB11 y0 y1 y2
  have HBK2 := Lib.hid hBK2
  have HW3 := Lib.hid hw3
  have HB12 := Lib.hid hb12
  have HN := Lib.hid hnew
  have HT := Lib.hid ht3
  clear hBK2 hw3 hb12 hnew ht3
  go_wp2_with fail
  refine (bkBytes_any w.heap.size K vb vw L v3 (encLs a b c s) t3 _ HT.out HBK2.out HB12.out.size HW3.out (Nat.le_trans (encLs_len _ _ _ _) (by decide)) HN.out).mono ?_
  rintro e w13 ⟨rfl, vb', vw', L', hBK3, hF3, _⟩
  have HB13 := Lib.hid (HB12.out.trans (hF3.low HBK2.out HB12.out.size))
  have HBK3 := Lib.hid hBK3
  clear hBK3 hF3 HB12 HBK2 HW3 HN HT
  go_wp2_with fail
  refine (alive11_any _).mono ?_
  rintro e w14 ⟨rfl, hB14⟩
  have hb14 := below_then HB13.out hB14
  have hBK4 := HBK3.out.below hB14
  go_wp2_with fail
  refine (apart_any w.heap.size K vb' vw' L' _ hBK4 hb14.size).mono ?_
  rintro e w15 ⟨rfl, hB15⟩
  have HB15 := Lib.hid (hb14.trans hB15)
  clear hB14 HB13 hb14 hBK4 HBK3 hB15
  go_wp2_with fail
  go_ret
  exact ⟨rfl, HB15.out⟩
end Go.Proofs.YthkppkecclnlnaaGreat
