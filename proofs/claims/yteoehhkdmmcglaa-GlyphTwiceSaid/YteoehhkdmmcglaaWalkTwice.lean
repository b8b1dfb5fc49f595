/- The walk of the law GlyphTwice. -/
import Derived.Test.YteoehhkdmmcglaaAlive
import Derived.Test.YteoehhkdmmcglaaBack
import Derived.Test.YteoehhkdmmcglaaNth
import Derived.Test.YteoehhkdmmcglaaWalkMended
namespace Go.Proofs.Yteoehhkdmmcglaa
open Go.RowKit
set_option linter.unusedVariables false

/-- A plain text turned is its runes turned. -/
theorem back_plain {s : ByteArray} (h : ∀ q ∈ st s 0, lo s q = false) : backT s = txt (rs s).reverse := by
  refine ba_ext ?_
  rw [txt_list]
  show backL s (st s 0) = _
  rw [backL, rs, ← List.map_reverse, List.flatMap_map, List.flatMap_def, List.flatMap_def]
  congr 1
  refine List.map_congr_left fun q hq => ?_
  have hq' := List.mem_reverse.1 hq
  exact bl_enc s q (st_mem _ _ (Nat.le_refl _) q hq').2 (h q hq')
theorem flat_rev (l : List Nat) : (l.reverse.flatMap enc).length = (l.flatMap enc).length := by
  rw [List.length_flatMap, List.length_flatMap, List.map_reverse, List.sum_reverse]

theorem wd_enc {s : ByteArray} {q : Nat} (hq : q < s.size) (h : lo s q = false) : wd s q = (enc (rn s q)).length := by
  rw [← bl_enc s q hq h, bl_len s q hq]

set_option maxHeartbeats 2000000 in
theorem glyphTwice_walk (s : ByteArray) (hs : s.size ≤ 140737488351232) (w : World) :
    Calls Try.prog 5 #[.string s] w fun e w' => e = .returned (.bool true) ∧ Below w.heap.size w w' := by
  have P1 := Lib.hid (fun w => plain_any s w)
  change Hid (∀ w, Calls _ _ _ w fun e w' => e = .returned (.bool (plainB s)) ∧ _) at P1
  have A := Lib.hid alive_any
  cases hp : plainB s with
  | false =>
    rw [hp] at P1
    go_enter Try.func5, Try.ntmps5
    go_wp2_with fail
    refine (P1.out _).mono ?_
    rintro e w1 ⟨rfl, hBw1⟩
    go_wp2_with fail
    refine (A.out _).mono ?_
    rintro e w2 ⟨rfl, hBw2⟩
    go_wp2
    go_ret
    exact ⟨rfl, below_then hBw1 hBw2⟩
  | true =>
    rw [hp] at P1
    have hpl := (plainB_iff s).1 hp
    have hokr : ∀ r ∈ (rs s).reverse, okR r := fun r hr => rs_ok s r (List.mem_reverse.1 hr)
    have hT := back_plain hpl
    have hplT := plain_txt hokr
    have hrsT := rs_txt hokr
    have hTT : backT (txt (rs s).reverse) = s := by
      rw [back_plain hplT, hrsT, List.reverse_reverse, txt_rs hpl]
    have hsz : (txt (rs s).reverse).size = s.size := by
      rw [txt_size, flat_rev, ← txt_size, txt_rs hpl]
    have hcT : (st (txt (rs s).reverse) 0).length = (st s 0).length := by rw [← rs_len, hrsT, List.length_reverse, rs_len]
    have B1 := Lib.hid (fun w => back_any s hs w)
    rw [hT] at B1
    have hlast : ∀ p q, (st s 0)[(st s 0).length - 1]? = some p → (st (txt (rs s).reverse) 0)[0]? = some q → rn (txt (rs s).reverse) q = rn s p ∧ wd (txt (rs s).reverse) q = wd s p := by
      intro p q h1 h2
      have h3 : (rs (txt (rs s).reverse))[0]? = some (rn (txt (rs s).reverse) q) := by rw [rs, List.getElem?_map, h2]; rfl
      rw [hrsT, List.getElem?_reverse (by rw [rs_len]; have := (List.getElem?_eq_some_iff.1 h1).1; omega), rs_len, Nat.sub_zero, rs, List.getElem?_map, h1] at h3
      have e : rn (txt (rs s).reverse) q = rn s p := (Option.some.inj h3).symm
      refine ⟨e, ?_⟩
      rw [wd_enc (st_mem _ _ (Nat.le_refl _) q (List.mem_of_getElem? h2)).2 (hplT q (List.mem_of_getElem? h2)), wd_enc (st_mem _ _ (Nat.le_refl _) p (List.mem_of_getElem? h1)).2 (hpl p (List.mem_of_getElem? h1)), e]
    have B2 := Lib.hid (fun w => back_any (txt (rs s).reverse) (by rw [hsz]; exact hs) w)
    rw [hTT] at B2
    have C1 := Lib.hid (fun w => count_any s (by omega) w)
    have C2 := Lib.hid (fun w => count_any (txt (rs s).reverse) (by rw [hsz]; omega) w)
    rw [hcT] at C2
    have N1 := Lib.hid (fun w => nth_any s (((st s 0).length : Int) - 1) (by omega) w)
    have N2 := Lib.hid (fun w => nth_any (txt (rs s).reverse) 0 (by rw [hsz]; omega) w)
    have hN := st_len s 0
    have hN1 := Lib.hid hcT
    generalize txt (rs s).reverse = t at *
    have j1 : IntKind.i64.wrap (((st s 0).length : Int) - 1) = ((st s 0).length : Int) - 1 := IntWalk.i64_in _ (by omega)
    have j2 : (t.size : Int) = (s.size : Int) := by omega
    have NV : ∃ r a a' z l l' ec, nthV s (((st s 0).length : Int) - 1) = .tuple #[.agg #[.int .i32 r, .int .i64 a, .int .i64 z, .bool l], .int .i64 ec] ∧ nthV t 0 = .tuple #[.agg #[.int .i32 r, .int .i64 a', .int .i64 z, .bool l'], .int .i64 ec] := by
      by_cases h0 : (st s 0).length = 0
      · exact ⟨0, 0, 0, 0, false, false, 3, nthV_none (by omega), nthV_none (by omega)⟩
      · obtain ⟨p, hp1⟩ : ∃ p, (st s 0)[(st s 0).length - 1]? = some p := ⟨_, List.getElem?_eq_getElem (by omega)⟩
        obtain ⟨q, hq1⟩ : ∃ q, (st t 0)[0]? = some q := ⟨_, List.getElem?_eq_getElem (by omega)⟩
        obtain ⟨e1, e2⟩ := hlast p q hp1 hq1
        refine ⟨rn s p, p, q, wd s p, lo s p, lo t q, 0, nthV_some (by omega) hp1, ?_⟩
        exact (nthV_some (s := t) (i := 0) (k := 0) rfl hq1).trans (by rw [chV, e1, e2])
    obtain ⟨r, a, a', z, l, l', ec, nv1, nv2⟩ := NV
    rw [nv1] at N1
    rw [nv2] at N2
    clear nv1 nv2 hlast hT hplT hrsT hTT hcT
    go_enter Try.func5, Try.ntmps5
    go_wp2_with fail
    refine (P1.out _).mono ?_
    rintro e w1 ⟨rfl, hBw1⟩
    go_wp2_with fail
    refine (B1.out _).mono ?_
    rintro e w2 ⟨rfl, hBw2⟩
    go_wp2_with fail
    refine (B2.out _).mono ?_
    rintro e w3 ⟨rfl, hBw3⟩
    go_wp2_with fail
    refine (C2.out _).mono ?_
    rintro e w4 ⟨rfl, hBw4⟩
    go_wp2_with fail
    refine (C1.out _).mono ?_
    rintro e w5 ⟨rfl, hBw5⟩
    go_wp2_with fail
    refine (C1.out _).mono ?_
    rintro e w6 ⟨rfl, hBw6⟩
    go_wp2_with fail
    refine (N1.out _).mono ?_
    rintro e w7 ⟨rfl, hBw7⟩
    go_wp2_with fail
    refine (N2.out _).mono ?_
    rintro e w8 ⟨rfl, hBw8⟩
    go_wp2_with fail
    refine (A.out _).mono ?_
    rintro e w9 ⟨rfl, hBw9⟩
    obtain ⟨c0, c1, c2, c3, f0, f1, f2, f3⟩ := four_cells (blk_below' hBw9 (blk_old (blk_below' hBw8 (blk_new w7 _)) _))
    obtain ⟨d0, d1, d2, d3, g0, g1, g2, g3⟩ := four_cells (blk_below' hBw9 (blk_new w8 _))
    go_wp2
    go_ret
    refine ⟨rfl, ?_⟩
    exact below_alloc_then (below_alloc_then (below_then (below_then (below_then (below_then (below_then (below_then hBw1 hBw2) hBw3) hBw4) hBw5) hBw6) hBw7) hBw8) hBw9

end Go.Proofs.Yteoehhkdmmcglaa
