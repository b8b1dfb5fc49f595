/- The walk of the law RosterAsks. -/
import Derived.Test.YthbejpgeohhppaaTwo
import Derived.OpenShut
namespace Go.Proofs.Ythbejpgeohhppaa
set_option linter.unusedVariables false
open Go.RowKit Go.Maps

set_option maxRecDepth 100000 in
set_option maxHeartbeats 2000000 in
theorem rosterAsks_walk (s : ByteArray) (i c : Int) (hs : s.size ≤ 140737488351232) (hi : (Lit.int .i64 i).wf = true) (hc : (Lit.int .i32 c).wf = true) (w : World) :
    Calls Try.prog 4 #[.string s, .int .i64 i, .int .i32 c] w fun e w' => e = .returned (.bool true) ∧ Below w.heap.size w w' := by
  have hcb : -2147483648 ≤ c ∧ c ≤ 2147483647 := bounds_i32 hc
  obtain ⟨hc1, hc2⟩ := hcb
  have H1 := Lib.hid (fun w => read_any s (by omega) w)
  have H2 := Lib.hid (fun w => refRead_any s hs w)
  have H3 := Lib.hid alive_any
  go_enter Try.func4, Try.ntmps4
  go_wp2_with fail
  refine (H1.out _).mono ?_
  rintro e w1 ⟨v, a, x, o, rfl, hv, hr, hB⟩
  obtain ⟨t, sa, sc, m, rfl⟩ := hr.shape
  have HV := Lib.hid hv
  clear hv
  go_wp2_with fail
  refine (H2.out _).mono ?_
  rintro e w2 ⟨u, a', x', o', rfl, hv', hr', hB'⟩
  obtain ⟨rfl, rfl, rfl⟩ : o = o' ∧ a = a' ∧ x = x' := by have := HV.out.symm.trans hv'; simpa using this
  clear hv'
  obtain ⟨ua, uc, rfl⟩ := hr'.shape
  have k1 : w2.heap[w1.heap.size]? = some (.cells #[.string t, .slice sa (sgs o).length sc, .map m] 25 (0, 0)) := blk_below' hB' (blk_new w1 _)
  have r2 := (hr.below ((Below.refl _ _).alloc (Nat.le_refl _) (.cells #[.string t, .slice sa (sgs o).length sc, .map m] 25))).below hB'
  have b2 := (hB.alloc hB.size (.cells #[.string t, .slice sa (sgs o).length sc, .map m] 25)).trans (hB'.mono (by have := hB.size; simp; omega))
  have hT : Two w w1.heap.size w2.heap.size w.heap.size (w1.heap.size + 1) #[.string t, .slice sa (sgs o).length sc, .map m] #[.slice ua (sgs o).length uc] o (w2.alloc (.cells #[.slice ua (sgs o).length uc] 31)) :=
    ⟨blk_old k1 _, blk_new w2 _, r2.below ((Below.refl _ _).alloc (Nat.le_refl _) _), by have := hr'.below ((Below.refl _ _).alloc (Nat.le_refl _) (.cells #[.slice ua (sgs o).length uc] 31)); simpa using this, b2.alloc b2.size _⟩
  clear k1 r2 b2 hr hr' hB hB' H1 H2
  have HS := Lib.hid (readV_sgs HV.out)
  have htx := Lib.hid (textV_sgs HV.out)
  obtain ⟨⟨d0, d1, d2⟩, d3, _⟩ := hT.cells
  go_wp2_with fail
  clear d0 d1 d2 d3
  have HSI := Lib.hid (sign_any _ _ _ _ hT.2.2.1 i)
  by_cases hneg : i < 0
  · rw [show signV (sgs o) i = .tuple #[.int .i32 0, .int .i64 30] from by unfold signV; rw [if_neg (by omega)]] at HSI
    refine HSI.out.mono ?_
    rintro e w3 ⟨rfl, hB3⟩
    have hT3 := hT.below hB3
    clear hT HSI hB3
    obtain ⟨⟨d0, d1, d2⟩, d3, _⟩ := hT3.cells
    cases hf : fnd (sgs o) c with
    | none =>
      have HI := Lib.hid (show idV (sgs o) c = .tuple #[.int .i64 0, .int .i64 41] by unfold idV; rw [hf])
      have HR := Lib.hid (show fndI (sgs o) c = -1 by unfold fndI; rw [hf])
      clear hf
      go_wp2_with (first
        | (go_at_call 19; refine (id_is _ _ _ _ hT3.2.2.1 c hc _ HI.out).mono ?_; rintro e w4 ⟨rfl, hB4⟩; have hT4 := hT3.below hB4; obtain ⟨⟨e0, e1, e2⟩, e3, _⟩ := hT4.cells)
        | (go_at_call 20; refine (refId_is _ _ _ _ hT4.2.2.2.1 HS.out.1 c _ HR.out).mono ?_; rintro e w5 ⟨rfl, hB5⟩; have hT5 := hT4.below hB5)
        | (go_at_call 14; refine (H3.out _).mono ?_; rintro e w6 ⟨rfl, hB6⟩; have hT6 := hT5.below hB6))
      go_ret
      exact ⟨rfl, hT6.2.2.2.2⟩
    | some k2 =>
      have HI := Lib.hid (show idV (sgs o) c = .tuple #[.int .i64 (k2 : Nat), .int .i64 0] by unfold idV; rw [hf])
      have HR := Lib.hid (show fndI (sgs o) c = (k2 : Int) by unfold fndI; rw [hf])
      clear hf
      go_wp2_with (first
        | (go_at_call 19; refine (id_is _ _ _ _ hT3.2.2.1 c hc _ HI.out).mono ?_; rintro e w4 ⟨rfl, hB4⟩; have hT4 := hT3.below hB4; obtain ⟨⟨e0, e1, e2⟩, e3, _⟩ := hT4.cells)
        | (go_at_call 20; refine (refId_is _ _ _ _ hT4.2.2.2.1 HS.out.1 c _ HR.out).mono ?_; rintro e w5 ⟨rfl, hB5⟩; have hT5 := hT4.below hB5)
        | (go_at_call 14; refine (H3.out _).mono ?_; rintro e w6 ⟨rfl, hB6⟩; have hT6 := hT5.below hB6))
      go_ret
      exact ⟨rfl, hT6.2.2.2.2⟩
  by_cases hbig : ((sgs o).length : Int) ≤ i
  · rw [show signV (sgs o) i = .tuple #[.int .i32 0, .int .i64 30] from by unfold signV; rw [if_neg (by omega)]] at HSI
    refine HSI.out.mono ?_
    rintro e w3 ⟨rfl, hB3⟩
    have hT3 := hT.below hB3
    clear hT HSI hB3
    obtain ⟨⟨d0, d1, d2⟩, d3, _⟩ := hT3.cells
    cases hf : fnd (sgs o) c with
    | none =>
      have HI := Lib.hid (show idV (sgs o) c = .tuple #[.int .i64 0, .int .i64 41] by unfold idV; rw [hf])
      have HR := Lib.hid (show fndI (sgs o) c = -1 by unfold fndI; rw [hf])
      clear hf
      go_wp2_with (first
        | (go_at_call 19; refine (id_is _ _ _ _ hT3.2.2.1 c hc _ HI.out).mono ?_; rintro e w4 ⟨rfl, hB4⟩; have hT4 := hT3.below hB4; obtain ⟨⟨e0, e1, e2⟩, e3, _⟩ := hT4.cells)
        | (go_at_call 20; refine (refId_is _ _ _ _ hT4.2.2.2.1 HS.out.1 c _ HR.out).mono ?_; rintro e w5 ⟨rfl, hB5⟩; have hT5 := hT4.below hB5)
        | (go_at_call 14; refine (H3.out _).mono ?_; rintro e w6 ⟨rfl, hB6⟩; have hT6 := hT5.below hB6))
      go_ret
      exact ⟨rfl, hT6.2.2.2.2⟩
    | some k2 =>
      have HI := Lib.hid (show idV (sgs o) c = .tuple #[.int .i64 (k2 : Nat), .int .i64 0] by unfold idV; rw [hf])
      have HR := Lib.hid (show fndI (sgs o) c = (k2 : Int) by unfold fndI; rw [hf])
      clear hf
      go_wp2_with (first
        | (go_at_call 19; refine (id_is _ _ _ _ hT3.2.2.1 c hc _ HI.out).mono ?_; rintro e w4 ⟨rfl, hB4⟩; have hT4 := hT3.below hB4; obtain ⟨⟨e0, e1, e2⟩, e3, _⟩ := hT4.cells)
        | (go_at_call 20; refine (refId_is _ _ _ _ hT4.2.2.2.1 HS.out.1 c _ HR.out).mono ?_; rintro e w5 ⟨rfl, hB5⟩; have hT5 := hT4.below hB5)
        | (go_at_call 14; refine (H3.out _).mono ?_; rintro e w6 ⟨rfl, hB6⟩; have hT6 := hT5.below hB6))
      go_ret
      exact ⟨rfl, hT6.2.2.2.2⟩
  · obtain ⟨k, rfl⟩ := Int.eq_ofNat_of_zero_le (show 0 ≤ i by omega)
    obtain ⟨r, hr⟩ : ∃ r, (sgs o)[k]? = some r := ⟨_, List.getElem?_eq_getElem (by omega)⟩
    rw [show signV (sgs o) k = .tuple #[.int .i32 (r : Int), .int .i64 0] from by unfold signV; rw [if_pos (by omega)]; simp [List.getD_eq_getElem?_getD, hr]] at HSI
    have hrb := HS.out.2.1 r (List.mem_of_getElem? hr)
    have hrb1 : (r : Int) ≤ 1114111 := by have := hrb.1; omega
    refine HSI.out.mono ?_
    rintro e w3 ⟨rfl, hB3⟩
    have hT3 := hT.below hB3
    clear hT HSI hB3 hrb
    obtain ⟨sv, hsv, hrow⟩ : ∃ sv, (.agg #[.slice ua (sgs o).length uc] : Value) = .agg #[sv] ∧ w3.ownsRow (w1.heap.size + 1) 3 1 sv (sgs o).length (inC (sgs o)) := by
      have := hT3.2.2.2.1
      cases o with
      | none => simp [sgs] at hr
      | some l => exact this
    injection hsv with hsv
    injection hsv with hsv
    simp only [List.cons.injEq, and_true] at hsv
    subst hsv
    obtain ⟨g, cap, hg, _⟩ := ownsRow_pos hrow (by omega)
    injection hg with hg1 hg2 hg3
    subst hg1
    subst hg3
    clear hg2
    have q0 := inC_cell hrow rfl hr
    have HRR := Lib.hid hr
    have hkl : (k : Int) < ((sgs o).length : Int) := by omega
    clear hr hrow
    obtain ⟨⟨d0, d1, d2⟩, d3, _⟩ := hT3.cells
    cases hf : fnd (sgs o) c with
    | none =>
      have HI := Lib.hid (show idV (sgs o) c = .tuple #[.int .i64 0, .int .i64 41] by unfold idV; rw [hf])
      have HR := Lib.hid (show fndI (sgs o) c = -1 by unfold fndI; rw [hf])
      clear hf
      go_wp2_with (first
        | (go_at_call 19; refine (id_is _ _ _ _ hT3.2.2.1 c hc _ HI.out).mono ?_; rintro e w4 ⟨rfl, hB4⟩; have hT4 := hT3.below hB4; obtain ⟨⟨e0, e1, e2⟩, e3, _⟩ := hT4.cells)
        | (go_at_call 20; refine (refId_is _ _ _ _ hT4.2.2.2.1 HS.out.1 c _ HR.out).mono ?_; rintro e w5 ⟨rfl, hB5⟩; have hT5 := hT4.below hB5)
        | (go_at_call 14; refine (H3.out _).mono ?_; rintro e w6 ⟨rfl, hB6⟩; have hT6 := hT5.below hB6))
      go_ret
      exact ⟨rfl, hT6.2.2.2.2⟩
    | some k2 =>
      have HI := Lib.hid (show idV (sgs o) c = .tuple #[.int .i64 (k2 : Nat), .int .i64 0] by unfold idV; rw [hf])
      have HR := Lib.hid (show fndI (sgs o) c = (k2 : Int) by unfold fndI; rw [hf])
      clear hf
      go_wp2_with (first
        | (go_at_call 19; refine (id_is _ _ _ _ hT3.2.2.1 c hc _ HI.out).mono ?_; rintro e w4 ⟨rfl, hB4⟩; have hT4 := hT3.below hB4; obtain ⟨⟨e0, e1, e2⟩, e3, _⟩ := hT4.cells)
        | (go_at_call 20; refine (refId_is _ _ _ _ hT4.2.2.2.1 HS.out.1 c _ HR.out).mono ?_; rintro e w5 ⟨rfl, hB5⟩; have hT5 := hT4.below hB5)
        | (go_at_call 14; refine (H3.out _).mono ?_; rintro e w6 ⟨rfl, hB6⟩; have hT6 := hT5.below hB6))
      go_ret
      exact ⟨rfl, hT6.2.2.2.2⟩
end Go.Proofs.Ythbejpgeohhppaa
