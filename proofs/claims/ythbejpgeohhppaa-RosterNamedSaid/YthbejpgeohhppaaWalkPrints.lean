/- The walk of the law RosterPrints. -/
import Derived.Test.YthbejpgeohhppaaRefPrint
namespace Go.Proofs.Ythbejpgeohhppaa
set_option linter.unusedVariables false
set_option linter.unusedSimpArgs false
open Go.RowKit Go.Maps

set_option maxRecDepth 100000 in
set_option maxHeartbeats 2000000 in
theorem rosterPrints_set (s : ByteArray) (sx : Nat) (hs : s.size ≤ 140737488351232) (hx : sx < 2 ^ 128) (wi : World) :
    Calls Try.prog 8 #[.string s, setV sx] wi fun e w' => e = .returned (.bool true) ∧ Below wi.heap.size wi w' := by
  have H1 := Lib.hid (fun w => read_any s (by omega) w)
  have H2 := Lib.hid (fun w => refRead_any s hs w)
  have H3 := Lib.hid alive_any
  have HX := Lib.hid hx
  clear hx
  unfold setV
  have z0 := blk_new wi (.cells (setC sx) 47)
  have hbi : Below wi.heap.size wi (wi.alloc (.cells (setC sx) 47)) := (Below.refl _ wi).alloc (Nat.le_refl _) _
  go_enter Try.func8, Try.ntmps8
  go_wp2_with fail
  obtain ⟨w, hw⟩ : ∃ w, wi.alloc (.cells (setC sx) 47) = w := ⟨_, rfl⟩
  rw [hw] at z0 hbi ⊢
  clear hw
  refine (H1.out _).mono ?_
  rintro e w1 ⟨v, a, x, o, rfl, hv, hr, hB⟩
  obtain ⟨t, sa, sc, m, rfl⟩ := hr.shape
  have HV := Lib.hid hv
  clear hv
  go_wp2_with fail
  refine (H2.out _).mono ?_
  rintro e w2 ⟨u, a', x', o', rfl, hv', hr', hB'⟩
  obtain ⟨rfl, rfl, rfl⟩ : o = o' ∧ a = a' ∧ x = x' := by have := HV.out.symm.trans hv'; simpa using this
  clear hv'
  obtain ⟨ua, uc, rfl⟩ := hr'.shape
  have k1 : w2.heap[w1.heap.size]? = some (.cells #[.string t, .slice sa (sgs o).length sc, .map m] 25 (0, 0)) := blk_below' hB' (blk_new w1 _)
  have r2 := (hr.below ((Below.refl _ _).alloc (Nat.le_refl _) (.cells #[.string t, .slice sa (sgs o).length sc, .map m] 25))).below hB'
  have b2 := (hB.alloc hB.size (.cells #[.string t, .slice sa (sgs o).length sc, .map m] 25)).trans (hB'.mono (by have := hB.size; simp; omega))
  have hT : Two w w1.heap.size w2.heap.size w.heap.size (w1.heap.size + 1) #[.string t, .slice sa (sgs o).length sc, .map m] #[.slice ua (sgs o).length uc] o (w2.alloc (.cells #[.slice ua (sgs o).length uc] 31)) :=
    ⟨blk_old k1 _, blk_new w2 _, r2.below ((Below.refl _ _).alloc (Nat.le_refl _) _), by have := hr'.below ((Below.refl _ _).alloc (Nat.le_refl _) (.cells #[.slice ua (sgs o).length uc] 31)); simpa using this, b2.alloc b2.size _⟩
  clear k1 r2 b2 hr hr' hB hB' H1 H2
  have HS := Lib.hid (readV_sgs HV.out)
  have htx := Lib.hid (textV_sgs HV.out)
  obtain ⟨⟨d0, d1, d2⟩, d3, _⟩ := hT.cells
  have z2 := blk_below' hT.2.2.2.2 z0
  obtain ⟨q0, q1, q2, q3, _⟩ := set_cells z2
  go_wp2_with fail
  obtain ⟨pt, pe, hpv⟩ : ∃ pt pe, prV (sgs o) sx = (pt, pe) := ⟨_, _, rfl⟩
  have HPV := Lib.hid hpv
  clear hpv
  refine (print_is _ _ _ _ _ _ sx _ HX.out HS.out.1 HS.out.2.1 hT.2.2.1 HPV.out).mono ?_
  rintro e w3 ⟨rfl, hB3⟩
  have hT3 := hT.below hB3
  have z3 := blk_below' hB3 z2
  obtain ⟨⟨d0, d1, d2⟩, d3, _⟩ := hT3.cells
  obtain ⟨q0, q1, q2, q3, _⟩ := set_cells z3
  go_wp2_with fail
  refine (refPrint_is _ _ _ _ sx _ HX.out HS.out.1 HS.out.2.1 hT3.2.2.2.1 HPV.out).mono ?_
  rintro e w4 ⟨rfl, hB4⟩
  have hT4 := hT3.below hB4
  go_wp2_with (go_at_call 14; refine (H3.out _).mono ?_; rintro e w5 ⟨rfl, hB5⟩; have hT5 := hT4.below hB5)
  go_ret
  exact ⟨rfl, hbi.trans (hT5.2.2.2.2.mono hbi.size)⟩
end Go.Proofs.Ythbejpgeohhppaa
