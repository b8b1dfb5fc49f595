/- The walk of the law RosterReads. -/
import Derived.Test.YthbejpgeohhppaaTwo
import Derived.Deep.RegionHeld3
namespace Go.Proofs.Ythbejpgeohhppaa
set_option linter.unusedVariables false
open Go.RowKit Go.Maps

set_option maxRecDepth 100000 in
set_option maxHeartbeats 1000000 in
theorem rosterReads_walk (s : ByteArray) (hs : s.size ≤ 140737488351232) (w : World) :
    Calls Try.prog 3 #[.string s] w fun e w' => e = .returned (.bool true) ∧ Below w.heap.size w w' := by
  have H1 := Lib.hid (fun w => read_any s (by omega) w)
  have H2 := Lib.hid (fun w => refRead_any s hs w)
  have H3 := Lib.hid alive_any
  go_enter Try.func3, Try.ntmps3
  go_wp2_with fail
  refine (H1.out _).mono ?_
  rintro e w1 ⟨v, a, x, o, rfl, hv, hr, hB⟩
  obtain ⟨t, sa, sc, m, rfl⟩ := hr.shape
  have HV := Lib.hid hv
  clear hv
  go_wp2_with fail
  refine (H2.out _).mono ?_
  rintro e w2 ⟨u, a', x', o', rfl, hv', hr', hB'⟩
  obtain ⟨rfl, rfl, rfl⟩ : o = o' ∧ a = a' ∧ x = x' := by have := HV.out.symm.trans hv'; simpa using this
  clear hv'
  obtain ⟨ua, uc, rfl⟩ := hr'.shape
  have k1 : w2.heap[w1.heap.size]? = some (.cells #[.string t, .slice sa (sgs o).length sc, .map m] 25 (0, 0)) := blk_below' hB' (blk_new w1 _)
  have r2 := (hr.below ((Below.refl _ _).alloc (Nat.le_refl _) (.cells #[.string t, .slice sa (sgs o).length sc, .map m] 25))).below hB'
  have b2 := (hB.alloc hB.size (.cells #[.string t, .slice sa (sgs o).length sc, .map m] 25)).trans (hB'.mono (by have := hB.size; simp; omega))
  have hT : Two w w1.heap.size w2.heap.size w.heap.size (w1.heap.size + 1) #[.string t, .slice sa (sgs o).length sc, .map m] #[.slice ua (sgs o).length uc] o (w2.alloc (.cells #[.slice ua (sgs o).length uc] 31)) :=
    ⟨blk_old k1 _, blk_new w2 _, r2.below ((Below.refl _ _).alloc (Nat.le_refl _) _), by have := hr'.below ((Below.refl _ _).alloc (Nat.le_refl _) (.cells #[.slice ua (sgs o).length uc] 31)); simpa using this, b2.alloc b2.size _⟩
  clear k1 r2 b2 hr hr' hB hB' H1 H2
  have HS := Lib.hid (readV_sgs HV.out)
  have htx := Lib.hid (textV_sgs HV.out)
  obtain ⟨⟨d0, d1, d2⟩, d3, _⟩ := hT.cells
  go_wp2_with fail
  obtain ⟨W, hW⟩ : ∃ W, w2.alloc (.cells #[.slice ua (sgs o).length uc] 31) = W := ⟨_, rfl⟩
  clear d0 d1 d2 d3
  rw [hW] at hT ⊢
  clear hW
  go_region_held3 (fun w' => (w'.cell? ⟨w1.heap.size, 0, none⟩ = some (.string t) ∧ w'.cell? ⟨w1.heap.size, 1, none⟩ = some (.slice sa (sgs o).length sc) ∧ w'.cell? ⟨w1.heap.size, 2, none⟩ = some (.map m)) ∧ w'.cell? ⟨w2.heap.size, 0, none⟩ = some (.slice ua (sgs o).length uc) ∧ Two w w1.heap.size w2.heap.size w.heap.size (w1.heap.size + 1) #[.string t, .slice sa (sgs o).length sc, .map m] #[.slice ua (sgs o).length uc] o w')
    (exact Two.cells (by first | assumption | exact hT.drew))
    (first
      | (go_at_call 14; have hk := (‹_ ∧ _ ∧ Two _ _ _ _ _ _ _ _ _›).2.2; refine (H3.out _).mono ?_; rintro e w' ⟨rfl, hB⟩; have hK := hk.below hB)
      | (go_at_call 15; have hk := (‹_ ∧ _ ∧ Two _ _ _ _ _ _ _ _ _›).2.2; refine (size_any _ _ _ _ hk.2.2.1).mono ?_; rintro e w' ⟨rfl, hB⟩; have hK := hk.below hB)
      | (go_at_call 16; have hk := (‹_ ∧ _ ∧ Two _ _ _ _ _ _ _ _ _›).2.2; refine (text_any _ _ _ _ hk.2.2.1).mono ?_; rintro e w' ⟨rfl, hB⟩; have hK := hk.below hB)
      | (go_at_call 17; have hk := (‹_ ∧ _ ∧ Two _ _ _ _ _ _ _ _ _›).2.2; refine (refText_any _ _ _ _ hk.2.2.2.1 HS.out.1 HS.out.2.1).mono ?_; rintro e w' ⟨rfl, hB⟩; have hK := hk.below hB))
  all_goals
    have hk := (‹_ ∧ _ ∧ Two _ _ _ _ _ _ _ _ _›).2.2
    go_wp2
    go_ret
    exact ⟨ret_bool (by rw [htx.out]; simp), hk.2.2.2.2⟩
end Go.Proofs.Ythbejpgeohhppaa
