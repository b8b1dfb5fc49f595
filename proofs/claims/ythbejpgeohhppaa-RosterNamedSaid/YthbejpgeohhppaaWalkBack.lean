/- The walk of the law RosterBack. -/
import Derived.Test.YthbejpgeohhppaaBackL
import Derived.Test.YthbejpgeohhppaaWalkTurned
import Derived.Test.YthbejpgeohhppaaWalkPrints
namespace Go.Proofs.Ythbejpgeohhppaa
set_option linter.unusedVariables false
set_option linter.unusedSimpArgs false
open Go.RowKit Go.Maps

theorem readV_nodup {s : ByteArray} {o : Option (List Nat)} {a : Nat} {x : Int} (h : readV s = (o, a, x)) : (sgs o).Nodup := by
  cases o with
  | none => simp [sgs]
  | some l => exact (readV_some h).2.2.2.1
set_option maxRecDepth 100000 in
set_option maxHeartbeats 2000000 in
theorem rosterBack_set (s : ByteArray) (sx : Nat) (hs : s.size ≤ 140737488351232) (hx : sx < 2 ^ 128) (wi : World) :
    Calls Try.prog 9 #[.string s, setV sx] wi fun e w' => e = .returned (.bool true) ∧ Below wi.heap.size wi w' := by
  have H1 := Lib.hid (fun w => read_any s (by omega) w)
  have H3 := Lib.hid alive_any
  have HX := Lib.hid hx
  clear hx
  unfold setV
  have z0 := blk_new wi (.cells (setC sx) 47)
  have hbi : Below wi.heap.size wi (wi.alloc (.cells (setC sx) 47)) := (Below.refl _ wi).alloc (Nat.le_refl _) _
  go_enter Try.func9, Try.ntmps9
  go_wp2_with fail
  obtain ⟨w, hw⟩ : ∃ w, wi.alloc (.cells (setC sx) 47) = w := ⟨_, rfl⟩
  rw [hw] at z0 hbi ⊢
  clear hw
  refine (H1.out _).mono ?_
  rintro e w1 ⟨v, a, x, o, rfl, hv, hr, hB⟩
  obtain ⟨t, sa, sc, m, rfl⟩ := hr.shape
  have HV := Lib.hid hv
  clear hv
  have hT : One w w1.heap.size w.heap.size #[.string t, .slice sa (sgs o).length sc, .map m] o (w1.alloc (.cells #[.string t, .slice sa (sgs o).length sc, .map m] 25)) :=
    ⟨blk_new w1 _, hr.below ((Below.refl _ _).alloc (Nat.le_refl _) _), hB.alloc hB.size _⟩
  have z1 := blk_old (blk_below' hB z0) (.cells #[.string t, .slice sa (sgs o).length sc, .map m] 25)
  have hz1 := hB.size
  clear hr hB H1
  have HS := Lib.hid (readV_sgs HV.out)
  have HCL := Lib.hid (readV_class HV.out)
  have HND := Lib.hid (readV_nodup HV.out)
  obtain ⟨d0, d1, d2, _⟩ := three_cells hT.1
  obtain ⟨q0, q1, q2, q3, _⟩ := set_cells z1
  go_wp2_with fail
  rcases prV_cases (sgs o) sx with ⟨pt, hpv⟩ | hpv
  · have HPV := Lib.hid hpv
    have HPR := Lib.hid (parV_prV HND.out HS.out.1 HCL.out HS.out.2.1 hpv)
    clear hpv
    refine (print_is _ _ _ _ _ _ sx _ HX.out HS.out.1 HS.out.2.1 hT.2.1 HPV.out).mono ?_
    rintro e w3 ⟨rfl, hB3⟩
    have hT3 := hT.below hB3
    have z3 := blk_below' hB3 z1
    obtain ⟨d0, d1, d2, _⟩ := three_cells hT3.1
    go_wp2_with fail
    refine (parse_is _ _ _ _ _ _ pt _ (by have := HPR.out.2; omega) HS.out.1 hT3.2.1 HPR.out.1).mono ?_
    rintro e w4 ⟨rfl, hB4⟩
    have hT4 := (hT3.below hB4).below ((Below.refl _ _).alloc (Nat.le_refl _) (.cells (setC sx) 47))
    have z4 := blk_old (blk_below' hB4 z3) (.cells (setC sx) 47)
    have y4 := blk_new w4 (.cells (setC sx) 47)
    obtain ⟨d0, d1, d2, _⟩ := three_cells hT4.1
    obtain ⟨q0, q1, q2, q3, _⟩ := set_cells y4
    unfold setV
    unfold setC at d0 d1 d2 q0 q1 q2 q3 ⊢
    go_wp2_with fail
    refine (print_is _ _ _ _ _ _ sx _ HX.out HS.out.1 HS.out.2.1 hT4.2.1 HPV.out).mono ?_
    rintro e w5 ⟨rfl, hB5⟩
    have hT5 := hT4.below hB5
    have z5 := blk_below' hB5 z4
    have y5 := blk_below' hB5 y4
    have heq : ∀ w, (Op.equalIn 10000 47 (.agg #[.int .u32 (sw sx 0 : Nat), .int .u32 (sw sx 1 : Nat), .int .u32 (sw sx 2 : Nat), .int .u32 (sw sx 3 : Nat)]) (.agg #[.int .u32 (sw sx 0 : Nat), .int .u32 (sw sx 1 : Nat), .int .u32 (sw sx 2 : Nat), .int .u32 (sw sx 3 : Nat)])).run Try.prog w = .ok true w := fun w => by
      rw [eq_words]; simp
    go_wp2_with (go_at_call 14; refine (H3.out _).mono ?_; rintro e w8 ⟨rfl, hB8⟩; obtain ⟨r0, r1, r2, r3, _⟩ := set_cells (blk_below' hB8 z5); obtain ⟨s0, s1, s2, s3, _⟩ := set_cells (blk_below' hB8 y5); have hT8 := hT5.below hB8)
    go_ret
    exact ⟨rfl, hbi.trans (hT8.2.2.mono hbi.size)⟩
  · have HPV := Lib.hid hpv
    clear hpv
    refine (print_is _ _ _ _ _ _ sx _ HX.out HS.out.1 HS.out.2.1 hT.2.1 HPV.out).mono ?_
    rintro e w3 ⟨rfl, hB3⟩
    have hT3 := hT.below hB3
    go_wp2_with (go_at_call 14; refine (H3.out _).mono ?_; rintro e w8 ⟨rfl, hB8⟩; have hT8 := hT3.below hB8)
    go_ret
    exact ⟨rfl, hbi.trans (hT8.2.2.mono hbi.size)⟩
end Go.Proofs.Ythbejpgeohhppaa
