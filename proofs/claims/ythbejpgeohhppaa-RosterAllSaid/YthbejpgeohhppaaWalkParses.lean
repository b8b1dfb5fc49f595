/- The walk of the law RosterParses. -/
import Derived.Test.YthbejpgeohhppaaRefParse
import Derived.Test.YthbejpgeohhppaaSetEq
namespace Go.Proofs.Ythbejpgeohhppaa
set_option linter.unusedVariables false
set_option linter.unusedSimpArgs false
open Go.RowKit Go.Maps

theorem parse_any (t : ByteArray) (va : Option Addr) (c : Nat) (m : Option Nat) (o : Option (List Nat)) (B : Nat) (s : ByteArray) (w : World) (hs : s.size ≤ 9223372036854775807) (hl : (sgs o).length ≤ 100)
    (hR : RostAt w B (.agg #[.string t, .slice va (sgs o).length c, .map m]) o) :
    Calls Try.prog 21 #[.agg #[.string t, .slice va (sgs o).length c, .map m], .string s] w (PaP (sgs o) s w) := by
  by_cases hq : 65536 < s.size ∨ s.size = 0 ∨ s = dash
  · exact parse_quick t va c m (sgs o) s w hs hq
  · exact parse_go t va c m o B s w (by omega) (by omega) (fun e => hq (.inr (.inr e))) hl hR
theorem refParse_any (va : Option Addr) (c : Nat) (o : Option (List Nat)) (B : Nat) (s : ByteArray) (w : World) (hs : s.size ≤ 9223372036854775807) (hl : (sgs o).length ≤ 100) (hcl : ∀ r ∈ sgs o, classN r = 4)
    (hR : RefAt w B (.agg #[.slice va (sgs o).length c]) o) :
    Calls Try.prog 22 #[.agg #[.slice va (sgs o).length c], .string s] w (PaP (sgs o) s w) := by
  by_cases hq : 65536 < s.size ∨ s.size = 0 ∨ s = dash
  · exact refParse_quick va c (sgs o) s w hs hq
  · exact refParse_go va c o B s w (by omega) (by omega) (fun e => hq (.inr (.inr e))) hl hcl hR
theorem readV_class {s : ByteArray} {o : Option (List Nat)} {a : Nat} {x : Int} (h : readV s = (o, a, x)) : ∀ r ∈ sgs o, classN r = 4 := by
  cases o with
  | none => simp [sgs]
  | some l => obtain ⟨_, _, _, _, _, _, h7, _⟩ := readV_some h; exact fun r hr => (h7 r hr).1

set_option maxRecDepth 100000 in
set_option maxHeartbeats 2000000 in
theorem rosterParses_walk (s q : ByteArray) (hs : s.size ≤ 140737488351232) (hq : q.size ≤ 140737488351232) (w : World) :
    Calls Try.prog 7 #[.string s, .string q] w fun e w' => e = .returned (.bool true) ∧ Below w.heap.size w w' := by
  have H1 := Lib.hid (fun w => read_any s (by omega) w)
  have H2 := Lib.hid (fun w => refRead_any s hs w)
  have H3 := Lib.hid alive_any
  go_enter Try.func7, Try.ntmps7
  go_wp2_with fail
  refine (H1.out _).mono ?_
  rintro e w1 ⟨v, a, x, o, rfl, hv, hr, hB⟩
  obtain ⟨t, sa, sc, m, rfl⟩ := hr.shape
  have HV := Lib.hid hv
  clear hv
  go_wp2_with fail
  refine (H2.out _).mono ?_
  rintro e w2 ⟨u, a', x', o', rfl, hv', hr', hB'⟩
  obtain ⟨rfl, rfl, rfl⟩ : o = o' ∧ a = a' ∧ x = x' := by have := HV.out.symm.trans hv'; simpa using this
  clear hv'
  obtain ⟨ua, uc, rfl⟩ := hr'.shape
  have k1 : w2.heap[w1.heap.size]? = some (.cells #[.string t, .slice sa (sgs o).length sc, .map m] 25 (0, 0)) := blk_below' hB' (blk_new w1 _)
  have r2 := (hr.below ((Below.refl _ _).alloc (Nat.le_refl _) (.cells #[.string t, .slice sa (sgs o).length sc, .map m] 25))).below hB'
  have b2 := (hB.alloc hB.size (.cells #[.string t, .slice sa (sgs o).length sc, .map m] 25)).trans (hB'.mono (by have := hB.size; simp; omega))
  have hT : Two w w1.heap.size w2.heap.size w.heap.size (w1.heap.size + 1) #[.string t, .slice sa (sgs o).length sc, .map m] #[.slice ua (sgs o).length uc] o (w2.alloc (.cells #[.slice ua (sgs o).length uc] 31)) :=
    ⟨blk_old k1 _, blk_new w2 _, r2.below ((Below.refl _ _).alloc (Nat.le_refl _) _), by have := hr'.below ((Below.refl _ _).alloc (Nat.le_refl _) (.cells #[.slice ua (sgs o).length uc] 31)); simpa using this, b2.alloc b2.size _⟩
  clear k1 r2 b2 hr hr' hB hB' H1 H2
  have HS := Lib.hid (readV_sgs HV.out)
  have htx := Lib.hid (textV_sgs HV.out)
  obtain ⟨⟨d0, d1, d2⟩, d3, _⟩ := hT.cells
  go_wp2_with fail
  have HCL := Lib.hid (readV_class HV.out)
  refine (parse_any _ _ _ _ _ _ q _ (by omega) HS.out.1 hT.2.2.1).mono ?_
  rintro e w3 ⟨y, i, er, rfl, hy, hB3⟩
  have HY := Lib.hid hy
  clear hy
  have hT3 := (hT.below hB3).below ((Below.refl _ _).alloc (Nat.le_refl _) (.cells (setC y) 47))
  have z3 := blk_new w3 (.cells (setC y) 47)
  obtain ⟨⟨d0, d1, d2⟩, d3, _⟩ := hT3.cells
  unfold setV
  unfold setC at d0 d1 d2 d3 ⊢
  go_wp2_with fail
  refine (refParse_any _ _ _ _ q _ (by omega) HS.out.1 HCL.out hT3.2.2.2.1).mono ?_
  rintro e w4 ⟨y', i', er', rfl, hy', hB4⟩
  obtain ⟨rfl, rfl, rfl⟩ : y = y' ∧ i = i' ∧ er = er' := by have := HY.out.symm.trans hy'; simpa using this
  clear hy'
  have hT4 := (hT3.below hB4).below ((Below.refl _ _).alloc (Nat.le_refl _) (.cells (setC y) 47))
  have z4 := blk_old (blk_below' hB4 z3) (.cells (setC y) 47)
  have y4 := blk_new w4 (.cells (setC y) 47)
  unfold setV setC
  go_wp2_with fail
  refine (H3.out _).mono ?_
  rintro e w5 ⟨rfl, hB5⟩
  obtain ⟨q0, q1, q2, q3, _⟩ := set_cells (blk_below' hB5 z4)
  obtain ⟨p0, p1, p2, p3, _⟩ := set_cells (blk_below' hB5 y4)
  have hb5 := (hT4.below hB5).2.2.2.2
  have heq : ∀ w, (Op.equalIn 10000 47 (.agg #[.int .u32 (sw y 0 : Nat), .int .u32 (sw y 1 : Nat), .int .u32 (sw y 2 : Nat), .int .u32 (sw y 3 : Nat)]) (.agg #[.int .u32 (sw y 0 : Nat), .int .u32 (sw y 1 : Nat), .int .u32 (sw y 2 : Nat), .int .u32 (sw y 3 : Nat)])).run Try.prog w = .ok true w := fun w => by
    rw [eq_words]; simp
  go_wp2_with fail
  go_ret
  exact ⟨rfl, hb5⟩
end Go.Proofs.Ythbejpgeohhppaa
