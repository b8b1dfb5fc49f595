/- The walk of the law RosterNamed. -/
import Derived.Test.YthbejpgeohhppaaWalkBack
namespace Go.Proofs.Ythbejpgeohhppaa
set_option linter.unusedVariables false
set_option linter.unusedSimpArgs false
open Go.RowKit Go.Maps

/-- Two rosters and a set in variables. -/
def TwoR (w0 : World) (b B : Nat) (v : Array Value) (o : Option (List Nat)) (c C : Nat) (u : Array Value) (p : Option (List Nat)) (g sx : Nat) (W : World) : Prop :=
  One w0 b B v o W ∧ One w0 c C u p W ∧ W.heap[g]? = some (.cells (setC sx) 47 (0, 0))
section
variable {w0 : World} {b B : Nat} {v : Array Value} {o : Option (List Nat)} {c C : Nat} {u : Array Value} {p : Option (List Nat)} {g sx : Nat} {W W' : World}
theorem TwoR.below (h : TwoR w0 b B v o c C u p g sx W) (hb : Below W.heap.size W W') : TwoR w0 b B v o c C u p g sx W' := ⟨h.1.below hb, h.2.1.below hb, blk_below' hb h.2.2⟩
theorem TwoR.drew (h : TwoR w0 b B v o c C u p g sx W) : TwoR w0 b B v o c C u p g sx W.drew := ⟨h.1.drew, h.2.1.drew, h.2.2⟩
theorem TwoR.alloc (h : TwoR w0 b B v o c C u p g sx W) (x : Obj) : TwoR w0 b B v o c C u p g sx (W.alloc x) := h.below ((Below.refl _ _).alloc (Nat.le_refl _) _)
end
theorem TwoR.all {w0 : World} {b B : Nat} {v0 v1 v2 : Value} {o : Option (List Nat)} {c C : Nat} {u0 u1 u2 : Value} {p : Option (List Nat)} {g sx : Nat} {W : World} (h : TwoR w0 b B #[v0, v1, v2] o c C #[u0, u1, u2] p g sx W) :
    (W.cell? ⟨b, 0, none⟩ = some v0 ∧ W.cell? ⟨b, 1, none⟩ = some v1 ∧ W.cell? ⟨b, 2, none⟩ = some v2) ∧
    (W.cell? ⟨c, 0, none⟩ = some u0 ∧ W.cell? ⟨c, 1, none⟩ = some u1 ∧ W.cell? ⟨c, 2, none⟩ = some u2) ∧
    TwoR w0 b B #[v0, v1, v2] o c C #[u0, u1, u2] p g sx W := by
  obtain ⟨c0, c1, c2, _⟩ := three_cells h.1.1
  obtain ⟨e0, e1, e2, _⟩ := three_cells h.2.1.1
  exact ⟨⟨c0, c1, c2⟩, ⟨e0, e1, e2⟩, h⟩
theorem conv_runes {q : ByteArray} {n : Nat} (hn : (rs q).length = n) (h1 : n ≤ 400) : ∀ w, (convert 9 22 (.string q)).run Try.prog w = .ok (.slice (some ⟨w.heap.size, 0, none⟩) n (grownCap w n 0 21))
    (w.drew.alloc (.cells (((rs q).map fun r : Nat => Value.int .i32 (r : Int)).toArray ++ Array.replicate (grownCap w n 0 21 - n) (.int .i32 0)) 21)) := fun w => by
  have := run_runes_of_string (P := Try.prog) w 9 22 21 q Try.underlying9 Try.underlying22 Try.underlying21 (by rw [runesFrom_rs]; simp [hn]; omega)
  rw [runesFrom_rs] at this
  simpa [hn] using this
set_option maxRecDepth 100000 in
set_option maxHeartbeats 2000000 in
theorem rosterNamed_set (s q : ByteArray) (sx : Nat) (hs : s.size ≤ 140737488351232) (hq : q.size ≤ 140737488351232) (hx : sx < 2 ^ 128) (wi : World) :
    Calls Try.prog 10 #[.string s, .string q, setV sx] wi fun e w' => e = .returned (.bool true) ∧ Below wi.heap.size wi w' := by
  have H1 := Lib.hid (fun w => read_any s (by omega) w)
  have H2 := Lib.hid (fun w => read_any q (by omega) w)
  have H3 := Lib.hid alive_any
  have HX := Lib.hid hx
  clear hx
  unfold setV
  have z0 := blk_new wi (.cells (setC sx) 47)
  have hbi : Below wi.heap.size wi (wi.alloc (.cells (setC sx) 47)) := (Below.refl _ wi).alloc (Nat.le_refl _) _
  go_enter Try.func10, Try.ntmps10
  go_wp2_with fail
  obtain ⟨w, hw⟩ : ∃ w, wi.alloc (.cells (setC sx) 47) = w := ⟨_, rfl⟩
  rw [hw] at z0 hbi ⊢
  clear hw
  refine (H1.out _).mono ?_
  rintro e w1 ⟨v, a, x, o, rfl, hv, hr, hB⟩
  obtain ⟨t, sa, sc, m, rfl⟩ := hr.shape
  have HV := Lib.hid hv
  clear hv
  have hT : One w w1.heap.size w.heap.size #[.string t, .slice sa (sgs o).length sc, .map m] o (w1.alloc (.cells #[.string t, .slice sa (sgs o).length sc, .map m] 25)) :=
    ⟨blk_new w1 _, hr.below ((Below.refl _ _).alloc (Nat.le_refl _) _), hB.alloc hB.size _⟩
  have z1 := blk_old (blk_below' hB z0) (.cells #[.string t, .slice sa (sgs o).length sc, .map m] 25)
  clear hr hB H1
  go_wp2_with fail
  obtain ⟨w1', hw1⟩ : ∃ W, w1.alloc (.cells #[.string t, .slice sa (sgs o).length sc, .map m] 25) = W := ⟨_, rfl⟩
  rw [hw1] at hT z1 ⊢
  clear hw1
  refine (H2.out _).mono ?_
  rintro e w2 ⟨v', a', x', p, rfl, hv', hr', hB'⟩
  obtain ⟨t', sa', sc', m', rfl⟩ := hr'.shape
  have HW := Lib.hid hv'
  clear hv'
  have hK : TwoR w w1.heap.size w.heap.size #[.string t, .slice sa (sgs o).length sc, .map m] o w2.heap.size w1'.heap.size #[.string t', .slice sa' (sgs p).length sc', .map m'] p wi.heap.size sx (w2.alloc (.cells #[.string t', .slice sa' (sgs p).length sc', .map m'] 25)) :=
    ⟨(hT.below hB').below ((Below.refl _ _).alloc (Nat.le_refl _) _), ⟨blk_new w2 _, hr'.below ((Below.refl _ _).alloc (Nat.le_refl _) _), below_then (below_then hT.2.2 hB') ((Below.refl _ _).alloc (Nat.le_refl _) _)⟩, blk_old (blk_below' hB' z1) _⟩
  clear hT z1 hr' hB' H2
  have HS := Lib.hid (readV_sgs HV.out)
  have HCL := Lib.hid (readV_class HV.out)
  have HND := Lib.hid (readV_nodup HV.out)
  have HS' := Lib.hid (readV_sgs HW.out)
  have HCL' := Lib.hid (readV_class HW.out)
  have HND' := Lib.hid (readV_nodup HW.out)
  obtain ⟨⟨d0, d1, d2⟩, ⟨d3, d4, d5⟩, _⟩ := hK.all
  by_cases hx0 : x = 0
  · subst hx0
    by_cases hy0 : x' = 0
    · subst hy0
      go_wp2_with fail
      go_region_held3 (fun w' => (w'.cell? ⟨w1.heap.size, 0, none⟩ = some (.string t) ∧ w'.cell? ⟨w1.heap.size, 1, none⟩ = some (.slice sa (sgs o).length sc) ∧ w'.cell? ⟨w1.heap.size, 2, none⟩ = some (.map m)) ∧
          (w'.cell? ⟨w2.heap.size, 0, none⟩ = some (.string t') ∧ w'.cell? ⟨w2.heap.size, 1, none⟩ = some (.slice sa' (sgs p).length sc') ∧ w'.cell? ⟨w2.heap.size, 2, none⟩ = some (.map m')) ∧
          TwoR w w1.heap.size w.heap.size #[.string t, .slice sa (sgs o).length sc, .map m] o w2.heap.size w1'.heap.size #[.string t', .slice sa' (sgs p).length sc', .map m'] p wi.heap.size sx w')
        (exact TwoR.all (by first | with_reducible exact hK.drew | with_reducible exact hK2))
        (first
          | (go_at_call 15; have hk := (‹_ ∧ _ ∧ TwoR _ _ _ _ _ _ _ _ _ _ _ _›).2.2; (first | refine (size_any _ _ _ _ hk.1.2.1).mono ?_ | refine (size_any _ _ _ _ hk.2.1.2.1).mono ?_); rintro e w' ⟨rfl, hB⟩; have hK2 := hk.below hB))
      have hK3 := (‹_ ∧ _ ∧ TwoR _ _ _ _ _ _ _ _ _ _ _ _›).2.2
      by_cases hln : (sgs o).length = (sgs p).length
      · rename_i w' _ _
        have hne : (((sgs o).length : Int) != ((sgs p).length : Int)) = false := by simp [hln]
        have HLN := Lib.hid hln
        clear hln
        obtain ⟨⟨d0, d1, d2⟩, ⟨d3, d4, d5⟩, _⟩ := hK3.all
        obtain ⟨q0, q1, q2, q3, _⟩ := set_cells hK3.2.2
        go_wp2_with fail
        have hsnd := prV_snd HLN.out sx
        rcases prV_cases (sgs o) sx with ⟨pt, hpv⟩ | hpv
        · obtain ⟨pu, hpu⟩ : ∃ pu, prV (sgs p) sx = (pu, 0) := ⟨(prV (sgs p) sx).1, Prod.ext rfl (by rw [← hsnd, hpv])⟩
          clear hsnd
          have HPV := Lib.hid hpv
          have HPU := Lib.hid hpu
          have HPR := Lib.hid (parV_prV HND.out HS.out.1 HCL.out HS.out.2.1 hpv)
          have HPS := Lib.hid (parV_prV HND'.out HS'.out.1 HCL'.out HS'.out.2.1 hpu)
          have HRU := Lib.hid (prV_runes HLN.out HS.out.2.1 HS'.out.2.1 hpv hpu)
          clear hpv hpu
          refine (print_is _ _ _ _ _ _ sx _ HX.out HS.out.1 HS.out.2.1 hK3.1.2.1 HPV.out).mono ?_
          rintro e w3 ⟨rfl, hB3⟩
          have hK4 := hK3.below hB3
          obtain ⟨⟨d0, d1, d2⟩, ⟨d3, d4, d5⟩, _⟩ := hK4.all
          obtain ⟨q0, q1, q2, q3, _⟩ := set_cells hK4.2.2
          go_wp2_with fail
          refine (print_is _ _ _ _ _ _ sx _ HX.out HS'.out.1 HS'.out.2.1 hK4.2.1.2.1 HPU.out).mono ?_
          rintro e w4 ⟨rfl, hB4⟩
          have hK5 := hK4.below hB4
          obtain ⟨⟨d0, d1, d2⟩, ⟨d3, d4, d5⟩, _⟩ := hK5.all
          go_wp2_with fail
          refine (parse_is _ _ _ _ _ _ pt _ (by have := HPR.out.2; omega) HS.out.1 hK5.1.2.1 HPR.out.1).mono ?_
          rintro e w5 ⟨rfl, hB5⟩
          have hK6 := (hK5.below hB5).alloc (.cells (setC sx) 47)
          have y6 := blk_new w5 (.cells (setC sx) 47)
          obtain ⟨⟨d0, d1, d2⟩, ⟨d3, d4, d5⟩, _⟩ := hK6.all
          unfold setV
          unfold setC at d0 d1 d2 d3 d4 d5 ⊢
          go_wp2_with fail
          refine (parse_is _ _ _ _ _ _ pu _ (by have := HPS.out.2; omega) HS'.out.1 hK6.2.1.2.1 HPS.out.1).mono ?_
          rintro e w6 ⟨rfl, hB6⟩
          have hK7 := (hK6.below hB6).alloc (.cells (setC sx) 47)
          have y7 := blk_old (blk_below' hB6 y6) (.cells (setC sx) 47)
          have u7 := blk_new w6 (.cells (setC sx) 47)
          unfold setV setC
          go_wp2_with fail
          have heq : ∀ w, (Op.equalIn 10000 47 (.agg #[.int .u32 (sw sx 0 : Nat), .int .u32 (sw sx 1 : Nat), .int .u32 (sw sx 2 : Nat), .int .u32 (sw sx 3 : Nat)]) (.agg #[.int .u32 (sw sx 0 : Nat), .int .u32 (sw sx 1 : Nat), .int .u32 (sw sx 2 : Nat), .int .u32 (sw sx 3 : Nat)])).run Try.prog w = .ok true w := fun w => by
            rw [eq_words]; simp
          obtain ⟨n, hn⟩ : ∃ n, (rs pt).length = n := ⟨_, rfl⟩
          have hn2 : (rs pu).length = n := by rw [← HRU.out, hn]
          have hn1 : n ≤ 400 := by have := st_len pt 0; have := HPR.out.2; rw [← hn]; simp [rs]; omega
          have hcv := conv_runes hn hn1
          have hcv2 := conv_runes hn2 hn1
          clear hn hn2
          go_wp2_with (go_at_call 14; refine (H3.out _).mono ?_; rintro e w8 ⟨rfl, hB8⟩; obtain ⟨r0, r1, r2, r3, _⟩ := set_cells (blk_below' hB8 y7); obtain ⟨s0, s1, s2, s3, _⟩ := set_cells (blk_below' hB8 u7); have hK8 := hK7.below hB8)
          go_ret
          exact ⟨rfl, hbi.trans ((((hK8.alloc _).alloc _).drew.drew).1.2.2.mono hbi.size)⟩
        · have hpu : prV (sgs p) sx = (⟨#[]⟩, 30) := by
            rcases prV_cases (sgs p) sx with ⟨pu, h⟩ | h
            · rw [hpv, h] at hsnd; simp at hsnd
            · exact h
          have HPV := Lib.hid hpv
          have HPU := Lib.hid hpu
          clear hpv hpu hsnd
          refine (print_is _ _ _ _ _ _ sx _ HX.out HS.out.1 HS.out.2.1 hK3.1.2.1 HPV.out).mono ?_
          rintro e w3 ⟨rfl, hB3⟩
          have hK4 := hK3.below hB3
          obtain ⟨⟨d0, d1, d2⟩, ⟨d3, d4, d5⟩, _⟩ := hK4.all
          obtain ⟨q0, q1, q2, q3, _⟩ := set_cells hK4.2.2
          go_wp2_with fail
          refine (print_is _ _ _ _ _ _ sx _ HX.out HS'.out.1 HS'.out.2.1 hK4.2.1.2.1 HPU.out).mono ?_
          rintro e w4 ⟨rfl, hB4⟩
          have hK5 := hK4.below hB4
          go_wp2_with (go_at_call 14; refine (H3.out _).mono ?_; rintro e w8 ⟨rfl, hB8⟩; have hK8 := hK5.below hB8)
          go_ret
          exact ⟨rfl, hbi.trans (hK8.1.2.2.mono hbi.size)⟩
      · have hne : (((sgs o).length : Int) != ((sgs p).length : Int)) = true := by simp; omega
        clear hln
        go_wp2_with (go_at_call 14; refine (H3.out _).mono ?_; rintro e w8 ⟨rfl, hB8⟩; have hK8 := hK3.below hB8)
        go_ret
        exact ⟨rfl, hbi.trans (hK8.1.2.2.mono hbi.size)⟩
    · have herr : (x' != 0) = true := by simpa using hy0
      clear hy0
      go_wp2_with fail
      go_region
      have hK3 := hK.drew
      go_wp2_with (go_at_call 14; refine (H3.out _).mono ?_; rintro e w8 ⟨rfl, hB8⟩; have hK8 := hK3.below hB8)
      go_ret
      exact ⟨rfl, hbi.trans (hK8.1.2.2.mono hbi.size)⟩
  · have herr : (x != 0) = true := by simpa using hx0
    clear hx0
    go_wp2_with fail
    go_region
    have hK3 := hK.drew
    go_wp2_with (go_at_call 14; refine (H3.out _).mono ?_; rintro e w8 ⟨rfl, hB8⟩; have hK8 := hK3.below hB8)
    go_ret
    exact ⟨rfl, hbi.trans (hK8.1.2.2.mono hbi.size)⟩
end Go.Proofs.Ythbejpgeohhppaa
