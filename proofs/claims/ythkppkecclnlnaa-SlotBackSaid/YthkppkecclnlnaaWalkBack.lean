/- The walk of the law SlotBack. -/
import Derived.Test.YthkppkecclnlnaaSlotAl
namespace Go.Proofs.Ythkppkecclnlnaa
set_option linter.unusedVariables false
set_option linter.unusedSimpArgs false
open Go.RowKit

theorem rem64 (x : Int) : ∃ k : Nat, k < 64 ∧ ((Int.tmod x 64 = (k : Int)) ∨ (Int.tmod x 64 < 0 ∧ Int.tmod x 64 = (k : Int) - 64)) := by
  have h1 : Int.tmod x 64 < 64 := Int.tmod_lt_of_pos x (by decide)
  have h2 : -64 < Int.tmod x 64 := Int.lt_tmod_of_pos x (by decide)
  by_cases h : Int.tmod x 64 < 0
  · exact ⟨(Int.tmod x 64 + 64).toNat, by omega, .inr ⟨h, by omega⟩⟩
  · exact ⟨(Int.tmod x 64).toNat, by omega, .inl (by omega)⟩
theorem bits_xor_u8 (a b : Nat) (ha : a < 256) (hb : b < 256) : bits .xor .u8 (a : Int) (b : Int) = ((a ^^^ b : Nat) : Int) := by
  have hx : a ^^^ b < 2 ^ 8 := Nat.xor_lt_two_pow (by omega) (by omega)
  have h1 : (BitVec.ofInt 8 (a : Int)).toNat = a := by rw [BitVec.ofInt_natCast, BitVec.toNat_ofNat]; exact Nat.mod_eq_of_lt (by omega)
  have h2 : (BitVec.ofInt 8 (b : Int)).toNat = b := by rw [BitVec.ofInt_natCast, BitVec.toNat_ofNat]; exact Nat.mod_eq_of_lt (by omega)
  show IntKind.u8.wrap ((BitVec.ofInt 8 (a : Int) ^^^ BitVec.ofInt 8 (b : Int)).toNat : Int) = _
  rw [BitVec.toNat_xor, h1, h2, IntKind.wrap_u8]
  omega
theorem xor_other {a b : Nat} (hb : b ≠ 0) : a ^^^ b ≠ a := by
  intro h
  have h2 : a ^^^ (a ^^^ b) = a ^^^ a := by rw [h]
  rw [← Nat.xor_assoc, Nat.xor_self, Nat.zero_xor] at h2
  exact hb h2
set_option maxRecDepth 100000 in
set_option maxHeartbeats 4000000 in
theorem slotBack_walk (w : World) (a b c s p q : Int) (hr : ∀ y ∈ [a, b, c], (Lit.int .i64 y).wf = true) (hs : (Lit.int .i64 s).wf = true) (hp : (Lit.int .i64 p).wf = true) (hq : (Lit.int .i64 q).wf = true) :
    Calls Try.prog 9 #[recV a b c, .int .i64 s, .int .i64 p, .int .i64 q] w fun e w' => e = .returned (.bool true) ∧ Below w.heap.size w w' := by
  have hb0 : Below w.heap.size w (w.alloc (.cells #[.int .i64 a, .int .i64 b, .int .i64 c] 47)) := (Below.refl _ w).alloc (Nat.le_refl _) _
  have hr0 := box3 w (.int .i64 a) (.int .i64 b) (.int .i64 c) 47
  clear hr hs hp hq
  by_cases hok : encOk a b c s
  · obtain ⟨⟨m1, m2, m3, m4, m5, m6⟩, m7, m8⟩ := id hok
    obtain ⟨A, rfl⟩ : ∃ n : Nat, a = n := ⟨a.toNat, by omega⟩
    obtain ⟨B, rfl⟩ : ∃ n : Nat, b = n := ⟨b.toNat, by omega⟩
    obtain ⟨C, rfl⟩ : ∃ n : Nat, c = n := ⟨c.toNat, by omega⟩
    obtain ⟨D, rfl⟩ : ∃ n : Nat, s = n := ⟨s.toNat, by omega⟩
    have HE := Lib.hid (encode_ok A B C D hok (w.alloc (.cells #[.int .i64 A, .int .i64 B, .int .i64 C] 47)))
    have hrn : rcN A B C D = ⟨A, B, C, D⟩ := rfl
    rw [hrn] at HE
    have hmay : Rc.may ⟨A, B, C, D⟩ := (rcN_may hok).1
    have HDE := Lib.hid (decL_enc hmay)
    have HMAY := Lib.hid hmay
    obtain ⟨R, hR⟩ : ∃ R, (⟨A, B, C, D⟩ : Rc) = R := ⟨_, rfl⟩
    clear hok m1 m2 m3 m4 m5 m6 m7 m8 hrn hmay
    unfold recV at HE ⊢
    go_enter Try.func9, Try.ntmps9
    go_wp2_with fail
    refine HE.out.mono ?_
    rintro e w1 ⟨v1, rfl, ⟨g, rfl, hg1, hg2⟩, hB1⟩
    have hb1 := below_then hb0 hB1
    have hr1 := blk_below' hB1 hr0
    have hgs : w.heap.size < g := by simp at hg1; omega
    clear hr0 hb0 HE hB1 hg1
    have hdec := decode_any g 0 64 (encL ⟨A, B, C, D⟩) (encL_len _) (encL_lt _) (Nat.le_refl _) w1 (cells_blk hg2) (blk_lt hg2)
    rw [HDE.out] at hdec
    unfold decA recV at hdec
    have HD1 := Lib.hid hdec
    clear hdec
    go_wp2_with fail
    refine HD1.out.mono ?_
    rintro e w2 ⟨rfl, hB2⟩
    have hr2 := blk_below' hB2 hr1
    have hg3 := blk_below' hB2 hg2
    have hb2 := below_then hb1 hB2
    clear hr1 hg2 hb1 hB2 HD1
    obtain ⟨W3, hW3⟩ : ∃ W3, w2.alloc (.cells #[.int .i64 (A : Int), .int .i64 (B : Int), .int .i64 (C : Int)] 47) = W3 := ⟨_, rfl⟩
    have hal : Below w2.heap.size w2 W3 := by rw [← hW3]; exact (Below.refl _ _).alloc (Nat.le_refl _) _
    have hn3 : W3.heap[w2.heap.size]? = some (.cells #[.int .i64 (A : Int), .int .i64 (B : Int), .int .i64 (C : Int)] 47 (0, 0)) := by rw [← hW3]; exact box3 w2 (.int .i64 (A : Int)) (.int .i64 (B : Int)) (.int .i64 (C : Int)) 47
    have hr3 := blk_below' hal hr2
    have hg4 := blk_below' hal hg3
    have hb3 := below_then hb2 hal
    obtain ⟨x0, x1, x2, _⟩ := blk3 hr2
    have hsz2 := blk_lt hr2
    obtain ⟨y0, y1, y2, _⟩ := blk3 hn3
    obtain ⟨u0, u1, u2, _⟩ := blk3 hr3
    by_cases hq1 : q < 1
    · go_wp2_with (first
        | (refine (alive11_any _).mono ?_; rintro e w9 ⟨rfl, hB9⟩))
      go_ret
      exact ⟨rfl, below_then hb3 hB9⟩
    · by_cases hq2 : 255 < q
      · go_wp2_with (first
          | (refine (alive11_any _).mono ?_; rintro e w9 ⟨rfl, hB9⟩))
        go_ret
        exact ⟨rfl, below_then hb3 hB9⟩
      · obtain ⟨Q, rfl⟩ : ∃ n : Nat, q = n := ⟨q.toNat, by omega⟩
        obtain ⟨k, hk64, hk⟩ := rem64 p
        obtain ⟨x, hx⟩ : ∃ x, (encL ⟨A, B, C, D⟩)[k]? = some x := ⟨_, List.getElem?_eq_getElem (by rw [encL_len]; exact hk64)⟩
        have hxl := encL_lt _ x (List.mem_of_getElem? hx)
        have hxor := bits_xor_u8 x Q hxl (by omega)
        have hzx : x ^^^ Q ≠ x := xor_other (by omega)
        have hzl : x ^^^ Q < 256 := Nat.xor_lt_two_pow (n := 8) (by omega) (by omega)
        obtain ⟨z, hz⟩ : ∃ z, x ^^^ Q = z := ⟨_, rfl⟩
        rw [hz] at hxor hzx hzl
        have HX := Lib.hid hx
        have HZ := Lib.hid (And.intro hzx hzl)
        clear hx hxl hzx hzl hz
        have i1 : (k : Int) < 64 := by omega
        have i2 : (0 : Int) ≤ (k : Int) := by omega
        have i3 : (k : Int).toNat = k := Int.toNat_natCast k
        have c0 : W3.cell? ⟨g, k, none⟩ = some (.int .u8 (x : Int)) := by rw [blk_cell hg4, List.getElem?_toArray, bC_get, HX.out]; rfl
        have f0 := blk_free hg4 k
        have hqw : IntKind.u8.wrap (Q : Int) = (Q : Int) := by rw [IntKind.wrap_u8]; omega
        have hg5 := blk_store hg4 k (.int .u8 (z : Int))
        rw [List.setIfInBounds_toArray, bC_set] at hg5
        have hgne : ¬ g = w.heap.size := by omega
        have hr5 := blk_set hr3 ⟨g, k, none⟩ (.int .u8 (z : Int)) (by simp; omega)
        have hb5 := hb3.setCell (p := ⟨g, k, none⟩) (Nat.le_of_lt hgs) (.int .u8 (z : Int))
        rcases hk with hk | ⟨hk0, hk⟩
        · skip
          go_wp2_with fail
          obtain ⟨W5, hW5⟩ : ∃ W5, W3.setCell ⟨g, k, none⟩ (.int .u8 (z : Int)) = W5 := ⟨_, rfl⟩
          rw [hW5] at hg5 hr5 hb5 ⊢
          clear hW5 c0 f0 x0 x1 x2 y0 y1 y2 u0 u1 u2 hg4 hr3 hn3 hb3 hal hg3 hr2 hb2
          obtain ⟨l', hl'⟩ : ∃ l', (encL ⟨A, B, C, D⟩).set k z = l' := ⟨_, rfl⟩
          rw [hl'] at hg5
          have hl2 : l'.length = 64 := by rw [← hl', List.length_set]; exact encL_len _
          have hlt2 : ∀ c ∈ l', c < 256 := by
            intro c hc
            rw [← hl'] at hc
            rcases List.mem_or_eq_of_mem_set hc with h | h
            · exact encL_lt _ c h
            · rw [h]; exact HZ.out.2
          have hne : l' ≠ encL ⟨A, B, C, D⟩ := by
            intro h
            have h1 : l'[k]? = some z := by rw [← hl', List.getElem?_set]; rw [if_pos rfl, if_pos (by rw [encL_len]; exact hk64)]
            rw [h, HX.out] at h1
            exact HZ.out.1 (Option.some.inj h1).symm
          have HNE := Lib.hid hne
          have HL2 := Lib.hid hl2
          have hdec := decode_any g 0 64 l' hl2 hlt2 (Nat.le_refl _) W5 (cells_blk hg5) (blk_lt hg5)
          clear hne hl' hlt2 hl2
          cases hd : decL l' with
          | none =>
            rw [hd] at hdec
            unfold decA recV at hdec
            have HD2 := Lib.hid hdec
            clear hdec hd
            refine HD2.out.mono ?_
            rintro e w6 ⟨rfl, hB6⟩
            have hb6 := below_then hb5 hB6
            go_wp2_with (first
              | (refine (alive11_any _).mono ?_; rintro e w7 ⟨rfl, hB7⟩; obtain ⟨s0, s1, s2, _⟩ := blk3 (blk_below' hB7 (box3 w6 (.int .i64 0) (.int .i64 0) (.int .i64 0) 47)); have hb7 := below_then (hb6.alloc hb6.size (.cells #[.int .i64 0, .int .i64 0, .int .i64 0] 47)) hB7))
            go_ret
            exact ⟨rfl, hb7⟩
          | some t =>
            rw [hd] at hdec
            unfold decA recV at hdec
            have HD2 := Lib.hid hdec
            have HDS := Lib.hid (decL_some hd)
            clear hdec hd
            refine HD2.out.mono ?_
            rintro e w6 ⟨rfl, hB6⟩
            have hb6 := below_then hb5 hB6
            have hg6 := blk_below' hB6 hg5
            have hr6 := blk_below' hB6 hr5
            obtain ⟨W7, hW7⟩ : ∃ W7, w6.alloc (.cells #[.int .i64 (t.life : Int), .int .i64 (t.round : Int), .int .i64 (t.tag : Int)] 47) = W7 := ⟨_, rfl⟩
            have hn7 : W7.heap[w6.heap.size]? = some (.cells #[.int .i64 (t.life : Int), .int .i64 (t.round : Int), .int .i64 (t.tag : Int)] 47 (0, 0)) := by rw [← hW7]; exact box3 w6 (.int .i64 (t.life : Int)) (.int .i64 (t.round : Int)) (.int .i64 (t.tag : Int)) 47
            have hal : Below w6.heap.size w6 W7 := by rw [← hW7]; exact (Below.refl _ _).alloc (Nat.le_refl _) _
            have hb7 := below_then hb6 hal
            have hg7 := blk_below' hal hg6
            have hr7 := blk_below' hal hr6
            obtain ⟨t0, t1, t2, _⟩ := blk3 hn7
            have hok2 : encOk (t.life : Int) (t.round : Int) (t.tag : Int) (t.seq : Int) := by
              obtain ⟨a1, a2, a3, a4, a5, a6⟩ := HDS.out.1
              exact ⟨⟨by omega, by omega, by omega, by omega, by omega, by omega⟩, by omega, by omega⟩
            have HE2 := Lib.hid (encode_ok _ _ _ _ hok2 W7)
            have ht : rcN (t.life : Int) (t.round : Int) (t.tag : Int) (t.seq : Int) = t := rfl
            rw [ht, ← HDS.out.2] at HE2
            unfold recV at HE2
            clear hok2 hB6 hb5 hg5 hr5 hb6 hg6 hr6 hal
            go_wp2_with fail
            refine HE2.out.mono ?_
            rintro e w8 ⟨v8, rfl, ⟨g8, rfl, hg81, hg82⟩, hB8⟩
            have hb8 := below_then hb7 hB8
            have hg8 := blk_below' hB8 hg7
            have hr8 := blk_below' hB8 hr7
            have hn8 := blk_below' hB8 hn7
            clear hb7 hg7 hr7 hn7 t0 t1 t2 hW7
            go_wp2_with fail
            refine (alive11_any _).mono ?_
            rintro e w9 ⟨rfl, hB9⟩
            have hb9 := below_then hb8 hB9
            have hg9 := cells_blk (blk_below' hB9 hg8)
            have hc9 := cells_blk (blk_below' hB9 hg82)
            have hr9 := blk_below' hB9 hr8
            have hn9 := blk_below' hB9 hn8
            clear hb8 hg8 hr8 hn8 hg82
            go_wp2_with fail
            refine (same_any _ _ l' l' w9 _ _ _ _ (by rw [HL2.out]) (by rw [HL2.out]) (by rw [HL2.out]; decide) (by rw [HL2.out]; decide) hg9 hc9).mono ?_
            rintro e w10 ⟨rfl, hB10⟩
            rw [decide_eq_true (rfl : l' = l')]
            have hb10 := below_then hb9 hB10
            obtain ⟨x0, x1, x2, _⟩ := blk3 (blk_below' hB10 hr9)
            obtain ⟨y0, y1, y2, _⟩ := blk3 (blk_below' hB10 hn9)
            clear hr9 hn9 hb9 hg9 hc9
            by_cases e1 : (t.life : Int) = (A : Int)
            · by_cases e2 : (t.round : Int) = (B : Int)
              · by_cases e3 : (t.tag : Int) = (C : Int)
                · have e4 : ((t.seq : Int) != (D : Int)) = true := by
                    simp only [bne_iff_ne, ne_eq]
                    intro e4
                    apply HNE.out
                    rw [HDS.out.2]
                    obtain ⟨ta, tb, tc, td⟩ := t
                    simp only at e1 e2 e3 e4
                    congr 2 <;> omega
                  have b1 : ((t.life : Int) == (A : Int)) = true := by simpa using e1
                  have b2 : ((t.round : Int) == (B : Int)) = true := by simpa using e2
                  have b3 : ((t.tag : Int) == (C : Int)) = true := by simpa using e3
                  clear e1 e2 e3
                  go_wp2_with fail
                  go_ret
                  exact ⟨rfl, hb10⟩
                · have b1 : ((t.life : Int) == (A : Int)) = true := by simpa using e1
                  have b2 : ((t.round : Int) == (B : Int)) = true := by simpa using e2
                  have b3 : ((t.tag : Int) == (C : Int)) = false := by simpa using e3
                  clear e1 e2 e3
                  go_wp2_with fail
                  go_ret
                  exact ⟨rfl, hb10⟩
              · have b1 : ((t.life : Int) == (A : Int)) = true := by simpa using e1
                have b2 : ((t.round : Int) == (B : Int)) = false := by simpa using e2
                clear e1 e2
                go_wp2_with fail
                go_ret
                exact ⟨rfl, hb10⟩
            · have b1 : ((t.life : Int) == (A : Int)) = false := by simpa using e1
              clear e1
              go_wp2_with fail
              go_ret
              exact ⟨rfl, hb10⟩
        · skip
          go_wp2_with fail
          obtain ⟨W5, hW5⟩ : ∃ W5, W3.setCell ⟨g, k, none⟩ (.int .u8 (z : Int)) = W5 := ⟨_, rfl⟩
          rw [hW5] at hg5 hr5 hb5 ⊢
          clear hW5 c0 f0 x0 x1 x2 y0 y1 y2 u0 u1 u2 hg4 hr3 hn3 hb3 hal hg3 hr2 hb2
          obtain ⟨l', hl'⟩ : ∃ l', (encL ⟨A, B, C, D⟩).set k z = l' := ⟨_, rfl⟩
          rw [hl'] at hg5
          have hl2 : l'.length = 64 := by rw [← hl', List.length_set]; exact encL_len _
          have hlt2 : ∀ c ∈ l', c < 256 := by
            intro c hc
            rw [← hl'] at hc
            rcases List.mem_or_eq_of_mem_set hc with h | h
            · exact encL_lt _ c h
            · rw [h]; exact HZ.out.2
          have hne : l' ≠ encL ⟨A, B, C, D⟩ := by
            intro h
            have h1 : l'[k]? = some z := by rw [← hl', List.getElem?_set]; rw [if_pos rfl, if_pos (by rw [encL_len]; exact hk64)]
            rw [h, HX.out] at h1
            exact HZ.out.1 (Option.some.inj h1).symm
          have HNE := Lib.hid hne
          have HL2 := Lib.hid hl2
          have hdec := decode_any g 0 64 l' hl2 hlt2 (Nat.le_refl _) W5 (cells_blk hg5) (blk_lt hg5)
          clear hne hl' hlt2 hl2
          cases hd : decL l' with
          | none =>
            rw [hd] at hdec
            unfold decA recV at hdec
            have HD2 := Lib.hid hdec
            clear hdec hd
            refine HD2.out.mono ?_
            rintro e w6 ⟨rfl, hB6⟩
            have hb6 := below_then hb5 hB6
            go_wp2_with (first
              | (refine (alive11_any _).mono ?_; rintro e w7 ⟨rfl, hB7⟩; obtain ⟨s0, s1, s2, _⟩ := blk3 (blk_below' hB7 (box3 w6 (.int .i64 0) (.int .i64 0) (.int .i64 0) 47)); have hb7 := below_then (hb6.alloc hb6.size (.cells #[.int .i64 0, .int .i64 0, .int .i64 0] 47)) hB7))
            go_ret
            exact ⟨rfl, hb7⟩
          | some t =>
            rw [hd] at hdec
            unfold decA recV at hdec
            have HD2 := Lib.hid hdec
            have HDS := Lib.hid (decL_some hd)
            clear hdec hd
            refine HD2.out.mono ?_
            rintro e w6 ⟨rfl, hB6⟩
            have hb6 := below_then hb5 hB6
            have hg6 := blk_below' hB6 hg5
            have hr6 := blk_below' hB6 hr5
            obtain ⟨W7, hW7⟩ : ∃ W7, w6.alloc (.cells #[.int .i64 (t.life : Int), .int .i64 (t.round : Int), .int .i64 (t.tag : Int)] 47) = W7 := ⟨_, rfl⟩
            have hn7 : W7.heap[w6.heap.size]? = some (.cells #[.int .i64 (t.life : Int), .int .i64 (t.round : Int), .int .i64 (t.tag : Int)] 47 (0, 0)) := by rw [← hW7]; exact box3 w6 (.int .i64 (t.life : Int)) (.int .i64 (t.round : Int)) (.int .i64 (t.tag : Int)) 47
            have hal : Below w6.heap.size w6 W7 := by rw [← hW7]; exact (Below.refl _ _).alloc (Nat.le_refl _) _
            have hb7 := below_then hb6 hal
            have hg7 := blk_below' hal hg6
            have hr7 := blk_below' hal hr6
            obtain ⟨t0, t1, t2, _⟩ := blk3 hn7
            have hok2 : encOk (t.life : Int) (t.round : Int) (t.tag : Int) (t.seq : Int) := by
              obtain ⟨a1, a2, a3, a4, a5, a6⟩ := HDS.out.1
              exact ⟨⟨by omega, by omega, by omega, by omega, by omega, by omega⟩, by omega, by omega⟩
            have HE2 := Lib.hid (encode_ok _ _ _ _ hok2 W7)
            have ht : rcN (t.life : Int) (t.round : Int) (t.tag : Int) (t.seq : Int) = t := rfl
            rw [ht, ← HDS.out.2] at HE2
            unfold recV at HE2
            clear hok2 hB6 hb5 hg5 hr5 hb6 hg6 hr6 hal
            go_wp2_with fail
            refine HE2.out.mono ?_
            rintro e w8 ⟨v8, rfl, ⟨g8, rfl, hg81, hg82⟩, hB8⟩
            have hb8 := below_then hb7 hB8
            have hg8 := blk_below' hB8 hg7
            have hr8 := blk_below' hB8 hr7
            have hn8 := blk_below' hB8 hn7
            clear hb7 hg7 hr7 hn7 t0 t1 t2 hW7
            go_wp2_with fail
            refine (alive11_any _).mono ?_
            rintro e w9 ⟨rfl, hB9⟩
            have hb9 := below_then hb8 hB9
            have hg9 := cells_blk (blk_below' hB9 hg8)
            have hc9 := cells_blk (blk_below' hB9 hg82)
            have hr9 := blk_below' hB9 hr8
            have hn9 := blk_below' hB9 hn8
            clear hb8 hg8 hr8 hn8 hg82
            go_wp2_with fail
            refine (same_any _ _ l' l' w9 _ _ _ _ (by rw [HL2.out]) (by rw [HL2.out]) (by rw [HL2.out]; decide) (by rw [HL2.out]; decide) hg9 hc9).mono ?_
            rintro e w10 ⟨rfl, hB10⟩
            rw [decide_eq_true (rfl : l' = l')]
            have hb10 := below_then hb9 hB10
            obtain ⟨x0, x1, x2, _⟩ := blk3 (blk_below' hB10 hr9)
            obtain ⟨y0, y1, y2, _⟩ := blk3 (blk_below' hB10 hn9)
            clear hr9 hn9 hb9 hg9 hc9
            by_cases e1 : (t.life : Int) = (A : Int)
            · by_cases e2 : (t.round : Int) = (B : Int)
              · by_cases e3 : (t.tag : Int) = (C : Int)
                · have e4 : ((t.seq : Int) != (D : Int)) = true := by
                    simp only [bne_iff_ne, ne_eq]
                    intro e4
                    apply HNE.out
                    rw [HDS.out.2]
                    obtain ⟨ta, tb, tc, td⟩ := t
                    simp only at e1 e2 e3 e4
                    congr 2 <;> omega
                  have b1 : ((t.life : Int) == (A : Int)) = true := by simpa using e1
                  have b2 : ((t.round : Int) == (B : Int)) = true := by simpa using e2
                  have b3 : ((t.tag : Int) == (C : Int)) = true := by simpa using e3
                  clear e1 e2 e3
                  go_wp2_with fail
                  go_ret
                  exact ⟨rfl, hb10⟩
                · have b1 : ((t.life : Int) == (A : Int)) = true := by simpa using e1
                  have b2 : ((t.round : Int) == (B : Int)) = true := by simpa using e2
                  have b3 : ((t.tag : Int) == (C : Int)) = false := by simpa using e3
                  clear e1 e2 e3
                  go_wp2_with fail
                  go_ret
                  exact ⟨rfl, hb10⟩
              · have b1 : ((t.life : Int) == (A : Int)) = true := by simpa using e1
                have b2 : ((t.round : Int) == (B : Int)) = false := by simpa using e2
                clear e1 e2
                go_wp2_with fail
                go_ret
                exact ⟨rfl, hb10⟩
            · have b1 : ((t.life : Int) == (A : Int)) = false := by simpa using e1
              clear e1
              go_wp2_with fail
              go_ret
              exact ⟨rfl, hb10⟩
  · have HE := Lib.hid (encode_no a b c s hok (w.alloc (.cells #[.int .i64 a, .int .i64 b, .int .i64 c] 47)))
    clear hok
    unfold recV at HE ⊢
    go_enter Try.func9, Try.ntmps9
    go_wp2_with fail
    refine HE.out.mono ?_
    rintro e w1 ⟨rfl, hB1⟩
    have hb1 := below_then hb0 hB1
    go_wp2_with fail
    refine (alive11_any _).mono ?_
    rintro e w2 ⟨rfl, hB2⟩
    go_wp2_with fail
    go_ret
    exact ⟨rfl, below_then hb1 hB2⟩
end Go.Proofs.Ythkppkecclnlnaa
