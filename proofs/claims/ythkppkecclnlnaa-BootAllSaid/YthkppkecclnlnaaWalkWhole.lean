/- The walk of the law DiskWhole. -/
import Derived.Test.YthkppkecclnlnaaWhole
namespace Go.Proofs.Ythkppkecclnlnaa
set_option linter.unusedVariables false
set_option linter.unusedSimpArgs false
open Go.RowKit

/-- A local array of numbers. -/
def laC (l : List Nat) : Array Value := (l.map fun x : Nat => Value.int .i64 (x : Int)).toArray
theorem laC_get {l : List Nat} {s v : Nat} (h : l[s]? = some v) : (laC l)[s]? = some (.int .i64 (v : Int)) := by
  unfold laC; rw [List.getElem?_toArray, List.getElem?_map, h]; rfl
theorem laC_set (l : List Nat) (s v : Nat) : (laC l).setIfInBounds s (.int .i64 (v : Int)) = laC (l.set s v) := by
  unfold laC; rw [List.setIfInBounds_toArray, List.map_set]
/-- A part of a row of bytes that the call owns. -/
theorem row_part {W : World} {B g n c o : Nat} {l m : List Nat} (h : W.ownsRow B 5 1 (.slice (some ⟨g, 0, none⟩) n c) n (bC l)) (hl : l.length = n) (hm : ∀ j x, m[j]? = some x → l[o + j]? = some x) :
    ∀ j x, m[j]? = some x → ∃ b, some (⟨g, o, none⟩ : Addr) = some b ∧ W.cell? (b.add j) = some (.int .u8 (x : Nat)) := by
  intro j x hx
  have h2 := hm j x hx
  have hj := (List.getElem?_eq_some_iff.1 h2).1
  refine ⟨_, rfl, ?_⟩
  rw [Addr.add_mid, h.cellAt _ (by omega)]
  unfold bC
  rw [List.getElem?_map, h2]; rfl
theorem rem_place (x : Int) : ∃ k : Nat, k < 8 ∧ ((Int.tmod x 8 = (k : Int)) ∨ (Int.tmod x 8 < 0 ∧ Int.tmod x 8 = (k : Int) - 8)) := by
  have h1 : Int.tmod x 8 < 8 := Int.tmod_lt_of_pos x (by decide)
  have h2 : -8 < Int.tmod x 8 := Int.lt_tmod_of_pos x (by decide)
  by_cases h : Int.tmod x 8 < 0
  · exact ⟨(Int.tmod x 8 + 8).toNat, by omega, .inr ⟨h, by omega⟩⟩
  · exact ⟨(Int.tmod x 8).toNat, by omega, .inl (by omega)⟩
set_option maxRecDepth 100000 in
set_option maxHeartbeats 2000000 in
theorem diskWhole_walk (w : World) (k : Int) (v : Value) (hk : (Lit.int .i64 k).wf = true) (xs : List Int) (hrow : RowOf w .i64 v xs) (hwf : ∀ x ∈ xs, (Lit.int .i64 x).wf = true) :
    Calls Try.prog 3 #[.int .i64 k, v] w fun e w' => e = .returned (.bool true) ∧ Below w.heap.size w w' := by
  obtain ⟨a, cap, rfl, hcap, hmax, hcell⟩ := hrow.slice
  have HC := Lib.hid hcell
  clear hcell hrow hcap hmax hwf
  obtain ⟨i0, hi, hzA, hzB, hzC⟩ := info_parts Try.infoByte
  by_cases hout : 100 < xs.length
  · have b0 : (100 : Int) < (xs.length : Int) := by omega
    clear hout
    go_enter Try.func3, Try.ntmps3
    go_wp2_with (go_at_call 20; refine (alive_any _).mono ?_; rintro e w9 ⟨rfl, hB9⟩)
    all_goals (go_ret; exact ⟨rfl, hB9⟩)
  · have b0 : ¬ (100 : Int) < (xs.length : Int) := by omega
    have HN := Lib.hid hout
    clear hout
    go_enter Try.func3, Try.ntmps3
    go_wp2_with (first
      | (go_at_call 21; refine (new_any _).mono ?_; rintro e w1 ⟨rfl, hD1, hB1⟩)
      | (go_at_call 22; refine (fuse_any _ _ _ _ hD1).mono ?_; rintro e w2 ⟨rfl, hD2, hg2⟩))
    have hb2 : Below w.heap.size w w2 := hB1.grown hg2 hB1.size (fun j h => by cases h; exact Nat.le_refl _)
    have hF0 : WhD { Dk.new with fused := decide (0 ≤ k), fuse := k.toNat } (List.replicate 8 0) 0 := ⟨List.length_replicate, rfl, fun s v h => by
      have hs : s < 8 := by have := (List.getElem?_eq_some_iff.1 h).1; simpa using this
      rw [List.getElem?_replicate, if_pos hs] at h
      cases h
      rw [if_pos rfl]
      show ((List.replicate 256 0).drop (s * 32)).take 32 = _
      rw [List.drop_replicate, List.take_replicate]; congr 1; omega, Nat.le_refl _, by
        show k.toNat ≤ _
        simp only [Lit.wf, Bool.and_eq_true, decide_eq_true_eq] at hk
        have h5 : IntKind.i64.max = 9223372036854775807 := by decide
        omega, fun s v h => by
      rw [List.getElem?_replicate] at h
      split at h
      · cases h; omega
      · cases h⟩
    obtain ⟨d0, hd0⟩ : ∃ d0, ({ Dk.new with fused := decide (0 ≤ k), fuse := k.toNat } : Dk) = d0 := ⟨_, rfl⟩
    have hD2 : DkAt w2 w.heap.size d0 := by rw [← hd0]; exact hD2
    rw [hd0] at hF0
    have hlt2 := hD2.lt
    clear hd0 hD1 hB1 hg2
    go_loopw [7] (fun i wr => ∃ (n : Nat) (d : Dk) (last : List Nat), i = .int .i64 n ∧ n ≤ xs.length ∧ WhD d last n ∧ DkAt wr w.heap.size d ∧ wr.heap[w2.heap.size]? = some (.cells (laC last) 27 (0, 0)) ∧ Below w.heap.size w wr) (fun i _ => xs.length - (intOf i).toNat)
    case atStart => exact ⟨0, d0, _, rfl, by omega, hF0, hD2.below ((Below.refl _ _).alloc (Nat.le_refl _) _), (blk_new _ _).trans rfl, hb2.alloc (by omega) _⟩
    case round =>
      obtain ⟨n, d, last, rfl, hn, hF, hD, hL, hb⟩ := hrel
      clear hD2 hb2 hF0
      by_cases hlt : n < xs.length
      · obtain ⟨x, hx⟩ : ∃ x, xs[n]? = some x := ⟨_, List.getElem?_eq_getElem hlt⟩
        obtain ⟨p, rfl, hp⟩ := HC.out n x hx
        have hp := (hb.cell (cell_lt hp)).trans hp
        have i1 : (n : Int) < (xs.length : Int) := by omega
        have i2 : (0 : Int) ≤ (n : Int) := by omega
        have i3 : (n : Int).toNat = n := Int.toNat_natCast n
        obtain ⟨s, hs8, hs⟩ := rem_place x
        have HS8 := Lib.hid hs8
        have HF := Lib.hid hF
        have HST := Lib.hid (whD_step hF s hs8)
        obtain ⟨d', er, hwr⟩ : ∃ d' er, wrV d (s : Int) (secL ((n : Int) + 1)) = (d', er) := ⟨_, _, rfl⟩
        have HWR := Lib.hid hwr
        rw [hwr] at HST
        have hwb : d.writes ≤ 4611686018427387904 := by have := hF.le; have := HN.out; omega
        have HFU := Lib.hid hF.fz
        clear hF hwr hx
        have i4 : (s : Int) < 8 := by have := HS8.out; omega
        have i5 : (0 : Int) ≤ (s : Int) := by omega
        have i6 : (s : Int).toNat = s := Int.toNat_natCast s
        have z0 := blk_free hL s
        obtain ⟨lv, hlv⟩ : ∃ lv, last[s]? = some lv := ⟨_, List.getElem?_eq_getElem (by rw [HF.out.many]; omega)⟩
        rcases hs with hs | ⟨hs0, hs⟩
        · skip
          go_wp2_with fail
          refine (sector_any _ _).mono ?_
          rintro e w3 ⟨rfl, hr3, hB3⟩
          have hD3 := hD.below hB3
          have hb3 := below_then hb hB3
          have hL3 := blk_below' hB3 hL
          go_wp2_with fail
          refine (write_any w.heap.size d (s : Int) _ (secL ((n : Int) + 1)) _ hD3 (bytes_row hr3 (by unfold secL; simp) (by have := hD.lt; omega)) (by unfold secL; simp) hwb HFU.out).mono ?_
          rintro e w4 ⟨rfl, hD4, hg4⟩
          have hb4 := hb3.grown hg4 hb3.size (fun j h => by cases h; exact Nat.le_refl _)
          have hL4 := blk_grown hg4 hL3 (by simp; omega)
          rw [HWR.out] at hD4 ⊢
          have c4 := (blk_cell hL4 s).trans (laC_get hlv)
          have z4 := blk_free hL4 s
          clear hD3 hB3 hL3 hr3 z0 hg4 hb3
          by_cases her : er = 0
          · subst her
            rcases HST.out with ⟨_, hst⟩ | ⟨h0, _⟩
            · have hst2 := Lib.hid hst
              have hL6 := blk_store hL4 s (.int .i64 ((n + 1 : Nat) : Int))
              rw [laC_set] at hL6
              have hD6 := Lib.hid (show DkAt (w4.setCell ⟨w2.heap.size, s, none⟩ (.int .i64 ((n + 1 : Nat) : Int))) w.heap.size d' from ⟨blk_set hD4.1 _ _ (by simp; omega), hD4.2⟩)
              have HL6 := Lib.hid hL6
              clear hL6 hst HST
              go_wp2_with fail
              go_roundw
              case rel => exact ⟨n + 1, d', _, by go_num, by omega, hst2.out, hD6.out, HL6.out, hb4.setCell (by simp; omega) _⟩
              case measure => simp [intOf]; omega
            · exact absurd rfl h0
          · have hne : (er == 0) = false := by simpa using her
            rcases HST.out with ⟨h0, _⟩ | ⟨_, hst⟩
            · exact absurd h0 her
            · have hst2 := Lib.hid hst
              clear hst HST her
              go_wp2_with fail
              go_roundw
              case rel => exact ⟨n + 1, d', _, by go_num, by omega, hst2.out, hD4, hL4, hb4⟩
              case measure => simp [intOf]; omega
        · skip
          go_wp2_with fail
          refine (sector_any _ _).mono ?_
          rintro e w3 ⟨rfl, hr3, hB3⟩
          have hD3 := hD.below hB3
          have hb3 := below_then hb hB3
          have hL3 := blk_below' hB3 hL
          go_wp2_with fail
          refine (write_any w.heap.size d (s : Int) _ (secL ((n : Int) + 1)) _ hD3 (bytes_row hr3 (by unfold secL; simp) (by have := hD.lt; omega)) (by unfold secL; simp) hwb HFU.out).mono ?_
          rintro e w4 ⟨rfl, hD4, hg4⟩
          have hb4 := hb3.grown hg4 hb3.size (fun j h => by cases h; exact Nat.le_refl _)
          have hL4 := blk_grown hg4 hL3 (by simp; omega)
          rw [HWR.out] at hD4 ⊢
          have c4 := (blk_cell hL4 s).trans (laC_get hlv)
          have z4 := blk_free hL4 s
          clear hD3 hB3 hL3 hr3 z0 hg4 hb3
          by_cases her : er = 0
          · subst her
            rcases HST.out with ⟨_, hst⟩ | ⟨h0, _⟩
            · have hst2 := Lib.hid hst
              have hL6 := blk_store hL4 s (.int .i64 ((n + 1 : Nat) : Int))
              rw [laC_set] at hL6
              have hD6 := Lib.hid (show DkAt (w4.setCell ⟨w2.heap.size, s, none⟩ (.int .i64 ((n + 1 : Nat) : Int))) w.heap.size d' from ⟨blk_set hD4.1 _ _ (by simp; omega), hD4.2⟩)
              have HL6 := Lib.hid hL6
              clear hL6 hst HST
              go_wp2_with fail
              go_roundw
              case rel => exact ⟨n + 1, d', _, by go_num, by omega, hst2.out, hD6.out, HL6.out, hb4.setCell (by simp; omega) _⟩
              case measure => simp [intOf]; omega
            · exact absurd rfl h0
          · have hne : (er == 0) = false := by simpa using her
            rcases HST.out with ⟨h0, _⟩ | ⟨_, hst⟩
            · exact absurd h0 her
            · have hst2 := Lib.hid hst
              clear hst HST her
              go_wp2_with fail
              go_roundw
              case rel => exact ⟨n + 1, d', _, by go_num, by omega, hst2.out, hD4, hL4, hb4⟩
              case measure => simp [intOf]; omega
      · obtain rfl : n = xs.length := by omega
        have i1 : ¬ (xs.length : Int) < (xs.length : Int) := by omega
        go_wp2_with fail
        refine (image_any _ d _ hD).mono ?_
        rintro e w5 ⟨v5, rfl, hown, hB5⟩
        have hb5 := below_then hb hB5
        have hL5 := blk_below' hB5 hL
        obtain ⟨g, cp, rfl, hg1, hg2⟩ := ownsRow_pos hown (by omega)
        have hcp : 256 ≤ cp := by
          rcases hown.2 with ⟨h', _⟩ | ⟨g', cap', cur, h', _, _, hnc, _⟩
          · simp at h'
          · injection h' with _ _ h'; omega
        clear hD hL hb hB5
        have HF := Lib.hid hF
        have HO := Lib.hid hown
        have HL := Lib.hid hL5
        clear hF hown hL5
        go_wp2_with fail
        go_loopw [10] (fun i wr => ∃ (q : Nat), i = .int .i64 q ∧ q ≤ 8 ∧ Below w5.heap.size w5 wr) (fun i _ => 8 - (intOf i).toNat)
        case atStart => exact ⟨0, rfl, by omega, Below.refl _ _⟩
        case round =>
          obtain ⟨q, rfl, hq, hbq⟩ := hrel
          by_cases hlt : q < 8
          · obtain ⟨lv, hlv⟩ : ∃ lv, last[q]? = some lv := ⟨_, List.getElem?_eq_getElem (by rw [HF.out.many]; exact hlt)⟩
            have c0 : wr.cell? ⟨w2.heap.size, q, none⟩ = some (.int .i64 (lv : Int)) := (blk_cell (blk_below' hbq HL.out) q).trans (laC_get hlv)
            have i1 : (q : Int) < 8 := by omega
            have i2 : (0 : Int) ≤ (q : Int) := by omega
            have i3 : (q : Int).toNat = q := Int.toNat_natCast q
            have e1 : ((q : Int) + 1) * 32 ≤ (cp : Int) := by omega
            have e2 : (0 : Int) ≤ ((q : Int) + 1) * 32 := by omega
            have e3 : (0 : Int) ≤ (q : Int) * 32 := by omega
            have e4 : (q : Int) * 32 ≤ ((q : Int) + 1) * 32 := by omega
            have e5 : (q + 1) * 32 - q * 32 = 32 := by omega
            have e6 : ¬ (q + 1) * 32 = q * 32 := by omega
            have HR := Lib.hid (HF.out.rows q lv hlv)
            have hmm : ∀ j x, (rowS d.bs q)[j]? = some x → d.bs[q * 32 + j]? = some x := by
              intro j x hx
              unfold rowS at hx
              rw [List.getElem?_take] at hx
              split at hx
              · rwa [List.getElem?_drop] at hx
              · cases hx
            have HM := Lib.hid hmm
            clear hmm
            by_cases hz : lv = 0
            · subst hz
              go_wp2_with (refine wpList_make_full _ rfl _ _ 30 rfl wr.heap.size 5 i0 (.int .u8 0) 1 Try.underlying30 hi hzA hzB _ _ 32 32 32 rfl rfl rfl rfl (by rw [hzC]; decide) (by decide) (Nat.le_refl _) ?_; intro w6 hown6 hg6; have hb6 : Below wr.heap.size wr w6 := (Below.refl _ wr).grown hg6 (Nat.le_refl _) (fun j h => by cases h); have hbq6 := below_then hbq hb6; have c6 : w6.cell? ⟨w2.heap.size, q, none⟩ = some (.int .i64 0) := (hb6.cell (cell_lt c0)).trans c0)
              have hr7 : w6.ownsRow wr.heap.size 5 1 (.slice (some ⟨wr.heap.size, 0, none⟩) 32 32) 32 (bC (List.replicate 32 0)) := by
                have h7 := hown6
                rw [show (madeCells (Value.int IntKind.u8 0).cells (32 * 1)).toList = bC (List.replicate 32 0) from toList_madeCells_one _ _] at h7
                exact h7
              have hRw : rowS d.bs q = List.replicate 32 0 := (by have h9 := HR.out; rwa [if_pos True.intro] at h9)
              have hrl := ownsRow_below HO.out hbq6
              have HSM := Lib.hid (row_part (o := q * 32) (m := rowS d.bs q) hrl HF.out.len HM.out)
              have HS2 := Lib.hid (row_part (o := 0) (m := rowS d.bs q) hr7 (by first | exact List.length_replicate | (unfold secL; simp)) (fun j x hx => by rw [Nat.zero_add, ← hRw]; exact hx))
              go_wp2_with fail
              refine (same_any _ _ (rowS d.bs q) (rowS d.bs q) _ _ _ _ _ (by rw [rowS_len HF.out.len hlt]) (by rw [rowS_len HF.out.len hlt]) (by rw [rowS_len HF.out.len hlt]; decide) (by rw [rowS_len HF.out.len hlt]; decide) HSM.out HS2.out).mono ?_
              rintro e w8 ⟨rfl, hB8⟩
              have htr : decide (rowS d.bs q = rowS d.bs q) = true := by simp
              rw [htr]
              have hbq8 := below_then hbq6 hB8
              go_wp2_with fail
              go_roundw
              case rel => exact ⟨q + 1, by go_num, by omega, hbq8⟩
              case measure => simp [intOf]; omega
            · have hz1 : (0 : Int) < (lv : Int) := by omega
              go_wp2_with (refine wpList_make_full _ rfl _ _ 30 rfl wr.heap.size 5 i0 (.int .u8 0) 1 Try.underlying30 hi hzA hzB _ _ 32 32 32 rfl rfl rfl rfl (by rw [hzC]; decide) (by decide) (Nat.le_refl _) ?_; intro w6' hown6 hg6; have hb6' : Below wr.heap.size wr w6' := (Below.refl _ wr).grown hg6 (Nat.le_refl _) (fun j h => by cases h); have hbq6' := below_then hbq hb6'; have c6 : w6'.cell? ⟨w2.heap.size, q, none⟩ = some (.int .i64 (lv : Int)) := (hb6'.cell (cell_lt c0)).trans c0)
              refine (sector_any _ _).mono ?_
              rintro e w6 ⟨rfl, hr7, hB6⟩
              have hbq6 := below_then hbq6' hB6
              have hRw : rowS d.bs q = secL (lv : Int) := HR.out.trans (if_neg hz)
              have hrl := ownsRow_below HO.out hbq6
              have HSM := Lib.hid (row_part (o := q * 32) (m := rowS d.bs q) hrl HF.out.len HM.out)
              have HS2 := Lib.hid (row_part (o := 0) (m := rowS d.bs q) hr7 (by first | exact List.length_replicate | (unfold secL; simp)) (fun j x hx => by rw [Nat.zero_add, ← hRw]; exact hx))
              go_wp2_with fail
              refine (same_any _ _ (rowS d.bs q) (rowS d.bs q) _ _ _ _ _ (by rw [rowS_len HF.out.len hlt]) (by rw [rowS_len HF.out.len hlt]) (by rw [rowS_len HF.out.len hlt]; decide) (by rw [rowS_len HF.out.len hlt]; decide) HSM.out HS2.out).mono ?_
              rintro e w8 ⟨rfl, hB8⟩
              have htr : decide (rowS d.bs q = rowS d.bs q) = true := by simp
              rw [htr]
              have hbq8 := below_then hbq6 hB8
              go_wp2_with fail
              go_roundw
              case rel => exact ⟨q + 1, by go_num, by omega, hbq8⟩
              case measure => simp [intOf]; omega
          · obtain rfl : q = 8 := by omega
            go_wp2_with fail
            refine (alive_any _).mono ?_
            rintro e w9 ⟨rfl, hB9⟩
            go_wp2_with fail
            go_ret
            exact ⟨rfl, below_then (below_then hb5 hbq) hB9⟩
end Go.Proofs.Ythkppkecclnlnaa
