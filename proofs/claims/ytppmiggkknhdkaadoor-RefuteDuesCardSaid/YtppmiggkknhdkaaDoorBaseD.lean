/- Lemmas of this chapter, laid one behind the other. -/
import Derived.Test.YtppmiggkknhdkaaDoorBaseC
import Derived.Test.YtppmiggkknhdkaaDoorRows
import Derived.Stop.LaidErr
import Derived.LaidMore
import Derived.MakeChecks
namespace Go.Proofs.YtppmiggkknhdkaaDoor
set_option linter.unusedVariables false
set_option linter.unusedSimpArgs false
open Go.RowKit

/-- The node's own notice is a mistake only of a tag that is durable. -/
def OwnB (R : List Nat) (s : Nat) (kt : Nat) : Prop := kdN (R.getD s 0) = 1 → tgN (R.getD s 0) ≤ kt
/-- What is known between two steps. -/
structure Kp (w : World) (b B g cp : Nat) (R : List Nat) (Q : Bt) (d : Dk) (m : Nat) (W : World) : Prop where
  bt : BtAt W b w.heap.size Q d
  life : LifeI Q d m
  book : Tb W B g cp R
  low : Below w.heap.size w W
  ge : w.heap.size ≤ b ∧ w.heap.size ≤ B ∧ w.heap.size ≤ g
  ne : b ≠ B ∧ b ≠ g ∧ w.heap.size ≠ B ∧ w.heap.size ≠ g
theorem Kp.below {w W X : World} {b B g cp : Nat} {R : List Nat} {Q : Bt} {d : Dk} {m : Nat} (h : Kp w b B g cp R Q d m W) (hb : Below W.heap.size W X) : Kp w b B g cp R Q d m X :=
  ⟨h.bt.below hb, h.life, h.book.below hb, below_then h.low hb, h.ge, h.ne⟩
theorem Kp.take {w W X : World} {b B g cp : Nat} {R R' : List Nat} {Q : Bt} {d : Dk} {m : Nat} (h : Kp w b B g cp R Q d m W) (hg : W.grownBy X (some g)) (hT : Tb X B g cp R') : Kp w b B g cp R' Q d m X :=
  ⟨h.bt.same (hg.5 b (blk_lt h.bt.boot) (by have := h.ne; simp; omega)) (hg.5 _ (blk_lt h.bt.disk.1) (by have := h.ne; simp; omega)), h.life, hT, h.low.grown hg h.low.size (fun j hj => by cases hj; exact h.ge.2.2), h.ge, h.ne⟩
theorem Kp.defend {w W X : World} {b B g cp : Nat} {R R' : List Nat} {Q Q' : Bt} {d d' : Dk} {m m' : Nat} (h : Kp w b B g cp R Q d m W) (hC : Ch3 W X b w.heap.size g) (hB : BtAt X b w.heap.size Q' d') (hL : LifeI Q' d' m') (hT : Tb X B g cp R') : Kp w b B g cp R' Q' d' m' X :=
  ⟨hB, hL, hT, hC.back h.low h.low.size h.ge.1 (Nat.le_refl _) h.ge.2.2, h.ge, h.ne⟩
theorem own_tk {R : List Nat} {s kt i r : Nat} (h : OwnB R s kt) (hi : i < R.length) (hg : i ≠ s ∨ kdN r = 2) : OwnB (tkR R i r) s kt := by
  unfold tkR OwnB
  split
  · by_cases hs : i = s
    · subst hs
      rw [show (R.set i r).getD i 0 = r from by simp [List.getD, List.getElem?_set_self hi]]
      intro hk
      rcases hg with h' | h'
      · exact absurd rfl h'
      · omega
    · rw [show (R.set i r).getD s 0 = R.getD s 0 from by simp [List.getD, List.getElem?_set_ne hs]]
      exact h
  · exact h
set_option maxRecDepth 100000 in
theorem first_life : LifeI ⟨1, capR 0, capT 0, 0, 0⟩ (saveW Dk.new ((1 : Nat) : Int) (capR 0 : Nat) (capT 0 : Nat)).1 1 := by
  have hC : CuS Dk.new none 0 false := ⟨slSt_new, tnS_new.lt, rfl, Nat.le_refl _, Nat.le_refl _, Nat.zero_le _⟩
  rcases cuS_save hC rfl (by omega) (x := 1) (y := capR 0) (z := capT 0) (by decide) with ⟨h0, a', s', h5⟩ | ⟨h0, _⟩
  · exact ⟨⟨s', a', by have := h5.on; rw [show (saveW Dk.new ((1 : Nat) : Int) (capR 0 : Nat) (capT 0 : Nat)).1.off = false from this]; exact h5⟩, Nat.zero_le _, Nat.zero_le _⟩
  · have := first_save15.1; rw [this] at h0; cases h0
theorem life_fuse {Q : Bt} {d : Dk} {m : Nat} (h : LifeI Q d m) (f : Bool) (k : Nat) (hk : k ≤ 9223372036854775807) : LifeI Q { d with fused := f, fuse := k } m := by
  obtain ⟨⟨s, a, hc⟩, h2, h3⟩ := h
  exact ⟨⟨s, a, ⟨hc.slots, hc.lt, rfl, hc.seq, hc.wr, hk⟩⟩, h2, h3⟩
theorem rows1 {w : World} {p : Option Addr} {cap : Nat} {xs : List (List Value)} (h : RowsS w [.rows 3] (.slice p xs.length cap) xs) {i : Nat} (hi : i < xs.length) :
    ∃ gx ox ys pa ca, p = some ⟨gx, ox, none⟩ ∧ gx < w.heap.size ∧ w.cell? ⟨gx, ox + i, none⟩ = some (.slice pa ys.length ca) ∧ RowsOf w 3 (.slice pa ys.length ca) ys := by
  obtain ⟨p', cap', he, _, _, hx⟩ := h
  injection he with e1 e2 e3
  subst e1 e3
  obtain ⟨hS, gx, ox, rfl, hlt, hc⟩ := hx i _ (List.getElem?_eq_getElem hi)
  obtain ⟨u, hu⟩ : ∃ u, xs[i] = [u] := by have := hS.len; exact List.length_eq_one_iff.1 this
  rw [hu] at hS hc
  obtain ⟨⟨ys, hR, _⟩, _⟩ := hS
  obtain ⟨pa, ca, rfl, _⟩ := id hR
  refine ⟨gx, ox, ys, pa, ca, rfl, hlt, ?_, hR⟩
  have := hc 0 _ rfl
  simpa using this
theorem rec_tag (x y z : Int) (w : World) : (Instr.field 48 (.agg #[.int .i64 x, .int .i64 y, .int .i64 z]) 2).run Tryd.prog w = .ok (.int .i64 z) w := by kernel_rfl
noncomputable def lifeSeq {Q : Bt} {d : Dk} {m : Nat} (h : LifeI Q d m) : Nat := h.disk.choose
theorem load_life {Q : Bt} {d : Dk} {m : Nat} (h : LifeI Q d m) : loadA { d with off := false } = .tuple #[.agg #[.int .i64 (Q.life : Int), .int .i64 (Q.kround : Int), .int .i64 (Q.ktag : Int)], .int .i64 (lifeSeq h : Int), .int .i64 0] := by
  obtain ⟨a, hc⟩ := h.disk.choose_spec
  exact loadA_some (d := { d with off := false }) hc.slots rfl
theorem at_nat {W : World} {B g cp : Nat} {R : List Nat} (h : Tb W B g cp R) (s : Nat) (hs : s < R.length) : Calls Tryd.prog 11 #[.pointer (some ⟨B, 0, none⟩), .int .i64 (s : Int)] W fun e w' => e = .returned (.tuple #[.agg #[.int .i64 (s : Int), .int .i64 (tgN (R.getD s 0) : Nat), .int .i64 (kdN (R.getD s 0) : Nat)], .int .i64 0]) ∧ Below W.heap.size W w' := by
  have := at_any h (s : Int)
  unfold atV at this
  rwa [if_pos ⟨by omega, by omega⟩, Int.toNat_natCast] at this
set_option maxRecDepth 100000 in
set_option maxHeartbeats 4000000 in
theorem refuteKept_in (n s : Nat) (k : Int) (hn : 1 ≤ n ∧ n ≤ 100) (hs : s < n) (hk : 0 ≤ k ∧ k ≤ 9223372036854775807) (v : Value) (xs : List (List Value)) (w : World) {a : Addr} (hg : Gl a w) (hrow : RowsS w [.rows 3] v xs) (hlen : xs.length ≤ 40) :
    Calls Tryd.prog 4 #[.int .i64 (n : Int), .int .i64 (s : Int), v, .int .i64 k] w fun e w' => e = .returned (.bool true) ∧ Below w.heap.size w w' := by
  have hlt0 : ∀ c ∈ Dk.new.bs, c < 256 := tnS_new.lt
  obtain ⟨s0, hsv⟩ := first_save15
  obtain ⟨D, hDe⟩ : ∃ D, saveW Dk.new ((1 : Nat) : Int) (capR 0 : Nat) (capT 0 : Nat) = D := ⟨_, rfl⟩
  have hL0 := first_life
  rw [hDe] at hL0
  rw [hDe] at s0
  have HDE := Lib.hid hDe
  obtain ⟨d1, er⟩ := D
  simp only at s0 hL0
  subst s0
  have HL0 := Lib.hid hL0
  have HG := Lib.hid hg
  have HR := Lib.hid hrow
  have HN := Lib.hid hn
  have HS := Lib.hid hs
  have HK := Lib.hid hk
  obtain ⟨p, cap, rfl, hm1, hm2, _⟩ := hrow
  have a1 : ¬ (40 : Int) < (xs.length : Int) := by omega
  have a2 : ¬ k < 0 := by omega
  clear hDe hsv hg hm1 hm2 hn hs hk hL0
  go_enter Tryd.func4, Tryd.ntmps4
  go_wp2_with fail
  refine (new_any _).mono ?_
  rintro e w1 ⟨rfl, hD1, hB1⟩
  go_wp2_with fail
  refine (open_none w.heap.size Dk.new w1 hD1 hlt0 (by decide) (by decide) (loadA_none slSt_new rfl)).mono ?_
  rintro e w2 ⟨h0, _, hg2⟩
  rw [HDE.out] at h0
  obtain ⟨b, rfl, hb, hT2⟩ := h0 rfl
  have hb2 := hB1.grown hg2 hB1.size (fun j h => by cases h; exact Nat.le_refl _)
  have hbw : w.heap.size ≤ b := Nat.le_trans hB1.size hb
  clear h0 hg2 hD1 hlt0
  go_wp2_with fail
  refine (tnew_yes n s 0 HN.out HS.out (by decide) w2).mono ?_
  rintro e w3 ⟨B, g, rfl, hT3, hB3, hg3, hb3⟩
  have hK3 : Kp w b B g n (bk0 n s 0) _ d1 1 w3 := ⟨hT2.below hb3, HL0.out, hT3, below_then hb2 hb3, ⟨hbw, by have := blk_lt hT2.disk.1; omega, by have := blk_lt hT2.disk.1; omega⟩, by have := blk_lt hT2.disk.1; have := blk_lt hT2.boot; refine ⟨by omega, by omega, by omega, by omega⟩⟩
  clear hT2 hT3 hb3 hB1 hb2 hb
  go_wp2_with fail
  refine (fuse_any _ _ k _ hK3.bt.disk).mono ?_
  rintro e w4 ⟨rfl, hD4, hg4⟩
  obtain ⟨d4, hd4⟩ : ∃ d4 : Dk, { d1 with fused := decide (0 ≤ k), fuse := k.toNat } = d4 := ⟨_, rfl⟩
  have hK4 : Kp w b B g n (bk0 n s 0) ⟨1, capR 0, capT 0, 0, 0⟩ d4 1 w4 := by
    refine ⟨hK3.bt.turn hg4 (by rw [← hd4]; exact hD4), by rw [← hd4]; exact life_fuse hK3.life _ _ (by have := HK.out; omega), hK3.book.other hg4 (by have := hK3.ne; omega) (by have := hK3.ne; omega), hK3.low.grown hg4 hK3.low.size (fun j hj => by cases hj; exact Nat.le_refl _), hK3.ge, hK3.ne⟩
  have hO4 : OwnB (bk0 n s 0) s (⟨1, capR 0, capT 0, 0, 0⟩ : Bt).ktag := fun _ => by
    have : (bk0 n s 0).getD s 0 = 0 := by unfold bk0; simp [List.getD, HS.out]
    rw [this]; exact Nat.zero_le _
  have hl4 : (bk0 n s 0).length = n := bk0_len n s 0
  clear hd4 hK3 hD4 hg4
  generalize (⟨1, capR 0, capT 0, 0, 0⟩ : Bt) = Q4 at *
  go_wp2_with fail
  go_loopw [14] (fun iv wr => ∃ (i m : Nat) (R : List Nat) (Q : Bt) (d : Dk), iv = .int .i64 i ∧ i ≤ xs.length ∧ m ≤ i + 1 ∧ R.length = n ∧ OwnB R s Q.ktag ∧ Kp w b B g n R Q d m wr) (fun iv _ => xs.length - (intOf iv).toNat)
  case atStart => exact ⟨0, 1, _, Q4, d4, rfl, by omega, by omega, hl4, hO4, hK4⟩
  case round =>
    obtain ⟨i, m, R, Q, d, rfl, hi, hm, hRl, hO, hK⟩ := hrel
    clear hK4 hO4 hl4
    by_cases hlt : i < xs.length
    · obtain ⟨gx, ox, ys, pa, ca, rfl, hgx, hcu, hys⟩ := rows1 HR.out hlt
      have i1 : (i : Int) < (xs.length : Int) := by omega
      have i2 : (0 : Int) ≤ (i : Int) := by omega
      have i3 : (i : Int).toNat = i := Int.toNat_natCast i
      have HYS := Lib.hid hys
      have HCU := Lib.hid hcu
      have hcu1 := (hK.low.cell hgx).trans hcu
      have HLT := Lib.hid hlt
      have HM := Lib.hid hm
      clear hys hcu hlt hm hi
      by_cases hbig : 300 < ys.length
      · have b1 : (300 : Int) < (ys.length : Int) := by omega
        clear hbig
        go_wp2_with fail
        go_ret
        exact ⟨rfl, hK.low⟩
      · have b1 : ¬ (300 : Int) < (ys.length : Int) := by omega
        clear hbig
        go_wp2_with fail
        go_loopw [15] (fun jv wr2 => ∃ (j : Nat) (R : List Nat), jv = .int .i64 j ∧ j ≤ ys.length ∧ R.length = n ∧ OwnB R s Q.ktag ∧ Kp w b B g n R Q d m wr2) (fun jv _ => ys.length - (intOf jv).toNat)
        case atStart => exact ⟨0, R, rfl, by omega, hRl, hO, hK⟩
        case round =>
          obtain ⟨j, R, rfl, hj, hRl, hO, hK⟩ := hrel
          have hcu1 := (hK.low.cell hgx).trans HCU.out
          by_cases hjl : j < ys.length
          · obtain ⟨o, t, e3, gy, oy, cap', hy, hv, r0, r1, r2⟩ := rows3 (HYS.out.below hK.low) hjl
            injection hv with hv1 hv2 hv3
            subst hv1 hv3
            have j1 : (j : Int) < (ys.length : Int) := by omega
            have j2 : (0 : Int) ≤ (j : Int) := by omega
            have j3 : (j : Int).toNat = j := Int.toNat_natCast j
            have HJ := Lib.hid hjl
            have HRL := Lib.hid hRl
            have HO := Lib.hid hO
            have HKK := Lib.hid hK
            clear hy hjl hRl hO hK hj
            by_cases hos : o = (s : Int)
            · have c1 : (o != (s : Int)) = false := by simp [hos]
              by_cases he3 : e3 = 2
              · have c2 : (e3 == 2) = true := by simp [he3]
                cases hv : vN (n : Int) o t e3 with
                | true =>
                  obtain ⟨i', r, ho, ht, hk, hi', hr, _⟩ := vN_nat hv
                  have HI := Lib.hid (show i' < R.length by rw [HRL.out]; exact hi')
                  have HGD := Lib.hid (show i' ≠ s ∨ kdN r = 2 from .inr (by omega))
                  have HT : Hid (∀ W, Tb W B g n R → Calls Tryd.prog 10 #[.pointer (some ⟨B, 0, none⟩), .agg #[.int .i64 o, .int .i64 t, .int .i64 e3]] W fun e w' => (∃ bv, e = .returned (.tuple #[.bool bv, .int .i64 0])) ∧ Tb w' B g n (tkR R i' r) ∧ W.grownBy w' (some g)) := Lib.hid fun W hW => by
                    have := take_yes hW i' r HI.out hr
                    unfold nV at this
                    rw [← ho, ← ht, ← hk] at this
                    exact this.mono fun e w' ⟨h1, h2, h3⟩ => ⟨⟨_, h1⟩, h2, h3⟩
                  clear hv ho ht hk hi' hr hos
                  (try clear he3)
                  go_wp2_with (go_at_call 10; refine (HT.out _ HKK.out.book).mono ?_; rintro e w5 ⟨⟨bv, rfl⟩, hT5, hg5⟩)
                  have HK5 := Lib.hid (HKK.out.take hg5 hT5)
                  clear hT5 hg5
                  go_roundw
                  case rel => exact ⟨j + 1, _, by go_num, HJ.out, (tkR_len _ _ _).trans HRL.out, own_tk HO.out HI.out HGD.out, HK5.out⟩
                  case measure => have := HJ.out; simp [intOf]; omega
                | false =>
                  have HT : Hid (∀ W, Tb W B g n R → Calls Tryd.prog 10 #[.pointer (some ⟨B, 0, none⟩), .agg #[.int .i64 o, .int .i64 t, .int .i64 e3]] W fun e w' => e = .returned (.tuple #[.bool false, .int .i64 50]) ∧ Below W.heap.size W w') := Lib.hid fun W hW => take_no hW o t e3 (by rw [HRL.out]; exact hv)
                  clear hv hos
                  (try clear he3)
                  go_wp2_with (go_at_call 10; refine (HT.out _ HKK.out.book).mono ?_; rintro e w5 ⟨rfl, hB5⟩)
                  have HK5 := Lib.hid (HKK.out.below hB5)
                  clear hB5
                  go_roundw
                  case rel => exact ⟨j + 1, R, by go_num, HJ.out, HRL.out, HO.out, HK5.out⟩
                  case measure => have := HJ.out; simp [intOf]; omega
              · have c2 : (e3 == 2) = false := by simp [he3]
                clear he3 hos
                go_wp2_with fail
                go_roundw
                case rel => exact ⟨j + 1, R, by go_num, HJ.out, HRL.out, HO.out, HKK.out⟩
                case measure => have := HJ.out; simp [intOf]; omega
            · have c1 : (o != (s : Int)) = true := by simp [hos]
              cases hv : vN (n : Int) o t e3 with
              | true =>
                obtain ⟨i', r, ho, ht, hk, hi', hr, _⟩ := vN_nat hv
                have HI := Lib.hid (show i' < R.length by rw [HRL.out]; exact hi')
                have HGD := Lib.hid (show i' ≠ s ∨ kdN r = 2 from .inl (by omega))
                have HT : Hid (∀ W, Tb W B g n R → Calls Tryd.prog 10 #[.pointer (some ⟨B, 0, none⟩), .agg #[.int .i64 o, .int .i64 t, .int .i64 e3]] W fun e w' => (∃ bv, e = .returned (.tuple #[.bool bv, .int .i64 0])) ∧ Tb w' B g n (tkR R i' r) ∧ W.grownBy w' (some g)) := Lib.hid fun W hW => by
                  have := take_yes hW i' r HI.out hr
                  unfold nV at this
                  rw [← ho, ← ht, ← hk] at this
                  exact this.mono fun e w' ⟨h1, h2, h3⟩ => ⟨⟨_, h1⟩, h2, h3⟩
                clear hv ho ht hk hi' hr hos
                (try clear he3)
                go_wp2_with (go_at_call 10; refine (HT.out _ HKK.out.book).mono ?_; rintro e w5 ⟨⟨bv, rfl⟩, hT5, hg5⟩)
                have HK5 := Lib.hid (HKK.out.take hg5 hT5)
                clear hT5 hg5
                go_roundw
                case rel => exact ⟨j + 1, _, by go_num, HJ.out, (tkR_len _ _ _).trans HRL.out, own_tk HO.out HI.out HGD.out, HK5.out⟩
                case measure => have := HJ.out; simp [intOf]; omega
              | false =>
                have HT : Hid (∀ W, Tb W B g n R → Calls Tryd.prog 10 #[.pointer (some ⟨B, 0, none⟩), .agg #[.int .i64 o, .int .i64 t, .int .i64 e3]] W fun e w' => e = .returned (.tuple #[.bool false, .int .i64 50]) ∧ Below W.heap.size W w') := Lib.hid fun W hW => take_no hW o t e3 (by rw [HRL.out]; exact hv)
                clear hv hos
                (try clear he3)
                go_wp2_with (go_at_call 10; refine (HT.out _ HKK.out.book).mono ?_; rintro e w5 ⟨rfl, hB5⟩)
                have HK5 := Lib.hid (HKK.out.below hB5)
                clear hB5
                go_roundw
                case rel => exact ⟨j + 1, R, by go_num, HJ.out, HRL.out, HO.out, HK5.out⟩
                case measure => have := HJ.out; simp [intOf]; omega
          · obtain rfl : j = ys.length := by omega
            have j1 : ¬ (ys.length : Int) < (ys.length : Int) := by omega
            have HO := Lib.hid hO
            have HKK := Lib.hid hK
            have HRL := Lib.hid hRl
            clear hjl hj hO hK hRl
            obtain ⟨q, _, hqd, hql⟩ := HKK.out.book.get (i := s) (by rw [HRL.out]; exact HS.out)
            have HQ := Lib.hid hqd
            have HAT : Hid (∀ W R', Tb W B g n R' → R'.length = n → Calls Tryd.prog 11 #[.pointer (some ⟨B, 0, none⟩), .int .i64 (s : Int)] W fun e w' => e = .returned (.tuple #[.agg #[.int .i64 (s : Int), .int .i64 (tgN (R'.getD s 0) : Nat), .int .i64 (kdN (R'.getD s 0) : Nat)], .int .i64 0]) ∧ Below W.heap.size W w') := Lib.hid fun W R' hW hl => at_nat hW s (by rw [hl]; exact HS.out)
            clear hqd
            go_wp2_with fail
            clear hcu1
            refine (HAT.out _ R HKK.out.book HRL.out).mono ?_
            rintro e w5 ⟨rfl, hB5⟩
            rw [HQ.out]
            go_wp2_with fail
            have HW := Lib.hid (blk_new w5 (.cells #[.int .i64 (s : Int), .int .i64 (tgN q : Nat), .int .i64 (kdN q : Nat)] 24))
            have HK6 := Lib.hid ((HKK.out.below hB5).below ((Below.refl _ _).alloc (Nat.le_refl _) (.cells #[.int .i64 (s : Int), .int .i64 (tgN q : Nat), .int .i64 (kdN q : Nat)] 24)))
            have HPN : Hid (b < w5.heap.size ∧ w.heap.size < w5.heap.size ∧ g < w5.heap.size) := by
              have h9 := HKK.out.below hB5
              exact Lib.hid ⟨blk_lt h9.bt.boot, blk_lt h9.bt.disk.1, h9.book.lt.2⟩
            clear hB5 HKK
            obtain ⟨pw, hpw⟩ : ∃ pw, w5.heap.size = pw := ⟨_, rfl⟩
            rw [hpw] at HW HPN
            (try rw [hpw])
            clear hpw
            generalize World.alloc w5 _ = w6 at *
            cases hd : dueN R (s : Int) with
            | none =>
              have HD := Lib.hid hd
              clear hd
              refine (defend_none HK6.out.book (HG.out.of HK6.out.low) (s : Int) (some ⟨b, 0, none⟩) HD.out).mono ?_
              rintro e w7 ⟨rfl, hB7⟩
              unfold nV
              have HK7 := Lib.hid (HK6.out.below hB7)
              clear hB7 HK6
              go_wp2_with fail
              have HK8 := Lib.hid (HK7.out.below ((Below.refl _ _).alloc (Nat.le_refl _) (.cells #[.int .i64 0, .int .i64 0, .int .i64 0] 24)))
              clear HK7
              generalize World.alloc w7 _ = w8 at *
              refine (HAT.out _ R HK8.out.book HRL.out).mono ?_
              rintro e w9 ⟨rfl, hB9⟩
              rw [HQ.out]
              have HK9 := Lib.hid (HK8.out.below hB9)
              clear hB9 HK8
              go_upto_region 25 with fail
              have HK10 := Lib.hid (HK9.out.below ((Below.refl _ _).alloc (Nat.le_refl _) (.cells #[.int .i64 (s : Int), .int .i64 (tgN q : Nat), .int .i64 (kdN q : Nat)] 24)))
              clear HK9
              generalize World.alloc w9 _ = w10 at *
              refine wp_region_early (fun _ => True) (fun _ => false) (by kernel_rfl) ?_
              simp only [List.size_toArray, List.length_cons, List.length_nil, Nat.reduceAdd, Array.replicate_succ, Array.replicate_zero, List.push_toArray, List.nil_append, List.cons_append]
              have HK11 := Lib.hid (HK10.out.below ((Below.refl _ _).drew))
              clear HK10
              generalize World.drew w10 = w11 at *
              have hSS : True := trivial
              refine wpAnyE_take (i := 0) (v := ?_) rfl (by kernel_rfl) (by kernel_rfl) (by kernel_rfl) (by kernel_rfl) (fun _ _ _ h => h) (Or.inl ⟨by rfl, ?_⟩) hSS ?_
              rotate_left
              · intro w hSw
                obtain _ := hSw
                go_simp
                all_goals with_reducible rfl
              simp only [Act.put, List.setIfInBounds_toArray, List.set_cons_zero, List.set_cons_succ, List.getElem_toArray, List.getElem_cons_zero, List.getElem_cons_succ]
              refine wpAnyE_take (i := 1) (v := ?_) rfl (by kernel_rfl) (by kernel_rfl) (by kernel_rfl) (by kernel_rfl) (fun _ _ _ h => h) (Or.inl ⟨by rfl, ?_⟩) hSS ?_
              rotate_left
              · intro w hSw
                obtain _ := hSw
                go_simp
                all_goals with_reducible rfl
              simp only [Act.put, List.setIfInBounds_toArray, List.set_cons_zero, List.set_cons_succ, List.getElem_toArray, List.getElem_cons_zero, List.getElem_cons_succ]
              refine wpAnyE_take (i := 2) (v := undef) rfl (by kernel_rfl) (by kernel_rfl) (by kernel_rfl) (by kernel_rfl) (fun _ _ _ h => h) (Or.inr ⟨by rfl, rfl⟩) hSS ?_
              simp only [Act.put, List.setIfInBounds_toArray, List.set_cons_zero, List.set_cons_succ, List.getElem_toArray, List.getElem_cons_zero, List.getElem_cons_succ]
              refine wpAnyE_take (i := 3) (v := undef) rfl (by kernel_rfl) (by kernel_rfl) (by kernel_rfl) (by kernel_rfl) (fun _ _ _ h => h) (Or.inr ⟨by rfl, rfl⟩) hSS ?_
              simp only [Act.put, List.setIfInBounds_toArray, List.set_cons_zero, List.set_cons_succ, List.getElem_toArray, List.getElem_cons_zero, List.getElem_cons_succ]
              refine wpAnyE_take (i := 4) (v := undef) rfl (by kernel_rfl) (by kernel_rfl) (by kernel_rfl) (by kernel_rfl) (fun _ _ _ h => h) (Or.inr ⟨by rfl, rfl⟩) hSS ?_
              simp only [Act.put, List.setIfInBounds_toArray, List.set_cons_zero, List.set_cons_succ, List.getElem_toArray, List.getElem_cons_zero, List.getElem_cons_succ]
              refine wpAnyE_take (i := 5) (v := undef) rfl (by kernel_rfl) (by kernel_rfl) (by kernel_rfl) (by kernel_rfl) (fun _ _ _ h => h) (Or.inr ⟨by rfl, rfl⟩) hSS ?_
              simp only [Act.put, List.setIfInBounds_toArray, List.set_cons_zero, List.set_cons_succ, List.getElem_toArray, List.getElem_cons_zero, List.getElem_cons_succ]
              refine wpAnyE_take (i := 6) (v := undef) rfl (by kernel_rfl) (by kernel_rfl) (by kernel_rfl) (by kernel_rfl) (fun _ _ _ h => h) (Or.inr ⟨by rfl, rfl⟩) hSS ?_
              simp only [Act.put, List.setIfInBounds_toArray, List.set_cons_zero, List.set_cons_succ, List.getElem_toArray, List.getElem_cons_zero, List.getElem_cons_succ]
              refine wpAnyE_take (i := 7) (v := undef) rfl (by kernel_rfl) (by kernel_rfl) (by kernel_rfl) (by kernel_rfl) (fun _ _ _ h => h) (Or.inr ⟨by rfl, rfl⟩) hSS ?_
              simp only [Act.put, List.setIfInBounds_toArray, List.set_cons_zero, List.set_cons_succ, List.getElem_toArray, List.getElem_cons_zero, List.getElem_cons_succ]
              refine wpAnyE_take (i := 8) (v := undef) rfl (by kernel_rfl) (by kernel_rfl) (by kernel_rfl) (by kernel_rfl) (fun _ _ _ h => h) (Or.inr ⟨by rfl, rfl⟩) hSS ?_
              simp only [Act.put, List.setIfInBounds_toArray, List.set_cons_zero, List.set_cons_succ, List.getElem_toArray, List.getElem_cons_zero, List.getElem_cons_succ]
              refine wpAnyE_take (i := 9) (v := undef) rfl (by kernel_rfl) (by kernel_rfl) (by kernel_rfl) (by kernel_rfl) (fun _ _ _ h => h) (Or.inr ⟨by rfl, rfl⟩) hSS ?_
              simp only [Act.put, List.setIfInBounds_toArray, List.set_cons_zero, List.set_cons_succ, List.getElem_toArray, List.getElem_cons_zero, List.getElem_cons_succ]
              refine wpAnyE_take (i := 10) (v := undef) rfl (by kernel_rfl) (by kernel_rfl) (by kernel_rfl) (by kernel_rfl) (fun _ _ _ h => h) (Or.inr ⟨by rfl, rfl⟩) hSS ?_
              simp only [Act.put, List.setIfInBounds_toArray, List.set_cons_zero, List.set_cons_succ, List.getElem_toArray, List.getElem_cons_zero, List.getElem_cons_succ]
              refine wpAnyE_take (i := 11) (v := undef) rfl (by kernel_rfl) (by kernel_rfl) (by kernel_rfl) (by kernel_rfl) (fun _ _ _ h => h) (Or.inr ⟨by rfl, rfl⟩) hSS ?_
              simp only [Act.put, List.setIfInBounds_toArray, List.set_cons_zero, List.set_cons_succ, List.getElem_toArray, List.getElem_cons_zero, List.getElem_cons_succ]
              refine wpAnyE_take (i := 12) (v := undef) rfl (by kernel_rfl) (by kernel_rfl) (by kernel_rfl) (by kernel_rfl) (fun _ _ _ h => h) (Or.inr ⟨by rfl, rfl⟩) hSS ?_
              simp only [Act.put, List.setIfInBounds_toArray, List.set_cons_zero, List.set_cons_succ, List.getElem_toArray, List.getElem_cons_zero, List.getElem_cons_succ]
              refine wpAnyE_take (i := 13) (v := undef) rfl (by kernel_rfl) (by kernel_rfl) (by kernel_rfl) (by kernel_rfl) (fun _ _ _ h => h) (Or.inr ⟨by rfl, rfl⟩) hSS ?_
              simp only [Act.put, List.setIfInBounds_toArray, List.set_cons_zero, List.set_cons_succ, List.getElem_toArray, List.getElem_cons_zero, List.getElem_cons_succ]
              refine wpAnyE_take (i := 14) (v := undef) rfl (by kernel_rfl) (by kernel_rfl) (by kernel_rfl) (by kernel_rfl) (fun _ _ _ h => h) (Or.inr ⟨by rfl, rfl⟩) hSS ?_
              simp only [Act.put, List.setIfInBounds_toArray, List.set_cons_zero, List.set_cons_succ, List.getElem_toArray, List.getElem_cons_zero, List.getElem_cons_succ]
              refine wpAnyE_take (i := 15) (v := ?_) rfl (by kernel_rfl) (by kernel_rfl) (by kernel_rfl) (by kernel_rfl) (fun _ _ _ h => h) (Or.inl ⟨by rfl, ?_⟩) hSS ?_
              rotate_left
              · intro w hSw
                obtain _ := hSw
                go_simp
                all_goals with_reducible rfl
              simp only [Act.put, List.setIfInBounds_toArray, List.set_cons_zero, List.set_cons_succ, List.getElem_toArray, List.getElem_cons_zero, List.getElem_cons_succ]
              refine wpAnyE_end (by kernel_rfl) ?_
              go_wp2_with fail
              go_roundw
              case rel => exact ⟨i + 1, m, R, Q, d, by go_num, HLT.out, by have := HM.out; omega, HRL.out, HO.out, HK11.out⟩
              case measure => have := HLT.out; simp [intOf]; omega
            | some r =>
              have hrr : r = q + 1 ∧ kdN q = 2 ∧ tgN q ≠ 1048576 := by
                unfold dueN at hd
                rw [if_pos ⟨by omega, by have := HRL.out; have := HS.out; omega⟩, Int.toNat_natCast, HQ.out] at hd
                split at hd
                · rename_i h2; injection hd with hd; exact ⟨hd.symm, h2.1, h2.2⟩
                · cases hd
              have HRR := Lib.hid (show kdN r = 1 ∧ tgN r ≤ 1048576 from by obtain ⟨rfl, h2, h3⟩ := hrr; unfold kdN tgN at *; omega)
              have HMB : Hid (m ≤ 1000000) := Lib.hid (by have := HM.out; have := HLT.out; omega)
              have HD := Lib.hid hd
              clear hd hrr hql
              refine (defend_some HK6.out.book (HG.out.of HK6.out.low) (s : Int) (some ⟨b, 0, none⟩) r HD.out b w.heap.size (fun er W => ∃ Q' d', RaiseR Q Q' (tgN r) er ∧ LifeI Q' d' (m + 1) ∧ BtAt W b w.heap.size Q' d') ⟨blk_lt HK6.out.bt.boot, blk_lt HK6.out.bt.disk.1⟩ HK6.out.ne
                (fun W hW => (raise_sum b _ Q d m (tgN r) W (HK6.out.bt.below hW) HK6.out.life HMB.out).mono (fun e w' ⟨er, B', d', h1, h2, h3, h4, h5⟩ => ⟨er, h1, h5, B', d', h2, h3, h4⟩))
                (fun er W X h1 h2 ⟨Q', d', h3, h4, h5⟩ => ⟨Q', d', h3, h4, h5.same h1 h2⟩)).mono ?_
              rintro e w7 ⟨er, ⟨Q', d', hRR, hL', hT'⟩, hC, (⟨hne, rfl, hb7⟩ | ⟨rfl, rfl, hb7⟩)⟩
              · have her : er = 100 := (hRR.off HRR.out.2).resolve_left hne
                subst her
                have HK7 := Lib.hid (HK6.out.defend hC hT' hL' hb7)
                have HO7 := Lib.hid (show OwnB R s Q'.ktag from fun h => Nat.le_trans (HO.out h) hRR.kt)
                have HW7 := Lib.hid (hC.blk HW.out (by have := HPN.out; omega) (by have := HPN.out; omega) (by have := HPN.out; omega))
                clear hRR hL' hT' hC hne hb7 HK6
                unfold nV
                go_wp2_with fail
                have HK8 := Lib.hid (HK7.out.below ((Below.refl _ _).alloc (Nat.le_refl _) (.cells #[.int .i64 0, .int .i64 0, .int .i64 0] 24)))
                have HW8 := Lib.hid (blk_old HW7.out (.cells #[.int .i64 0, .int .i64 0, .int .i64 0] 24))
                clear HK7 HW7
                generalize World.alloc w7 _ = w8 at *
                refine (HAT.out _ R HK8.out.book HRL.out).mono ?_
                rintro e w9 ⟨rfl, hB9⟩
                rw [HQ.out]
                have HK9 := Lib.hid (HK8.out.below hB9)
                have HW9 := Lib.hid (blk_below' hB9 HW8.out)
                clear hB9 HK8 HW8
                go_upto_region 22 with fail
                have HK10 := Lib.hid (HK9.out.below ((Below.refl _ _).alloc (Nat.le_refl _) (.cells #[.int .i64 (s : Int), .int .i64 (tgN q : Nat), .int .i64 (kdN q : Nat)] 24)))
                have hw10 := blk_old HW9.out (.cells #[.int .i64 (s : Int), .int .i64 (tgN q : Nat), .int .i64 (kdN q : Nat)] 24)
                have hn10 := blk_new w9 (.cells #[.int .i64 (s : Int), .int .i64 (tgN q : Nat), .int .i64 (kdN q : Nat)] 24)
                clear HK9 HW9
                generalize World.alloc w9 _ = w10 at *
                have k0 := blk_cell hw10 0
                have k1 := blk_cell hw10 1
                have k2 := blk_cell hw10 2
                have n0 := blk_cell hn10 0
                have n1 := blk_cell hn10 1
                have n2 := blk_cell hn10 2
                clear hw10 hn10
                go_wp2_with fail
                clear k0 k1 k2 n0 n1 n2
                have HLT9 := Lib.hid (HK10).out.life.lt
                have HLA : Hid (loadA { d' with off := false } = .tuple #[.agg #[.int .i64 ((Q').life : Int), .int .i64 ((Q').kround : Int), .int .i64 ((Q').ktag : Int)], .int .i64 (lifeSeq (HK10).out.life : Int), .int .i64 0]) := Lib.hid (load_life (HK10).out.life)
                generalize lifeSeq (HK10).out.life = sq at HLA
                refine (restore_any _ d' _ (HK10).out.bt.disk).mono ?_
                rintro e t1 ⟨rfl, hD1, hg1⟩
                have HT1 := Lib.hid ((HK10).out.book.other hg1 (by have := (HK10).out.ne; omega) (by have := (HK10).out.ne; omega))
                have HL1 := Lib.hid ((HK10).out.low.grown hg1 (HK10).out.low.size (fun j hj => by cases hj; exact Nat.le_refl _))
                go_wp2_with fail
                refine (load_any _ _ t1 hD1 HLT9.out).mono ?_
                rintro e t2 ⟨rfl, hB2⟩
                rw [HLA.out]
                have HT2 := Lib.hid (HT1.out.below hB2)
                have HL2 := Lib.hid (below_then HL1.out hB2)
                clear hD1 hg1 HT1 HL1 hB2
                go_wp2_with fail
                have HR3 := Lib.hid (blk_new t2 (.cells #[.int .i64 ((Q').life : Int), .int .i64 ((Q').kround : Int), .int .i64 ((Q').ktag : Int)] 48))
                have HT3 := Lib.hid (HT2.out.below ((Below.refl _ _).alloc (Nat.le_refl _) (.cells #[.int .i64 ((Q').life : Int), .int .i64 ((Q').kround : Int), .int .i64 ((Q').ktag : Int)] 48)))
                have HL3 := Lib.hid (HL2.out.alloc HL2.out.size (.cells #[.int .i64 ((Q').life : Int), .int .i64 ((Q').kround : Int), .int .i64 ((Q').ktag : Int)] 48))
                obtain ⟨pr, hpr⟩ : ∃ pr, t2.heap.size = pr := ⟨_, rfl⟩
                rw [hpr] at HR3
                (try rw [hpr])
                clear hpr HT2 HL2
                generalize World.alloc t2 _ = t3 at *
                refine (at_nat HT3.out s (by have := HRL.out; have := HS.out; omega)).mono ?_
                rintro e t4 ⟨rfl, hB4⟩
                have HR4 := Lib.hid (blk_below' hB4 HR3.out)
                have HL4 := Lib.hid (below_then HL3.out hB4)
                clear hB4 HR3 HL3 HT3
                obtain ⟨u, hu⟩ : ∃ u, (R).getD s 0 = u := ⟨_, rfl⟩
                have HOu : Hid (kdN u = 1 → tgN u ≤ (Q').ktag) := by have := (HO7).out; unfold OwnB at this; rw [hu] at this; exact Lib.hid this
                rw [hu]
                clear hu
                go_wp2_with fail
                have HX5 := Lib.hid (blk_new t4 (.cells #[.int .i64 (s : Int), .int .i64 (tgN u : Nat), .int .i64 (kdN u : Nat)] 24))
                have HR5 := Lib.hid (blk_old HR4.out (.cells #[.int .i64 (s : Int), .int .i64 (tgN u : Nat), .int .i64 (kdN u : Nat)] 24))
                have HL5 := Lib.hid (HL4.out.alloc HL4.out.size (.cells #[.int .i64 (s : Int), .int .i64 (tgN u : Nat), .int .i64 (kdN u : Nat)] 24))
                obtain ⟨px, hpx⟩ : ∃ px, t4.heap.size = px := ⟨_, rfl⟩
                rw [hpx] at HX5
                (try rw [hpx])
                clear hpx HR4 HL4
                generalize World.alloc t4 _ = t5 at *
                refine (alive15_any (HG.out.of HL5.out)).mono ?_
                rintro e t6 ⟨rfl, hB6⟩
                have x1 := blk_cell (blk_below' hB6 HX5.out) 1
                have x2 := blk_cell (blk_below' hB6 HX5.out) 2
                have y2 := blk_cell (blk_below' hB6 HR5.out) 2
                have HL6 := Lib.hid (below_then HL5.out hB6)
                clear hB6 HX5 HR5 HL5
                by_cases hku : kdN u = 2
                · have c1 : (((kdN u : Nat) : Int) == 2) = true := by simp; omega
                  clear hku
                  go_wp2_with fail
                  go_ret
                  exact ⟨rfl, HL6.out⟩
                · have c1 : (((kdN u : Nat) : Int) == 2) = false := by simp; omega
                  have c2 : ((tgN u : Nat) : Int) ≤ (((Q').ktag : Nat) : Int) := by have := HOu.out (by have := kd_le u; omega); omega
                  clear hku
                  go_wp2_with fail
                  go_ret
                  exact ⟨rfl, HL6.out⟩
              · have HR7 := Lib.hid (show tgN r ≤ Q'.tag from hRR.ok rfl)
                have HK7 := Lib.hid (HK6.out.defend hC hT' hL' hb7)
                rw [Int.toNat_natCast] at HK7
                have HQ7 := Lib.hid (show (R.set s r).getD s 0 = r from by simp [List.getD, HRL.out, HS.out])
                have HRL7 := Lib.hid (show (R.set s r).length = n from by rw [List.length_set]; exact HRL.out)
                have HO7 := Lib.hid (show OwnB (R.set s r) s Q'.ktag from fun _ => by rw [HQ7.out]; exact Nat.le_trans (hRR.ok rfl) hL'.tg)
                have HTK := Lib.hid hL'.tg
                clear hRR hL' hT' hC hb7 HK6
                unfold nV
                go_wp2_with fail
                have HK8 := Lib.hid (HK7.out.below ((Below.refl _ _).alloc (Nat.le_refl _) (.cells #[.int .i64 (s : Int), .int .i64 (tgN r : Nat), .int .i64 (kdN r : Nat)] 24)))
                have HX8 := Lib.hid (blk_new w7 (.cells #[.int .i64 (s : Int), .int .i64 (tgN r : Nat), .int .i64 (kdN r : Nat)] 24))
                obtain ⟨px, hpx⟩ : ∃ px, w7.heap.size = px := ⟨_, rfl⟩
                rw [hpx] at HX8
                (try rw [hpx])
                clear HK7 hpx
                generalize World.alloc w7 _ = w8 at *
                refine (HAT.out _ _ HK8.out.book HRL7.out).mono ?_
                rintro e w9 ⟨rfl, hB9⟩
                rw [HQ7.out]
                have HK9 := Lib.hid (HK8.out.below hB9)
                have HX9 := Lib.hid (blk_below' hB9 HX8.out)
                clear hB9 HK8 HX8
                go_upto_region 25 with fail
                have HK10 := Lib.hid (HK9.out.below ((Below.refl _ _).alloc (Nat.le_refl _) (.cells #[.int .i64 (s : Int), .int .i64 (tgN r : Nat), .int .i64 (kdN r : Nat)] 24)))
                have HX10 := Lib.hid (blk_old HX9.out (.cells #[.int .i64 (s : Int), .int .i64 (tgN r : Nat), .int .i64 (kdN r : Nat)] 24))
                clear HK9 HX9
                generalize World.alloc w9 _ = w10 at *
                refine wp_region_early (fun w' => w'.cell? ⟨px, 1, none⟩ = some (.int .i64 (tgN r : Nat))) (fun _ => false) (by kernel_rfl) ?_
                simp only [List.size_toArray, List.length_cons, List.length_nil, Nat.reduceAdd, Array.replicate_succ, Array.replicate_zero, List.push_toArray, List.nil_append, List.cons_append]
                have HK11 := Lib.hid (HK10.out.below ((Below.refl _ _).drew))
                have HX11 := Lib.hid (blk_below' ((Below.refl _ w10).drew) HX10.out)
                clear HK10 HX10
                generalize World.drew w10 = w11 at *
                have hSS := blk_cell HX11.out 1
                have c1 : decide (((Q'.tag : Nat) : Int) < ((tgN r : Nat) : Int)) = false := by have := HR7.out; simp; omega
                have c2 : decide (((Q'.ktag : Nat) : Int) < ((tgN r : Nat) : Int)) = false := by have := HR7.out; have := HTK.out; simp; omega
                have d1 : decide (Q'.tag < tgN r) = false := by have := HR7.out; simp; omega
                have d2 : decide (Q'.ktag < tgN r) = false := by have := HR7.out; have := HTK.out; simp; omega
                refine wpAnyE_take (i := 0) (v := ?_) rfl (by kernel_rfl) (by kernel_rfl) (by kernel_rfl) (by kernel_rfl) (fun _ _ _ h => h) (Or.inl ⟨by rfl, ?_⟩) hSS ?_
                rotate_left
                · intro w hSw
                  obtain j0 := hSw
                  go_simp
                  all_goals with_reducible rfl
                simp only [Act.put, List.setIfInBounds_toArray, List.set_cons_zero, List.set_cons_succ, List.getElem_toArray, List.getElem_cons_zero, List.getElem_cons_succ]
                refine wpAnyE_take (i := 1) (v := ?_) rfl (by kernel_rfl) (by kernel_rfl) (by kernel_rfl) (by kernel_rfl) (fun _ _ _ h => h) (Or.inl ⟨by rfl, ?_⟩) hSS ?_
                rotate_left
                · intro w hSw
                  obtain j0 := hSw
                  go_simp
                  all_goals with_reducible rfl
                simp only [Act.put, List.setIfInBounds_toArray, List.set_cons_zero, List.set_cons_succ, List.getElem_toArray, List.getElem_cons_zero, List.getElem_cons_succ]
                refine wpAnyE_take (i := 2) (v := ?_) rfl (by kernel_rfl) (by kernel_rfl) (by kernel_rfl) (by kernel_rfl) (fun _ _ _ h => h) (Or.inl ⟨by rfl, ?_⟩) hSS ?_
                rotate_left
                · intro w hSw
                  obtain j0 := hSw
                  go_simp
                  all_goals with_reducible rfl
                simp only [Act.put, List.setIfInBounds_toArray, List.set_cons_zero, List.set_cons_succ, List.getElem_toArray, List.getElem_cons_zero, List.getElem_cons_succ]
                refine wpAnyE_take (i := 4) (v := ?_) rfl (by kernel_rfl) (by kernel_rfl) (by kernel_rfl) (by kernel_rfl) (fun _ _ _ h => h) (Or.inl ⟨by rfl, ?_⟩) hSS ?_
                rotate_left
                · intro w hSw
                  obtain j0 := hSw
                  go_simp
                  all_goals with_reducible rfl
                simp only [Act.put, List.setIfInBounds_toArray, List.set_cons_zero, List.set_cons_succ, List.getElem_toArray, List.getElem_cons_zero, List.getElem_cons_succ]
                refine wpAnyE_take (i := 5) (v := ?_) rfl (by kernel_rfl) (by kernel_rfl) (by kernel_rfl) (by kernel_rfl) (fun _ _ _ h => h) (Or.inl ⟨by rfl, ?_⟩) hSS ?_
                rotate_left
                · intro w hSw
                  obtain j0 := hSw
                  go_simp
                  all_goals with_reducible rfl
                simp only [Act.put, List.setIfInBounds_toArray, List.set_cons_zero, List.set_cons_succ, List.getElem_toArray, List.getElem_cons_zero, List.getElem_cons_succ]
                refine wpAnyE_one (i := 3) (by kernel_rfl) rfl ?_
                change wpList _ _ (Exit.then _ _) [_] _ _
                try simp only [List.setIfInBounds_toArray, List.set_cons_zero, List.set_cons_succ, List.getElem_toArray, List.getElem_cons_zero, List.getElem_cons_succ]
                go_wp2_with (go_at_call 16; refine (tag_eq b Q' _ _ HK11.out.bt.boot).mono ?_; rintro e w12 ⟨rfl, rfl⟩)
                refine ⟨fun _ => hSS, ?_⟩
                try simp only [List.setIfInBounds_toArray, List.set_cons_zero, List.set_cons_succ, List.getElem_toArray, List.getElem_cons_zero, List.getElem_cons_succ]
                refine wpAnyE_take (i := 6) (v := ?_) rfl (by kernel_rfl) (by kernel_rfl) (by kernel_rfl) (by kernel_rfl) (fun _ _ _ h => h) (Or.inl ⟨by rfl, ?_⟩) hSS ?_
                rotate_left
                · intro w hSw
                  obtain j0 := hSw
                  go_simp
                  all_goals with_reducible rfl
                simp only [Act.put, List.setIfInBounds_toArray, List.set_cons_zero, List.set_cons_succ, List.getElem_toArray, List.getElem_cons_zero, List.getElem_cons_succ]
                refine wpAnyE_take (i := 7) (v := ?_) rfl (by kernel_rfl) (by kernel_rfl) (by kernel_rfl) (by kernel_rfl) (fun _ _ _ h => h) (Or.inl ⟨by rfl, ?_⟩) hSS ?_
                rotate_left
                · intro w hSw
                  obtain j0 := hSw
                  go_simp
                  all_goals with_reducible rfl
                simp only [Act.put, List.setIfInBounds_toArray, List.set_cons_zero, List.set_cons_succ, List.getElem_toArray, List.getElem_cons_zero, List.getElem_cons_succ]
                refine wpAnyE_take (i := 8) (v := ?_) rfl (by kernel_rfl) (by kernel_rfl) (by kernel_rfl) (by kernel_rfl) (fun _ _ _ h => h) (Or.inl ⟨by rfl, ?_⟩) hSS ?_
                rotate_left
                · intro w hSw
                  obtain j0 := hSw
                  go_simp
                  all_goals with_reducible rfl
                simp only [Act.put, List.setIfInBounds_toArray, List.set_cons_zero, List.set_cons_succ, List.getElem_toArray, List.getElem_cons_zero, List.getElem_cons_succ]
                refine wpAnyE_take (i := 11) (v := ?_) rfl (by kernel_rfl) (by kernel_rfl) (by kernel_rfl) (by kernel_rfl) (fun _ _ _ h => h) (Or.inl ⟨by rfl, ?_⟩) hSS ?_
                rotate_left
                · intro w hSw
                  obtain j0 := hSw
                  go_simp
                  all_goals with_reducible rfl
                simp only [Act.put, List.setIfInBounds_toArray, List.set_cons_zero, List.set_cons_succ, List.getElem_toArray, List.getElem_cons_zero, List.getElem_cons_succ]
                refine wpAnyE_take (i := 12) (v := ?_) rfl (by kernel_rfl) (by kernel_rfl) (by kernel_rfl) (by kernel_rfl) (fun _ _ _ h => h) (Or.inl ⟨by rfl, ?_⟩) hSS ?_
                rotate_left
                · intro w hSw
                  obtain j0 := hSw
                  go_simp
                  all_goals with_reducible rfl
                simp only [Act.put, List.setIfInBounds_toArray, List.set_cons_zero, List.set_cons_succ, List.getElem_toArray, List.getElem_cons_zero, List.getElem_cons_succ]
                refine wpAnyE_one (i := 9) (by kernel_rfl) rfl ?_
                change wpList _ _ (Exit.then _ _) [_] _ _
                try simp only [List.setIfInBounds_toArray, List.set_cons_zero, List.set_cons_succ, List.getElem_toArray, List.getElem_cons_zero, List.getElem_cons_succ]
                go_wp2_with (go_at_call 17; refine (durable_any b Q' _ _ HK11.out.bt.boot).mono ?_; rintro e w13 ⟨rfl, hB13⟩)
                have HK13 := Lib.hid (HK11.out.below hB13)
                have hSS := blk_cell (blk_below' hB13 HX11.out) 1
                refine ⟨fun _ => hSS, ?_⟩
                try simp only [List.setIfInBounds_toArray, List.set_cons_zero, List.set_cons_succ, List.getElem_toArray, List.getElem_cons_zero, List.getElem_cons_succ]
                unfold recV
                have hfd := rec_tag
                refine wpAnyE_take (i := 10) (v := ?_) rfl (by kernel_rfl) (by kernel_rfl) (by kernel_rfl) (by kernel_rfl) (fun _ _ _ h => h) (Or.inl ⟨by rfl, ?_⟩) hSS ?_
                rotate_left
                · intro w hSw
                  obtain j0 := hSw
                  go_simp
                  all_goals with_reducible rfl
                simp only [Act.put, List.setIfInBounds_toArray, List.set_cons_zero, List.set_cons_succ, List.getElem_toArray, List.getElem_cons_zero, List.getElem_cons_succ]
                refine wpAnyE_take (i := 13) (v := ?_) rfl (by kernel_rfl) (by kernel_rfl) (by kernel_rfl) (by kernel_rfl) (fun _ _ _ h => h) (Or.inl ⟨by rfl, ?_⟩) hSS ?_
                rotate_left
                · intro w hSw
                  obtain j0 := hSw
                  go_simp
                  all_goals with_reducible rfl
                simp only [Act.put, List.setIfInBounds_toArray, List.set_cons_zero, List.set_cons_succ, List.getElem_toArray, List.getElem_cons_zero, List.getElem_cons_succ]
                refine wpAnyE_take (i := 14) (v := ?_) rfl (by kernel_rfl) (by kernel_rfl) (by kernel_rfl) (by kernel_rfl) (fun _ _ _ h => h) (Or.inl ⟨by rfl, ?_⟩) hSS ?_
                rotate_left
                · intro w hSw
                  obtain j0 := hSw
                  go_simp
                  all_goals with_reducible rfl
                simp only [Act.put, List.setIfInBounds_toArray, List.set_cons_zero, List.set_cons_succ, List.getElem_toArray, List.getElem_cons_zero, List.getElem_cons_succ]
                refine wpAnyE_take (i := 15) (v := ?_) rfl (by kernel_rfl) (by kernel_rfl) (by kernel_rfl) (by kernel_rfl) (fun _ _ _ h => h) (Or.inl ⟨by rfl, ?_⟩) hSS ?_
                rotate_left
                · intro w hSw
                  obtain j0 := hSw
                  go_simp
                  all_goals with_reducible rfl
                simp only [Act.put, List.setIfInBounds_toArray, List.set_cons_zero, List.set_cons_succ, List.getElem_toArray, List.getElem_cons_zero, List.getElem_cons_succ]
                refine wpAnyE_end (by kernel_rfl) ?_
                go_wp2_with fail
                go_roundw
                case rel => exact ⟨i + 1, m + 1, R.set s r, Q', d', by go_num, HLT.out, by have := HM.out; omega, HRL7.out, HO7.out, HK13.out⟩
                case measure => have := HLT.out; simp [intOf]; omega
    · obtain rfl : i = xs.length := by omega
      have i1 : ¬ (xs.length : Int) < (xs.length : Int) := by omega
      have HO := Lib.hid hO
      have HKK := Lib.hid hK
      have HRL := Lib.hid hRl
      clear hlt hi hm hO hK hRl
      go_wp2_with fail
      have HLT9 := Lib.hid (HKK).out.life.lt
      have HLA : Hid (loadA { d with off := false } = .tuple #[.agg #[.int .i64 ((Q).life : Int), .int .i64 ((Q).kround : Int), .int .i64 ((Q).ktag : Int)], .int .i64 (lifeSeq (HKK).out.life : Int), .int .i64 0]) := Lib.hid (load_life (HKK).out.life)
      generalize lifeSeq (HKK).out.life = sq at HLA
      refine (restore_any _ d _ (HKK).out.bt.disk).mono ?_
      rintro e t1 ⟨rfl, hD1, hg1⟩
      have HT1 := Lib.hid ((HKK).out.book.other hg1 (by have := (HKK).out.ne; omega) (by have := (HKK).out.ne; omega))
      have HL1 := Lib.hid ((HKK).out.low.grown hg1 (HKK).out.low.size (fun j hj => by cases hj; exact Nat.le_refl _))
      go_wp2_with fail
      refine (load_any _ _ t1 hD1 HLT9.out).mono ?_
      rintro e t2 ⟨rfl, hB2⟩
      rw [HLA.out]
      have HT2 := Lib.hid (HT1.out.below hB2)
      have HL2 := Lib.hid (below_then HL1.out hB2)
      clear hD1 hg1 HT1 HL1 hB2
      go_wp2_with fail
      have HR3 := Lib.hid (blk_new t2 (.cells #[.int .i64 ((Q).life : Int), .int .i64 ((Q).kround : Int), .int .i64 ((Q).ktag : Int)] 48))
      have HT3 := Lib.hid (HT2.out.below ((Below.refl _ _).alloc (Nat.le_refl _) (.cells #[.int .i64 ((Q).life : Int), .int .i64 ((Q).kround : Int), .int .i64 ((Q).ktag : Int)] 48)))
      have HL3 := Lib.hid (HL2.out.alloc HL2.out.size (.cells #[.int .i64 ((Q).life : Int), .int .i64 ((Q).kround : Int), .int .i64 ((Q).ktag : Int)] 48))
      obtain ⟨pr, hpr⟩ : ∃ pr, t2.heap.size = pr := ⟨_, rfl⟩
      rw [hpr] at HR3
      (try rw [hpr])
      clear hpr HT2 HL2
      generalize World.alloc t2 _ = t3 at *
      refine (at_nat HT3.out s (by have := HRL.out; have := HS.out; omega)).mono ?_
      rintro e t4 ⟨rfl, hB4⟩
      have HR4 := Lib.hid (blk_below' hB4 HR3.out)
      have HL4 := Lib.hid (below_then HL3.out hB4)
      clear hB4 HR3 HL3 HT3
      obtain ⟨u, hu⟩ : ∃ u, (R).getD s 0 = u := ⟨_, rfl⟩
      have HOu : Hid (kdN u = 1 → tgN u ≤ (Q).ktag) := by have := (HO).out; unfold OwnB at this; rw [hu] at this; exact Lib.hid this
      rw [hu]
      clear hu
      go_wp2_with fail
      have HX5 := Lib.hid (blk_new t4 (.cells #[.int .i64 (s : Int), .int .i64 (tgN u : Nat), .int .i64 (kdN u : Nat)] 24))
      have HR5 := Lib.hid (blk_old HR4.out (.cells #[.int .i64 (s : Int), .int .i64 (tgN u : Nat), .int .i64 (kdN u : Nat)] 24))
      have HL5 := Lib.hid (HL4.out.alloc HL4.out.size (.cells #[.int .i64 (s : Int), .int .i64 (tgN u : Nat), .int .i64 (kdN u : Nat)] 24))
      obtain ⟨px, hpx⟩ : ∃ px, t4.heap.size = px := ⟨_, rfl⟩
      rw [hpx] at HX5
      (try rw [hpx])
      clear hpx HR4 HL4
      generalize World.alloc t4 _ = t5 at *
      refine (alive15_any (HG.out.of HL5.out)).mono ?_
      rintro e t6 ⟨rfl, hB6⟩
      have x1 := blk_cell (blk_below' hB6 HX5.out) 1
      have x2 := blk_cell (blk_below' hB6 HX5.out) 2
      have y2 := blk_cell (blk_below' hB6 HR5.out) 2
      have HL6 := Lib.hid (below_then HL5.out hB6)
      clear hB6 HX5 HR5 HL5
      by_cases hku : kdN u = 2
      · have c1 : (((kdN u : Nat) : Int) == 2) = true := by simp; omega
        clear hku
        go_wp2_with fail
        go_ret
        exact ⟨rfl, HL6.out⟩
      · have c1 : (((kdN u : Nat) : Int) == 2) = false := by simp; omega
        have c2 : ((tgN u : Nat) : Int) ≤ (((Q).ktag : Nat) : Int) := by have := HOu.out (by have := kd_le u; omega); omega
        clear hku
        go_wp2_with fail
        go_ret
        exact ⟨rfl, HL6.out⟩
end Go.Proofs.YtppmiggkknhdkaaDoor
namespace Go.Proofs.YtppmiggkknhdkaaDoor
open Go.RowKit

theorem sStar : ("*" ++ "errors.errorString" : String) = "*errors.errorString" := by decide
theorem sG : Tryd.prog.globalNamed "earshot/refute.errNoDefence" = some 0 := by kernel_rfl
theorem sGType : (Tryd.prog.globals[0]?).map (·.type) = some 104 := by kernel_rfl
theorem sRow (u : TypeId) (h : Tryd.prog.typeName? 3 u = some "*errors.errorString") : u = 148 :=
  typeName_ptr_named (nm := "errors.errorString") (by rw [sStar]; kernel_rfl) (by kernel_rfl) (by decide) u (by rw [sStar]; exact h)
theorem sCellsE : Tryd.prog.cellsOf 172 = 1 := by kernel_rfl
theorem sCellsS : Tryd.prog.cellsOf 9 = 1 := by kernel_rfl
theorem sent_of {W : World} (h : laidMetH Tryd.prog [("earshot/refute.errNoDefence", Rows.laid_earshot_refute_errNoDefence)] W) : ∃ a, Gl a W := by
  have h2 : laidMet Tryd.prog [("earshot/refute.errNoDefence", Rows.laid_earshot_refute_errNoDefence)] W := by rwa [MakeChecks.laidMetH_plain _ _ _ (by kernel_rfl)] at h
  obtain ⟨a, s, hv, _⟩ := laid_sentinel h2 sG sGType Tryd.underlying104 sRow Tryd.underlying148 Tryd.underlying172 rfl rfl Tryd.underlying9 sCellsE sCellsS
  exact ⟨a, World.var?_cell sG hv 0⟩
end Go.Proofs.YtppmiggkknhdkaaDoor
