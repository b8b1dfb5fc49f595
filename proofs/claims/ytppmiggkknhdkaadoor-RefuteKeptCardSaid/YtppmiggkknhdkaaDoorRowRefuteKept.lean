/-
  RefuteKept: for every input the law answers true, and each argument reads afterwards as before. Conditions: none of ours; the form's own reach (each text takes at most 2^47 - 4096 bytes) is used where a text comes in.
-/
import Derived.Test.YtppmiggkknhdkaaDoorBaseD
import Derived.Test.YtppmiggkknhdkaaDoorTie
import Derived.Test.YtppmiggkknhdkaaDoorCards
import Derived.LaidMore
import Derived.LaidHandle
import Derived.Lay
import Derived.SevenTiedAt
namespace Go.Proofs.YtppmiggkknhdkaaDoor
set_option linter.unusedVariables false
set_option linter.unusedSimpArgs false
open Go.RowKit

set_option maxRecDepth 100000 in
set_option maxHeartbeats 1000000 in
theorem refuteKept_w (w : World) (n sf : Int) (v : Value) (k : Int) (hn : (Lit.int .i64 n).wf = true) (hsf : (Lit.int .i64 sf).wf = true) (xs : List (List Value)) (hrow : RowsS w [.rows 3] v xs) (hk : (Lit.int .i64 k).wf = true) {a : Addr} (hg : Gl a w) :
    Calls Tryd.prog 4 #[.int .i64 n, .int .i64 sf, v, .int .i64 k] w fun e w' => e = .returned (.bool true) ∧ Below w.heap.size w w' := by
  have hkb : k ≤ 9223372036854775807 := by
    simp only [Lit.wf, Bool.and_eq_true, decide_eq_true_eq] at hk
    have h5 : IntKind.i64.max = 9223372036854775807 := by decide
    omega
  clear hn hsf hk
  by_cases hall : nwE n sf 0 = 0 ∧ xs.length ≤ 40 ∧ 0 ≤ k
  · obtain ⟨h1, h2, h3⟩ := hall
    have hb : (1 ≤ n ∧ n ≤ 100) ∧ 0 ≤ sf ∧ sf < n := by
      unfold nwE at h1
      split at h1
      · split at h1
        · omega
        · cases h1
      · cases h1
    obtain ⟨N, rfl⟩ : ∃ N : Nat, n = N := ⟨n.toNat, by omega⟩
    obtain ⟨S, rfl⟩ : ∃ S : Nat, sf = S := ⟨sf.toNat, by omega⟩
    exact refuteKept_in N S k ⟨by omega, by omega⟩ (by omega) ⟨h3, hkb⟩ v xs w hg hrow h2
  · have hlt0 : ∀ c ∈ Dk.new.bs, c < 256 := tnS_new.lt
    obtain ⟨s0, hsv⟩ := first_save15
    obtain ⟨D, hDe⟩ : ∃ D, saveW Dk.new ((1 : Nat) : Int) (capR 0 : Nat) (capT 0 : Nat) = D := ⟨_, rfl⟩
    rw [hDe] at s0
    have HDE := Lib.hid hDe
    obtain ⟨d1, er⟩ := D
    simp only at s0
    subst s0
    have HG := Lib.hid hg
    obtain ⟨p, cap, rfl, hm1, hm2, _⟩ := hrow
    clear hDe hsv hg hm1 hm2 hkb
    by_cases hE : nwE n sf 0 = 0
    · have hb : (1 ≤ n ∧ n ≤ 100) ∧ 0 ≤ sf ∧ sf < n := by
        unfold nwE at hE
        split at hE
        · split at hE
          · omega
          · cases hE
        · cases hE
      obtain ⟨N, rfl⟩ : ∃ N : Nat, n = N := ⟨n.toNat, by omega⟩
      obtain ⟨S, rfl⟩ : ∃ S : Nat, sf = S := ⟨sf.toNat, by omega⟩
      have HN := Lib.hid (show (1 ≤ N ∧ N ≤ 100) ∧ S < N by omega)
      by_cases hl : 40 < xs.length
      · have a1 : (40 : Int) < (xs.length : Int) := by omega
        clear hall hE hb hl
        go_enter Tryd.func4, Tryd.ntmps4
        go_wp2_with fail
        refine (new_any _).mono ?_
        rintro e w1 ⟨rfl, hD1, hB1⟩
        go_wp2_with fail
        refine (open_none w.heap.size Dk.new w1 hD1 hlt0 (by decide) (by decide) (loadA_none slSt_new rfl)).mono ?_
        rintro e w2 ⟨h0, _, hg2⟩
        rw [HDE.out] at h0
        obtain ⟨b, rfl, hb, hT2⟩ := h0 rfl
        have hb2 := hB1.grown hg2 hB1.size (fun j h => by cases h; exact Nat.le_refl _)
        have hbw : w.heap.size ≤ b := Nat.le_trans hB1.size hb
        clear h0 hg2 hD1 hlt0 hT2 hB1
        go_wp2_with fail
        refine (tnew_yes N S 0 HN.out.1 HN.out.2 (by decide) w2).mono ?_
        rintro e w3 ⟨B, g, rfl, hT3, hB3, hg3, hb3⟩
        have hb03 := below_then hb2 hb3
        clear hT3 hb3
        go_wp2_with (go_at_call 12; refine (alive15_any (HG.out.of hb03)).mono ?_; rintro e w9 ⟨rfl, hB9⟩)
        go_ret
        exact ⟨rfl, below_then hb03 hB9⟩
      · have a1 : ¬ (40 : Int) < (xs.length : Int) := by omega
        have a2 : k < 0 := by omega
        clear hall hE hb hl
        go_enter Tryd.func4, Tryd.ntmps4
        go_wp2_with fail
        refine (new_any _).mono ?_
        rintro e w1 ⟨rfl, hD1, hB1⟩
        go_wp2_with fail
        refine (open_none w.heap.size Dk.new w1 hD1 hlt0 (by decide) (by decide) (loadA_none slSt_new rfl)).mono ?_
        rintro e w2 ⟨h0, _, hg2⟩
        rw [HDE.out] at h0
        obtain ⟨b, rfl, hb, hT2⟩ := h0 rfl
        have hb2 := hB1.grown hg2 hB1.size (fun j h => by cases h; exact Nat.le_refl _)
        have hbw : w.heap.size ≤ b := Nat.le_trans hB1.size hb
        clear h0 hg2 hD1 hlt0 hT2 hB1
        go_wp2_with fail
        refine (tnew_yes N S 0 HN.out.1 HN.out.2 (by decide) w2).mono ?_
        rintro e w3 ⟨B, g, rfl, hT3, hB3, hg3, hb3⟩
        have hb03 := below_then hb2 hb3
        clear hT3 hb3
        go_wp2_with (go_at_call 12; refine (alive15_any (HG.out.of hb03)).mono ?_; rintro e w9 ⟨rfl, hB9⟩)
        go_ret
        exact ⟨rfl, below_then hb03 hB9⟩
    · have HE := Lib.hid (fun w => tnew_no n sf 0 hE w)
      have a1 : (nwE n sf 0 != 0) = true := by simpa using hE
      clear hall hE
      generalize nwE n sf 0 = E at *
      go_enter Tryd.func4, Tryd.ntmps4
      go_wp2_with fail
      refine (new_any _).mono ?_
      rintro e w1 ⟨rfl, hD1, hB1⟩
      go_wp2_with fail
      refine (open_none w.heap.size Dk.new w1 hD1 hlt0 (by decide) (by decide) (loadA_none slSt_new rfl)).mono ?_
      rintro e w2 ⟨h0, _, hg2⟩
      rw [HDE.out] at h0
      obtain ⟨b, rfl, hb, hT2⟩ := h0 rfl
      have hb2 := hB1.grown hg2 hB1.size (fun j h => by cases h; exact Nat.le_refl _)
      have hbw : w.heap.size ≤ b := Nat.le_trans hB1.size hb
      clear h0 hg2 hD1 hlt0 hT2 hB1
      go_wp2_with fail
      refine (HE.out w2).mono ?_
      rintro e w3 ⟨rfl, hb3⟩
      have hb03 := below_then hb2 hb3
      clear hb3
      go_wp2_with (go_at_call 12; refine (alive15_any (HG.out.of hb03)).mono ?_; rintro e w9 ⟨rfl, hB9⟩)
      go_ret
      exact ⟨rfl, below_then hb03 hB9⟩
end Go.Proofs.YtppmiggkknhdkaaDoor
namespace Go.Proofs.YtppmiggkknhdkaaDoor.refuteKept
open Go.ChangeShapes Go.WideShapes Go.ChangeAt Go.RowKit
open Go.ChangeMaps (open_string shut_string)
set_option linter.unusedVariables false

theorem own : ownKnob Tryd.prog.godebug = none := by kernel_rfl

set_option maxRecDepth 100000 in
set_option maxHeartbeats 1000000 in
theorem lifted (os : Os) (started : os.Started) (H : Type) (enc : TypeId × Value → H) :
    ReturnsInHanded {} Tryd.checked os 4 .any (fun w args => (Rows.refuteKeptSpec.pre enc Tryd.prog Tryd.f4 [] false w args ∧ laidMetH Tryd.prog Rows.refuteKeptRow.laid w) ∧ sizedMet enc Tryd.prog Tryd.f4 (OpenSpec.ofChange Rows.refuteKeptSpec) false w args) (Rows.refuteKeptSpec.post enc Tryd.prog Tryd.f4 false true false false) := by
  refine returnsInHanded_of_change_and (C := Tryd.checked) (X := fun w _ => laidMetH Tryd.prog Rows.refuteKeptRow.laid w) (fun _ _ _ hh h => h.of_heap hh) own started (by kernel_rfl) Tryd.func4
    (ChangeSpec.witness_shaped (enc := enc) (C := Tryd.checked) (os := os) (X := fun w _ => laidMetH Tryd.prog Rows.refuteKeptRow.laid w) false (World.laidAll Tryd.prog os Rows.refuteKeptRow.laid) #[.int .i64 0, .int .i64 0, .slice none 0 0, .int .i64 0] 8 (World.laidAll_os _ _ _)
      (World.shaped_of_ZipB (by kernel_rfl) (by kernel_rfl)) (by kernel_rfl) (by kernel_rfl) (by kernel_rfl)
      (by rw [MakeChecks.laidMetH_plain _ _ _ (by kernel_rfl)]; exact laidMet_laidAll _ (by kernel_rfl) (by kernel_rfl))) ?_
  intro W base args ds gs before hval0 hW _ hsz0 hL _
  have hval : ∀ (j : Nat) t v, Tryd.f4.params[j]? = some t → args[j]? = some v → Value.okWide Tryd.prog W .any base t v := hval0
  have hW' := hW
  obtain ⟨p, q, hA0, hV, rfl, hfz, hnd⟩ := hW
  have hA : DataW.TrodAll enc Tryd.prog W 0 (fun _ => true) true Tryd.f4.params.toList args.toList ds p := hA0
  have hsz : (DataW.weightsEach Tryd.prog (Tryd.f4.params.toList ++ Rows.refuteKeptSpec.plain.varTypes Tryd.prog) (ds ++ gs)).all (· ≤ reachBytes) = true := hsz0
  rw [Tryd.params4] at hA hval hsz
  obtain ⟨v0, vs0, d0, ds0, p0, q0, hargs, rfl, rfl, h0, r0⟩ := trodAll_cons hA
  obtain ⟨v1, vs1, d1, ds1, p1, q1, rfl, rfl, rfl, h1, r1⟩ := trodAll_cons r0
  obtain ⟨v2, vs2, d2, ds2, p2, q2, rfl, rfl, rfl, h2, r2⟩ := trodAll_cons r1
  obtain ⟨v3, vs3, d3, ds3, p3, q3, rfl, rfl, rfl, h3, r3⟩ := trodAll_cons r2
  obtain ⟨rfl, rfl, rfl⟩ := trodAll_nil r3
  obtain rfl : args = #[v0, v1, v2, v3] := by cases args; simp_all
  obtain ⟨rfl, rfl⟩ := trodVars_none hV
  obtain ⟨a0, rfl, rfl, rfl, w0⟩ := open_int Tryd.underlying3 (hval 0 3 v0 rfl rfl) h0
  obtain ⟨a1, rfl, rfl, rfl, w1⟩ := open_int Tryd.underlying3 (hval 1 3 v1 rfl rfl) h1
  obtain ⟨x2, s2, _⟩ := open_rowsS (ss := [.rows 3]) 6 Tryd.underlying38 (by kernel_rfl) (by decide) (by have h9 : Tryd.prog.cellsOf 45 = 1 := (by kernel_rfl); exact h9) (hval 2 38 v2 rfl rfl) h2
  obtain ⟨a3, rfl, rfl, rfl, w3⟩ := open_int Tryd.underlying3 (hval 3 3 v3 rfl rfl) h3
  clear hval0
  simp only [List.append_nil] at hW'
  obtain ⟨aSent, hSent⟩ := sent_of hL
  refine (refuteKept_w W a0 a1 v2 a3 w0 w1 x2 s2 w3 hSent).mono fun e W' ⟨he, hg⟩ => ?_
  subst he
  exact ⟨_, rfl, post_of_below (pa := _) (pv := []) hW' (fun _ _ _ => (trodAll_cons_mk (shut_bool Tryd.underlying4 _) trodAll_mk0)) (fun sp hsp => trodAll_stays (by kernel_rfl) _ _ _ _ (readAll_spec (by kernel_rfl)) hA0 (fun q hq => hg.same (hW'.lt q (by simpa using hq))) (fun q hq => hsp q (by simpa using hq))) (fun _ _ => rfl) (by simp)
    hg (ok_one (by kernel_rfl) rfl (okWide_bool_mk Tryd.underlying4 _))⟩

theorem row : Rows.RefuteKeptSaid :=
  OpenClaim.holds_of_wide 4 Tryd.f4 rfl rfl rfl rfl rfl rfl rfl ⟨rfl, rfl, rfl, rfl, rfl⟩ rfl rfl rfl rfl rfl (by kernel_rfl) Tryd.func4 (by kernel_rfl)
    (of_decide_eq_true (by kernel_rfl)) (by unfold Func.isWrapper; rw [if_neg (of_decide_eq_false (by kernel_rfl))]; exact ⟨rfl, rfl⟩)
    (fun os started H enc _ => lifted os started H enc)
theorem proved : Rows.RefuteKeptCardSaid :=
  Claim7.holds_tied_plain_at .later [] [.sentinel] true (true, "9a015f91aaefea97dfe46f3c82ce70cf0da7a94997d7ed30d4118a0e457f8054") true
    row (fun _ h => by cases h) (by kernel_rfl) (fun _ h => by cases h) refuteKept_row_tie rfl ⟨rfl, rfl⟩ (by kernel_rfl) rfl
    (fun f fn hf hfn => by
      obtain rfl : f = 4 := Option.some.inj ((show Tryd.prog.funcNamed "earshot/earshotlaw15.RefuteKept" = some 4 by kernel_rfl).symm.trans hf) |>.symm
      obtain rfl : fn = Tryd.f4 := (Option.some.inj (Tryd.func4.symm.trans hfn)).symm
      exact ⟨by kernel_rfl, fun j t ht => by
        rw [Tryd.params4] at ht
        have hm : t ∈ [3, 3, 38, 3] := by simpa using Array.mem_of_getElem? ht
        have hall : ([3, 3, 38, 3].all fun u => !Tryd.prog.wantsStandIn u) = true := by kernel_rfl
        exact (show Tryd.prog.wantsStandIn t = false by simpa using List.all_eq_true.1 hall t hm)⟩)
    (by kernel_rfl)
end Go.Proofs.YtppmiggkknhdkaaDoor.refuteKept
