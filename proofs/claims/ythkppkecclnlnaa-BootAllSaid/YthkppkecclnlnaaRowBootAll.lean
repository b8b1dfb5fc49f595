/-
  BootAll: for every input the law answers true, and each argument reads afterwards as before. Conditions: none of ours; the form's own reach (each text takes at most 2^47 - 4096 bytes) is used where a text comes in.
-/
import Derived.Test.YthkppkecclnlnaaMBootPlays4
import Derived.Test.YthkppkecclnlnaaMBootPlays0
namespace Go.Proofs.Ythkppkecclnlnaa.bootAll
open Go.ChangeShapes Go.WideShapes Go.ChangeAt Go.RowKit
open Go.ChangeMaps (open_string shut_string)
set_option linter.unusedVariables false

theorem own : ownKnob Try.prog.godebug = none := by kernel_rfl

set_option maxRecDepth 100000 in
set_option maxHeartbeats 1000000 in
theorem lifted (os : Os) (started : os.Started) (H : Type) (enc : TypeId × Value → H) :
    ReturnsInHanded {} Try.checked os 19 .any (Rows.bootAllSpec.pre6 enc Try.prog Try.f19 Rows.bootAllRow.domain false) (Rows.bootAllSpec.post enc Try.prog Try.f19 false true false false) := by
  refine returnsInHanded_of_change_sized (C := Try.checked) own started (by kernel_rfl) Try.func19
    (ChangeSpec.witness6 (enc := enc) (C := Try.checked) false ⟨#[], #[.agg #[.int .i64 0, .int .i64 0, .int .i64 0], .int .i64 0, .slice none 0 0], []⟩ 8 (by kernel_rfl) (by kernel_rfl) (by kernel_rfl) (by kernel_rfl)) ?_
  intro W base args ds gs before hval0 hW hcnd hsz0 _
  have hval : ∀ (j : Nat) t v, Try.f19.params[j]? = some t → args[j]? = some v → Value.okWide Try.prog W .any base t v := hval0
  have hW' := hW
  obtain ⟨p, q, hA0, hV, rfl, hfz, hnd⟩ := hW
  have hA : DataW.TrodAll enc Try.prog W 0 (fun _ => true) true Try.f19.params.toList args.toList ds p := hA0
  have hsz : (DataW.weightsEach Try.prog (Try.f19.params.toList ++ Rows.bootAllSpec.plain.varTypes Try.prog) (ds ++ gs)).all (· ≤ reachBytes) = true := hsz0
  rw [Try.params19] at hA hval hsz
  obtain ⟨v0, vs0, d0, ds0, p0, q0, hargs, rfl, rfl, h0, r0⟩ := trodAll_cons hA
  obtain ⟨v1, vs1, d1, ds1, p1, q1, rfl, rfl, rfl, h1, r1⟩ := trodAll_cons r0
  obtain ⟨v2, vs2, d2, ds2, p2, q2, rfl, rfl, rfl, h2, r2⟩ := trodAll_cons r1
  obtain ⟨rfl, rfl, rfl⟩ := trodAll_nil r2
  obtain rfl : args = #[v0, v1, v2] := by cases args; simp_all
  obtain ⟨rfl, rfl⟩ := trodVars_none hV
  obtain ⟨y0, rfl, l0, w0⟩ := open_flat 6 Try.underlying47 (by kernel_rfl) (hval 0 47 v0 rfl rfl) h0
  obtain ⟨a0_0, a0_1, a0_2, rfl⟩ := list3 y0 (l0.trans (by kernel_rfl))
  obtain ⟨a1, rfl, rfl, rfl, w1⟩ := open_int Try.underlying3 (hval 1 3 v1 rfl rfl) h1
  obtain ⟨x2, s2, w2⟩ := open_rows 6 Try.underlying84 (by kernel_rfl) (by have h9 : Try.prog.cellsOf 141 = 2 := (by kernel_rfl); omega) (hval 2 84 v2 rfl rfl) h2
  rw [show Try.prog.cellsOf 141 = 2 from by kernel_rfl] at s2
  clear hval0
  simp only [List.append_nil] at hW'
  refine (bootAll_w W a0_0 a0_1 a0_2 a1 v2 w0 w1 x2 s2 w2).mono fun e W' ⟨he, hg⟩ => ?_
  subst he
  exact ⟨_, rfl, post_of_below (pa := _) (pv := []) hW' (fun _ _ _ => (trodAll_cons_mk (shut_bool Try.underlying4 _) trodAll_mk0)) (fun sp hsp => trodAll_stays (by kernel_rfl) _ _ _ _ (readAll_spec (by kernel_rfl)) hA0 (fun q hq => hg.same (hW'.lt q (by simpa using hq))) (fun q hq => hsp q (by simpa using hq))) (fun _ _ => rfl) (by simp)
    hg (ok_one (by kernel_rfl) rfl (okWide_bool_mk Try.underlying4 _))⟩

theorem proved : Rows.BootAllSaid :=
  OpenClaim.holds_of_wide 19 Try.f19 rfl rfl rfl rfl rfl rfl rfl ⟨rfl, rfl, rfl, rfl, rfl⟩ rfl rfl rfl rfl rfl (by kernel_rfl) Try.func19 (by kernel_rfl)
    (of_decide_eq_true (by kernel_rfl)) (by unfold Func.isWrapper; rw [if_neg (of_decide_eq_false (by kernel_rfl))]; exact ⟨rfl, rfl⟩)
    (fun os started H enc _ => lifted os started H enc)
end Go.Proofs.Ythkppkecclnlnaa.bootAll
