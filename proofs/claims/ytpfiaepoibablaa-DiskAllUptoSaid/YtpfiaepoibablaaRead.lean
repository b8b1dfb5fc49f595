/- Walks: slices.Clone, Read. -/
import Derived.Test.YtpfiaepoibablaaImage
namespace Go.Proofs.Ytpfiaepoibablaa
set_option linter.unusedVariables false
set_option linter.unusedSimpArgs false
open Go.RowKit

set_option maxRecDepth 100000 in
theorem clone_any (p : Addr) (n c : Nat) (l : List Nat) (w : World) (hl : l.length = n) (h0 : n ≤ 1000000) (hc : ∀ j u, (bC l)[j]? = some u → w.cell? (p.add j) = some u ∧ (p.add j).block < w.heap.size) :
    Calls Try.prog 81 #[.slice (some p) n c] w fun e w' => ∃ v, e = .returned v ∧ w'.ownsRow w.heap.size 5 1 v n (bC l) ∧ Below w.heap.size w w' := by
  obtain ⟨i0, hi, hz0, hz1, hz2⟩ := info_parts Try.infoByte
  have HL := Lib.hid hl
  have HC := Lib.hid hc
  clear hl hc
  go_enter Try.func81, Try.ntmps81
  have hnil : ∀ w, (binOp .eql 22 (.slice (some p) n c) (.slice none 0 0)).run Try.prog w = .ok (.bool false) w := fun w => by kernel_rfl
  go_wp2_with (at_builtin; refine wpList_append_own _ rfl _ _ 22 rfl w.heap.size 5 i0 (.int .u8 0) 1 1 Try.underlying22 hi hz0 hz1 hz2 rfl (by decide) _ 0 [] rfl (World.ownsRow_lit w #[] 0 (Nat.le_refl _) (by unfold maxLen; omega) rfl) p n c (bC l) rfl ?a1 ?a2 ?a3 ?a4 ?a5 ?a6 ?_)
  case a1 => rw [bC_len, HL.out]; omega
  case a2 => intro j u hu; rw [World.cell?_alloc_old _ _ _ (Nat.ne_of_lt (HC.out j u hu).2)]; exact (HC.out j u hu).1
  case a3 => exact bC_one l
  case a4 => unfold maxLen; omega
  case a5 => omega
  case a6 => simp
  intro v' w4 hown4 hg4 hv4
  go_wp2
  go_ret
  exact ⟨_, rfl, hown4, ((Below.refl _ w).alloc (Nat.le_refl _) _).grown hg4 (by simp) (fun j hj => by cases hj; exact Nat.le_refl _)⟩
set_option maxRecDepth 100000 in
set_option maxHeartbeats 1000000 in
theorem read_any (b : Nat) (d : Dk) (s : Int) (w : World) (h : DkAt w b d) :
    Calls Try.prog 17 #[.pointer (some ⟨b, 0, none⟩), .int .i64 s] w fun e w' => ∃ v, e = .returned (.tuple #[v, .int .i64 (mayV d s)]) ∧ (mayV d s ≠ 0 → v = .slice none 0 0) ∧ (mayV d s = 0 → w'.ownsRow w.heap.size 5 1 v 32 (bC ((d.bs.drop (s.toNat * 32)).take 32))) ∧ Below w.heap.size w w' := by
  have HM := Lib.hid (may_any b d s w h)
  go_enter Try.func17, Try.ntmps17
  go_wp2_with fail
  refine HM.out.mono ?_
  rintro e w1 ⟨rfl, hB1⟩
  have h1 := h.below hB1
  by_cases hm : mayV d s = 0
  · obtain ⟨k, rfl, hk, hoff⟩ := mayV_nat hm
    rw [hm]
    have k0 : (k : Int) < 8 := by omega
    have k1 : (0 : Int) ≤ (k : Int) := by omega
    have k2 : (k : Int).toNat = k := Int.toNat_natCast k
    have HMV := Lib.hid hm
    clear hm HM
    go_wp2_with fail
    refine (image_any b d _ h1).mono ?_
    rintro e w2 ⟨v, rfl, hown, hB2⟩
    obtain ⟨g, cap, rfl, hg1, hg2⟩ := ownsRow_pos hown (by omega)
    have hcap : 256 ≤ cap := by
      rcases hown.2 with ⟨h', _⟩ | ⟨g', cap', cur, h', _, _, hnc, _⟩
      · simp at h'
      · injection h' with _ _ h'; omega
    have q1 : ((k : Int) + 1) * 32 ≤ (cap : Int) := by omega
    have q2 : (0 : Int) ≤ ((k : Int) + 1) * 32 := by omega
    have q3 : (0 : Int) ≤ (k : Int) * 32 := by omega
    have q4 : (k : Int) * 32 ≤ ((k : Int) + 1) * 32 := by omega
    have q5 : (k + 1) * 32 - k * 32 = 32 := by omega
    have q6 : ¬ (k + 1) * 32 = k * 32 := by omega
    go_wp2_with fail
    refine (clone_any _ 32 32 ((d.bs.drop (k * 32)).take 32) w2 (by rw [List.length_take, List.length_drop, h1.2]; omega) (by omega) ?_).mono ?_
    · intro j u hu
      unfold bC at hu
      rw [List.map_take, List.map_drop, List.getElem?_take] at hu
      rw [Addr.add_mid]
      refine ⟨?_, hg2⟩
      split at hu
      · rw [List.getElem?_drop] at hu
        rw [hown.cellAt _ (by omega)]
        exact hu
      · cases hu
    · rintro e w3 ⟨v3, rfl, hown3, hB3⟩
      go_wp2_with fail
      go_ret2
      exact ⟨_, by rw [HMV.out]; rfl, fun h => absurd HMV.out h, fun _ => ownsRow_base hown3 (Nat.le_trans hB1.size hB2.size), below_then (below_then hB1 hB2) hB3⟩
  · have hne : (mayV d s != 0) = true := by simpa using hm
    have HMV := Lib.hid hm
    clear hm HM
    go_wp2_with fail
    go_ret2
    exact ⟨_, rfl, fun _ => rfl, fun h => absurd h HMV.out, hB1⟩
end Go.Proofs.Ytpfiaepoibablaa
