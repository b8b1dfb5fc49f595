/- Walk: earshotref4.Parse. -/
import Derived.Test.YthbejpgeohhppaaParse
import Derived.Test.YthbejpgeohhppaaRef3
namespace Go.Proofs.Ythbejpgeohhppaa
set_option linter.unusedVariables false
set_option linter.unusedSimpArgs false
open Go.RowKit Go.Maps

theorem RefAt.set {W : World} {B : Nat} {v : Value} {o : Option (List Nat)} (h : RefAt W B v o) {p : Addr} {cs : Array Value} {T : TypeId} (hb : W.heap[p.block]? = some (.cells cs T (0, 0))) (hT : T ≠ 3) (u : Value) : RefAt (W.setCell p u) B v o := by
  cases o with
  | none => exact h
  | some l =>
    obtain ⟨sv, rfl, h1⟩ := h
    refine ⟨sv, rfl, h1.kept (grownBy_set W p u) ?_⟩
    rcases h1.2 with ⟨h, _⟩ | ⟨g, cap, cur, rfl, _, hh, _⟩
    · exact .inl (by rw [h]; rfl)
    · refine .inr fun e => ?_
      have : g = p.block := by simpa [Value.ownBlock] using e
      subst this
      rw [hb] at hh
      have := Option.some.inj hh
      injection this with _ h5
      exact hT h5
theorem RefAt.set4 {W : World} {B : Nat} {v : Value} {o : Option (List Nat)} (h : RefAt W B v o) {b x : Nat} (hb : W.heap[b]? = some (.cells (setC x) 47 (0, 0))) (y : Nat) : RefAt (set4 W b y) B v o :=
  (((h.set (p := ⟨b, 0, none⟩) hb (by decide) _).set (p := ⟨b, 1, none⟩) (blk_store hb 0 _) (by decide) _).set (p := ⟨b, 2, none⟩) (blk_store (blk_store hb 0 _) 1 _) (by decide) _).set (p := ⟨b, 3, none⟩) (blk_store (blk_store (blk_store hb 0 _) 1 _) 2 _) (by decide) _
theorem RefAt.row {W : World} {B : Nat} {a : Option Addr} {c : Nat} {o : Option (List Nat)} (h : RefAt W B (.agg #[.slice a (sgs o).length c]) o) : W.ownsRow B 3 1 (.slice a (sgs o).length c) (sgs o).length (inC (sgs o)) := by
  cases o with
  | none => cases h; exact World.ownsRow_nil _ _ _ _
  | some l =>
    obtain ⟨sv, hv, h1⟩ := h
    injection hv with hv
    injection hv with hv
    simp only [List.cons.injEq, and_true] at hv
    subst hv
    exact h1

set_option maxRecDepth 100000 in
set_option maxHeartbeats 1000000 in
theorem refParse_quick (a : Option Addr) (c : Nat) (l : List Nat) (s : ByteArray) (w : World) (hs : s.size ≤ 9223372036854775807) (hq : 65536 < s.size ∨ s.size = 0 ∨ s = dash) :
    Calls Try.prog 22 #[.agg #[.slice a l.length c], .string s] w (PaP l s w) := by
  by_cases h1 : 65536 < s.size
  · go_enter Try.func22, Try.ntmps22
    go_wp2
    exact bodyPost_ret (v := .tuple #[.agg (setC 0), .int .i64 ((0 : Nat) : Int), .int .i64 2]) (by rw [← setC_zero]; simp [results, Try.results22, go_sem]) rfl (PaP.mk (by simp [parV, h1]) (((Below.refl _ w).alloc (Nat.le_refl _) _).alloc (by simp) _))
  by_cases h2 : s.size = 0
  · obtain rfl : s = ByteArray.empty := by
      cases s with | mk d => cases d with | mk l => simp [ByteArray.size] at h2; subst h2; rfl
    clear h1 h2 hq
    go_enter Try.func22, Try.ntmps22
    go_wp2
    exact bodyPost_ret (v := .tuple #[.agg (setC 0), .int .i64 ((0 : Nat) : Int), .int .i64 40]) (by rw [← setC_zero]; simp [results, Try.results22, go_sem]) rfl (PaP.mk (parV_empty l) (((Below.refl _ w).alloc (Nat.le_refl _) _).alloc (by simp) _))
  · obtain rfl : s = dash := by rcases hq with h | h | h <;> first | contradiction | exact h
    clear h1 h2 hq
    unfold dash
    go_enter Try.func22, Try.ntmps22
    go_wp2
    exact bodyPost_ret (v := .tuple #[.agg (setC 0), .int .i64 ((0 : Nat) : Int), .int .i64 0]) (by rw [← setC_zero]; simp [results, Try.results22, go_sem]) rfl (PaP.mk (parV_dash l) (((Below.refl _ w).alloc (Nat.le_refl _) _).alloc (by simp) _))

set_option maxRecDepth 100000 in
set_option maxHeartbeats 2000000 in
theorem refParse_go (va : Option Addr) (c : Nat) (o : Option (List Nat)) (B : Nat) (s : ByteArray) (w : World) (h1 : 1 ≤ s.size) (h2 : s.size ≤ 65536) (h3 : s ≠ dash) (hl : (sgs o).length ≤ 100) (hcl : ∀ r ∈ sgs o, classN r = 4)
    (hR : RefAt w B (.agg #[.slice va (sgs o).length c]) o) :
    Calls Try.prog 22 #[.agg #[.slice va (sgs o).length c], .string s] w (PaP (sgs o) s w) := by
  have hd : (s.toList == [45]) = false := by rw [dash_iff]; simpa using h3
  have hne : ((s.size : Int) == 0) = false := by rw [beq_eq_false_iff_ne]; omega
  have h3' := Lib.hid h3
  have HCL := Lib.hid hcl
  clear h3 hcl
  go_enter Try.func22, Try.ntmps22
  go_wp2
  rw [setC_zero]
  have r0 : (((w.alloc (.cells #[.slice va (sgs o).length c] 31)).alloc (.cells (setC 0) 47)).alloc (.cells (setC 0) 47)).heap[w.heap.size]? = some (.cells #[.slice va (sgs o).length c] 31 (0, 0)) := blk_old (blk_old (blk_new w _) _) _
  have z0 : (((w.alloc (.cells #[.slice va (sgs o).length c] 31)).alloc (.cells (setC 0) 47)).alloc (.cells (setC 0) 47)).heap[w.heap.size + 1]? = some (.cells (setC 0) 47 (0, 0)) := blk_old (b1 w _ _) _
  have s0 : (((w.alloc (.cells #[.slice va (sgs o).length c] 31)).alloc (.cells (setC 0) 47)).alloc (.cells (setC 0) 47)).heap[w.heap.size + 1 + 1]? = some (.cells (setC 0) 47 (0, 0)) := b2 w _ _ _
  have hR0 := ((hR.below ((Below.refl _ _).alloc (Nat.le_refl _) (.cells #[.slice va (sgs o).length c] 31))).below ((Below.refl _ _).alloc (Nat.le_refl _) (.cells (setC 0) 47))).below ((Below.refl _ _).alloc (Nat.le_refl _) (.cells (setC 0) 47))
  have hb0 : Below w.heap.size w (((w.alloc (.cells #[.slice va (sgs o).length c] 31)).alloc (.cells (setC 0) 47)).alloc (.cells (setC 0) 47)) := (((Below.refl _ w).alloc (Nat.le_refl _) _).alloc (by simp) _).alloc (by simp; omega) _
  obtain ⟨W, hW⟩ : ∃ W, (((w.alloc (.cells #[.slice va (sgs o).length c] 31)).alloc (.cells (setC 0) 47)).alloc (.cells (setC 0) 47)) = W := ⟨_, rfl⟩
  rw [hW] at r0 z0 s0 hR0 hb0 ⊢
  clear hW hR
  go_loopw [8, 9] (fun i p wr => ∃ (pos x a : Nat), i = .int .i64 a ∧ p = .int .i64 pos ∧ wr.heap[w.heap.size]? = some (.cells #[.slice va (sgs o).length c] 31 (0, 0)) ∧ wr.heap[w.heap.size + 1]? = some (.cells (setC 0) 47 (0, 0)) ∧ wr.heap[w.heap.size + 1 + 1]? = some (.cells (setC x) 47 (0, 0)) ∧
      RefAt wr B (.agg #[.slice va (sgs o).length c]) o ∧ Hid (parV (sgs o) s = paGo (sgs o) s (st s pos) x a) ∧ x < 2 ^ 100 ∧ pos ≤ s.size ∧ a ≤ pos ∧ Below w.heap.size w wr) (fun _ p _ => s.size - (intOf p).toNat)
  case atStart =>
    refine ⟨0, 0, 0, rfl, rfl, r0, z0, s0, hR0, ?_, by decide, by omega, by omega, hb0⟩
    show _ = _
    unfold parV
    rw [if_neg (by omega), if_neg (by omega), if_neg h3'.out]
  case round =>
    obtain ⟨pos, x, a, rfl, rfl, r1, z1, s1, hR1, hk, hx, hpos, hap, hb1⟩ := hrel
    clear r0 z0 s0 hR0 hb0
    by_cases hp : pos < s.size
    · have k10 := blk_cell r1 0
      simp at k10
      have hrn := rn_bd s pos
      have hwd := wd_bd s pos hp
      have HA := Lib.hid (fun w => refAt_any s pos hp (by omega) w)
      unfold atV at HA
      have hgo := Lib.hid (show paGo (sgs o) s (st s pos) x a = _ by rw [st_cons hp, paGo])
      have HFI := Lib.hid (fun (w2 : World) h => find_any (sgs o) (.slice va (sgs o).length c) B (rn s pos) w2 (by omega) h)
      cases hf : fnd (sgs o) (rn s pos) with
      | none =>
        rw [show fndI (sgs o) (rn s pos) = -1 from by unfold fndI; rw [hf]] at HFI
        have HH : True := trivial
        have HW : True := trivial
        have HF := Lib.hid hf
        clear hf
        cases hlo : lo s pos with
        | true =>
          rw [hlo] at HA
          clear hlo
          have hE : parV (sgs o) s = (0, a, 41) := by rw [hk.out, hgo.out]; rw [HF.out]
          have HE := Lib.hid hE
          clear hE
          go_wp2_with
            (first
              | (go_at_call 27; refine (HA.out _).mono ?_; rintro e w3 ⟨rfl, nq, rfl⟩; have hrow := ownsRow_drewN hR1.row nq)
              | (go_at_call 29; refine (HFI.out _ hrow).mono ?_; rintro e w4 ⟨rfl, rfl⟩; have s4 := blk_drewN s1 nq; have z4 := blk_drewN z1 nq; have hb4 := below_drewN hb1 nq; obtain ⟨q0, q1, q2, q3, f0, f1, f2, f3⟩ := set_cells s4; obtain ⟨y0, y1, y2, y3, g0, g1, g2, g3⟩ := set_cells z4)
              | (go_at_call 33; refine (HH.out _).mono ?_; rintro e w5 ⟨rfl, hB5⟩; have s5 := blk_below' hB5 s4; have z5 := blk_below' hB5 z4; have hb5 := below_then hb4 hB5; obtain ⟨q0, q1, q2, q3, f0, f1, f2, f3⟩ := set_cells s5; obtain ⟨y0, y1, y2, y3, g0, g1, g2, g3⟩ := set_cells z5)
              | (go_at_call 34; refine (HW.out _).mono ?_; rintro e w6 ⟨rfl, hB6⟩; have s6 := blk_below' hB6 s5; have z6 := blk_below' hB6 z5; have hb6 := below_then hb5 hB6; obtain ⟨q0, q1, q2, q3, f0, f1, f2, f3⟩ := set_cells s6; obtain ⟨y0, y1, y2, y3, g0, g1, g2, g3⟩ := set_cells z6; unfold setC))
          refine bodyPost_ret (v := .tuple #[.agg (setC 0), .int .i64 (a : Nat), .int .i64 41]) (by rw [← setC_zero]; simp [results, Try.results22, go_sem, y0, y1, y2, y3]) rfl ?_
          exact PaP.mk HE.out ((((hb4.setCell (by simp) _).setCell (by simp) _).setCell (by simp) _).setCell (by simp) _)
        | false =>
          rw [hlo] at HA
          clear hlo
          have hE : parV (sgs o) s = (0, a, 41) := by rw [hk.out, hgo.out]; rw [HF.out]
          have HE := Lib.hid hE
          clear hE
          go_wp2_with
            (first
              | (go_at_call 27; refine (HA.out _).mono ?_; rintro e w3 ⟨rfl, nq, rfl⟩; have hrow := ownsRow_drewN hR1.row nq)
              | (go_at_call 29; refine (HFI.out _ hrow).mono ?_; rintro e w4 ⟨rfl, rfl⟩; have s4 := blk_drewN s1 nq; have z4 := blk_drewN z1 nq; have hb4 := below_drewN hb1 nq; obtain ⟨q0, q1, q2, q3, f0, f1, f2, f3⟩ := set_cells s4; obtain ⟨y0, y1, y2, y3, g0, g1, g2, g3⟩ := set_cells z4)
              | (go_at_call 33; refine (HH.out _).mono ?_; rintro e w5 ⟨rfl, hB5⟩; have s5 := blk_below' hB5 s4; have z5 := blk_below' hB5 z4; have hb5 := below_then hb4 hB5; obtain ⟨q0, q1, q2, q3, f0, f1, f2, f3⟩ := set_cells s5; obtain ⟨y0, y1, y2, y3, g0, g1, g2, g3⟩ := set_cells z5)
              | (go_at_call 34; refine (HW.out _).mono ?_; rintro e w6 ⟨rfl, hB6⟩; have s6 := blk_below' hB6 s5; have z6 := blk_below' hB6 z5; have hb6 := below_then hb5 hB6; obtain ⟨q0, q1, q2, q3, f0, f1, f2, f3⟩ := set_cells s6; obtain ⟨y0, y1, y2, y3, g0, g1, g2, g3⟩ := set_cells z6; unfold setC))
          refine bodyPost_ret (v := .tuple #[.agg (setC 0), .int .i64 (a : Nat), .int .i64 41]) (by rw [← setC_zero]; simp [results, Try.results22, go_sem, y0, y1, y2, y3]) rfl ?_
          exact PaP.mk HE.out ((((hb4.setCell (by simp) _).setCell (by simp) _).setCell (by simp) _).setCell (by simp) _)
      | some k =>
        have hk100 := fnd_lt hf
        have hlo : lo s pos = false := by
          cases hq : lo s pos with
          | false => rfl
          | true => rw [fnd_loose HCL.out hq] at hf; cases hf
        rw [hlo] at HA
        clear hlo
        rw [show fndI (sgs o) (rn s pos) = (k : Int) from by unfold fndI; rw [hf]] at HFI
        have HH := Lib.hid (fun w => refHas_any x k (by omega) w)
        have HF := Lib.hid hf
        clear hf
        cases ht : x.testBit k with
        | true =>
          rw [ht] at HH
          unfold setV at HH
          have HW : True := trivial
          have HT := Lib.hid ht
          clear ht
          have hE : parV (sgs o) s = (0, a, 42) := by rw [hk.out, hgo.out]; rw [HF.out]; simp only []; rw [HT.out]; rfl
          have HE := Lib.hid hE
          clear hE
          go_wp2_with
            (first
              | (go_at_call 27; refine (HA.out _).mono ?_; rintro e w3 ⟨rfl, nq, rfl⟩; have hrow := ownsRow_drewN hR1.row nq)
              | (go_at_call 29; refine (HFI.out _ hrow).mono ?_; rintro e w4 ⟨rfl, rfl⟩; have s4 := blk_drewN s1 nq; have z4 := blk_drewN z1 nq; have hb4 := below_drewN hb1 nq; obtain ⟨q0, q1, q2, q3, f0, f1, f2, f3⟩ := set_cells s4; obtain ⟨y0, y1, y2, y3, g0, g1, g2, g3⟩ := set_cells z4)
              | (go_at_call 33; refine (HH.out _).mono ?_; rintro e w5 ⟨rfl, hB5⟩; have s5 := blk_below' hB5 s4; have z5 := blk_below' hB5 z4; have hb5 := below_then hb4 hB5; obtain ⟨q0, q1, q2, q3, f0, f1, f2, f3⟩ := set_cells s5; obtain ⟨y0, y1, y2, y3, g0, g1, g2, g3⟩ := set_cells z5)
              | (go_at_call 34; refine (HW.out _).mono ?_; rintro e w6 ⟨rfl, hB6⟩; have s6 := blk_below' hB6 s5; have z6 := blk_below' hB6 z5; have hb6 := below_then hb5 hB6; obtain ⟨q0, q1, q2, q3, f0, f1, f2, f3⟩ := set_cells s6; obtain ⟨y0, y1, y2, y3, g0, g1, g2, g3⟩ := set_cells z6; unfold setC))
          refine bodyPost_ret (v := .tuple #[.agg (setC 0), .int .i64 (a : Nat), .int .i64 42]) (by rw [← setC_zero]; simp [results, Try.results22, go_sem, y0, y1, y2, y3]) rfl ?_
          exact PaP.mk HE.out ((((hb5.setCell (by simp) _).setCell (by simp) _).setCell (by simp) _).setCell (by simp) _)
        | false =>
          rw [ht] at HH
          have HW := Lib.hid (fun w => refPut_any x k (by omega) w)
          rw [Nat.mod_eq_of_lt hx] at HW
          have hnew := or_lt hx (show k < 100 by omega)
          have hE : parV (sgs o) s = paGo (sgs o) s (st s (pos + wd s pos)) (x ||| 2 ^ k) (a + 1) := by rw [hk.out, hgo.out, HF.out]; simp only []; rw [ht]; rfl
          have HE := Lib.hid hE
          clear ht hE
          generalize x ||| 2 ^ k = x2 at *
          unfold setV at HH HW
          go_wp2_with
            (first
              | (go_at_call 27; refine (HA.out _).mono ?_; rintro e w3 ⟨rfl, nq, rfl⟩; have hrow := ownsRow_drewN hR1.row nq)
              | (go_at_call 29; refine (HFI.out _ hrow).mono ?_; rintro e w4 ⟨rfl, rfl⟩; have s4 := blk_drewN s1 nq; have z4 := blk_drewN z1 nq; have hb4 := below_drewN hb1 nq; obtain ⟨q0, q1, q2, q3, f0, f1, f2, f3⟩ := set_cells s4; obtain ⟨y0, y1, y2, y3, g0, g1, g2, g3⟩ := set_cells z4)
              | (go_at_call 33; refine (HH.out _).mono ?_; rintro e w5 ⟨rfl, hB5⟩; have s5 := blk_below' hB5 s4; have z5 := blk_below' hB5 z4; have hb5 := below_then hb4 hB5; obtain ⟨q0, q1, q2, q3, f0, f1, f2, f3⟩ := set_cells s5; obtain ⟨y0, y1, y2, y3, g0, g1, g2, g3⟩ := set_cells z5)
              | (go_at_call 34; refine (HW.out _).mono ?_; rintro e w6 ⟨rfl, hB6⟩; have s6 := blk_below' hB6 s5; have z6 := blk_below' hB6 z5; have hb6 := below_then hb5 hB6; obtain ⟨q0, q1, q2, q3, f0, f1, f2, f3⟩ := set_cells s6; obtain ⟨y0, y1, y2, y3, g0, g1, g2, g3⟩ := set_cells z6; unfold setC))
          have r6 := blk_below' hB6 (blk_below' hB5 (blk_drewN r1 nq))
          have R6 := ((hR1.below (W' := wr.drewN nq) ⟨rfl, rfl, rfl, Nat.le_refl _, fun _ _ => rfl⟩).below hB5).below hB6
          exact ⟨⟨pos + wd s pos, x2, a + 1, by go_num, by go_num, set4_old r6 x2 (by omega), set4_old z6 x2 (by omega), set4_blk s6 x2, R6.set4 s6 x2, HE.out, hnew, by omega, by omega, set4_below hb6 x2 (by omega)⟩, by simp [intOf]; omega⟩
    · obtain ⟨q0, q1, q2, q3, f0, f1, f2, f3⟩ := set_cells s1
      obtain ⟨y0, y1, y2, y3, g0, g1, g2, g3⟩ := set_cells z1
      go_wp2
      refine bodyPost_ret (v := .tuple #[.agg (setC x), .int .i64 ((0 : Nat) : Int), .int .i64 0]) (by unfold setC; simp [results, Try.results22, go_sem, y0, y1, y2, y3]) rfl ?_
      have hh := hk.out
      rw [st_nil hp, paGo] at hh
      exact PaP.mk hh ((((hb1.setCell (by simp) _).setCell (by simp) _).setCell (by simp) _).setCell (by simp) _)
end Go.Proofs.Ythbejpgeohhppaa
