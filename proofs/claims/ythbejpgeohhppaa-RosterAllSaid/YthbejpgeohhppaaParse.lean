/- Walk: roster.Roster.Parse. -/
import Derived.Test.YthbejpgeohhppaaPa
import Derived.Test.YthbejpgeohhppaaEach
namespace Go.Proofs.Ythbejpgeohhppaa
set_option linter.unusedVariables false
set_option linter.unusedSimpArgs false
open Go.RowKit Go.Maps

/-- A set that is written into a variable, cell by cell. -/
def set4 (W : World) (b y : Nat) : World := (((W.setCell ⟨b, 0, none⟩ (.int .u32 (sw y 0 : Nat))).setCell ⟨b, 1, none⟩ (.int .u32 (sw y 1 : Nat))).setCell ⟨b, 2, none⟩ (.int .u32 (sw y 2 : Nat))).setCell ⟨b, 3, none⟩ (.int .u32 (sw y 3 : Nat))
theorem set4_blk {W : World} {b x : Nat} {T : TypeId} (h : W.heap[b]? = some (.cells (setC x) T (0, 0))) (y : Nat) : (set4 W b y).heap[b]? = some (.cells (setC y) T (0, 0)) := by
  have := blk_store (blk_store (blk_store (blk_store h 0 (.int .u32 (sw y 0 : Nat))) 1 (.int .u32 (sw y 1 : Nat))) 2 (.int .u32 (sw y 2 : Nat))) 3 (.int .u32 (sw y 3 : Nat))
  simpa [setC, set4] using this
theorem set4_old {W : World} {b k : Nat} {o : Obj} (h : W.heap[k]? = some o) (y : Nat) (hne : k ≠ b) : (set4 W b y).heap[k]? = some o :=
  blk_set (blk_set (blk_set (blk_set h _ _ hne) _ _ hne) _ _ hne) _ _ hne
theorem set4_below {B : Nat} {w0 W : World} {b : Nat} (h : Below B w0 W) (y : Nat) (hb : B ≤ b) : Below B w0 (set4 W b y) := (((h.setCell hb _).setCell hb _).setCell hb _).setCell hb _
theorem RostAt.set {W : World} {B : Nat} {v : Value} {o : Option (List Nat)} (h : RostAt W B v o) {p : Addr} {cs : Array Value} {T : TypeId} (hb : W.heap[p.block]? = some (.cells cs T (0, 0))) (hT : T ≠ 21) (u : Value) : RostAt (W.setCell p u) B v o := by
  cases o with
  | none => exact h
  | some l =>
    obtain ⟨sv, b, D, rfl, h1, ⟨h2, h3⟩, h4⟩ := h
    refine ⟨sv, b, D, rfl, h1.kept (grownBy_set W p u) ?_, ⟨h2.setCell ?_ u, h3⟩, h4⟩
    · rcases h1.2 with ⟨h, _⟩ | ⟨g, cap, cur, rfl, _, hh, _⟩
      · exact .inl (by rw [h]; rfl)
      · refine .inr fun e => ?_
        have : g = p.block := by simpa [Value.ownBlock] using e
        subst this
        rw [hb] at hh
        have := Option.some.inj hh
        injection this with _ h5
        exact hT h5
    · rintro rfl
      obtain ⟨es, c, hm, _⟩ := h2
      rw [hb] at hm
      cases Option.some.inj hm
theorem RostAt.set4 {W : World} {B : Nat} {v : Value} {o : Option (List Nat)} (h : RostAt W B v o) {b x : Nat} (hb : W.heap[b]? = some (.cells (setC x) 47 (0, 0))) (y : Nat) : RostAt (set4 W b y) B v o :=
  (((h.set (p := ⟨b, 0, none⟩) hb (by decide) _).set (p := ⟨b, 1, none⟩) (blk_store hb 0 _) (by decide) _).set (p := ⟨b, 2, none⟩) (blk_store (blk_store hb 0 _) 1 _) (by decide) _).set (p := ⟨b, 3, none⟩) (blk_store (blk_store (blk_store hb 0 _) 1 _) 2 _) (by decide) _

def PaP (l : List Nat) (s : ByteArray) (w : World) (e : Ending) (w' : World) : Prop :=
  ∃ x a err, e = .returned (.tuple #[setV x, .int .i64 (a : Nat), .int .i64 err]) ∧ parV l s = (x, a, err) ∧ Below w.heap.size w w'
theorem PaP.mk {l : List Nat} {s : ByteArray} {w w' : World} {x a : Nat} {err : Int} (h : parV l s = (x, a, err)) (hB : Below w.heap.size w w') : PaP l s w (.returned (.tuple #[.agg (setC x), .int .i64 a, .int .i64 err])) w' := ⟨x, a, err, rfl, h, hB⟩

set_option maxRecDepth 100000 in
set_option maxHeartbeats 1000000 in
theorem parse_quick (t : ByteArray) (a : Option Addr) (c : Nat) (m : Option Nat) (l : List Nat) (s : ByteArray) (w : World) (hs : s.size ≤ 9223372036854775807) (hq : 65536 < s.size ∨ s.size = 0 ∨ s = dash) :
    Calls Try.prog 21 #[.agg #[.string t, .slice a l.length c, .map m], .string s] w (PaP l s w) := by
  by_cases h1 : 65536 < s.size
  · go_enter Try.func21, Try.ntmps21
    go_wp2
    exact bodyPost_ret (v := .tuple #[.agg (setC 0), .int .i64 ((0 : Nat) : Int), .int .i64 2]) (by rw [← setC_zero]; simp [results, Try.results21, go_sem]) rfl (PaP.mk (by simp [parV, h1]) (((Below.refl _ w).alloc (Nat.le_refl _) _).alloc (by simp) _))
  by_cases h2 : s.size = 0
  · obtain rfl : s = ByteArray.empty := by
      cases s with | mk d => cases d with | mk l => simp [ByteArray.size] at h2; subst h2; rfl
    clear h1 h2 hq
    go_enter Try.func21, Try.ntmps21
    go_wp2
    exact bodyPost_ret (v := .tuple #[.agg (setC 0), .int .i64 ((0 : Nat) : Int), .int .i64 40]) (by rw [← setC_zero]; simp [results, Try.results21, go_sem]) rfl (PaP.mk (parV_empty l) (((Below.refl _ w).alloc (Nat.le_refl _) _).alloc (by simp) _))
  · obtain rfl : s = dash := by rcases hq with h | h | h <;> first | contradiction | exact h
    clear h1 h2 hq
    unfold dash
    go_enter Try.func21, Try.ntmps21
    go_wp2
    exact bodyPost_ret (v := .tuple #[.agg (setC 0), .int .i64 ((0 : Nat) : Int), .int .i64 0]) (by rw [← setC_zero]; simp [results, Try.results21, go_sem]) rfl (PaP.mk (parV_dash l) (((Below.refl _ w).alloc (Nat.le_refl _) _).alloc (by simp) _))

set_option maxRecDepth 100000 in
set_option maxHeartbeats 2000000 in
theorem parse_go (t : ByteArray) (va : Option Addr) (c : Nat) (m : Option Nat) (o : Option (List Nat)) (B : Nat) (s : ByteArray) (w : World) (h1 : 1 ≤ s.size) (h2 : s.size ≤ 65536) (h3 : s ≠ dash) (hl : (sgs o).length ≤ 100)
    (hR : RostAt w B (.agg #[.string t, .slice va (sgs o).length c, .map m]) o) :
    Calls Try.prog 21 #[.agg #[.string t, .slice va (sgs o).length c, .map m], .string s] w (PaP (sgs o) s w) := by
  have hd : (s.toList == [45]) = false := by rw [dash_iff]; simpa using h3
  have hne : (s.toList.isEmpty) = false := by
    rw [ByteArray.toList_eq]
    cases hl : s.data.toList with
    | nil => have : s.data.toList.length = s.size := by rw [Array.length_toList]; rfl
             rw [hl] at this; simp only [List.length_nil] at this; omega
    | cons _ _ => rfl
  have h3' := Lib.hid h3
  clear h3
  go_enter Try.func21, Try.ntmps21
  go_wp2
  rw [setC_zero]
  have r0 : (((w.alloc (.cells #[.string t, .slice va (sgs o).length c, .map m] 25)).alloc (.cells (setC 0) 47)).alloc (.cells (setC 0) 47)).heap[w.heap.size]? = some (.cells #[.string t, .slice va (sgs o).length c, .map m] 25 (0, 0)) := blk_old (blk_old (blk_new w _) _) _
  have z0 : (((w.alloc (.cells #[.string t, .slice va (sgs o).length c, .map m] 25)).alloc (.cells (setC 0) 47)).alloc (.cells (setC 0) 47)).heap[w.heap.size + 1]? = some (.cells (setC 0) 47 (0, 0)) := blk_old (b1 w _ _) _
  have s0 : (((w.alloc (.cells #[.string t, .slice va (sgs o).length c, .map m] 25)).alloc (.cells (setC 0) 47)).alloc (.cells (setC 0) 47)).heap[w.heap.size + 1 + 1]? = some (.cells (setC 0) 47 (0, 0)) := b2 w _ _ _
  have hR0 := ((hR.below ((Below.refl _ _).alloc (Nat.le_refl _) (.cells #[.string t, .slice va (sgs o).length c, .map m] 25))).below ((Below.refl _ _).alloc (Nat.le_refl _) (.cells (setC 0) 47))).below ((Below.refl _ _).alloc (Nat.le_refl _) (.cells (setC 0) 47))
  have hb0 : Below w.heap.size w (((w.alloc (.cells #[.string t, .slice va (sgs o).length c, .map m] 25)).alloc (.cells (setC 0) 47)).alloc (.cells (setC 0) 47)) := (((Below.refl _ w).alloc (Nat.le_refl _) _).alloc (by simp) _).alloc (by simp; omega) _
  have hz0 : (((w.alloc (.cells #[.string t, .slice va (sgs o).length c, .map m] 25)).alloc (.cells (setC 0) 47)).alloc (.cells (setC 0) 47)).heap.size = w.heap.size + 3 := by simp
  obtain ⟨W, hW⟩ : ∃ W, (((w.alloc (.cells #[.string t, .slice va (sgs o).length c, .map m] 25)).alloc (.cells (setC 0) 47)).alloc (.cells (setC 0) 47)) = W := ⟨_, rfl⟩
  rw [hW] at r0 z0 s0 hR0 hb0 hz0 ⊢
  clear hW hR
  go_loopw [8] (fun i wr => ∃ (pos x a : Nat), i = .int .i64 a ∧ wr.heap[w.heap.size + 1 + 1 + 1]? = some (.stringIter s pos) ∧ wr.heap[w.heap.size]? = some (.cells #[.string t, .slice va (sgs o).length c, .map m] 25 (0, 0)) ∧ wr.heap[w.heap.size + 1]? = some (.cells (setC 0) 47 (0, 0)) ∧ wr.heap[w.heap.size + 1 + 1]? = some (.cells (setC x) 47 (0, 0)) ∧
      RostAt wr B (.agg #[.string t, .slice va (sgs o).length c, .map m]) o ∧ Hid (parV (sgs o) s = paGo (sgs o) s (st s pos) x a) ∧ x < 2 ^ 100 ∧ pos ≤ s.size ∧ a ≤ pos ∧ Below w.heap.size w wr) (fun _ wr => s.size - wr.iterPos (w.heap.size + 1 + 1 + 1))
  case atStart =>
    refine ⟨0, 0, 0, rfl, ?_, blk_old r0 _, blk_old z0 _, blk_old s0 _, hR0.below ((Below.refl _ _).alloc (Nat.le_refl _) _), ?_, by decide, by omega, by omega, hb0.alloc (by omega) _⟩
    · have := World.iter_heap W s 0
      rwa [hz0] at this
    · show _ = _
      unfold parV
      rw [if_neg (by omega), if_neg (by omega), if_neg h3'.out]
  case round =>
    obtain ⟨pos, x, a, rfl, hit, r1, z1, s1, hR1, hk, hx, hpos, hap, hb1⟩ := hrel
    clear r0 z0 s0 hR0 hb0 hz0
    have hip := Lib.hid (iterPos_of hit)
    by_cases hp : pos < s.size
    · obtain ⟨W1, hnx, hit1, hg, hzW⟩ := next_at Try.prog hit hp
      have r1 := blk_grown hg r1 (by simp <;> omega)
      have z1 := blk_grown hg z1 (by simp <;> omega)
      have s1 := blk_grown hg s1 (by simp <;> omega)
      have hR1 := hR1.grown hg (fun l' _ j hj => by rw [hit] at hj; cases hj; exact ⟨(fun _ _ _ h => by cases h), (fun _ _ h => by cases h)⟩) (blk_lt hit)
      have hb1 := below_grown hb1 hg hb1.size (fun j hj => by cases hj; omega)
      clear hit hg
      obtain ⟨k10, k11, k12, _⟩ := three_cells r1
      have hrn := rn_bd s pos
      have hwd := wd_bd s pos hp
      have hwf : (Lit.int .i32 (rn s pos : Int)).wf = true := WalkArith.wf_i32 (by omega)
      have hgo := Lib.hid (show paGo (sgs o) s (st s pos) x a = _ by rw [st_cons hp, paGo])
      cases hf : fnd (sgs o) (rn s pos) with
      | none =>
        have HID := Lib.hid (show idV (sgs o) (rn s pos) = .tuple #[.int .i64 0, .int .i64 41] by unfold idV; rw [hf])
        have HH : True := trivial
        have HW : True := trivial
        have HF := Lib.hid hf
        clear hf
        have hE : parV (sgs o) s = (0, a, 41) := by rw [hk.out, hgo.out]; rw [HF.out]
        have HE := Lib.hid hE
        clear hE
        go_wp2_with
          (first
            | (go_at_call 19; refine (id_is _ _ _ _ hR1 _ hwf _ HID.out).mono ?_; rintro e w4 ⟨rfl, hB4⟩; have s4 := blk_below' hB4 s1; have z4 := blk_below' hB4 z1; have hb4 := below_then hb1 hB4; obtain ⟨q0, q1, q2, q3, f0, f1, f2, f3⟩ := set_cells s4; obtain ⟨y0, y1, y2, y3, g0, g1, g2, g3⟩ := set_cells z4)
            | (go_at_call 31; refine (HH.out _).mono ?_; rintro e w5 ⟨rfl, hB5⟩; have s5 := blk_below' hB5 s4; have z5 := blk_below' hB5 z4; have hb5 := below_then hb4 hB5; obtain ⟨q0, q1, q2, q3, f0, f1, f2, f3⟩ := set_cells s5; obtain ⟨y0, y1, y2, y3, g0, g1, g2, g3⟩ := set_cells z5)
            | (go_at_call 32; refine (HW.out _).mono ?_; rintro e w6 ⟨rfl, hB6⟩; have s6 := blk_below' hB6 s5; have z6 := blk_below' hB6 z5; have hb6 := below_then hb5 hB6; obtain ⟨q0, q1, q2, q3, f0, f1, f2, f3⟩ := set_cells s6; obtain ⟨y0, y1, y2, y3, g0, g1, g2, g3⟩ := set_cells z6; unfold setC))
        refine bodyPost_ret (v := .tuple #[.agg (setC 0), .int .i64 (a : Nat), .int .i64 41]) (by rw [← setC_zero]; simp [results, Try.results21, go_sem, y0, y1, y2, y3]) rfl ?_
        exact PaP.mk HE.out ((((hb4.setCell (by simp) _).setCell (by simp) _).setCell (by simp) _).setCell (by simp) _)
      | some k =>
        have hk100 := fnd_lt hf
        have HID := Lib.hid (show idV (sgs o) (rn s pos) = .tuple #[.int .i64 (k : Nat), .int .i64 0] by unfold idV; rw [hf])
        have HH := Lib.hid (fun w => has_any x k w)
        have hkb : hasB x k = x.testBit k := by unfold hasB; rw [show decide ((0 : Int) ≤ k ∧ (k : Int) < 100) = true from by simp; omega]; simp
        rw [hkb] at HH
        have HF := Lib.hid hf
        clear hf hkb
        cases ht : x.testBit k with
        | true =>
          rw [ht] at HH
          unfold setV at HH
          have HW : True := trivial
          have HT := Lib.hid ht
          clear ht
          have hE : parV (sgs o) s = (0, a, 42) := by rw [hk.out, hgo.out]; rw [HF.out]; simp only []; rw [HT.out]; rfl
          have HE := Lib.hid hE
          clear hE
          go_wp2_with
            (first
              | (go_at_call 19; refine (id_is _ _ _ _ hR1 _ hwf _ HID.out).mono ?_; rintro e w4 ⟨rfl, hB4⟩; have s4 := blk_below' hB4 s1; have z4 := blk_below' hB4 z1; have hb4 := below_then hb1 hB4; obtain ⟨q0, q1, q2, q3, f0, f1, f2, f3⟩ := set_cells s4; obtain ⟨y0, y1, y2, y3, g0, g1, g2, g3⟩ := set_cells z4)
              | (go_at_call 31; refine (HH.out _).mono ?_; rintro e w5 ⟨rfl, hB5⟩; have s5 := blk_below' hB5 s4; have z5 := blk_below' hB5 z4; have hb5 := below_then hb4 hB5; obtain ⟨q0, q1, q2, q3, f0, f1, f2, f3⟩ := set_cells s5; obtain ⟨y0, y1, y2, y3, g0, g1, g2, g3⟩ := set_cells z5)
              | (go_at_call 32; refine (HW.out _).mono ?_; rintro e w6 ⟨rfl, hB6⟩; have s6 := blk_below' hB6 s5; have z6 := blk_below' hB6 z5; have hb6 := below_then hb5 hB6; obtain ⟨q0, q1, q2, q3, f0, f1, f2, f3⟩ := set_cells s6; obtain ⟨y0, y1, y2, y3, g0, g1, g2, g3⟩ := set_cells z6; unfold setC))
          refine bodyPost_ret (v := .tuple #[.agg (setC 0), .int .i64 (a : Nat), .int .i64 42]) (by rw [← setC_zero]; simp [results, Try.results21, go_sem, y0, y1, y2, y3]) rfl ?_
          exact PaP.mk HE.out ((((hb5.setCell (by simp) _).setCell (by simp) _).setCell (by simp) _).setCell (by simp) _)
        | false =>
          rw [ht] at HH
          have HW := Lib.hid (fun w => with_yes x k (by omega) w)
          rw [Nat.mod_eq_of_lt hx] at HW
          have hnew := or_lt hx (show k < 100 by omega)
          have hE : parV (sgs o) s = paGo (sgs o) s (st s (pos + wd s pos)) (x ||| 2 ^ k) (a + 1) := by rw [hk.out, hgo.out, HF.out]; simp only []; rw [ht]; rfl
          have HE := Lib.hid hE
          clear ht hE
          generalize x ||| 2 ^ k = x2 at *
          unfold setV at HH HW
          go_wp2_with
            (first
              | (go_at_call 19; refine (id_is _ _ _ _ hR1 _ hwf _ HID.out).mono ?_; rintro e w4 ⟨rfl, hB4⟩; have s4 := blk_below' hB4 s1; have z4 := blk_below' hB4 z1; have hb4 := below_then hb1 hB4; obtain ⟨q0, q1, q2, q3, f0, f1, f2, f3⟩ := set_cells s4; obtain ⟨y0, y1, y2, y3, g0, g1, g2, g3⟩ := set_cells z4)
              | (go_at_call 31; refine (HH.out _).mono ?_; rintro e w5 ⟨rfl, hB5⟩; have s5 := blk_below' hB5 s4; have z5 := blk_below' hB5 z4; have hb5 := below_then hb4 hB5; obtain ⟨q0, q1, q2, q3, f0, f1, f2, f3⟩ := set_cells s5; obtain ⟨y0, y1, y2, y3, g0, g1, g2, g3⟩ := set_cells z5)
              | (go_at_call 32; refine (HW.out _).mono ?_; rintro e w6 ⟨rfl, hB6⟩; have s6 := blk_below' hB6 s5; have z6 := blk_below' hB6 z5; have hb6 := below_then hb5 hB6; obtain ⟨q0, q1, q2, q3, f0, f1, f2, f3⟩ := set_cells s6; obtain ⟨y0, y1, y2, y3, g0, g1, g2, g3⟩ := set_cells z6; unfold setC))
          have hz1 : w.heap.size + 1 + 1 + 1 < W1.heap.size := blk_lt hit1
          have r6 := blk_below' hB6 (blk_below' hB5 (blk_below' hB4 r1))
          have i6 := blk_below' hB6 (blk_below' hB5 (blk_below' hB4 hit1))
          have R6 := ((hR1.below hB4).below hB5).below hB6
          refine ⟨⟨pos + wd s pos, x2, a + 1, by go_num, set4_old i6 x2 (by omega), set4_old r6 x2 (by omega), set4_old z6 x2 (by omega), set4_blk s6 x2, R6.set4 s6 x2, HE.out, hnew, by omega, by omega, set4_below hb6 x2 (by omega)⟩, ?_⟩
          have := iterPos_of (set4_old i6 x2 (show w.heap.size + 1 + 1 + 1 ≠ w.heap.size + 1 + 1 by omega))
          unfold set4 at this
          rw [hip.out, this]
          omega
    · have hnx := next_end Try.prog hit hp
      obtain ⟨q0, q1, q2, q3, f0, f1, f2, f3⟩ := set_cells s1
      obtain ⟨y0, y1, y2, y3, g0, g1, g2, g3⟩ := set_cells z1
      go_wp2
      refine bodyPost_ret (v := .tuple #[.agg (setC x), .int .i64 ((0 : Nat) : Int), .int .i64 0]) (by unfold setC; simp [results, Try.results21, go_sem, y0, y1, y2, y3]) rfl ?_
      have hh := hk.out
      rw [st_nil hp, paGo] at hh
      exact PaP.mk hh ((((hb1.setCell (by simp) _).setCell (by simp) _).setCell (by simp) _).setCell (by simp) _)
end Go.Proofs.Ythbejpgeohhppaa
