/- The walk of the law SlotCut. -/
import Derived.Test.YthkppkecclnlnaaWalkTurns
namespace Go.Proofs.Ythkppkecclnlnaa
set_option linter.unusedVariables false
set_option linter.unusedSimpArgs false
open Go.RowKit

/-- The disk behind saves, with the power that may have failed at the last one. -/
structure CuS (d : Dk) (st : Option (Rc × Nat)) (i : Nat) (cut : Bool) : Prop where
  slots : SlSt d.bs st
  lt : ∀ c ∈ d.bs, c < 256
  on : d.off = cut
  seq : stSeq st ≤ i
  wr : d.writes ≤ 2 * i
  fz : d.fuse ≤ 9223372036854775807
def stRec : Option (Rc × Nat) → Rc
  | none => Rc.zero
  | some (r, _) => r
theorem cuS_step {d : Dk} {st : Option (Rc × Nat)} {i : Nat} {x y z : Int} (h : CuS d st i false) (hb : d.bs.length = 256) (hi : i ≤ 40) (hm : mayR x y z) :
    ((saveW d x y z).2 = 0 ∧ ∃ a, CuS (saveW d x y z).1 (some (⟨x.toNat, y.toNat, z.toNat, stSeq st + 1⟩, a)) (i + 1) false) ∨ ((saveW d x y z).2 = 100 ∧ CuS (saveW d x y z).1 st (i + 1) true) := by
  obtain ⟨h1, h2, h3, h4, h5, h6⟩ := h
  rcases save_law h1 hb h3 hm (by omega) with ⟨h0, hs⟩ | ⟨h0, hf⟩
  · refine .inl ⟨h0, stTo st, ⟨hs.slots, saveW_lt h2 x y z, hs.on, by show stSeq st + 1 ≤ _; omega, by rw [hs.writes]; omega, ?_⟩⟩
    cases hfu : d.fused with
    | true => rw [(hs.fz hfu).2]; omega
    | false => rw [hs.un hfu]; exact h6
  · exact .inr ⟨h0, ⟨hf.slots, saveW_lt h2 x y z, hf.off, by omega, by rw [hf.writes]; have := hf.fz; omega, by rw [hf.fuse]; decide⟩⟩
theorem loadA_st {d : Dk} {st : Option (Rc × Nat)} (h : SlSt d.bs st) (ho : d.off = false) :
    loadA d = match st with | none => .tuple #[recV 0 0 0, .int .i64 0, .int .i64 40] | some (r, _) => .tuple #[recV r.life r.round r.tag, .int .i64 r.seq, .int .i64 0] := by
  cases st with
  | none => exact loadA_none h ho
  | some p => exact loadA_some h ho
structure CuW (w : World) (s2 : Nat) (d : Dk) (st : Option (Rc × Nat)) (p q r : Int) (W : World) : Prop where
  disk : DkAt W w.heap.size d
  last : W.heap[s2]? = some (.cells #[.int .i64 ((stRec st).life : Int), .int .i64 ((stRec st).round : Int), .int .i64 ((stRec st).tag : Int)] 47 (0, 0))
  try_ : W.heap[s2 + 1]? = some (.cells #[.int .i64 p, .int .i64 q, .int .i64 r] 47 (0, 0))
  low : Below w.heap.size w W
  far : w.heap.size < s2
theorem CuW.below {w W W' : World} {s2 : Nat} {d : Dk} {st : Option (Rc × Nat)} {p q r : Int} (h : CuW w s2 d st p q r W) (hb : Below W.heap.size W W') : CuW w s2 d st p q r W' :=
  ⟨h.disk.below hb, blk_below' hb h.last, blk_below' hb h.try_, below_then h.low hb, h.far⟩
theorem CuW.turn {w W W' : World} {s2 : Nat} {d d' : Dk} {st : Option (Rc × Nat)} {p q r : Int} (h : CuW w s2 d st p q r W) (hg : W.grownBy W' (some w.heap.size)) (hd : DkAt W' w.heap.size d') : CuW w s2 d' st p q r W' :=
  ⟨hd, blk_grown hg h.last (by simp; have := h.far; omega), blk_grown hg h.try_ (by simp; have := h.far; omega), h.low.grown hg h.low.size (fun j hj => by cases hj; exact Nat.le_refl _), h.far⟩
theorem CuW.setLast {w W : World} {s2 : Nat} {d : Dk} {st st' : Option (Rc × Nat)} {p q r : Int} (h : CuW w s2 d st p q r W) :
    CuW w s2 d st' p q r (((W.setCell ⟨s2, 0, none⟩ (.int .i64 ((stRec st').life : Int))).setCell ⟨s2, 1, none⟩ (.int .i64 ((stRec st').round : Int))).setCell ⟨s2, 2, none⟩ (.int .i64 ((stRec st').tag : Int))) := by
  have hlt := blk_lt h.last
  have hf := h.far
  have hgr : W.grownBy (((W.setCell ⟨s2, 0, none⟩ (.int .i64 ((stRec st').life : Int))).setCell ⟨s2, 1, none⟩ (.int .i64 ((stRec st').round : Int))).setCell ⟨s2, 2, none⟩ (.int .i64 ((stRec st').tag : Int))) (some s2) :=
    but_set (but_set (but_set (but_refl _ _) hlt _ _) hlt _ _) hlt _ _
  exact ⟨h.disk.but hgr (by omega), blk_store (blk_store (blk_store h.last 0 _) 1 _) 2 _, blk_grown hgr h.try_ (by simp), h.low.grown hgr h.low.size (fun j hj => by cases hj; omega), hf⟩
theorem CuW.setTry {w W : World} {s2 : Nat} {d : Dk} {st : Option (Rc × Nat)} {p q r p' q' r' : Int} (h : CuW w s2 d st p q r W) :
    CuW w s2 d st p' q' r' (((W.setCell ⟨s2 + 1, 0, none⟩ (.int .i64 p')).setCell ⟨s2 + 1, 1, none⟩ (.int .i64 q')).setCell ⟨s2 + 1, 2, none⟩ (.int .i64 r')) := by
  have hlt := blk_lt h.try_
  have hf := h.far
  have hgr : W.grownBy (((W.setCell ⟨s2 + 1, 0, none⟩ (.int .i64 p')).setCell ⟨s2 + 1, 1, none⟩ (.int .i64 q')).setCell ⟨s2 + 1, 2, none⟩ (.int .i64 r')) (some (s2 + 1)) :=
    but_set (but_set (but_set (but_refl _ _) hlt _ _) hlt _ _) hlt _ _
  exact ⟨h.disk.but hgr (by omega), blk_grown hgr h.last (by simp), blk_store (blk_store (blk_store h.try_ 0 _) 1 _) 2 _, h.low.grown hgr h.low.size (fun j hj => by cases hj; omega), hf⟩
set_option maxRecDepth 100000 in
set_option maxHeartbeats 4000000 in
theorem slotCut_walk (w : World) (v : Value) (k : Int) (xs : List (List Int)) (hrow : RowsOf w 3 v xs) (hwf : ∀ x ∈ xs, ∀ y ∈ x, (Lit.int .i64 y).wf = true) (hk : (Lit.int .i64 k).wf = true) :
    Calls Try.prog 11 #[v, .int .i64 k] w fun e w' => e = .returned (.bool true) ∧ Below w.heap.size w w' := by
  have HR := Lib.hid hrow
  obtain ⟨p, cap, rfl, _, _, _⟩ := hrow
  clear hwf
  have HK := Lib.hid (show k.toNat ≤ 9223372036854775807 by
    simp only [Lit.wf, Bool.and_eq_true, decide_eq_true_eq] at hk
    have h5 : IntKind.i64.max = 9223372036854775807 := by decide
    omega)
  clear hk
  by_cases hout : 40 < xs.length
  · have b0 : (40 : Int) < (xs.length : Int) := by omega
    clear hout
    go_enter Try.func11, Try.ntmps11
    go_wp2_with (go_at_call 37; refine (alive11_any _).mono ?_; rintro e w9 ⟨rfl, hB9⟩)
    all_goals (go_ret; exact ⟨rfl, hB9⟩)
  · have b0 : ¬ (40 : Int) < (xs.length : Int) := by omega
    have HN := Lib.hid hout
    clear hout
    by_cases hk0 : k < 0
    · go_enter Try.func11, Try.ntmps11
      go_wp2_with (go_at_call 37; refine (alive11_any _).mono ?_; rintro e w9 ⟨rfl, hB9⟩)
      all_goals (go_ret; exact ⟨rfl, hB9⟩)
    · obtain ⟨K, rfl⟩ : ∃ K : Nat, k = K := ⟨k.toNat, by omega⟩
      clear hk0
      have b1 : ¬ (K : Int) < 0 := by omega
      have hD0 : (decide (0 ≤ (K : Int))) = true := by simp
      go_enter Try.func11, Try.ntmps11
      go_wp2_with (first
        | (go_at_call 21; refine (new_any _).mono ?_; rintro e w1 ⟨rfl, hD1, hB1⟩)
        | (go_at_call 22; refine (fuse_any _ _ _ _ hD1).mono ?_; rintro e w2 ⟨rfl, hD2, hg2⟩; have hb2 := hB1.grown hg2 hB1.size (fun j h => by cases h; exact Nat.le_refl _)))
      rw [hD0, Int.toNat_natCast] at hD2
      have hC0 : CuS { Dk.new with fused := true, fuse := K } none 0 false := ⟨slSt_new, tnS_new.lt, rfl, Nat.le_refl _, Nat.zero_le _, by have := HK.out; simpa using this⟩
      obtain ⟨d0, hd0⟩ : ∃ d0, ({ Dk.new with fused := true, fuse := K } : Dk) = d0 := ⟨_, rfl⟩
      have hD2 : DkAt w2 w.heap.size d0 := by rw [← hd0]; exact hD2
      rw [hd0] at hC0
      have hlt2 := hD2.lt
      have hW0 : CuW w w2.heap.size d0 none 0 0 0 ((w2.alloc (.cells #[.int .i64 0, .int .i64 0, .int .i64 0] 47)).alloc (.cells #[.int .i64 0, .int .i64 0, .int .i64 0] 47)) :=
        ⟨(hD2.below ((Below.refl _ _).alloc (Nat.le_refl _) _)).below ((Below.refl _ _).alloc (Nat.le_refl _) _), blk_old (blk_new _ _) _, b1' _ _ _, (hb2.alloc hb2.size _).alloc (by simp; have := hb2.size; omega) _, hlt2⟩
      clear hd0 hD1 hB1 hg2 hD2 hb2
      go_loopw [8, 9, 10] (fun sv cv iv wr => ∃ (i : Nat) (cut : Bool) (d : Dk) (st : Option (Rc × Nat)) (p q r : Int), iv = .int .i64 i ∧ i ≤ xs.length ∧ cv = .bool cut ∧ sv = .bool st.isSome ∧ CuS d st i cut ∧ CuW w w2.heap.size d st p q r wr) (fun _ _ iv _ => xs.length - (intOf iv).toNat)
      case atStart => exact ⟨0, false, d0, none, 0, 0, 0, rfl, by omega, rfl, rfl, hC0, hW0⟩
      case round =>
        obtain ⟨i, cut, d, st, p', q', r', rfl, hi, rfl, rfl, hC, hW⟩ := hrel
        clear hC0 hW0
        cases cut with
        | true =>
          by_cases hlt : i < xs.length
          · have i1 : (i : Int) < (xs.length : Int) := by omega
            have hl := loadA_st (d := { d with off := false }) (st := st) hC.slots rfl
            have HLT := Lib.hid hC.lt
            cases st with
            | none =>
              simp only at hl
              unfold recV at hl
              have HL := Lib.hid hl
              clear hl
              go_wp2_with fail
              refine (restore_any _ d _ hW.disk).mono ?_
              rintro e w3 ⟨rfl, hD3, hg3⟩
              have hW3 := hW.turn hg3 hD3
              go_wp2_with fail
              refine (load_any _ _ w3 hW3.disk HLT.out).mono ?_
              rintro e w4 ⟨rfl, hB4⟩
              rw [HL.out]
              have hW4 := hW3.below hB4
              have hW5 := hW4.below ((Below.refl _ w4).alloc (Nat.le_refl _) (.cells #[.int .i64 0, .int .i64 0, .int .i64 0] 47))
              go_wp2_with fail
              refine (alive11_any _).mono ?_
              rintro e w6 ⟨rfl, hB6⟩
              have hW6 := hW5.below hB6
              go_wp2_with fail
              go_ret
              exact ⟨rfl, hW6.low⟩
            | some s =>
              obtain ⟨r, a⟩ := s
              simp only at hl
              unfold recV at hl
              have HL := Lib.hid hl
              clear hl
              go_wp2_with fail
              refine (restore_any _ d _ hW.disk).mono ?_
              rintro e w3 ⟨rfl, hD3, hg3⟩
              have hW3 := hW.turn hg3 hD3
              go_wp2_with fail
              refine (load_any _ _ w3 hW3.disk HLT.out).mono ?_
              rintro e w4 ⟨rfl, hB4⟩
              rw [HL.out]
              have hW4 := hW3.below hB4
              have hW5 := hW4.below ((Below.refl _ w4).alloc (Nat.le_refl _) (.cells #[.int .i64 (r.life : Int), .int .i64 (r.round : Int), .int .i64 (r.tag : Int)] 47))
              have hn5 := box3 w4 (.int .i64 (r.life : Int)) (.int .i64 (r.round : Int)) (.int .i64 (r.tag : Int)) 47
              obtain ⟨W5, hWW⟩ : ∃ W5, w4.alloc (.cells #[.int .i64 (r.life : Int), .int .i64 (r.round : Int), .int .i64 (r.tag : Int)] 47) = W5 := ⟨_, rfl⟩
              rw [hWW] at hW5 hn5
              go_wp2_with fail
              (try rw [hWW])
              refine (alive11_any _).mono ?_
              rintro e w6 ⟨rfl, hB6⟩
              have hW6 := hW5.below hB6
              obtain ⟨x0, x1, x2, _⟩ := blk3 (blk_below' hB6 hn5)
              obtain ⟨y0, y1, y2, _⟩ := blk3 hW6.last
              simp only [stRec] at y0 y1 y2
              obtain ⟨z0, z1, z2, _⟩ := blk3 hW6.try_
              have HLO := Lib.hid hW6.low
              clear hWW hW hW3 hW4 hW5 hW6 hn5 hB6
              go_wp2_with fail
              go_ret
              exact ⟨rfl, HLO.out⟩
          · have i1 : ¬ (i : Int) < (xs.length : Int) := by omega
            have hl := loadA_st (d := { d with off := false }) (st := st) hC.slots rfl
            have HLT := Lib.hid hC.lt
            cases st with
            | none =>
              simp only at hl
              unfold recV at hl
              have HL := Lib.hid hl
              clear hl
              go_wp2_with fail
              refine (restore_any _ d _ hW.disk).mono ?_
              rintro e w3 ⟨rfl, hD3, hg3⟩
              have hW3 := hW.turn hg3 hD3
              go_wp2_with fail
              refine (load_any _ _ w3 hW3.disk HLT.out).mono ?_
              rintro e w4 ⟨rfl, hB4⟩
              rw [HL.out]
              have hW4 := hW3.below hB4
              have hW5 := hW4.below ((Below.refl _ w4).alloc (Nat.le_refl _) (.cells #[.int .i64 0, .int .i64 0, .int .i64 0] 47))
              go_wp2_with fail
              refine (alive11_any _).mono ?_
              rintro e w6 ⟨rfl, hB6⟩
              have hW6 := hW5.below hB6
              go_wp2_with fail
              go_ret
              exact ⟨rfl, hW6.low⟩
            | some s =>
              obtain ⟨r, a⟩ := s
              simp only at hl
              unfold recV at hl
              have HL := Lib.hid hl
              clear hl
              go_wp2_with fail
              refine (restore_any _ d _ hW.disk).mono ?_
              rintro e w3 ⟨rfl, hD3, hg3⟩
              have hW3 := hW.turn hg3 hD3
              go_wp2_with fail
              refine (load_any _ _ w3 hW3.disk HLT.out).mono ?_
              rintro e w4 ⟨rfl, hB4⟩
              rw [HL.out]
              have hW4 := hW3.below hB4
              have hW5 := hW4.below ((Below.refl _ w4).alloc (Nat.le_refl _) (.cells #[.int .i64 (r.life : Int), .int .i64 (r.round : Int), .int .i64 (r.tag : Int)] 47))
              have hn5 := box3 w4 (.int .i64 (r.life : Int)) (.int .i64 (r.round : Int)) (.int .i64 (r.tag : Int)) 47
              obtain ⟨W5, hWW⟩ : ∃ W5, w4.alloc (.cells #[.int .i64 (r.life : Int), .int .i64 (r.round : Int), .int .i64 (r.tag : Int)] 47) = W5 := ⟨_, rfl⟩
              rw [hWW] at hW5 hn5
              go_wp2_with fail
              (try rw [hWW])
              refine (alive11_any _).mono ?_
              rintro e w6 ⟨rfl, hB6⟩
              have hW6 := hW5.below hB6
              obtain ⟨x0, x1, x2, _⟩ := blk3 (blk_below' hB6 hn5)
              obtain ⟨y0, y1, y2, _⟩ := blk3 hW6.last
              simp only [stRec] at y0 y1 y2
              obtain ⟨z0, z1, z2, _⟩ := blk3 hW6.try_
              have HLO := Lib.hid hW6.low
              clear hWW hW hW3 hW4 hW5 hW6 hn5 hB6
              go_wp2_with fail
              go_ret
              exact ⟨rfl, HLO.out⟩
        | false =>
          by_cases hlt : i < xs.length
          · obtain ⟨a, c, e0, g, o, cap', hx, hv, r0, r1, r2⟩ := rows3 HR.out hlt
            injection hv with hv1 hv2 hv3
            subst hv1 hv3
            have i1 : (i : Int) < (xs.length : Int) := by omega
            have i2 : (0 : Int) ≤ (i : Int) := by omega
            have i3 : (i : Int).toNat = i := Int.toNat_natCast i
            have hgb : ¬ g = w.heap.size := by have := cell_lt r0; simp at this; omega
            have r0 := (hW.low.cell (cell_lt r0)).trans r0
            have r1 := (hW.low.cell (cell_lt r1)).trans r1
            have r2 := (hW.low.cell (cell_lt r2)).trans r2
            have HSV := Lib.hid (save_any w.heap.size d a c e0 wr hW.disk hC.lt (by have := hC.wr; have := HN.out; omega) hC.fz)
            unfold recV at HSV
            by_cases hm : mayR a c e0
            · have hst := cuS_step hC hW.disk.2 (by have := HN.out; omega) hm
              obtain ⟨D, hDe⟩ : ∃ D, saveW d a c e0 = D := ⟨_, rfl⟩
              rw [hDe] at hst HSV
              obtain ⟨d', er⟩ := D
              simp only at hst HSV
              have HMR := Lib.hid hm
              rcases hst with ⟨h0, ac, hC'⟩ | ⟨h0, hC'⟩
              · subst h0
                have HC := Lib.hid hC'
                clear hC hC' hm hDe
                go_wp2_with fail
                refine HSV.out.mono ?_
                rintro e w3 ⟨rfl, hD3, hg3⟩
                have hW3 := hW.turn hg3 hD3
                have cb : ∀ (o : Nat) (x : Value), wr.cell? ⟨g, o, none⟩ = some x → w3.cell? ⟨g, o, none⟩ = some x := cell_but hg3 hgb
                have r0 := cb _ _ r0
                have r1 := cb _ _ r1
                have r2 := cb _ _ r2
                obtain ⟨y0, y1, y2, f0, f1, f2⟩ := blk3 hW3.last
                have HW3 := Lib.hid hW3
                clear cb hg3 hD3 hW3 hW HSV
                go_wp2_with fail
                go_roundw
                case rel =>
                  refine ⟨i + 1, false, d', _, p', q', r', by go_num, by omega, rfl, by rfl, HC.out, ?_⟩
                  have hm := HMR.out
                  have := HW3.out.setLast (st' := some (⟨a.toNat, c.toNat, e0.toNat, stSeq st + 1⟩, ac))
                  obtain ⟨m1, m2, m3, m4, m5, m6⟩ := hm
                  simp only [stRec] at this
                  rw [Int.toNat_of_nonneg (by omega), Int.toNat_of_nonneg (by omega), Int.toNat_of_nonneg (by omega)] at this
                  exact this
                case measure => simp [intOf]; omega
              · subst h0
                have HC := Lib.hid hC'
                clear hC hC' hm hDe
                go_wp2_with fail
                refine HSV.out.mono ?_
                rintro e w3 ⟨rfl, hD3, hg3⟩
                have hW3 := hW.turn hg3 hD3
                have cb : ∀ (o : Nat) (x : Value), wr.cell? ⟨g, o, none⟩ = some x → w3.cell? ⟨g, o, none⟩ = some x := cell_but hg3 hgb
                have r0 := cb _ _ r0
                have r1 := cb _ _ r1
                have r2 := cb _ _ r2
                obtain ⟨y0, y1, y2, f0, f1, f2⟩ := blk3 hW3.try_
                have HW3 := Lib.hid hW3
                clear cb hg3 hD3 hW3 hW HSV
                go_wp2_with fail
                go_roundw
                case rel => exact ⟨i + 1, true, d', st, a, c, e0, by go_num, by omega, rfl, rfl, HC.out, HW3.out.setTry⟩
                case measure => simp [intOf]; omega
            · rw [saveW_arg hm] at HSV
              simp only at HSV
              clear hm
              have HC := Lib.hid hC
              clear hC
              go_wp2_with fail
              refine HSV.out.mono ?_
              rintro e w3 ⟨rfl, hD3, hg3⟩
              have HW3 := Lib.hid (hW.turn hg3 hD3)
              clear hg3 hD3 hW HSV r0 r1 r2
              go_wp2_with fail
              go_roundw
              case rel => exact ⟨i + 1, false, d, st, p', q', r', by go_num, by omega, rfl, rfl, ⟨HC.out.slots, HC.out.lt, HC.out.on, by have := HC.out.seq; omega, by have := HC.out.wr; omega, HC.out.fz⟩, HW3.out⟩
              case measure => simp [intOf]; omega
          · have i1 : ¬ (i : Int) < (xs.length : Int) := by omega
            have hl := loadA_st (d := { d with off := false }) (st := st) hC.slots rfl
            have HLT := Lib.hid hC.lt
            cases st with
            | none =>
              simp only at hl
              unfold recV at hl
              have HL := Lib.hid hl
              clear hl
              go_wp2_with fail
              refine (restore_any _ d _ hW.disk).mono ?_
              rintro e w3 ⟨rfl, hD3, hg3⟩
              have hW3 := hW.turn hg3 hD3
              go_wp2_with fail
              refine (load_any _ _ w3 hW3.disk HLT.out).mono ?_
              rintro e w4 ⟨rfl, hB4⟩
              rw [HL.out]
              have hW4 := hW3.below hB4
              have hW5 := hW4.below ((Below.refl _ w4).alloc (Nat.le_refl _) (.cells #[.int .i64 0, .int .i64 0, .int .i64 0] 47))
              go_wp2_with fail
              refine (alive11_any _).mono ?_
              rintro e w6 ⟨rfl, hB6⟩
              have hW6 := hW5.below hB6
              go_wp2_with fail
              go_ret
              exact ⟨rfl, hW6.low⟩
            | some s =>
              obtain ⟨r, a⟩ := s
              simp only at hl
              unfold recV at hl
              have HL := Lib.hid hl
              clear hl
              go_wp2_with fail
              refine (restore_any _ d _ hW.disk).mono ?_
              rintro e w3 ⟨rfl, hD3, hg3⟩
              have hW3 := hW.turn hg3 hD3
              go_wp2_with fail
              refine (load_any _ _ w3 hW3.disk HLT.out).mono ?_
              rintro e w4 ⟨rfl, hB4⟩
              rw [HL.out]
              have hW4 := hW3.below hB4
              have hW5 := hW4.below ((Below.refl _ w4).alloc (Nat.le_refl _) (.cells #[.int .i64 (r.life : Int), .int .i64 (r.round : Int), .int .i64 (r.tag : Int)] 47))
              have hn5 := box3 w4 (.int .i64 (r.life : Int)) (.int .i64 (r.round : Int)) (.int .i64 (r.tag : Int)) 47
              obtain ⟨W5, hWW⟩ : ∃ W5, w4.alloc (.cells #[.int .i64 (r.life : Int), .int .i64 (r.round : Int), .int .i64 (r.tag : Int)] 47) = W5 := ⟨_, rfl⟩
              rw [hWW] at hW5 hn5
              go_wp2_with fail
              (try rw [hWW])
              refine (alive11_any _).mono ?_
              rintro e w6 ⟨rfl, hB6⟩
              have hW6 := hW5.below hB6
              obtain ⟨x0, x1, x2, _⟩ := blk3 (blk_below' hB6 hn5)
              obtain ⟨y0, y1, y2, _⟩ := blk3 hW6.last
              simp only [stRec] at y0 y1 y2
              obtain ⟨z0, z1, z2, _⟩ := blk3 hW6.try_
              have HLO := Lib.hid hW6.low
              clear hWW hW hW3 hW4 hW5 hW6 hn5 hB6
              go_wp2_with fail
              go_ret
              exact ⟨rfl, HLO.out⟩
end Go.Proofs.Ythkppkecclnlnaa
