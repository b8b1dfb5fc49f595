/- The walk of lives. -/
import Derived.Test.YthkppkecclnlnaaLook
import Derived.Test.YthkppkecclnlnaaFloat
namespace Go.Proofs.Ythkppkecclnlnaa
set_option linter.unusedVariables false
set_option linter.unusedSimpArgs false
open Go.RowKit

/-- Between two lives. -/
structure Btw (d : Dk) (st : Option (Rc × Nat)) (i round tag : Nat) : Prop where
  disk : CuS d st (200 * i) d.off
  life : (stRec st).life ≤ i
  rnd : round ≤ (stRec st).round
  tg : tag ≤ (stRec st).tag
theorem btw_of_life {B : Bt} {d : Dk} {n i round tag : Nat} (h : LifeI B d n) (hn : n ≤ 200 * i) (hl : B.life ≤ i) (hr : round ≤ B.round) (ht : tag ≤ B.tag) : ∃ st, Btw d st i round tag := by
  obtain ⟨⟨s, a, hc⟩, h2, h3⟩ := h
  exact ⟨_, hc.more hn, hl, Nat.le_trans hr h2, Nat.le_trans ht h3⟩
theorem Chg.cell {w x : World} {b c g o : Nat} {v : Value} (h : Chg w x b c) (hc : w.cell? ⟨g, o, none⟩ = some v) (h1 : g ≠ b) (h2 : g ≠ c) : x.cell? ⟨g, o, none⟩ = some v := by
  have hk := h.block g (cell_lt hc) h1 h2
  unfold World.cell? at hc ⊢
  rw [hk]; exact hc
theorem cell_grown {w x : World} {c g o : Nat} {v : Value} (h : w.grownBy x (some c)) (hc : w.cell? ⟨g, o, none⟩ = some v) (h1 : ¬ g = c) : x.cell? ⟨g, o, none⟩ = some v := cell_but h h1 o v hc
/-- What is known within a life. -/
structure Wit (w : World) (b g o : Nat) (fu ro ra : Int) (B : Bt) (d : Dk) (n round tag : Nat) (W : World) : Prop where
  boot : BtAt W b w.heap.size B d
  life : LifeI B d n
  rnd : round ≤ B.round
  tg : tag ≤ B.tag
  r1 : W.cell? ⟨g, o + 1, none⟩ = some (.int .i64 ro)
  r2 : W.cell? ⟨g, o + 2, none⟩ = some (.int .i64 ra)
  low : Below w.heap.size w W
  far : w.heap.size < b
  near : g < w.heap.size
theorem Wit.below {w W W' : World} {b g o : Nat} {fu ro ra : Int} {B : Bt} {d : Dk} {n round tag : Nat} (h : Wit w b g o fu ro ra B d n round tag W) (hb : Below W.heap.size W W') : Wit w b g o fu ro ra B d n round tag W' :=
  ⟨h.boot.below hb, h.life, h.rnd, h.tg, (hb.cell (cell_lt h.r1)).trans h.r1, (hb.cell (cell_lt h.r2)).trans h.r2, below_then h.low hb, h.far, h.near⟩
theorem Wit.turn {w W W' : World} {b g o : Nat} {fu ro ra : Int} {B B' : Bt} {d d' : Dk} {n n' round round' tag tag' : Nat} (h : Wit w b g o fu ro ra B d n round tag W) (hc : Chg W W' b w.heap.size) (hB : BtAt W' b w.heap.size B' d') (hL : LifeI B' d' n') (hr : round' ≤ B'.round) (ht : tag' ≤ B'.tag) :
    Wit w b g o fu ro ra B' d' n' round' tag' W' :=
  ⟨hB, hL, hr, ht, hc.cell h.r1 (by have := h.far; have := h.near; omega) (by have := h.near; omega), hc.cell h.r2 (by have := h.far; have := h.near; omega) (by have := h.near; omega), Below.chg h.low hc h.low.size (Nat.le_of_lt h.far) (Nat.le_refl _), h.far, h.near⟩
theorem Wit.drewN {w W : World} {b g o : Nat} {fu ro ra : Int} {B : Bt} {d : Dk} {n round tag : Nat} (h : Wit w b g o fu ro ra B d n round tag W) (m : Nat) : Wit w b g o fu ro ra B d n round tag (W.drewN m) :=
  ⟨⟨h.boot.boot, h.boot.disk, h.boot.ne⟩, h.life, h.rnd, h.tg, h.r1, h.r2, below_drewN h.low m, h.far, h.near⟩
theorem Wit.drew {w W : World} {b g o : Nat} {fu ro ra : Int} {B : Bt} {d : Dk} {n round tag : Nat} (h : Wit w b g o fu ro ra B d n round tag W) : Wit w b g o fu ro ra B d n round tag W.drew := h.drewN 1
theorem Wit.tagUp {w W : World} {b g o : Nat} {fu ro ra : Int} {B : Bt} {d : Dk} {n round tag : Nat} (h : Wit w b g o fu ro ra B d n round tag W) : Wit w b g o fu ro ra B d n round B.tag W := ⟨h.boot, h.life, h.rnd, Nat.le_refl _, h.r1, h.r2, h.low, h.far, h.near⟩
structure RowS (g o : Nat) (ra : Int) (W : World) : Prop where
  r2 : W.cell? ⟨g, o + 2, none⟩ = some (.int .i64 ra)
set_option maxRecDepth 100000 in
set_option maxHeartbeats 10000000 in
theorem lives_any (what : Int) (w : World) (v : Value) (xs : List (List Int)) (hrow : RowsOf w 3 v xs) (hwf : ∀ x ∈ xs, ∀ y ∈ x, (Lit.int .i64 y).wf = true) (hlen : xs.length ≤ 30) :
    Calls Try.prog 56 #[v, .int .i64 what] w fun e w' => e = .returned (.bool true) ∧ Below w.heap.size w w' := by
  have HR := Lib.hid hrow
  have HWF := Lib.hid hwf
  obtain ⟨p, cap, rfl, _, _, _⟩ := hrow
  have HN := Lib.hid hlen
  clear hwf hlen
  go_enter Try.func56, Try.ntmps56
  go_wp2_with fail
  refine (new_any _).mono ?_
  rintro e w1 ⟨rfl, hD1, hB1⟩
  go_wp2_with fail
  go_loopw [6, 7, 8] (fun rv tv iv wr => ∃ (i round tag : Nat) (d : Dk) (st : Option (Rc × Nat)), iv = .int .i64 i ∧ i ≤ xs.length ∧ rv = .int .i64 (round : Int) ∧ tv = .int .i64 (tag : Int) ∧ Btw d st i round tag ∧ DkAt wr w.heap.size d ∧ Below w.heap.size w wr) (fun _ _ iv _ => xs.length - (intOf iv).toNat)
  case atStart => exact ⟨0, 0, 0, Dk.new, none, rfl, by omega, rfl, rfl, ⟨⟨slSt_new, tnS_new.lt, rfl, Nat.le_refl _, Nat.le_refl _, Nat.zero_le _⟩, Nat.le_refl _, Nat.le_refl _, Nat.le_refl _⟩, hD1, hB1⟩
  case round =>
    obtain ⟨i, round, tag, d, st, rfl, hi, rfl, rfl, hW, hD, hb⟩ := hrel
    clear hD1 hB1
    by_cases hlt : i < xs.length
    · obtain ⟨fu, ro, ra, g, o, cap', hx, hv, r0, r1, r2⟩ := rows3 HR.out hlt
      injection hv with hv1 hv2 hv3
      subst hv1 hv3
      have i1 : (i : Int) < (xs.length : Int) := by omega
      have i2 : (0 : Int) ≤ (i : Int) := by omega
      have i3 : (i : Int).toNat = i := Int.toNat_natCast i
      have hgn : g < w.heap.size := cell_lt r0
      have r0 := (hb.cell hgn).trans r0
      have r1 := (hb.cell hgn).trans r1
      have r2 := (hb.cell hgn).trans r2
      have hfz : fu.toNat ≤ 9223372036854775807 := by
        have := HWF.out _ (List.mem_of_getElem? hx) fu (by simp)
        simp only [Lit.wf, Bool.and_eq_true, decide_eq_true_eq] at this
        have h5 : IntKind.i64.max = 9223372036854775807 := by decide
        omega
      have hrw : ro ≤ 9223372036854775807 := by
        have := HWF.out _ (List.mem_of_getElem? hx) ro (by simp)
        simp only [Lit.wf, Bool.and_eq_true, decide_eq_true_eq] at this
        have h5 : IntKind.i64.max = 9223372036854775807 := by decide
        omega
      clear hx
      go_wp2_with fail
      refine (restore_any _ d _ hD).mono ?_
      rintro e w2 ⟨rfl, hD2, hg2⟩
      have hb2 := hb.grown hg2 hb.size (fun j h => by cases h; exact Nat.le_refl _)
      have r0 := cell_grown hg2 r0 (by omega)
      have r1 := cell_grown hg2 r1 (by omega)
      have r2 := cell_grown hg2 r2 (by omega)
      go_wp2_with fail
      refine (fuse_any _ _ fu _ hD2).mono ?_
      rintro e w3 ⟨rfl, hD3, hg3⟩
      have hb3 := hb2.grown hg3 hb2.size (fun j h => by cases h; exact Nat.le_refl _)
      have r1 := cell_grown hg3 r1 (by omega)
      have r2 := cell_grown hg3 r2 (by omega)
      obtain ⟨d3, hd3⟩ : ∃ d3 : Dk, d3 = ⟨d.bs, false, decide (0 ≤ fu), fu.toNat, d.writes⟩ := ⟨_, rfl⟩
      have hD3 : DkAt w3 w.heap.size d3 := by rw [hd3]; exact hD3
      have hC3 : CuS d3 st (200 * i) d3.off := by rw [hd3]; exact ⟨hW.disk.slots, hW.disk.lt, rfl, hW.disk.seq, hW.disk.wr, hfz⟩
      have hHN := HN.out
      have HW := Lib.hid hW
      have hlf : (stRec st).life < 1073741824 := by have := HW.out.life; omega
      clear hd3 hg3 hg2 hD2 hD hb hb2 hW r0 hfz
      go_wp2_with fail
      refine (open_sum _ d3 st (200 * i) w3 hD3 hC3 (by omega) hlf).mono ?_
      rintro e w4 (⟨b, B, d4, rfl, hbw, hT4, hL4, hr4, ht4, hl4, hg4⟩ | ⟨d4, rfl, hD4, hC4, hg4⟩)
      · have hb4 := hb3.grown hg4 hb3.size (fun j h => by cases h; exact Nat.le_refl _)
        have hWi : Wit w b g (o + i * 3) fu ro ra B d4 (200 * i + 1 + 3 * 0) round tag w4 := ⟨hT4, hL4, by rw [hr4]; exact HW.out.rnd, by rw [ht4]; exact HW.out.tg, cell_grown hg4 r1 (by omega), cell_grown hg4 r2 (by omega), hb4, by have := hD3.lt; omega, hgn⟩
        have HLB := Lib.hid (show B.life ≤ i + 1 by have := HW.out.life; omega)
        clear hT4 hL4 hr4 ht4 hl4 hg4 hb4 hD3 hC3 hb3 r1 r2 HW hbw hlf
        go_wp2_with fail
        refine (look_any what b _ B d4 _ round tag w4 hWi.boot hWi.life hWi.rnd hWi.tg).mono ?_
        rintro e w5 ⟨rfl, hB5⟩
        have hWi := hWi.below hB5
        go_wp2_with fail
        refine (tag_eq b B _ w5 hWi.boot.boot).mono ?_
        rintro e w6 ⟨rfl, rfl⟩
        have hmx : (if (tag : Int) < (B.tag : Int) then (B.tag : Int) else (tag : Int)) = (B.tag : Int) := by have := hWi.tg; split <;> omega
        have hmx2 : (if tag < B.tag then (B.tag : Int) else (tag : Int)) = (B.tag : Int) := by have := hWi.tg; split <;> omega
        have hWi := hWi.tagUp
        go_wp2_with fail
        clear hmx hmx2 hB5
        go_loopw [6, 7, 11] (fun rv tv kv wr2 => ∃ (k n2 round tag : Nat) (B2 : Bt) (d2 : Dk), kv = .int .i64 k ∧ k ≤ 60 ∧ n2 ≤ 200 * i + 1 + 3 * k ∧ rv = .int .i64 (round : Int) ∧ tv = .int .i64 (tag : Int) ∧ Wit w b g (o + i * 3) fu ro ra B2 d2 n2 round tag wr2 ∧ B2.life = B.life) (fun _ _ kv _ => 60 - (intOf kv).toNat)
        case atStart => exact ⟨0, _, round, B.tag, B, d4, rfl, by omega, Nat.le_refl _, rfl, rfl, hWi, rfl⟩
        case round =>
          obtain ⟨k, n2, round, tag, B2, d2, rfl, hk, hn2, rfl, rfl, hW2, hl2⟩ := hrel
          clear hWi
          have x1 := hW2.r1
          have x2 := hW2.r2
          have k2 : (0 : Int) ≤ (k : Int) := by omega
          have k3 : (k : Int).toNat = k := Int.toNat_natCast k
          by_cases hc : (k : Int) < ro ∧ k < 60
          · obtain ⟨hc1, hc2⟩ := hc
            have hc3 : (k : Int) < 60 := by omega
            go_wp2_with fail
            refine (next_sum b _ B2 d2 n2 _ hW2.boot hW2.life (by omega)).mono ?_
            rintro e w7 ⟨rv, er, B3, d3, rfl, hNR, hL3, hT3, hC3⟩
            by_cases her : er = 0
            · subst her
              obtain ⟨hrv, hB3⟩ := hNR.ok rfl
              subst hrv
              obtain ⟨R, hR⟩ : ∃ R, B2.round + 1 = R := ⟨_, rfl⟩
              rw [hR] at hB3 ⊢
              have hRr : decide ((R : Int) ≤ (round : Int)) = false := by have := hW2.rnd; simp; omega
              have hRr2 : ¬ R ≤ round := by have := hW2.rnd; omega
              have hW3 := hW2.turn hC3 hT3 hL3 (round' := R) (tag' := tag) (by omega) (by rw [hNR.tag]; exact hW2.tg)
              have HLF := Lib.hid (show B3.life = B.life by rw [hNR.life]; exact hl2)
              have HN2 := Lib.hid hn2
              clear hW2 hC3 hT3 hL3 hNR hl2 x1 x2 hB3 hR hn2
              have x1 := hW3.r1
              have x2 := hW3.r2
              by_cases hra : 0 < ra
              · by_cases hk3 : k % 3 = 0
                · have hm : Int.tmod (k : Int) 3 = 0 := by rw [Int.tmod_eq_emod_of_nonneg (by omega)]; omega
                  have hd1 : decide ((0 : Int) < ra) = true := by simpa using hra
                  obtain ⟨m, hm9, hmv⟩ : ∃ m : Nat, m < 9 ∧ Int.tmod ra 9 = (m : Int) := ⟨(Int.tmod ra 9).toNat, by have := Int.tmod_lt_of_pos ra (b := 9) (by decide); omega, by have := Int.tmod_nonneg 9 (show 0 ≤ ra by omega); omega⟩
                  obtain ⟨t, ht⟩ : ∃ t, B3.tag + m = t := ⟨_, rfl⟩
                  have hsum : (B3.tag : Int) + (m : Int) = (t : Int) := by omega
                  have htl : (t : Int) ≤ 2000000 := by have := hW3.life.may.2.2.2; have := hW3.life.tg; omega
                  clear hk3 ht hm9
                  go_wp2_with fail
                  refine wp_region_early (RowS g (o + i * 3) ra) (fun _ => false) (by kernel_rfl) ?_
                  have hW3 := hW3.drew
                  have hSS : RowS g (o + i * 3) ra w7.drew := ⟨hW3.r2⟩
                  generalize w7.drew = w8 at *
                  simp only [List.size_toArray, List.length_cons, List.length_nil, Nat.reduceAdd, Array.replicate_succ, Array.replicate_zero, List.push_toArray, List.nil_append, List.cons_append]
                  refine wpAnyE_take (i := 0) (v := ?_) rfl (by kernel_rfl) (by kernel_rfl) (by kernel_rfl) (by kernel_rfl) (fun _ _ _ h => h) (Or.inl ⟨by rfl, ?_⟩) hSS ?_
                  rotate_left
                  · intro w hSw
                    have kc0 := hSw.r2
                    go_simp
                    all_goals with_reducible rfl
                  simp only [Act.put, List.setIfInBounds_toArray, List.set_cons_zero, List.set_cons_succ, List.getElem_toArray, List.getElem_cons_zero, List.getElem_cons_succ]
                  refine wpAnyE_take (i := 1) (v := ?_) rfl (by kernel_rfl) (by kernel_rfl) (by kernel_rfl) (by kernel_rfl) (fun _ _ _ h => h) (Or.inl ⟨by rfl, ?_⟩) hSS ?_
                  rotate_left
                  · intro w hSw
                    have kc0 := hSw.r2
                    go_simp
                    all_goals with_reducible rfl
                  simp only [Act.put, List.setIfInBounds_toArray, List.set_cons_zero, List.set_cons_succ, List.getElem_toArray, List.getElem_cons_zero, List.getElem_cons_succ]
                  refine wpAnyE_take (i := 2) (v := ?_) rfl (by kernel_rfl) (by kernel_rfl) (by kernel_rfl) (by kernel_rfl) (fun _ _ _ h => h) (Or.inl ⟨by rfl, ?_⟩) hSS ?_
                  rotate_left
                  · intro w hSw
                    have kc0 := hSw.r2
                    go_simp
                    all_goals with_reducible rfl
                  simp only [Act.put, List.setIfInBounds_toArray, List.set_cons_zero, List.set_cons_succ, List.getElem_toArray, List.getElem_cons_zero, List.getElem_cons_succ]
                  refine wpAnyE_take (i := 3) (v := ?_) rfl (by kernel_rfl) (by kernel_rfl) (by kernel_rfl) (by kernel_rfl) (fun _ _ _ h => h) (Or.inl ⟨by rfl, ?_⟩) hSS ?_
                  rotate_left
                  · intro w hSw
                    have kc0 := hSw.r2
                    go_simp
                    all_goals with_reducible rfl
                  simp only [Act.put, List.setIfInBounds_toArray, List.set_cons_zero, List.set_cons_succ, List.getElem_toArray, List.getElem_cons_zero, List.getElem_cons_succ]
                  refine wpAnyE_take (i := 4) (v := ?_) rfl (by kernel_rfl) (by kernel_rfl) (by kernel_rfl) (by kernel_rfl) (fun _ _ _ h => h) (Or.inl ⟨by rfl, ?_⟩) hSS ?_
                  rotate_left
                  · intro w hSw
                    have kc0 := hSw.r2
                    go_simp
                    all_goals with_reducible rfl
                  simp only [Act.put, List.setIfInBounds_toArray, List.set_cons_zero, List.set_cons_succ, List.getElem_toArray, List.getElem_cons_zero, List.getElem_cons_succ]
                  refine wpAnyE_take (i := 5) (v := ?_) rfl (by kernel_rfl) (by kernel_rfl) (by kernel_rfl) (by kernel_rfl) (fun _ _ _ h => h) (Or.inl ⟨by rfl, ?_⟩) hSS ?_
                  rotate_left
                  · intro w hSw
                    have kc0 := hSw.r2
                    go_simp
                    all_goals with_reducible rfl
                  simp only [Act.put, List.setIfInBounds_toArray, List.set_cons_zero, List.set_cons_succ, List.getElem_toArray, List.getElem_cons_zero, List.getElem_cons_succ]
                  refine wpAnyE_take (i := 6) (v := ?_) rfl (by kernel_rfl) (by kernel_rfl) (by kernel_rfl) (by kernel_rfl) (fun _ _ _ h => h) (Or.inl ⟨by rfl, ?_⟩) hSS ?_
                  rotate_left
                  · intro w hSw
                    have kc0 := hSw.r2
                    go_simp
                    all_goals with_reducible rfl
                  simp only [Act.put, List.setIfInBounds_toArray, List.set_cons_zero, List.set_cons_succ, List.getElem_toArray, List.getElem_cons_zero, List.getElem_cons_succ]
                  refine wpAnyE_take (i := 7) (v := ?_) rfl (by kernel_rfl) (by kernel_rfl) (by kernel_rfl) (by kernel_rfl) (fun _ _ _ h => h) (Or.inl ⟨by rfl, ?_⟩) hSS ?_
                  rotate_left
                  · intro w hSw
                    have kc0 := hSw.r2
                    go_simp
                    all_goals with_reducible rfl
                  simp only [Act.put, List.setIfInBounds_toArray, List.set_cons_zero, List.set_cons_succ, List.getElem_toArray, List.getElem_cons_zero, List.getElem_cons_succ]
                  refine wpAnyE_take (i := 8) (v := ?_) rfl (by kernel_rfl) (by kernel_rfl) (by kernel_rfl) (by kernel_rfl) (fun _ _ _ h => h) (Or.inl ⟨by rfl, ?_⟩) hSS ?_
                  rotate_left
                  · intro w hSw
                    have kc0 := hSw.r2
                    go_simp
                    all_goals with_reducible rfl
                  simp only [Act.put, List.setIfInBounds_toArray, List.set_cons_zero, List.set_cons_succ, List.getElem_toArray, List.getElem_cons_zero, List.getElem_cons_succ]
                  refine wpAnyE_take (i := 9) (v := ?_) rfl (by kernel_rfl) (by kernel_rfl) (by kernel_rfl) (by kernel_rfl) (fun _ _ _ h => h) (Or.inl ⟨by rfl, ?_⟩) hSS ?_
                  rotate_left
                  · intro w hSw
                    have kc0 := hSw.r2
                    go_simp
                    all_goals with_reducible rfl
                  simp only [Act.put, List.setIfInBounds_toArray, List.set_cons_zero, List.set_cons_succ, List.getElem_toArray, List.getElem_cons_zero, List.getElem_cons_succ]
                  refine wpAnyE_take (i := 10) (v := ?_) rfl (by kernel_rfl) (by kernel_rfl) (by kernel_rfl) (by kernel_rfl) (fun _ _ _ h => h) (Or.inl ⟨by rfl, ?_⟩) hSS ?_
                  rotate_left
                  · intro w hSw
                    have kc0 := hSw.r2
                    go_simp
                    all_goals with_reducible rfl
                  simp only [Act.put, List.setIfInBounds_toArray, List.set_cons_zero, List.set_cons_succ, List.getElem_toArray, List.getElem_cons_zero, List.getElem_cons_succ]
                  refine wpAnyE_take (i := 11) (v := ?_) rfl (by kernel_rfl) (by kernel_rfl) (by kernel_rfl) (by kernel_rfl) (fun _ _ _ h => h) (Or.inl ⟨by rfl, ?_⟩) hSS ?_
                  rotate_left
                  · intro w hSw
                    have kc0 := hSw.r2
                    go_simp
                    all_goals with_reducible rfl
                  simp only [Act.put, List.setIfInBounds_toArray, List.set_cons_zero, List.set_cons_succ, List.getElem_toArray, List.getElem_cons_zero, List.getElem_cons_succ]
                  refine wpAnyE_take (i := 12) (v := ?_) rfl (by kernel_rfl) (by kernel_rfl) (by kernel_rfl) (by kernel_rfl) (fun _ _ _ h => h) (Or.inl ⟨by rfl, ?_⟩) hSS ?_
                  rotate_left
                  · intro w hSw
                    have kc0 := hSw.r2
                    go_simp
                    all_goals with_reducible rfl
                  simp only [Act.put, List.setIfInBounds_toArray, List.set_cons_zero, List.set_cons_succ, List.getElem_toArray, List.getElem_cons_zero, List.getElem_cons_succ]
                  refine wpAnyE_take (i := 13) (v := ?_) rfl (by kernel_rfl) (by kernel_rfl) (by kernel_rfl) (by kernel_rfl) (fun _ _ _ h => h) (Or.inl ⟨by rfl, ?_⟩) hSS ?_
                  rotate_left
                  · intro w hSw
                    have kc0 := hSw.r2
                    go_simp
                    all_goals with_reducible rfl
                  simp only [Act.put, List.setIfInBounds_toArray, List.set_cons_zero, List.set_cons_succ, List.getElem_toArray, List.getElem_cons_zero, List.getElem_cons_succ]
                  refine wpAnyE_take (i := 15) (v := ?_) rfl (by kernel_rfl) (by kernel_rfl) (by kernel_rfl) (by kernel_rfl) (fun _ _ _ h => h) (Or.inl ⟨by rfl, ?_⟩) hSS ?_
                  rotate_left
                  · intro w hSw
                    have kc0 := hSw.r2
                    go_simp
                    all_goals with_reducible rfl
                  simp only [Act.put, List.setIfInBounds_toArray, List.set_cons_zero, List.set_cons_succ, List.getElem_toArray, List.getElem_cons_zero, List.getElem_cons_succ]
                  refine wpAnyE_take (i := 16) (v := ?_) rfl (by kernel_rfl) (by kernel_rfl) (by kernel_rfl) (by kernel_rfl) (fun _ _ _ h => h) (Or.inl ⟨by rfl, ?_⟩) hSS ?_
                  rotate_left
                  · intro w hSw
                    have kc0 := hSw.r2
                    go_simp
                    all_goals with_reducible rfl
                  simp only [Act.put, List.setIfInBounds_toArray, List.set_cons_zero, List.set_cons_succ, List.getElem_toArray, List.getElem_cons_zero, List.getElem_cons_succ]
                  refine wpAnyE_take (i := 17) (v := ?_) rfl (by kernel_rfl) (by kernel_rfl) (by kernel_rfl) (by kernel_rfl) (fun _ _ _ h => h) (Or.inl ⟨by rfl, ?_⟩) hSS ?_
                  rotate_left
                  · intro w hSw
                    have kc0 := hSw.r2
                    go_simp
                    all_goals with_reducible rfl
                  simp only [Act.put, List.setIfInBounds_toArray, List.set_cons_zero, List.set_cons_succ, List.getElem_toArray, List.getElem_cons_zero, List.getElem_cons_succ]
                  refine wpAnyE_take (i := 18) (v := ?_) rfl (by kernel_rfl) (by kernel_rfl) (by kernel_rfl) (by kernel_rfl) (fun _ _ _ h => h) (Or.inl ⟨by rfl, ?_⟩) hSS ?_
                  rotate_left
                  · intro w hSw
                    have kc0 := hSw.r2
                    go_simp
                    all_goals with_reducible rfl
                  simp only [Act.put, List.setIfInBounds_toArray, List.set_cons_zero, List.set_cons_succ, List.getElem_toArray, List.getElem_cons_zero, List.getElem_cons_succ]
                  refine wpAnyE_take (i := 19) (v := ?_) rfl (by kernel_rfl) (by kernel_rfl) (by kernel_rfl) (by kernel_rfl) (fun _ _ _ h => h) (Or.inl ⟨by rfl, ?_⟩) hSS ?_
                  rotate_left
                  · intro w hSw
                    have kc0 := hSw.r2
                    go_simp
                    all_goals with_reducible rfl
                  simp only [Act.put, List.setIfInBounds_toArray, List.set_cons_zero, List.set_cons_succ, List.getElem_toArray, List.getElem_cons_zero, List.getElem_cons_succ]
                  refine wpAnyE_take (i := 20) (v := ?_) rfl (by kernel_rfl) (by kernel_rfl) (by kernel_rfl) (by kernel_rfl) (fun _ _ _ h => h) (Or.inl ⟨by rfl, ?_⟩) hSS ?_
                  rotate_left
                  · intro w hSw
                    have kc0 := hSw.r2
                    go_simp
                    all_goals with_reducible rfl
                  simp only [Act.put, List.setIfInBounds_toArray, List.set_cons_zero, List.set_cons_succ, List.getElem_toArray, List.getElem_cons_zero, List.getElem_cons_succ]
                  refine wpAnyE_one (i := 14) (by kernel_rfl) rfl ?_
                  change wpList _ _ (Exit.then _ _) [_] _ _
                  try simp only [List.setIfInBounds_toArray, List.set_cons_zero, List.set_cons_succ, List.getElem_toArray, List.getElem_cons_zero, List.getElem_cons_succ]
                  go_wp2_with (go_at_call 52; refine (tag_eq b B3 _ w8 hW3.boot.boot).mono ?_; rintro e w9 ⟨rfl, rfl⟩)
                  refine ⟨fun _ => hSS, ?_⟩
                  try simp only [List.setIfInBounds_toArray, List.set_cons_zero, List.set_cons_succ, List.getElem_toArray, List.getElem_cons_zero, List.getElem_cons_succ]
                  refine wpAnyE_take (i := 21) (v := ?_) rfl (by kernel_rfl) (by kernel_rfl) (by kernel_rfl) (by kernel_rfl) (fun _ _ _ h => h) (Or.inl ⟨by rfl, ?_⟩) hSS ?_
                  rotate_left
                  · intro w hSw
                    have kc0 := hSw.r2
                    go_simp
                    all_goals with_reducible rfl
                  simp only [Act.put, List.setIfInBounds_toArray, List.set_cons_zero, List.set_cons_succ, List.getElem_toArray, List.getElem_cons_zero, List.getElem_cons_succ]
                  refine wpAnyE_one (i := 22) (by kernel_rfl) rfl ?_
                  change wpList _ _ (Exit.then _ _) [_] _ _
                  try simp only [List.setIfInBounds_toArray, List.set_cons_zero, List.set_cons_succ, List.getElem_toArray, List.getElem_cons_zero, List.getElem_cons_succ]
                  have hlb : n2 + 1 ≤ 1000000 := by have := HN2.out; omega
                  go_wp2_with (go_at_call 53; refine (raise_sum b _ B3 d3 (n2 + 1) t w9 hW3.boot hW3.life hlb).mono ?_; rintro e w10 ⟨er2, B4, d4, rfl, hRR, hL4, hT4, hC4⟩)
                  have hW4 := hW3.turn hC4 hT4 hL4 (round' := R) (tag' := tag) (by rw [hRR.round]; exact hW3.rnd) (Nat.le_trans hW3.tg hRR.tg)
                  have HLF4 := Lib.hid (show B4.life = B.life by rw [hRR.life]; exact HLF.out)
                  have hSS : RowS g (o + i * 3) ra w10 := ⟨hW4.r2⟩
                  refine ⟨fun _ => hSS, ?_⟩
                  try simp only [List.setIfInBounds_toArray, List.set_cons_zero, List.set_cons_succ, List.getElem_toArray, List.getElem_cons_zero, List.getElem_cons_succ]
                  clear hC4 hT4 hL4 hRR hW3 x1 x2 hlb
                  by_cases her2 : er2 = 0
                  · subst her2
                    refine wpAnyE_take (i := 23) (v := ?_) rfl (by kernel_rfl) (by kernel_rfl) (by kernel_rfl) (by kernel_rfl) (fun _ _ _ h => h) (Or.inl ⟨by rfl, ?_⟩) hSS ?_
                    rotate_left
                    · intro w hSw
                      have kc0 := hSw.r2
                      go_simp
                      all_goals with_reducible rfl
                    simp only [Act.put, List.setIfInBounds_toArray, List.set_cons_zero, List.set_cons_succ, List.getElem_toArray, List.getElem_cons_zero, List.getElem_cons_succ]
                    refine wpAnyE_take (i := 24) (v := ?_) rfl (by kernel_rfl) (by kernel_rfl) (by kernel_rfl) (by kernel_rfl) (fun _ _ _ h => h) (Or.inl ⟨by rfl, ?_⟩) hSS ?_
                    rotate_left
                    · intro w hSw
                      have kc0 := hSw.r2
                      go_simp
                      all_goals with_reducible rfl
                    simp only [Act.put, List.setIfInBounds_toArray, List.set_cons_zero, List.set_cons_succ, List.getElem_toArray, List.getElem_cons_zero, List.getElem_cons_succ]
                    refine wpAnyE_end (by kernel_rfl) ?_
                    have hmx : (if (tag : Int) < (B4.tag : Int) then (B4.tag : Int) else (tag : Int)) = (B4.tag : Int) := by have := hW4.tg; split <;> omega
                    have hmx2 : (if tag < B4.tag then (B4.tag : Int) else (tag : Int)) = (B4.tag : Int) := by have := hW4.tg; split <;> omega
                    go_wp2_with fail
                    refine (tag_eq b B4 _ w10 hW4.boot.boot).mono ?_
                    rintro e w11 ⟨rfl, rfl⟩
                    have hW5 := hW4.tagUp
                    clear hW4
                    go_wp2_with fail
                    clear hmx hmx2
                    refine (look_any what b _ B4 d4 _ R B4.tag w11 hW5.boot hW5.life hW5.rnd hW5.tg).mono ?_
                    rintro e w12 ⟨rfl, hB12⟩
                    have HW9 := Lib.hid (hW5.below hB12)
                    clear hW5 hB12
                    go_wp2_with fail
                    go_roundw
                    case rel => exact ⟨k + 1, _, R, B4.tag, B4, d4, by go_num, by omega, by have := HN2.out; omega, rfl, rfl, HW9.out, HLF4.out⟩
                    case measure => simp [intOf]; omega
                  · have her3 : (er2 == 0) = false := by simpa using her2
                    clear her2
                    refine wpAnyE_take (i := 23) (v := ?_) rfl (by kernel_rfl) (by kernel_rfl) (by kernel_rfl) (by kernel_rfl) (fun _ _ _ h => h) (Or.inl ⟨by rfl, ?_⟩) hSS ?_
                    rotate_left
                    · intro w hSw
                      have kc0 := hSw.r2
                      go_simp
                      all_goals with_reducible rfl
                    simp only [Act.put, List.setIfInBounds_toArray, List.set_cons_zero, List.set_cons_succ, List.getElem_toArray, List.getElem_cons_zero, List.getElem_cons_succ]
                    refine wpAnyE_take (i := 24) (v := ?_) rfl (by kernel_rfl) (by kernel_rfl) (by kernel_rfl) (by kernel_rfl) (fun _ _ _ h => h) (Or.inl ⟨by rfl, ?_⟩) hSS ?_
                    rotate_left
                    · intro w hSw
                      have kc0 := hSw.r2
                      go_simp
                      all_goals with_reducible rfl
                    simp only [Act.put, List.setIfInBounds_toArray, List.set_cons_zero, List.set_cons_succ, List.getElem_toArray, List.getElem_cons_zero, List.getElem_cons_succ]
                    refine wpAnyE_end (by kernel_rfl) ?_
                    go_wp2_with fail
                    refine (look_any what b _ B4 d4 _ R tag w10 hW4.boot hW4.life hW4.rnd hW4.tg).mono ?_
                    rintro e w12 ⟨rfl, hB12⟩
                    have HW9 := Lib.hid (hW4.below hB12)
                    clear hW4 hB12
                    go_wp2_with fail
                    go_roundw
                    case rel => exact ⟨k + 1, _, R, tag, B4, d4, by go_num, by omega, by have := HN2.out; omega, rfl, rfl, HW9.out, HLF4.out⟩
                    case measure => simp [intOf]; omega
                · have hm : Int.tmod (k : Int) 3 = ((k % 3 : Nat) : Int) := by rw [Int.tmod_eq_emod_of_nonneg (by omega)]; omega
                  have hm2 : (((k % 3 : Nat) : Int) == 0) = false := by simp; omega
                  have hm3 : (Int.tmod (k : Int) 3 == 0) = false := by rw [hm]; exact hm2
                  have hd1 : decide ((0 : Int) < ra) = true := by simpa using hra
                  clear hk3 hm hm2
                  go_wp2_with fail
                  refine wp_region_early (RowS g (o + i * 3) ra) (fun _ => false) (by kernel_rfl) ?_
                  have hW3 := hW3.drew
                  have hSS : RowS g (o + i * 3) ra w7.drew := ⟨hW3.r2⟩
                  generalize w7.drew = w8 at *
                  simp only [List.size_toArray, List.length_cons, List.length_nil, Nat.reduceAdd, Array.replicate_succ, Array.replicate_zero, List.push_toArray, List.nil_append, List.cons_append]
                  refine wpAnyE_take (i := 0) (v := ?_) rfl (by kernel_rfl) (by kernel_rfl) (by kernel_rfl) (by kernel_rfl) (fun _ _ _ h => h) (Or.inl ⟨by rfl, ?_⟩) hSS ?_
                  rotate_left
                  · intro w hSw
                    have kc0 := hSw.r2
                    go_simp
                    all_goals with_reducible rfl
                  simp only [Act.put, List.setIfInBounds_toArray, List.set_cons_zero, List.set_cons_succ, List.getElem_toArray, List.getElem_cons_zero, List.getElem_cons_succ]
                  refine wpAnyE_take (i := 1) (v := ?_) rfl (by kernel_rfl) (by kernel_rfl) (by kernel_rfl) (by kernel_rfl) (fun _ _ _ h => h) (Or.inl ⟨by rfl, ?_⟩) hSS ?_
                  rotate_left
                  · intro w hSw
                    have kc0 := hSw.r2
                    go_simp
                    all_goals with_reducible rfl
                  simp only [Act.put, List.setIfInBounds_toArray, List.set_cons_zero, List.set_cons_succ, List.getElem_toArray, List.getElem_cons_zero, List.getElem_cons_succ]
                  refine wpAnyE_take (i := 2) (v := ?_) rfl (by kernel_rfl) (by kernel_rfl) (by kernel_rfl) (by kernel_rfl) (fun _ _ _ h => h) (Or.inl ⟨by rfl, ?_⟩) hSS ?_
                  rotate_left
                  · intro w hSw
                    have kc0 := hSw.r2
                    go_simp
                    all_goals with_reducible rfl
                  simp only [Act.put, List.setIfInBounds_toArray, List.set_cons_zero, List.set_cons_succ, List.getElem_toArray, List.getElem_cons_zero, List.getElem_cons_succ]
                  refine wpAnyE_take (i := 3) (v := ?_) rfl (by kernel_rfl) (by kernel_rfl) (by kernel_rfl) (by kernel_rfl) (fun _ _ _ h => h) (Or.inl ⟨by rfl, ?_⟩) hSS ?_
                  rotate_left
                  · intro w hSw
                    have kc0 := hSw.r2
                    go_simp
                    all_goals with_reducible rfl
                  simp only [Act.put, List.setIfInBounds_toArray, List.set_cons_zero, List.set_cons_succ, List.getElem_toArray, List.getElem_cons_zero, List.getElem_cons_succ]
                  refine wpAnyE_take (i := 4) (v := ?_) rfl (by kernel_rfl) (by kernel_rfl) (by kernel_rfl) (by kernel_rfl) (fun _ _ _ h => h) (Or.inl ⟨by rfl, ?_⟩) hSS ?_
                  rotate_left
                  · intro w hSw
                    have kc0 := hSw.r2
                    go_simp
                    all_goals with_reducible rfl
                  simp only [Act.put, List.setIfInBounds_toArray, List.set_cons_zero, List.set_cons_succ, List.getElem_toArray, List.getElem_cons_zero, List.getElem_cons_succ]
                  refine wpAnyE_take (i := 5) (v := ?_) rfl (by kernel_rfl) (by kernel_rfl) (by kernel_rfl) (by kernel_rfl) (fun _ _ _ h => h) (Or.inl ⟨by rfl, ?_⟩) hSS ?_
                  rotate_left
                  · intro w hSw
                    have kc0 := hSw.r2
                    go_simp
                    all_goals with_reducible rfl
                  simp only [Act.put, List.setIfInBounds_toArray, List.set_cons_zero, List.set_cons_succ, List.getElem_toArray, List.getElem_cons_zero, List.getElem_cons_succ]
                  refine wpAnyE_take (i := 6) (v := ?_) rfl (by kernel_rfl) (by kernel_rfl) (by kernel_rfl) (by kernel_rfl) (fun _ _ _ h => h) (Or.inl ⟨by rfl, ?_⟩) hSS ?_
                  rotate_left
                  · intro w hSw
                    have kc0 := hSw.r2
                    go_simp
                    all_goals with_reducible rfl
                  simp only [Act.put, List.setIfInBounds_toArray, List.set_cons_zero, List.set_cons_succ, List.getElem_toArray, List.getElem_cons_zero, List.getElem_cons_succ]
                  refine wpAnyE_take (i := 7) (v := ?_) rfl (by kernel_rfl) (by kernel_rfl) (by kernel_rfl) (by kernel_rfl) (fun _ _ _ h => h) (Or.inl ⟨by rfl, ?_⟩) hSS ?_
                  rotate_left
                  · intro w hSw
                    have kc0 := hSw.r2
                    go_simp
                    all_goals with_reducible rfl
                  simp only [Act.put, List.setIfInBounds_toArray, List.set_cons_zero, List.set_cons_succ, List.getElem_toArray, List.getElem_cons_zero, List.getElem_cons_succ]
                  refine wpAnyE_take (i := 8) (v := ?_) rfl (by kernel_rfl) (by kernel_rfl) (by kernel_rfl) (by kernel_rfl) (fun _ _ _ h => h) (Or.inl ⟨by rfl, ?_⟩) hSS ?_
                  rotate_left
                  · intro w hSw
                    have kc0 := hSw.r2
                    go_simp
                    all_goals with_reducible rfl
                  simp only [Act.put, List.setIfInBounds_toArray, List.set_cons_zero, List.set_cons_succ, List.getElem_toArray, List.getElem_cons_zero, List.getElem_cons_succ]
                  refine wpAnyE_take (i := 9) (v := ?_) rfl (by kernel_rfl) (by kernel_rfl) (by kernel_rfl) (by kernel_rfl) (fun _ _ _ h => h) (Or.inl ⟨by rfl, ?_⟩) hSS ?_
                  rotate_left
                  · intro w hSw
                    have kc0 := hSw.r2
                    go_simp
                    all_goals with_reducible rfl
                  simp only [Act.put, List.setIfInBounds_toArray, List.set_cons_zero, List.set_cons_succ, List.getElem_toArray, List.getElem_cons_zero, List.getElem_cons_succ]
                  refine wpAnyE_take (i := 10) (v := ?_) rfl (by kernel_rfl) (by kernel_rfl) (by kernel_rfl) (by kernel_rfl) (fun _ _ _ h => h) (Or.inl ⟨by rfl, ?_⟩) hSS ?_
                  rotate_left
                  · intro w hSw
                    have kc0 := hSw.r2
                    go_simp
                    all_goals with_reducible rfl
                  simp only [Act.put, List.setIfInBounds_toArray, List.set_cons_zero, List.set_cons_succ, List.getElem_toArray, List.getElem_cons_zero, List.getElem_cons_succ]
                  refine wpAnyE_take (i := 11) (v := ?_) rfl (by kernel_rfl) (by kernel_rfl) (by kernel_rfl) (by kernel_rfl) (fun _ _ _ h => h) (Or.inl ⟨by rfl, ?_⟩) hSS ?_
                  rotate_left
                  · intro w hSw
                    have kc0 := hSw.r2
                    go_simp
                    all_goals with_reducible rfl
                  simp only [Act.put, List.setIfInBounds_toArray, List.set_cons_zero, List.set_cons_succ, List.getElem_toArray, List.getElem_cons_zero, List.getElem_cons_succ]
                  refine wpAnyE_take (i := 12) (v := undef) rfl (by kernel_rfl) (by kernel_rfl) (by kernel_rfl) (by kernel_rfl) (fun _ _ _ h => h) (Or.inr ⟨by rfl, rfl⟩) hSS ?_
                  simp only [Act.put, List.setIfInBounds_toArray, List.set_cons_zero, List.set_cons_succ, List.getElem_toArray, List.getElem_cons_zero, List.getElem_cons_succ]
                  refine wpAnyE_take (i := 13) (v := undef) rfl (by kernel_rfl) (by kernel_rfl) (by kernel_rfl) (by kernel_rfl) (fun _ _ _ h => h) (Or.inr ⟨by rfl, rfl⟩) hSS ?_
                  simp only [Act.put, List.setIfInBounds_toArray, List.set_cons_zero, List.set_cons_succ, List.getElem_toArray, List.getElem_cons_zero, List.getElem_cons_succ]
                  refine wpAnyE_take (i := 14) (v := undef) rfl (by kernel_rfl) (by kernel_rfl) (by kernel_rfl) (by kernel_rfl) (fun _ _ _ h => h) (Or.inr ⟨by rfl, rfl⟩) hSS ?_
                  simp only [Act.put, List.setIfInBounds_toArray, List.set_cons_zero, List.set_cons_succ, List.getElem_toArray, List.getElem_cons_zero, List.getElem_cons_succ]
                  refine wpAnyE_take (i := 15) (v := undef) rfl (by kernel_rfl) (by kernel_rfl) (by kernel_rfl) (by kernel_rfl) (fun _ _ _ h => h) (Or.inr ⟨by rfl, rfl⟩) hSS ?_
                  simp only [Act.put, List.setIfInBounds_toArray, List.set_cons_zero, List.set_cons_succ, List.getElem_toArray, List.getElem_cons_zero, List.getElem_cons_succ]
                  refine wpAnyE_take (i := 16) (v := undef) rfl (by kernel_rfl) (by kernel_rfl) (by kernel_rfl) (by kernel_rfl) (fun _ _ _ h => h) (Or.inr ⟨by rfl, rfl⟩) hSS ?_
                  simp only [Act.put, List.setIfInBounds_toArray, List.set_cons_zero, List.set_cons_succ, List.getElem_toArray, List.getElem_cons_zero, List.getElem_cons_succ]
                  refine wpAnyE_take (i := 17) (v := undef) rfl (by kernel_rfl) (by kernel_rfl) (by kernel_rfl) (by kernel_rfl) (fun _ _ _ h => h) (Or.inr ⟨by rfl, rfl⟩) hSS ?_
                  simp only [Act.put, List.setIfInBounds_toArray, List.set_cons_zero, List.set_cons_succ, List.getElem_toArray, List.getElem_cons_zero, List.getElem_cons_succ]
                  refine wpAnyE_take (i := 18) (v := undef) rfl (by kernel_rfl) (by kernel_rfl) (by kernel_rfl) (by kernel_rfl) (fun _ _ _ h => h) (Or.inr ⟨by rfl, rfl⟩) hSS ?_
                  simp only [Act.put, List.setIfInBounds_toArray, List.set_cons_zero, List.set_cons_succ, List.getElem_toArray, List.getElem_cons_zero, List.getElem_cons_succ]
                  refine wpAnyE_take (i := 19) (v := undef) rfl (by kernel_rfl) (by kernel_rfl) (by kernel_rfl) (by kernel_rfl) (fun _ _ _ h => h) (Or.inr ⟨by rfl, rfl⟩) hSS ?_
                  simp only [Act.put, List.setIfInBounds_toArray, List.set_cons_zero, List.set_cons_succ, List.getElem_toArray, List.getElem_cons_zero, List.getElem_cons_succ]
                  refine wpAnyE_take (i := 20) (v := undef) rfl (by kernel_rfl) (by kernel_rfl) (by kernel_rfl) (by kernel_rfl) (fun _ _ _ h => h) (Or.inr ⟨by rfl, rfl⟩) hSS ?_
                  simp only [Act.put, List.setIfInBounds_toArray, List.set_cons_zero, List.set_cons_succ, List.getElem_toArray, List.getElem_cons_zero, List.getElem_cons_succ]
                  refine wpAnyE_take (i := 21) (v := undef) rfl (by kernel_rfl) (by kernel_rfl) (by kernel_rfl) (by kernel_rfl) (fun _ _ _ h => h) (Or.inr ⟨by rfl, rfl⟩) hSS ?_
                  simp only [Act.put, List.setIfInBounds_toArray, List.set_cons_zero, List.set_cons_succ, List.getElem_toArray, List.getElem_cons_zero, List.getElem_cons_succ]
                  refine wpAnyE_take (i := 22) (v := undef) rfl (by kernel_rfl) (by kernel_rfl) (by kernel_rfl) (by kernel_rfl) (fun _ _ _ h => h) (Or.inr ⟨by rfl, rfl⟩) hSS ?_
                  simp only [Act.put, List.setIfInBounds_toArray, List.set_cons_zero, List.set_cons_succ, List.getElem_toArray, List.getElem_cons_zero, List.getElem_cons_succ]
                  refine wpAnyE_take (i := 23) (v := undef) rfl (by kernel_rfl) (by kernel_rfl) (by kernel_rfl) (by kernel_rfl) (fun _ _ _ h => h) (Or.inr ⟨by rfl, rfl⟩) hSS ?_
                  simp only [Act.put, List.setIfInBounds_toArray, List.set_cons_zero, List.set_cons_succ, List.getElem_toArray, List.getElem_cons_zero, List.getElem_cons_succ]
                  refine wpAnyE_take (i := 24) (v := ?_) rfl (by kernel_rfl) (by kernel_rfl) (by kernel_rfl) (by kernel_rfl) (fun _ _ _ h => h) (Or.inl ⟨by rfl, ?_⟩) hSS ?_
                  rotate_left
                  · intro w hSw
                    have kc0 := hSw.r2
                    go_simp
                    all_goals with_reducible rfl
                  simp only [Act.put, List.setIfInBounds_toArray, List.set_cons_zero, List.set_cons_succ, List.getElem_toArray, List.getElem_cons_zero, List.getElem_cons_succ]
                  refine wpAnyE_end (by kernel_rfl) ?_
                  have hW4 := hW3
                  clear hW3 x1 x2
                  have HW4 := Lib.hid hW4
                  go_wp2_with fail
                  refine (look_any what b _ B3 d3 _ R tag w8 hW4.boot hW4.life hW4.rnd hW4.tg).mono ?_
                  rintro e w9 ⟨rfl, hB9⟩
                  have HW9 := Lib.hid (hW4.below hB9)
                  clear hW4 HW4 hB9
                  go_wp2_with fail
                  go_roundw
                  case rel => exact ⟨k + 1, _, R, tag, B3, d3, by go_num, by omega, by have := HN2.out; omega, rfl, rfl, HW9.out, HLF.out⟩
                  case measure => simp [intOf]; omega
              · have hd1 : decide ((0 : Int) < ra) = false := by simpa using hra
                go_wp2_with fail
                refine wp_region_early (RowS g (o + i * 3) ra) (fun _ => false) (by kernel_rfl) ?_
                have hW3 := hW3.drew
                have hSS : RowS g (o + i * 3) ra w7.drew := ⟨hW3.r2⟩
                generalize w7.drew = w8 at *
                simp only [List.size_toArray, List.length_cons, List.length_nil, Nat.reduceAdd, Array.replicate_succ, Array.replicate_zero, List.push_toArray, List.nil_append, List.cons_append]
                refine wpAnyE_take (i := 0) (v := ?_) rfl (by kernel_rfl) (by kernel_rfl) (by kernel_rfl) (by kernel_rfl) (fun _ _ _ h => h) (Or.inl ⟨by rfl, ?_⟩) hSS ?_
                rotate_left
                · intro w hSw
                  have kc0 := hSw.r2
                  go_simp
                  all_goals with_reducible rfl
                simp only [Act.put, List.setIfInBounds_toArray, List.set_cons_zero, List.set_cons_succ, List.getElem_toArray, List.getElem_cons_zero, List.getElem_cons_succ]
                refine wpAnyE_take (i := 1) (v := ?_) rfl (by kernel_rfl) (by kernel_rfl) (by kernel_rfl) (by kernel_rfl) (fun _ _ _ h => h) (Or.inl ⟨by rfl, ?_⟩) hSS ?_
                rotate_left
                · intro w hSw
                  have kc0 := hSw.r2
                  go_simp
                  all_goals with_reducible rfl
                simp only [Act.put, List.setIfInBounds_toArray, List.set_cons_zero, List.set_cons_succ, List.getElem_toArray, List.getElem_cons_zero, List.getElem_cons_succ]
                refine wpAnyE_take (i := 2) (v := ?_) rfl (by kernel_rfl) (by kernel_rfl) (by kernel_rfl) (by kernel_rfl) (fun _ _ _ h => h) (Or.inl ⟨by rfl, ?_⟩) hSS ?_
                rotate_left
                · intro w hSw
                  have kc0 := hSw.r2
                  go_simp
                  all_goals with_reducible rfl
                simp only [Act.put, List.setIfInBounds_toArray, List.set_cons_zero, List.set_cons_succ, List.getElem_toArray, List.getElem_cons_zero, List.getElem_cons_succ]
                refine wpAnyE_take (i := 3) (v := ?_) rfl (by kernel_rfl) (by kernel_rfl) (by kernel_rfl) (by kernel_rfl) (fun _ _ _ h => h) (Or.inl ⟨by rfl, ?_⟩) hSS ?_
                rotate_left
                · intro w hSw
                  have kc0 := hSw.r2
                  go_simp
                  all_goals with_reducible rfl
                simp only [Act.put, List.setIfInBounds_toArray, List.set_cons_zero, List.set_cons_succ, List.getElem_toArray, List.getElem_cons_zero, List.getElem_cons_succ]
                refine wpAnyE_take (i := 4) (v := ?_) rfl (by kernel_rfl) (by kernel_rfl) (by kernel_rfl) (by kernel_rfl) (fun _ _ _ h => h) (Or.inl ⟨by rfl, ?_⟩) hSS ?_
                rotate_left
                · intro w hSw
                  have kc0 := hSw.r2
                  go_simp
                  all_goals with_reducible rfl
                simp only [Act.put, List.setIfInBounds_toArray, List.set_cons_zero, List.set_cons_succ, List.getElem_toArray, List.getElem_cons_zero, List.getElem_cons_succ]
                refine wpAnyE_take (i := 5) (v := ?_) rfl (by kernel_rfl) (by kernel_rfl) (by kernel_rfl) (by kernel_rfl) (fun _ _ _ h => h) (Or.inl ⟨by rfl, ?_⟩) hSS ?_
                rotate_left
                · intro w hSw
                  have kc0 := hSw.r2
                  go_simp
                  all_goals with_reducible rfl
                simp only [Act.put, List.setIfInBounds_toArray, List.set_cons_zero, List.set_cons_succ, List.getElem_toArray, List.getElem_cons_zero, List.getElem_cons_succ]
                refine wpAnyE_take (i := 6) (v := ?_) rfl (by kernel_rfl) (by kernel_rfl) (by kernel_rfl) (by kernel_rfl) (fun _ _ _ h => h) (Or.inl ⟨by rfl, ?_⟩) hSS ?_
                rotate_left
                · intro w hSw
                  have kc0 := hSw.r2
                  go_simp
                  all_goals with_reducible rfl
                simp only [Act.put, List.setIfInBounds_toArray, List.set_cons_zero, List.set_cons_succ, List.getElem_toArray, List.getElem_cons_zero, List.getElem_cons_succ]
                refine wpAnyE_take (i := 7) (v := undef) rfl (by kernel_rfl) (by kernel_rfl) (by kernel_rfl) (by kernel_rfl) (fun _ _ _ h => h) (Or.inr ⟨by rfl, rfl⟩) hSS ?_
                simp only [Act.put, List.setIfInBounds_toArray, List.set_cons_zero, List.set_cons_succ, List.getElem_toArray, List.getElem_cons_zero, List.getElem_cons_succ]
                refine wpAnyE_take (i := 8) (v := undef) rfl (by kernel_rfl) (by kernel_rfl) (by kernel_rfl) (by kernel_rfl) (fun _ _ _ h => h) (Or.inr ⟨by rfl, rfl⟩) hSS ?_
                simp only [Act.put, List.setIfInBounds_toArray, List.set_cons_zero, List.set_cons_succ, List.getElem_toArray, List.getElem_cons_zero, List.getElem_cons_succ]
                refine wpAnyE_take (i := 9) (v := undef) rfl (by kernel_rfl) (by kernel_rfl) (by kernel_rfl) (by kernel_rfl) (fun _ _ _ h => h) (Or.inr ⟨by rfl, rfl⟩) hSS ?_
                simp only [Act.put, List.setIfInBounds_toArray, List.set_cons_zero, List.set_cons_succ, List.getElem_toArray, List.getElem_cons_zero, List.getElem_cons_succ]
                refine wpAnyE_take (i := 10) (v := ?_) rfl (by kernel_rfl) (by kernel_rfl) (by kernel_rfl) (by kernel_rfl) (fun _ _ _ h => h) (Or.inl ⟨by rfl, ?_⟩) hSS ?_
                rotate_left
                · intro w hSw
                  have kc0 := hSw.r2
                  go_simp
                  all_goals with_reducible rfl
                simp only [Act.put, List.setIfInBounds_toArray, List.set_cons_zero, List.set_cons_succ, List.getElem_toArray, List.getElem_cons_zero, List.getElem_cons_succ]
                refine wpAnyE_take (i := 11) (v := ?_) rfl (by kernel_rfl) (by kernel_rfl) (by kernel_rfl) (by kernel_rfl) (fun _ _ _ h => h) (Or.inl ⟨by rfl, ?_⟩) hSS ?_
                rotate_left
                · intro w hSw
                  have kc0 := hSw.r2
                  go_simp
                  all_goals with_reducible rfl
                simp only [Act.put, List.setIfInBounds_toArray, List.set_cons_zero, List.set_cons_succ, List.getElem_toArray, List.getElem_cons_zero, List.getElem_cons_succ]
                refine wpAnyE_take (i := 12) (v := undef) rfl (by kernel_rfl) (by kernel_rfl) (by kernel_rfl) (by kernel_rfl) (fun _ _ _ h => h) (Or.inr ⟨by rfl, rfl⟩) hSS ?_
                simp only [Act.put, List.setIfInBounds_toArray, List.set_cons_zero, List.set_cons_succ, List.getElem_toArray, List.getElem_cons_zero, List.getElem_cons_succ]
                refine wpAnyE_take (i := 13) (v := undef) rfl (by kernel_rfl) (by kernel_rfl) (by kernel_rfl) (by kernel_rfl) (fun _ _ _ h => h) (Or.inr ⟨by rfl, rfl⟩) hSS ?_
                simp only [Act.put, List.setIfInBounds_toArray, List.set_cons_zero, List.set_cons_succ, List.getElem_toArray, List.getElem_cons_zero, List.getElem_cons_succ]
                refine wpAnyE_take (i := 14) (v := undef) rfl (by kernel_rfl) (by kernel_rfl) (by kernel_rfl) (by kernel_rfl) (fun _ _ _ h => h) (Or.inr ⟨by rfl, rfl⟩) hSS ?_
                simp only [Act.put, List.setIfInBounds_toArray, List.set_cons_zero, List.set_cons_succ, List.getElem_toArray, List.getElem_cons_zero, List.getElem_cons_succ]
                refine wpAnyE_take (i := 15) (v := undef) rfl (by kernel_rfl) (by kernel_rfl) (by kernel_rfl) (by kernel_rfl) (fun _ _ _ h => h) (Or.inr ⟨by rfl, rfl⟩) hSS ?_
                simp only [Act.put, List.setIfInBounds_toArray, List.set_cons_zero, List.set_cons_succ, List.getElem_toArray, List.getElem_cons_zero, List.getElem_cons_succ]
                refine wpAnyE_take (i := 16) (v := undef) rfl (by kernel_rfl) (by kernel_rfl) (by kernel_rfl) (by kernel_rfl) (fun _ _ _ h => h) (Or.inr ⟨by rfl, rfl⟩) hSS ?_
                simp only [Act.put, List.setIfInBounds_toArray, List.set_cons_zero, List.set_cons_succ, List.getElem_toArray, List.getElem_cons_zero, List.getElem_cons_succ]
                refine wpAnyE_take (i := 17) (v := undef) rfl (by kernel_rfl) (by kernel_rfl) (by kernel_rfl) (by kernel_rfl) (fun _ _ _ h => h) (Or.inr ⟨by rfl, rfl⟩) hSS ?_
                simp only [Act.put, List.setIfInBounds_toArray, List.set_cons_zero, List.set_cons_succ, List.getElem_toArray, List.getElem_cons_zero, List.getElem_cons_succ]
                refine wpAnyE_take (i := 18) (v := undef) rfl (by kernel_rfl) (by kernel_rfl) (by kernel_rfl) (by kernel_rfl) (fun _ _ _ h => h) (Or.inr ⟨by rfl, rfl⟩) hSS ?_
                simp only [Act.put, List.setIfInBounds_toArray, List.set_cons_zero, List.set_cons_succ, List.getElem_toArray, List.getElem_cons_zero, List.getElem_cons_succ]
                refine wpAnyE_take (i := 19) (v := undef) rfl (by kernel_rfl) (by kernel_rfl) (by kernel_rfl) (by kernel_rfl) (fun _ _ _ h => h) (Or.inr ⟨by rfl, rfl⟩) hSS ?_
                simp only [Act.put, List.setIfInBounds_toArray, List.set_cons_zero, List.set_cons_succ, List.getElem_toArray, List.getElem_cons_zero, List.getElem_cons_succ]
                refine wpAnyE_take (i := 20) (v := undef) rfl (by kernel_rfl) (by kernel_rfl) (by kernel_rfl) (by kernel_rfl) (fun _ _ _ h => h) (Or.inr ⟨by rfl, rfl⟩) hSS ?_
                simp only [Act.put, List.setIfInBounds_toArray, List.set_cons_zero, List.set_cons_succ, List.getElem_toArray, List.getElem_cons_zero, List.getElem_cons_succ]
                refine wpAnyE_take (i := 21) (v := undef) rfl (by kernel_rfl) (by kernel_rfl) (by kernel_rfl) (by kernel_rfl) (fun _ _ _ h => h) (Or.inr ⟨by rfl, rfl⟩) hSS ?_
                simp only [Act.put, List.setIfInBounds_toArray, List.set_cons_zero, List.set_cons_succ, List.getElem_toArray, List.getElem_cons_zero, List.getElem_cons_succ]
                refine wpAnyE_take (i := 22) (v := undef) rfl (by kernel_rfl) (by kernel_rfl) (by kernel_rfl) (by kernel_rfl) (fun _ _ _ h => h) (Or.inr ⟨by rfl, rfl⟩) hSS ?_
                simp only [Act.put, List.setIfInBounds_toArray, List.set_cons_zero, List.set_cons_succ, List.getElem_toArray, List.getElem_cons_zero, List.getElem_cons_succ]
                refine wpAnyE_take (i := 23) (v := undef) rfl (by kernel_rfl) (by kernel_rfl) (by kernel_rfl) (by kernel_rfl) (fun _ _ _ h => h) (Or.inr ⟨by rfl, rfl⟩) hSS ?_
                simp only [Act.put, List.setIfInBounds_toArray, List.set_cons_zero, List.set_cons_succ, List.getElem_toArray, List.getElem_cons_zero, List.getElem_cons_succ]
                refine wpAnyE_take (i := 24) (v := ?_) rfl (by kernel_rfl) (by kernel_rfl) (by kernel_rfl) (by kernel_rfl) (fun _ _ _ h => h) (Or.inl ⟨by rfl, ?_⟩) hSS ?_
                rotate_left
                · intro w hSw
                  have kc0 := hSw.r2
                  go_simp
                  all_goals with_reducible rfl
                simp only [Act.put, List.setIfInBounds_toArray, List.set_cons_zero, List.set_cons_succ, List.getElem_toArray, List.getElem_cons_zero, List.getElem_cons_succ]
                refine wpAnyE_end (by kernel_rfl) ?_
                have hW4 := hW3
                clear hW3 x1 x2
                have HW4 := Lib.hid hW4
                go_wp2_with fail
                refine (look_any what b _ B3 d3 _ R tag w8 hW4.boot hW4.life hW4.rnd hW4.tg).mono ?_
                rintro e w9 ⟨rfl, hB9⟩
                have HW9 := Lib.hid (hW4.below hB9)
                clear hW4 HW4 hB9
                go_wp2_with fail
                go_roundw
                case rel => exact ⟨k + 1, _, R, tag, B3, d3, by go_num, by omega, by have := HN2.out; omega, rfl, rfl, HW9.out, HLF.out⟩
                case measure => simp [intOf]; omega
            · have hne : (er != 0) = true := by simpa using her
              have hB3 := hNR.no her
              have hW3 := hW2.turn hC3 hT3 hL3 (round' := round) (tag' := tag) (by rw [hB3]; exact hW2.rnd) (by rw [hB3]; exact hW2.tg)
              obtain ⟨st2, hbt⟩ := btw_of_life (i := i + 1) hW3.life (by omega) (by rw [hB3, hl2]; exact HLB.out) hW3.rnd hW3.tg
              have HBT := Lib.hid hbt
              have HLO := Lib.hid hW3.low
              have HDK := Lib.hid hW3.boot.disk
              clear hbt hW2 hC3 hT3 hL3 hNR hB3 hW3 her x1 x2
              go_wp2_with fail
              go_roundw
              case rel => exact ⟨i + 1, round, tag, d3, st2, by go_num, by omega, rfl, rfl, HBT.out, HDK.out, HLO.out⟩
              case measure => simp [intOf]; omega
          · have hfin := btw_of_life (i := i + 1) hW2.life (by omega) (by rw [hl2]; exact HLB.out) hW2.rnd hW2.tg
            obtain ⟨st2, hbt⟩ := hfin
            have HBT := Lib.hid hbt
            have HLO := Lib.hid hW2.low
            have HDK := Lib.hid hW2.boot.disk
            clear hbt
            by_cases hc1 : (k : Int) < ro
            · have hc3 : ¬ (k : Int) < 60 := by omega
              clear hc hW2
              go_wp2_with fail
              go_roundw
              case rel => exact ⟨i + 1, round, tag, d2, st2, by go_num, by omega, rfl, rfl, HBT.out, HDK.out, HLO.out⟩
              case measure => simp [intOf]; omega
            · clear hc hW2
              go_wp2_with fail
              go_roundw
              case rel => exact ⟨i + 1, round, tag, d2, st2, by go_num, by omega, rfl, rfl, HBT.out, HDK.out, HLO.out⟩
              case measure => simp [intOf]; omega
      · have hb4 := hb3.grown hg4 hb3.size (fun j h => by cases h; exact Nat.le_refl _)
        have HB : Hid (Btw d4 st (i + 1) round tag) := ⟨hC4.more (by omega), by have := HW.out.life; omega, HW.out.rnd, HW.out.tg⟩
        clear hC4 hC3 hD3
        go_wp2_with fail
        go_roundw
        case rel => exact ⟨i + 1, round, tag, d4, st, by go_num, by omega, rfl, rfl, HB.out, hD4, hb4⟩
        case measure => simp [intOf]; omega
    · obtain rfl : i = xs.length := by omega
      have i1 : ¬ (xs.length : Int) < (xs.length : Int) := by omega
      go_wp2_with fail
      go_ret
      exact ⟨rfl, hb⟩
end Go.Proofs.Ythkppkecclnlnaa
