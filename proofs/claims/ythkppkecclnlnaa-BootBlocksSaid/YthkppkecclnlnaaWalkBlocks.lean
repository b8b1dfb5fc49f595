/- The walk of the law BootBlocks. -/
import Derived.Test.YthkppkecclnlnaaLook
namespace Go.Proofs.Ythkppkecclnlnaa
set_option linter.unusedVariables false
set_option linter.unusedSimpArgs false
open Go.RowKit

/-- Behind n rounds, on a disk that never fails. -/
structure BlkI (B : Bt) (d : Dk) (n : Nat) : Prop where
  life : LifeI B d (n + 1)
  on : d.off = false
  plain : d.fused = false
  rnd : B.round = n
  kr : B.kround = 16 * ((n - 1) / 16 + 1)
  tg : B.tag = 0 ∧ B.ktag = 4
  wr : d.writes = 2 + 2 * ((n - 1) / 16)
theorem saved_plain {d D : Dk} {st : Option (Rc × Nat)} {q : Rc} (h : Saved d D st q) (hf : d.fused = false) : D.fused = false ∧ D.off = false ∧ D.writes = d.writes + 2 := ⟨h.fused.trans hf, h.on, h.writes⟩
theorem capR_small {n : Nat} (h : n ≤ 1000) : capR n = n + 16 := Nat.min_eq_left (by omega)
/-- One more round that needs no save. -/
theorem blk_plain {B : Bt} {d : Dk} {n : Nat} (h : BlkI B d n) (hn : n < 400) (hk : B.round ≠ B.kround) : BlkI { B with round := B.round + 1 } d (n + 1) := by
  obtain ⟨h1, h2, h3, h4, h5, h6, h7⟩ := h
  have hr := h1.rnd
  obtain ⟨⟨s, a, hc⟩, _, h10⟩ := h1.more (Nat.le_succ (n + 1))
  refine ⟨⟨⟨s, a, hc⟩, by show B.round + 1 ≤ B.kround; omega, h10⟩, h2, h3, by show B.round + 1 = n + 1; omega, ?_, h6, ?_⟩
  · show B.kround = _
    omega
  · rw [h7]; omega
theorem blk_save {B : Bt} {d : Dk} {n : Nat} (h : BlkI B d n) (hb : d.bs.length = 256) (hn : n < 400) (hk : B.round = B.kround) :
    (saveW d B.life (capR B.kround : Nat) B.ktag).2 = 0 ∧ BlkI { B with kround := capR B.kround, round := B.round + 1 } (saveW d B.life (capR B.kround : Nat) B.ktag).1 (n + 1) := by
  obtain ⟨h1, h2, h3, h4, h5, h6, h7⟩ := h
  have hsv := life_save h1 hb (by omega) h2 (y := capR B.kround) (z := B.ktag) (capR_le _) (by omega)
  obtain ⟨⟨s, a, hc⟩, _, h10⟩ := h1
  rw [h2] at hc
  have hm := hc.slots.2.1.1
  obtain ⟨q1, q2, q3, q4, q5, q6⟩ := hm
  have q1 : 1 ≤ B.life := q1
  have q2 : B.life ≤ 1073741824 := q2
  have hcr := capR_le B.kround
  rcases save_law hc.slots hb h2 (x := B.life) (y := (capR B.kround : Nat)) (z := B.ktag) ⟨by omega, by omega, by omega, by omega, by omega, by omega⟩ (by have := hc.seq; omega) with ⟨s0, hs⟩ | ⟨_, hf⟩
  · have hp := saved_plain hs h3
    rcases hsv with ⟨_, a', s', hc'⟩ | ⟨s1, _⟩
    · refine ⟨s0, ⟨⟨s', a', hc'⟩, ?_, h10⟩, hp.2.1, hp.1, by show B.round + 1 = n + 1; omega, ?_, h6, ?_⟩
      · show B.round + 1 ≤ capR B.kround
        rw [capR_small (by omega)]; omega
      · show capR B.kround = _
        rw [capR_small (by omega)]; omega
      · rw [hp.2.2, h7]; omega
    · rw [s0] at s1; cases s1
  · have := hf.fused; rw [h3] at this; cases this
theorem blk_start {d : Dk} (hs : Saved Dk.new d none ⟨1, 16, 4, 1⟩) (hlt : ∀ c ∈ d.bs, c < 256) : BlkI ⟨1, capR 0, capT 0, 0, 0⟩ d 0 :=
  ⟨⟨⟨1, 0, ⟨hs.slots, hlt, rfl, by decide, by rw [hs.writes]; decide, by rw [hs.un rfl]; decide⟩⟩, by decide, by decide⟩, hs.on, hs.fused, rfl, rfl, ⟨rfl, rfl⟩, hs.writes⟩
theorem run_field_tag (a b c : Int) (w : World) : (Instr.field 47 (.agg #[.int .i64 a, .int .i64 b, .int .i64 c]) 2).run Try.prog w = .ok (.int .i64 c) w := by kernel_rfl
set_option maxRecDepth 100000 in
set_option maxHeartbeats 4000000 in
theorem bootBlocks_walk (n : Int) (hn : (Lit.int .i64 n).wf = true) (w : World) :
    Calls Try.prog 13 #[.int .i64 n] w fun e w' => e = .returned (.bool true) ∧ Below w.heap.size w w' := by
  clear hn
  by_cases h1 : n < 0
  · go_enter Try.func13, Try.ntmps13
    go_wp2_with (go_at_call 48; refine (alive12_any _).mono ?_; rintro e w9 ⟨rfl, hB9⟩)
    all_goals (go_ret; exact ⟨rfl, hB9⟩)
  · by_cases h2 : 400 < n
    · go_enter Try.func13, Try.ntmps13
      go_wp2_with (go_at_call 48; refine (alive12_any _).mono ?_; rintro e w9 ⟨rfl, hB9⟩)
      all_goals (go_ret; exact ⟨rfl, hB9⟩)
    · obtain ⟨N, rfl⟩ : ∃ N : Nat, n = N := ⟨n.toNat, by omega⟩
      have hN : N ≤ 400 := by omega
      have HN := Lib.hid hN
      clear hN
      obtain ⟨s0, hs⟩ := first_save
      have hlt := saveW_lt tnS_new.lt ((1 : Nat) : Int) (capR 0 : Nat) (capT 0 : Nat)
      obtain ⟨D, hDe⟩ : ∃ D, saveW Dk.new ((1 : Nat) : Int) (capR 0 : Nat) (capT 0 : Nat) = D := ⟨_, rfl⟩
      rw [hDe] at s0 hs hlt
      have HDE := Lib.hid hDe
      obtain ⟨d1, er⟩ := D
      simp only at s0 hs hlt
      subst s0
      have hI0 := blk_start hs hlt
      clear hDe hs hlt
      go_enter Try.func13, Try.ntmps13
      go_wp2_with fail
      refine (new_any _).mono ?_
      rintro e w1 ⟨rfl, hD1, hB1⟩
      go_wp2_with fail
      refine (open_none w.heap.size Dk.new w1 hD1 tnS_new.lt (by decide) (by decide) (loadA_none slSt_new rfl)).mono ?_
      rintro e w2 ⟨h0, _, hg2⟩
      rw [HDE.out] at h0
      obtain ⟨b, rfl, hb, hT2⟩ := h0 rfl
      have hb2 := hB1.grown hg2 hB1.size (fun j h => by cases h; exact Nat.le_refl _)
      have hbw : w.heap.size ≤ b := Nat.le_trans hB1.size hb
      clear h0 HDE hg2 hD1 hB1 hb
      go_wp2_with fail
      go_loopw [6] (fun iv wr => ∃ (k : Nat) (B : Bt) (d : Dk), iv = .int .i64 ((k : Int) + 1) ∧ k ≤ N ∧ BlkI B d k ∧ BtAt wr b w.heap.size B d ∧ Below w.heap.size w wr) (fun iv _ => N + 1 - (intOf iv).toNat)
      case atStart => exact ⟨0, _, _, rfl, Nat.zero_le _, hI0, hT2, hb2⟩
      case round =>
        obtain ⟨k, B, d, rfl, hk, hI, hT, hbl⟩ := hrel
        clear hI0 hT2 hb2
        by_cases hlt : k < N
        · have i1 : (k : Int) + 1 ≤ (N : Int) := by omega
          have hk4 : k < 400 := by have := HN.out; omega
          have hr := hI.rnd
          have hw := hI.wr
          have hlife := hI.life
          have hq : Int.tdiv (k : Int) 16 = ((k / 16 : Nat) : Int) := by rw [Int.tdiv_eq_ediv_of_nonneg (by omega)]; omega
          obtain ⟨F, hF⟩ : ∃ F : Nat, k / 16 = F := ⟨_, rfl⟩
          rw [hF] at hq
          have hF2 : (F : Int) ≤ 400 := by omega
          have HF := Lib.hid hF
          clear hF
          by_cases he : B.round = B.kround
          · obtain ⟨s0, hI'⟩ := blk_save hI hT.disk.2 hk4 he
            have HSV := Lib.hid (bnext_save b w.heap.size B d wr hT hI.on (by omega) (by omega) he hlife.lt (by have := hlife.wr.1; omega) hlife.wr.2)
            obtain ⟨D, hDe⟩ : ∃ D, saveW d B.life (capR B.kround : Nat) B.ktag = D := ⟨_, rfl⟩
            rw [hDe] at HSV s0 hI'
            obtain ⟨d', er⟩ := D
            simp only at s0 hI'
            subst s0
            have HI := Lib.hid hI'
            have hw' : (d'.writes : Int) = 2 + 2 * (F : Int) := by have := hI'.wr; have := HF.out; omega
            have hrr : ((B.round + 1 : Nat) : Int) = (k : Int) + 1 := by omega
            rw [hrr] at HSV
            clear hDe hI' hI he hlife hw hr
            go_wp2_with fail
            refine HSV.out.mono ?_
            rintro e w3 ⟨hh, _, hC⟩
            obtain ⟨rfl, hT3⟩ := hh rfl
            have hb3 := Below.chg hbl hC hbl.size hbw (Nat.le_refl _)
            clear hh HSV
            go_wp2_with fail
            refine (writes_any _ _ w3 hT3.disk).mono ?_
            rintro e w4 ⟨rfl, hB4⟩
            rw [hw']
            have hT4 := hT3.below hB4
            have hb4 := below_then hb3 hB4
            go_wp2_with fail
            go_roundw
            case rel => exact ⟨k + 1, _, _, by go_num, by omega, HI.out, hT4, hb4⟩
            case measure => simp [intOf]; omega
          · have hI' := blk_plain hI hk4 he
            have HI := Lib.hid hI'
            have HSV := Lib.hid (bnext_plain b w.heap.size B d wr hT hI.on (by omega) (by omega) he)
            have hw' : (d.writes : Int) = 2 + 2 * (F : Int) := by have := hI'.wr; have := HF.out; omega
            have hrr : ((B.round + 1 : Nat) : Int) = (k : Int) + 1 := by omega
            rw [hrr] at HSV
            clear hI' hI he hlife hw hr
            go_wp2_with fail
            refine HSV.out.mono ?_
            rintro e w3 ⟨rfl, hT3, hC⟩
            have hb3 := Below.chg hbl hC hbl.size hbw (Nat.le_refl _)
            clear HSV
            go_wp2_with fail
            refine (writes_any _ _ w3 hT3.disk).mono ?_
            rintro e w4 ⟨rfl, hB4⟩
            rw [hw']
            have hT4 := hT3.below hB4
            have hb4 := below_then hb3 hB4
            go_wp2_with fail
            go_roundw
            case rel => exact ⟨k + 1, _, _, by go_num, by omega, HI.out, hT4, hb4⟩
            case measure => simp [intOf]; omega
        · obtain rfl : k = N := by omega
          have i1 : ¬ (k : Int) + 1 ≤ (k : Int) := by omega
          have htg := hI.tg
          obtain ⟨life, kround, ktag, rnd, tag⟩ := B
          simp only at htg
          obtain ⟨t1, t2⟩ := htg
          subst t1 t2
          clear hI
          go_wp2_with fail
          refine (alive12_any _).mono ?_
          rintro e w3 ⟨rfl, hB3⟩
          have hT3 := hT.below hB3
          go_wp2_with fail
          refine (durable_any b _ _ w3 hT3.boot).mono ?_
          rintro e w4 ⟨he, hB4⟩
          have he : e = .returned (.agg #[.int .i64 (life : Int), .int .i64 (kround : Int), .int .i64 4]) := he
          subst he
          have hT4 := hT3.below hB4
          have hfd := fun w => run_field_tag (life : Int) (kround : Int) 4 w
          go_wp2_with fail
          refine (tag_eq b _ _ w4 hT4.boot).mono ?_
          rintro e w5 ⟨he, rfl⟩
          have he : e = .returned (.int .i64 0) := he
          subst he
          go_wp2_with fail
          go_ret
          exact ⟨rfl, below_then (below_then hbl hB3) hB4⟩
end Go.Proofs.Ythkppkecclnlnaa
