/- Walks: alive of the laws of the boot, look. -/
import Derived.Test.YthkppkecclnlnaaLife
import Derived.Test.YthkppkecclnlnaaOpsQ
namespace Go.Proofs.Ythkppkecclnlnaa
set_option linter.unusedVariables false
set_option linter.unusedSimpArgs false
open Go.RowKit

theorem first_save : (saveW Dk.new ((1 : Nat) : Int) (capR 0 : Nat) (capT 0 : Nat)).2 = 0 ∧ Saved Dk.new (saveW Dk.new ((1 : Nat) : Int) (capR 0 : Nat) (capT 0 : Nat)).1 none ⟨1, 16, 4, 1⟩ :=
  (save_law (x := ((1 : Nat) : Int)) (y := (capR 0 : Nat)) (z := (capT 0 : Nat)) slSt_new (by decide +kernel) rfl (by decide) (by decide)).resolve_right (fun h => by have := h.2.fused; cases this)
set_option maxRecDepth 100000 in
set_option maxHeartbeats 1000000 in
theorem alive12_any (w : World) : Calls Try.prog 48 #[] w fun e w' => e = .returned (.bool true) ∧ Below w.heap.size w w' := by
  have hlt0 : ∀ c ∈ Dk.new.bs, c < 256 := tnS_new.lt
  obtain ⟨s0, hs⟩ := first_save
  obtain ⟨D, hDe⟩ : ∃ D, saveW Dk.new ((1 : Nat) : Int) (capR 0 : Nat) (capT 0 : Nat) = D := ⟨_, rfl⟩
  rw [hDe] at s0 hs
  have HDE := Lib.hid hDe
  obtain ⟨d1, er⟩ := D
  simp only at s0 hs
  subst s0
  have hwr : d1.writes = 2 := hs.writes
  have hon := hs.on
  clear hDe
  go_enter Try.func48, Try.ntmps48
  go_wp2_with fail
  refine (new_any _).mono ?_
  rintro e w1 ⟨rfl, hD1, hB1⟩
  go_wp2_with fail
  refine (open_none w.heap.size Dk.new w1 hD1 hlt0 (by decide) (by decide) (loadA_none slSt_new rfl)).mono ?_
  rintro e w2 ⟨h0, _, hg2⟩
  rw [HDE.out] at h0
  obtain ⟨b, rfl, hb, hT2⟩ := h0 rfl
  have hb2 := hB1.grown hg2 hB1.size (fun j h => by cases h; exact Nat.le_refl _)
  have hbw : w.heap.size ≤ b := Nat.le_trans hB1.size hb
  clear h0
  go_wp2_with fail
  refine (bnext_plain b w.heap.size _ d1 w2 hT2 hon (by decide) (by decide) (by decide)).mono ?_
  rintro e w3 ⟨rfl, hT3, hC3⟩
  have hb3 := Below.chg hb2 hC3 hb2.size hbw (Nat.le_refl _)
  go_wp2_with fail
  refine (life_eq b _ _ w3 hT3.boot).mono ?_
  rintro e w4 ⟨rfl, rfl⟩
  go_wp2_with fail
  refine (durable_any b _ _ _ hT3.boot).mono ?_
  rintro e w5 ⟨he, hB5⟩
  have he : e = .returned (.agg #[.int .i64 1, .int .i64 16, .int .i64 4]) := he
  subst he
  have hT5 := hT3.below hB5
  have hb5 := below_then hb3 hB5
  go_wp2_with fail
  refine (writes_any _ _ _ hT5.disk).mono ?_
  rintro e w6 ⟨rfl, hB6⟩
  rw [hwr]
  go_wp2_with fail
  go_ret
  exact ⟨rfl, below_then hb5 hB6⟩
/-- What look answers: 1 rounds, 2 tags, 3 the record. -/
def LookOk (what : Int) (B : Bt) (round tag : Nat) : Prop := if what = 1 then round ≤ B.round else if what = 2 then tag ≤ B.tag else True
set_option maxRecDepth 100000 in
set_option maxHeartbeats 1000000 in
theorem look_any (what : Int) (b c : Nat) (B : Bt) (d : Dk) (n round tag : Nat) (w : World) (h : BtAt w b c B d) (hL : LifeI B d n) (hr : round ≤ B.round) (ht : tag ≤ B.tag) :
    Calls Try.prog 79 #[.int .i64 what, .pointer (some ⟨b, 0, none⟩), .pointer (some ⟨c, 0, none⟩), .int .i64 (round : Int), .int .i64 (tag : Int)] w fun e w' => e = .returned (.bool true) ∧ Below w.heap.size w w' := by
  by_cases h1 : what = 1
  · subst h1
    have HR := Lib.hid (round_eq b B _ w h.boot)
    have hl : (round : Int) ≤ (B.round : Int) := by omega
    clear hr ht h
    go_enter Try.func79, Try.ntmps79
    go_wp2_with (go_at_call 55; refine HR.out.mono ?_; rintro e w1 ⟨rfl, rfl⟩)
    go_ret
    exact ⟨rfl, Below.refl _ _⟩
  · by_cases h2 : what = 2
    · subst h2
      have HR := Lib.hid (tag_eq b B _ w h.boot)
      have hl : (tag : Int) ≤ (B.tag : Int) := by omega
      clear hr ht h h1
      go_enter Try.func79, Try.ntmps79
      go_wp2_with (go_at_call 52; refine HR.out.mono ?_; rintro e w1 ⟨rfl, rfl⟩)
      go_ret
      exact ⟨rfl, Below.refl _ _⟩
    · have e1 : (what == 1) = false := by simpa using h1
      have e2 : (what == 2) = false := by simpa using h2
      clear hr ht h1 h2
      go_enter Try.func79, Try.ntmps79
      go_wp2_with fail
      refine (durable_any b B _ w h.boot).mono ?_
      rintro e w1 ⟨rfl, hB1⟩
      unfold recV
      have h1 := h.below hB1
      obtain ⟨W2, hW2⟩ : ∃ W2, w1.alloc (.cells #[.int .i64 (B.life : Int), .int .i64 (B.kround : Int), .int .i64 (B.ktag : Int)] 47) = W2 := ⟨_, rfl⟩
      have hal : Below w1.heap.size w1 W2 := by rw [← hW2]; exact (Below.refl _ _).alloc (Nat.le_refl _) _
      have hn2 : W2.heap[w1.heap.size]? = some (.cells #[.int .i64 (B.life : Int), .int .i64 (B.kround : Int), .int .i64 (B.ktag : Int)] 47 (0, 0)) := by rw [← hW2]; exact box3 w1 (.int .i64 (B.life : Int)) (.int .i64 (B.kround : Int)) (.int .i64 (B.ktag : Int)) 47
      have h2 := h1.below hal
      have hb2 := below_then hB1 hal
      obtain ⟨x0, x1, x2, _⟩ := blk3 hn2
      have HRD := Lib.hid (fun m => round_eq b B _ (W2.drewN m) h2.boot)
      have HTG := Lib.hid (fun m => tag_eq b B _ (W2.drewN m) h2.boot)
      have HLF := Lib.hid (fun m => life_eq b B _ (W2.drewN m) h2.boot)
      have d1 : decide ((B.kround : Int) < (B.round : Int)) = false := by have := hL.rnd; simp; omega
      have d1' : decide (B.kround < B.round) = false := by have := hL.rnd; simp; omega
      have d2 : decide ((B.ktag : Int) < (B.tag : Int)) = false := by have := hL.tg; simp; omega
      have d2' : decide (B.ktag < B.tag) = false := by have := hL.tg; simp; omega
      have HL := Lib.hid hL
      clear h h1 hB1 hal hL
      go_wp2_with fail
      go_quiet (first | exact Calls.quiet_of_same (HRD.out _) | exact Calls.quiet_of_same (HTG.out _) | exact Calls.quiet_of_same (HLF.out _))
      have h3 : BtAt (W2.drewN nq) b c B d := ⟨h2.boot, h2.disk, h2.ne⟩
      have hb3 := below_drewN hb2 nq
      have hn3 : (W2.drewN nq).heap[w1.heap.size]? = some (.cells #[.int .i64 (B.life : Int), .int .i64 (B.kround : Int), .int .i64 (B.ktag : Int)] 47 (0, 0)) := hn2
      generalize W2.drewN nq = W3 at *
      clear h2 hb2 hn2 hW2 x0 x1 x2 HRD HTG HLF
      cases ho : d.off with
      | true =>
        go_wp2_with fail
        refine (on_any c d W3 h3.disk).mono ?_
        rintro e w4 ⟨rfl, hB4⟩
        rw [ho]
        go_wp2_with fail
        go_ret
        exact ⟨rfl, below_then hb3 hB4⟩
      | false =>
        obtain ⟨s, a, hc⟩ := HL.out.disk
        have hld := loadA_some hc.slots ho
        unfold recV at hld
        have HLD := Lib.hid hld
        clear hld
        go_wp2_with fail
        refine (on_any c d W3 h3.disk).mono ?_
        rintro e w4 ⟨rfl, hB4⟩
        rw [ho]
        have h4 := h3.below hB4
        have hb4 := below_then hb3 hB4
        have hn4 := blk_below' hB4 hn3
        go_wp2_with fail
        refine (load_any c d w4 h4.disk hc.lt).mono ?_
        rintro e w5 ⟨rfl, hB5⟩
        rw [HLD.out]
        have hb5 := below_then hb4 hB5
        obtain ⟨y0, y1, y2, _⟩ := blk3 (blk_below' hB5 hn4)
        have hs5 := blk_lt (blk_below' hB5 hn4)
        have hne5 : ¬ w1.heap.size = w5.heap.size := by omega
        clear hc
        go_wp2_with fail
        go_ret
        exact ⟨rfl, hb5.alloc hb5.size _⟩
end Go.Proofs.Ythkppkecclnlnaa
