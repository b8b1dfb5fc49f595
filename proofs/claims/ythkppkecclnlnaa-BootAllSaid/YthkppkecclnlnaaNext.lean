/- Walks: Next, Raise. -/
import Derived.Test.YthkppkecclnlnaaOpen
import Derived.BigQuiet
namespace Go.Proofs.Ythkppkecclnlnaa
set_option linter.unusedVariables false
set_option linter.unusedSimpArgs false
open Go.RowKit

theorem bnext_off (b c : Nat) (B : Bt) (d : Dk) (w : World) (h : BtAt w b c B d) (ho : d.off = true) :
    Calls Try.prog 50 #[.pointer (some ⟨b, 0, none⟩)] w fun e w' => e = .returned (.tuple #[.int .i64 0, .int .i64 100]) ∧ Below w.heap.size w w' := by
  have HO := Lib.hid (bon_any b c B d w h)
  rw [ho] at HO
  clear h ho
  go_enter Try.func50, Try.ntmps50
  go_wp2_with (go_at_call 74; refine HO.out.mono ?_; rintro e w1 ⟨rfl, hB1⟩)
  go_ret2
  exact ⟨rfl, hB1⟩
theorem bnext_end (b c : Nat) (B : Bt) (d : Dk) (w : World) (h : BtAt w b c B d) (ho : d.off = false) (hr : B.round = 1099511627775) :
    Calls Try.prog 50 #[.pointer (some ⟨b, 0, none⟩)] w fun e w' => e = .returned (.tuple #[.int .i64 0, .int .i64 120]) ∧ Below w.heap.size w w' := by
  have HO := Lib.hid (bon_any b c B d w h)
  rw [ho] at HO
  have hrb : ((B.round : Int) == 1099511627775) = true := by simp [hr]
  clear hr
  go_enter Try.func50, Try.ntmps50
  go_wp2_with (go_at_call 74; refine HO.out.mono ?_; rintro e w1 ⟨rfl, hB1⟩; obtain ⟨⟨c0, c1, c2, c3, c4, c5⟩, _⟩ := (h.below hB1).boot.cells)
  go_ret2
  exact ⟨rfl, hB1⟩
set_option maxRecDepth 100000 in
set_option maxHeartbeats 1000000 in
theorem bnext_plain (b c : Nat) (B : Bt) (d : Dk) (w : World) (h : BtAt w b c B d) (ho : d.off = false) (hr : B.round ≠ 1099511627775) (hrl : B.round ≤ 1099511627775) (hk : B.round ≠ B.kround) :
    Calls Try.prog 50 #[.pointer (some ⟨b, 0, none⟩)] w fun e w' => e = .returned (.tuple #[.int .i64 ((B.round + 1 : Nat) : Int), .int .i64 0]) ∧ BtAt w' b c { B with round := B.round + 1 } d ∧ Ch2 w w' b c := by
  have HO := Lib.hid (bon_any b c B d w h)
  rw [ho] at HO
  have hrb : ((B.round : Int) == 1099511627775) = false := by simp; omega
  have HU := Lib.hid (fun w => used_any B w)
  rw [decide_eq_false hk] at HU
  unfold resV at HU
  have hrl2 : (B.round : Int) ≤ 1099511627775 := by omega
  have hbl := blk_lt h.boot
  clear hr hk hrl
  go_enter Try.func50, Try.ntmps50
  go_wp2_with fail
  refine HO.out.mono ?_
  rintro e w1 ⟨rfl, hB1⟩
  have h1 := h.below hB1
  obtain ⟨⟨c0, c1, c2, c3, c4, c5⟩, _⟩ := h1.boot.cells
  go_wp2_with fail
  refine (HU.out _).mono ?_
  rintro e w2 ⟨rfl, hB2⟩
  have h2 := h1.below hB2
  have hb2 := below_then hB1 hB2
  clear c0 c1 c2 c3 c4 c5
  obtain ⟨⟨c0, c1, c2, c3, c4, c5⟩, ⟨f0, f1, f2, f3, f4⟩⟩ := h2.boot.cells
  go_wp2_with fail
  go_ret2
  have h3 := h2.setRound (B.round + 1)
  have hbl2 := blk_lt h2.boot
  exact ⟨rfl, h3, (Ch2.below hb2 b c).then (Ch2.one (but_set (but_refl _ _) hbl2 _ _) c)⟩
def SavePost (w : World) (b c : Nat) (B B0 : Bt) (ok no : Value) (D : Dk × Int) (e : Ending) (w' : World) : Prop :=
  (D.2 = 0 → e = .returned ok ∧ BtAt w' b c B D.1) ∧ (D.2 ≠ 0 → e = .returned no ∧ BtAt w' b c B0 D.1) ∧ Ch2 w w' b c
set_option maxRecDepth 100000 in
set_option maxHeartbeats 1000000 in
theorem bnext_save (b c : Nat) (B : Bt) (d : Dk) (w : World) (h : BtAt w b c B d) (ho : d.off = false) (hr : B.round ≠ 1099511627775) (hrl : B.round ≤ 1099511627775) (hk : B.round = B.kround) (hlt : ∀ c ∈ d.bs, c < 256) (hw : d.writes ≤ 4611686018427387903) (hfu : d.fuse ≤ 9223372036854775807) :
    Calls Try.prog 50 #[.pointer (some ⟨b, 0, none⟩)] w fun e w' =>
      SavePost w b c { B with kround := capR B.kround, round := B.round + 1 } B (.tuple #[.int .i64 ((B.round + 1 : Nat) : Int), .int .i64 0]) (.tuple #[.int .i64 0, .int .i64 (saveW d B.life (capR B.kround : Nat) B.ktag).2]) (saveW d B.life (capR B.kround : Nat) B.ktag) e w' := by
  obtain ⟨D, hDe⟩ : ∃ D, saveW d B.life (capR B.kround : Nat) B.ktag = D := ⟨_, rfl⟩
  rw [hDe]
  have HDE := Lib.hid hDe
  clear hDe
  have HO := Lib.hid (bon_any b c B d w h)
  rw [ho] at HO
  have hrb : ((B.round : Int) == 1099511627775) = false := by simp; omega
  have HU := Lib.hid (fun w => used_any B w)
  rw [decide_eq_true hk] at HU
  unfold resV at HU
  have hrl2 : (B.round : Int) ≤ 1099511627775 := by omega
  have HSZ := Lib.hid (And.intro hlt (And.intro hw (And.intro hfu (show B.kround ≤ 1099511627776 by omega))))
  clear hr hk hrl hlt hw hfu
  go_enter Try.func50, Try.ntmps50
  go_wp2_with fail
  refine HO.out.mono ?_
  rintro e w1 ⟨rfl, hB1⟩
  have h1 := h.below hB1
  obtain ⟨⟨c0, c1, c2, c3, c4, c5⟩, _⟩ := h1.boot.cells
  go_wp2_with fail
  refine (HU.out _).mono ?_
  rintro e w2 ⟨rfl, hB2⟩
  have h2 := h1.below hB2
  have hb2 := below_then hB1 hB2
  clear c0 c1 c2 c3 c4 c5
  have HSV := Lib.hid (save_next b c B d true w2 h2 HSZ.out.2.2.2 HSZ.out.1 HSZ.out.2.1 HSZ.out.2.2.1)
  rw [HDE.out] at HSV
  obtain ⟨d', er⟩ := D
  simp only at HSV
  go_wp2_with fail
  refine HSV.out.mono ?_
  rintro e w3 ⟨rfl, hT3, hC3⟩
  have hc3 := (Ch2.below hb2 b c).then hC3
  by_cases her : er = 0
  · subst her
    rw [svB_ok] at hT3
    obtain ⟨⟨c0, c1, c2, c3, c4, c5⟩, ⟨f0, f1, f2, f3, f4⟩⟩ := hT3.boot.cells
    have hbl3 := blk_lt hT3.boot
    simp only at c3
    go_wp2_with fail
    go_ret2
    have h3 := hT3.setRound (B.round + 1)
    exact ⟨fun _ => ⟨rfl, h3⟩, fun h => absurd rfl h, hc3.then (Ch2.one (but_set (but_refl _ _) hbl3 _ _) c)⟩
  · have hne : (er != 0) = true := by simpa using her
    rw [svB_no _ _ _ _ her] at hT3
    have HER := Lib.hid her
    clear her
    go_wp2_with fail
    go_ret2
    exact ⟨fun h => absurd h HER.out, fun _ => ⟨rfl, hT3⟩, hc3⟩
set_option maxRecDepth 100000 in
theorem raise_off (b c : Nat) (B : Bt) (d : Dk) (t : Int) (w : World) (h : BtAt w b c B d) (ho : d.off = true) :
    Calls Try.prog 53 #[.pointer (some ⟨b, 0, none⟩), .int .i64 t] w fun e w' => e = .returned (.int .i64 100) ∧ Below w.heap.size w w' := by
  have hal : Below w.heap.size w (w.alloc (.cells #[.int .i64 t] 3)) := (Below.refl _ w).alloc (Nat.le_refl _) _
  have ht0 := blk_new w (.cells #[.int .i64 t] 3)
  have HO := Lib.hid (bon_any b c B d _ (h.below hal))
  rw [ho] at HO
  have h0 := h.below hal
  skip
  clear h
  go_enter Try.func53, Try.ntmps53
  go_wp2_with (go_at_call 74; refine HO.out.mono ?_; rintro e w1 ⟨rfl, hB1⟩; have ht1 := (blk_cell (blk_below' hB1 ht0) 0).trans rfl; simp at ht1; have hb1 := below_then hal hB1)
  all_goals (go_ret; exact ⟨rfl, hb1⟩)
set_option maxRecDepth 100000 in
theorem raise_neg (b c : Nat) (B : Bt) (d : Dk) (t : Int) (w : World) (h : BtAt w b c B d) (ho : d.off = false) (ht : t < 0) :
    Calls Try.prog 53 #[.pointer (some ⟨b, 0, none⟩), .int .i64 t] w fun e w' => e = .returned (.int .i64 1) ∧ Below w.heap.size w w' := by
  have hal : Below w.heap.size w (w.alloc (.cells #[.int .i64 t] 3)) := (Below.refl _ w).alloc (Nat.le_refl _) _
  have ht0 := blk_new w (.cells #[.int .i64 t] 3)
  have HO := Lib.hid (bon_any b c B d _ (h.below hal))
  rw [ho] at HO
  have h0 := h.below hal
  skip
  clear h
  go_enter Try.func53, Try.ntmps53
  go_wp2_with (go_at_call 74; refine HO.out.mono ?_; rintro e w1 ⟨rfl, hB1⟩; have ht1 := (blk_cell (blk_below' hB1 ht0) 0).trans rfl; simp at ht1; have hb1 := below_then hal hB1)
  all_goals (go_ret; exact ⟨rfl, hb1⟩)
set_option maxRecDepth 100000 in
theorem raise_big (b c : Nat) (B : Bt) (d : Dk) (t : Int) (w : World) (h : BtAt w b c B d) (ho : d.off = false) (ht : 1048576 < t) :
    Calls Try.prog 53 #[.pointer (some ⟨b, 0, none⟩), .int .i64 t] w fun e w' => e = .returned (.int .i64 120) ∧ Below w.heap.size w w' := by
  have hal : Below w.heap.size w (w.alloc (.cells #[.int .i64 t] 3)) := (Below.refl _ w).alloc (Nat.le_refl _) _
  have ht0 := blk_new w (.cells #[.int .i64 t] 3)
  have HO := Lib.hid (bon_any b c B d _ (h.below hal))
  rw [ho] at HO
  have h0 := h.below hal
  have hn : ¬ t < 0 := by omega
  clear h
  go_enter Try.func53, Try.ntmps53
  go_wp2_with (go_at_call 74; refine HO.out.mono ?_; rintro e w1 ⟨rfl, hB1⟩; have ht1 := (blk_cell (blk_below' hB1 ht0) 0).trans rfl; simp at ht1; have hb1 := below_then hal hB1)
  all_goals (go_ret; exact ⟨rfl, hb1⟩)
end Go.Proofs.Ythkppkecclnlnaa
