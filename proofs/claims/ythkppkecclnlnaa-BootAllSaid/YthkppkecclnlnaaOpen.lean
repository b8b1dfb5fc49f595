/- Walks: Open. -/
import Derived.Test.YthkppkecclnlnaaSave
namespace Go.Proofs.Ythkppkecclnlnaa
set_option linter.unusedVariables false
set_option linter.unusedSimpArgs false
open Go.RowKit

theorem open_off (c : Nat) (d : Dk) (w : World) (h : DkAt w c d) (hlt : ∀ c ∈ d.bs, c < 256) (ho : d.off = true) :
    Calls Try.prog 49 #[.pointer (some ⟨c, 0, none⟩)] w fun e w' => e = .returned (.tuple #[.pointer none, .int .i64 100]) ∧ Below w.heap.size w w' := by
  have hl := loadA_off ho
  unfold recV at hl
  have HL := Lib.hid hl
  clear hl
  go_enter Try.func49, Try.ntmps49
  go_wp2_with fail
  refine (load_any c d w h hlt).mono ?_
  rintro e w1 ⟨rfl, hB1⟩
  rw [HL.out]
  go_wp2_with fail
  go_ret2
  exact ⟨rfl, hB1.alloc hB1.size _⟩
theorem open_end (c : Nat) (d : Dk) (w : World) (h : DkAt w c d) (hlt : ∀ c ∈ d.bs, c < 256) (r t s : Int) (hl : loadA d = .tuple #[recV 1073741824 r t, .int .i64 s, .int .i64 0]) :
    Calls Try.prog 49 #[.pointer (some ⟨c, 0, none⟩)] w fun e w' => e = .returned (.tuple #[.pointer none, .int .i64 120]) ∧ Below w.heap.size w w' := by
  unfold recV at hl
  have HL := Lib.hid hl
  clear hl
  go_enter Try.func49, Try.ntmps49
  go_wp2_with fail
  refine (load_any c d w h hlt).mono ?_
  rintro e w1 ⟨rfl, hB1⟩
  rw [HL.out]
  go_wp2_with fail
  go_ret2
  exact ⟨rfl, hB1.alloc hB1.size _⟩
/-- What Open leaves, of a disk and of what the save did. -/
def OpenPost (w : World) (c : Nat) (B : Bt) (D : Dk × Int) (e : Ending) (w' : World) : Prop :=
  (D.2 = 0 → ∃ b, e = .returned (.tuple #[.pointer (some ⟨b, 0, none⟩), .int .i64 0]) ∧ w.heap.size ≤ b ∧ BtAt w' b c B D.1) ∧
  (D.2 ≠ 0 → e = .returned (.tuple #[.pointer none, .int .i64 D.2]) ∧ DkAt w' c D.1) ∧ w.grownBy w' (some c)
set_option maxRecDepth 100000 in
set_option maxHeartbeats 1000000 in
theorem open_some (c : Nat) (d : Dk) (w : World) (h : DkAt w c d) (hlt : ∀ c ∈ d.bs, c < 256) (hw : d.writes ≤ 4611686018427387903) (hfu : d.fuse ≤ 9223372036854775807) (l r t l1 : Nat) (s : Int)
    (hl : loadA d = .tuple #[recV l r t, .int .i64 s, .int .i64 0]) (hl1 : l1 = l + 1) (hne : l ≠ 1073741824) (hle : l ≤ 1073741824) (hr : r ≤ 1099511627776) (ht : t ≤ 1048576) :
    Calls Try.prog 49 #[.pointer (some ⟨c, 0, none⟩)] w fun e w' => OpenPost w c ⟨l1, capR r, capT t, r, t⟩ (saveW d l1 (capR r) (capT t)) e w' := by
  unfold recV at hl
  have HL := Lib.hid hl
  have hneb : ((l : Int) == 1073741824) = false := by simp; omega
  have HSZ := Lib.hid (And.intro hlt (And.intro hw (And.intro hfu (And.intro hle (And.intro hr (And.intro ht hl1))))))
  obtain ⟨D, hDe⟩ : ∃ D, saveW d l1 (capR r) (capT t) = D := ⟨_, rfl⟩
  rw [hDe]
  have HDE := Lib.hid hDe
  clear hDe
  clear hl hne hle hr ht hl1 hw hfu
  go_enter Try.func49, Try.ntmps49
  go_wp2_with fail
  refine (load_any c d w h hlt).mono ?_
  rintro e w1 ⟨rfl, hB1⟩
  rw [HL.out]
  clear hlt
  obtain ⟨W2, hW2⟩ : ∃ W2, w1.alloc (.cells #[.int .i64 (l : Int), .int .i64 (r : Int), .int .i64 (t : Int)] 47) = W2 := ⟨_, rfl⟩
  have hal : Below w1.heap.size w1 W2 := by rw [← hW2]; exact (Below.refl _ _).alloc (Nat.le_refl _) _
  have hr2 : W2.heap[w1.heap.size]? = some (.cells #[.int .i64 (l : Int), .int .i64 (r : Int), .int .i64 (t : Int)] 47 (0, 0)) := by rw [← hW2]; exact box3 w1 (.int .i64 (l : Int)) (.int .i64 (r : Int)) (.int .i64 (t : Int)) 47
  have hb2 := below_then hB1 hal
  have hd2 := h.below hb2
  obtain ⟨W3, hW3⟩ : ∃ W3, W2.alloc (.cells #[.int .i64 0, .int .i64 0, .int .i64 0, .int .i64 (r : Int), .int .i64 (t : Int), .pointer (some ⟨c, 0, none⟩)] 79) = W3 := ⟨_, rfl⟩
  have hal3 : Below W2.heap.size W2 W3 := by rw [← hW3]; exact (Below.refl _ _).alloc (Nat.le_refl _) _
  have hbt : BtAt W3 W2.heap.size c ⟨0, 0, 0, r, t⟩ d := ⟨by unfold BtB; rw [← hW3]; exact blk_new W2 _, hd2.below hal3, by have := hd2.lt; omega⟩
  have hr3 := blk_below' hal3 hr2
  have hb3 := below_then hb2 hal3
  have HSV := Lib.hid (save_open W2.heap.size c ⟨0, 0, 0, r, t⟩ d w1.heap.size l r t l1 W3 hbt hr3 HSZ.out.2.2.2.1 HSZ.out.2.2.2.2.1 HSZ.out.2.2.2.2.2.1 HSZ.out.2.2.2.2.2.2 HSZ.out.1 HSZ.out.2.1 HSZ.out.2.2.1)
  rw [HDE.out] at HSV
  have hmf : ∀ (fn : Fn) (first cap : Array Value) (w : World), (Instr.makeFunc fn first cap).run Try.prog w = .ok (.func fn first cap) w := fun _ _ _ _ => rfl
  obtain ⟨x0, x1, x2, _⟩ := blk3 hr2
  have hsz : w.heap.size ≤ W2.heap.size := hb2.size
  clear hd2 hal h hal3 hbt hr3 hr2 hB1
  obtain ⟨d', er⟩ := D
  simp only at HSV
  by_cases her : er = 0
  · subst her
    go_wp2_with (go_at_call 72; refine HSV.out.mono ?_; rintro e w4 ⟨rfl, hT4, hC4⟩)
    go_ret2
    rw [svB_ok] at hT4
    exact ⟨fun _ => ⟨_, rfl, hsz, hT4⟩, fun h => absurd rfl h, ((Ch2.below hb3 _ _).then hC4).of_new hsz⟩
  · have hne : (er != 0) = true := by simpa using her
    have HER := Lib.hid her
    clear her
    go_wp2_with (go_at_call 72; refine HSV.out.mono ?_; rintro e w4 ⟨rfl, hT4, hC4⟩)
    go_ret2
    exact ⟨fun h => absurd h HER.out, fun _ => ⟨rfl, hT4.disk⟩, ((Ch2.below hb3 _ _).then hC4).of_new hsz⟩
set_option maxRecDepth 100000 in
set_option maxHeartbeats 1000000 in
theorem open_none (c : Nat) (d : Dk) (w : World) (h : DkAt w c d) (hlt : ∀ c ∈ d.bs, c < 256) (hw : d.writes ≤ 4611686018427387903) (hfu : d.fuse ≤ 9223372036854775807)
    (hl : loadA d = .tuple #[recV 0 0 0, .int .i64 0, .int .i64 40]) :
    Calls Try.prog 49 #[.pointer (some ⟨c, 0, none⟩)] w fun e w' => OpenPost w c ⟨1, capR 0, capT 0, 0, 0⟩ (saveW d ((1 : Nat) : Int) (capR 0 : Nat) (capT 0 : Nat)) e w' := by
  unfold recV at hl
  have HL := Lib.hid hl
  have HSZ := Lib.hid (And.intro hlt (And.intro hw hfu))
  obtain ⟨D, hDe⟩ : ∃ D, saveW d ((1 : Nat) : Int) (capR 0 : Nat) (capT 0 : Nat) = D := ⟨_, rfl⟩
  rw [hDe]
  obtain ⟨B, hB⟩ : ∃ B : Bt, B = ⟨1, capR 0, capT 0, 0, 0⟩ := ⟨_, rfl⟩
  rw [← hB]
  have HDE := Lib.hid hDe
  have HBB := Lib.hid hB
  clear hDe hB
  clear hl hw hfu
  go_enter Try.func49, Try.ntmps49
  go_wp2_with fail
  refine (load_any c d w h hlt).mono ?_
  rintro e w1 ⟨rfl, hB1⟩
  rw [HL.out]
  clear hlt
  obtain ⟨d', er⟩ := D
  go_upto_region 9 with fail
  have hal : Below w1.heap.size w1 (w1.alloc (.cells #[.int .i64 0, .int .i64 0, .int .i64 0] 47)) := (Below.refl _ _).alloc (Nat.le_refl _) _
  have hr2 := box3 w1 (.int .i64 0) (.int .i64 0) (.int .i64 0) 47
  have hn3 := b1' w1 (.cells #[.int .i64 0, .int .i64 0, .int .i64 0] 47) (.cells #[.int .i64 0, .int .i64 0, .int .i64 0, .int .i64 0, .int .i64 0, .pointer (some ⟨c, 0, none⟩)] 79)
  have hal3 : Below w1.heap.size w1 ((w1.alloc (.cells #[.int .i64 0, .int .i64 0, .int .i64 0] 47)).alloc (.cells #[.int .i64 0, .int .i64 0, .int .i64 0, .int .i64 0, .int .i64 0, .pointer (some ⟨c, 0, none⟩)] 79)) := hal.alloc (by simp) _
  have hr3 := blk_old hr2 (.cells #[.int .i64 0, .int .i64 0, .int .i64 0, .int .i64 0, .int .i64 0, .pointer (some ⟨c, 0, none⟩)] 79)
  generalize World.alloc (World.alloc w1 _) _ = W3 at *
  have hb3 := below_then hB1 hal3
  have hbt : BtAt W3 (w1.heap.size + 1) c ⟨0, 0, 0, 0, 0⟩ d := ⟨hn3, h.below hb3, by have := h.lt; have := hB1.size; omega⟩
  have HSV := Lib.hid (save_open (w1.heap.size + 1) c ⟨0, 0, 0, 0, 0⟩ d w1.heap.size 0 0 0 1 W3 hbt hr3 (by decide) (by decide) (by decide) rfl HSZ.out.1 HSZ.out.2.1 HSZ.out.2.2)
  rw [HDE.out] at HSV
  have hsz : w.heap.size ≤ w1.heap.size + 1 := by have := hB1.size; omega
  have hmf : ∀ (fn : Fn) (first cap : Array Value) (w : World), (Instr.makeFunc fn first cap).run Try.prog w = .ok (.func fn first cap) w := fun _ _ _ _ => rfl
  simp only at HSV
  clear hal hr2 hn3 hal3 hr3 hbt h hB1
  by_cases her : er = 0
  · subst her
    go_wp2_with (go_at_call 72; refine HSV.out.mono ?_; rintro e w4 ⟨rfl, hT4, hC4⟩)
    go_ret2
    rw [svB_ok] at hT4
    exact ⟨fun _ => ⟨_, rfl, hsz, by rw [HBB.out]; exact hT4⟩, fun h => absurd rfl h, ((Ch2.below hb3 _ _).then hC4).of_new hsz⟩
  · have hne : (er != 0) = true := by simpa using her
    have HER := Lib.hid her
    clear her
    go_wp2_with (go_at_call 72; refine HSV.out.mono ?_; rintro e w4 ⟨rfl, hT4, hC4⟩)
    go_ret2
    exact ⟨fun h => absurd h HER.out, fun _ => ⟨rfl, hT4.disk⟩, ((Ch2.below hb3 _ _).then hC4).of_new hsz⟩
end Go.Proofs.Ythkppkecclnlnaa
