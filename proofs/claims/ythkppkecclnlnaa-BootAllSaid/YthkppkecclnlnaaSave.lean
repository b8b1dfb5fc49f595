/- Walks: Durable, save (with each of the three closures). -/
import Derived.Test.YthkppkecclnlnaaClo
namespace Go.Proofs.Ythkppkecclnlnaa
set_option linter.unusedVariables false
set_option linter.unusedSimpArgs false
open Go.RowKit

theorem durable_any (b : Nat) (B : Bt) (dk : Option Addr) (w : World) (h : BtB w b B dk) : Calls Try.prog 51 #[.pointer (some ⟨b, 0, none⟩)] w fun e w' => e = .returned (recV B.life B.kround B.ktag) ∧ Below w.heap.size w w' := by
  have hal : Below w.heap.size w (w.alloc (.cells #[.int .i64 0, .int .i64 0, .int .i64 0] 47)) := (Below.refl _ w).alloc (Nat.le_refl _) _
  have hn := box3 w (.int .i64 0) (.int .i64 0) (.int .i64 0) 47
  have h1 := h.below hal
  have hne : ¬ b = w.heap.size := by have := blk_lt h; omega
  clear h
  unfold recV
  go_enter Try.func51, Try.ntmps51
  go_upto_region 1 with fail
  generalize World.alloc w _ = W1 at *
  obtain ⟨⟨c0, c1, c2, c3, c4, c5⟩, _⟩ := h1.cells
  obtain ⟨z0, z1, z2, f0, f1, f2⟩ := blk3 hn
  go_wp2_with fail
  generalize hWF : World.setCell (World.setCell (World.setCell _ _ _) _ _) _ _ = WF
  have hfb : WF.heap[w.heap.size]? = some (.cells #[.int .i64 (B.life : Int), .int .i64 (B.kround : Int), .int .i64 (B.ktag : Int)] 47 (0, 0)) := by
    rw [← hWF]; exact blk_store (blk_store (blk_store hn 0 _) 1 _) 2 _
  have hfl : Below w.heap.size w WF := by
    rw [← hWF]; exact ((hal.setCell (Nat.le_refl _) _).setCell (Nat.le_refl _) _).setCell (Nat.le_refl _) _
  obtain ⟨y0, y1, y2, _⟩ := blk3 hfb
  exact bodyPost_ret (v := .agg #[.int .i64 (B.life : Int), .int .i64 (B.kround : Int), .int .i64 (B.ktag : Int)]) (by simp [results, Try.results51, go_sem, y0, y1, y2]) rfl ⟨rfl, hfl⟩
theorem clo_open' (nb rb : Nat) (x y z : Int) (l r t l1 : Nat) (w : World) (hn : w.heap[nb]? = some (.cells #[.int .i64 x, .int .i64 y, .int .i64 z] 47 (0, 0))) (hr : w.heap[rb]? = some (.cells #[.int .i64 (l : Int), .int .i64 (r : Int), .int .i64 (t : Int)] 47 (0, 0)))
    (hne : ¬ nb = rb) (hl : l ≤ 1073741824) (hr2 : r ≤ 1099511627776) (ht : t ≤ 1048576) (hl1 : l1 = l + 1) :
    Calls Try.prog 73 #[.pointer (some ⟨nb, 0, none⟩), .pointer (some ⟨rb, 0, none⟩)] w fun e w' => e = .returned (.tuple #[]) ∧ w'.heap[nb]? = some (.cells #[.int .i64 (l1 : Int), .int .i64 (capR r : Int), .int .i64 (capT t : Int)] 47 (0, 0)) ∧ w.grownBy w' (some nb) := by
  subst hl1
  exact clo_open nb rb x y z l r t w hn hr hne hl hr2 ht
def svB (B : Bt) (x y z : Nat) (er : Int) : Bt := if er = 0 then { B with life := x, kround := y, ktag := z } else B
theorem svB_ok (B : Bt) (x y z : Nat) : svB B x y z 0 = { B with life := x, kround := y, ktag := z } := if_pos rfl
theorem svB_no (B : Bt) (x y z : Nat) {er : Int} (h : er ≠ 0) : svB B x y z er = B := if_neg h
set_option maxRecDepth 100000 in
set_option maxHeartbeats 1000000 in
theorem save_next (b c : Nat) (B : Bt) (d : Dk) (q : Bool) (w : World) (h : BtAt w b c B d) (hr2 : B.kround ≤ 1099511627776) (hlt : ∀ c ∈ d.bs, c < 256) (hw : d.writes ≤ 4611686018427387903) (hfu : d.fuse ≤ 9223372036854775807) :
    Calls Try.prog 72 #[.pointer (some ⟨b, 0, none⟩), .func (.func 76) #[] #[]] w fun e w' =>
      e = .returned (.int .i64 (saveW d B.life (capR B.kround) B.ktag).2) ∧ BtAt w' b c (svB B B.life (capR B.kround) B.ktag (saveW d B.life (capR B.kround) B.ktag).2) (saveW d B.life (capR B.kround) B.ktag).1 ∧ Ch2 w w' b c := by
  obtain ⟨⟨c0, c1, c2, c3, c4, c5⟩, _⟩ := h.boot.cells
  obtain ⟨W1, hW1⟩ : ∃ W1, w.alloc (.cells #[.int .i64 (B.life : Int), .int .i64 (B.kround : Int), .int .i64 (B.ktag : Int)] 47) = W1 := ⟨_, rfl⟩
  have hal : Below w.heap.size w W1 := by rw [← hW1]; exact (Below.refl _ w).alloc (Nat.le_refl _) _
  have hn1 : W1.heap[w.heap.size]? = some (.cells #[.int .i64 (B.life : Int), .int .i64 (B.kround : Int), .int .i64 (B.ktag : Int)] 47 (0, 0)) := by rw [← hW1]; exact box3 w (.int .i64 (B.life : Int)) (.int .i64 (B.kround : Int)) (.int .i64 (B.ktag : Int)) 47
  have h1 := h.below hal
  have hbl := blk_lt h.boot
  have hcl := h.disk.lt
  skip
  have HSZ := Lib.hid (And.intro hlt (And.intro hw hfu))
  clear hlt hw hfu
  go_enter Try.func72, Try.ntmps72
  go_wp2_with fail
  refine (clo_next w.heap.size B.life B.kround B.ktag W1 hn1 hr2).mono ?_
  rintro e w2 ⟨rfl, hn2, hg2⟩
  have hb2 : Below w.heap.size w w2 := hal.grown hg2 hal.size (fun j h => by cases h; exact Nat.le_refl _)
  have h2 := h.below hb2
  obtain ⟨⟨y0, y1, y2, y3, y4, y5⟩, _⟩ := h2.boot.cells
  obtain ⟨x0, x1, x2, _⟩ := blk3 hn2
  clear hg2 h1 hn1 hW1 hal c0 c1 c2 c3 c4 c5
  go_wp2_with fail
  refine wp_region_still_tail 5 (by kernel_rfl) (by kernel_rfl) ?_
  simp only [List.take_succ_cons, List.take_zero, List.drop_succ_cons, List.drop_zero]
  repeat still_step
  try refine wpStill_nil ?_
  change wpList _ _ _ _ _ w2.drew
  have h3 : BtAt w2.drew b c B d := ⟨h2.boot, h2.disk, h2.ne⟩
  have hb3 := hb2.drew
  have hn3 : w2.drew.heap[w.heap.size]? = _ := hn2
  clear h2 hb2 hn2 x0 x1 x2 y0 y1 y2 y3 y4 y5
  generalize w2.drew = W3 at *
  have HSV := Lib.hid (save_any c d (B.life : Nat) ((capR B.kround) : Nat) (B.ktag : Nat) W3 h3.disk HSZ.out.1 HSZ.out.2.1 HSZ.out.2.2)
  unfold recV at HSV
  obtain ⟨D, hDe⟩ : ∃ D, saveW d (B.life : Nat) ((capR B.kround) : Nat) (B.ktag : Nat) = D := ⟨_, rfl⟩
  rw [hDe] at HSV
  have HDE := Lib.hid hDe
  clear hDe
  obtain ⟨d', er⟩ := D
  simp only at HSV
  by_cases her : er = 0
  · subst her
    go_wp2_with (go_at_call 39; refine HSV.out.mono ?_; rintro e w4 ⟨rfl, hD4, hg4⟩; have h4 := h3.turn hg4 hD4; obtain ⟨x0, x1, x2, _⟩ := blk3 (blk_grown hg4 hn3 (by simp; omega)); obtain ⟨⟨y0, y1, y2, y3, y4, y5⟩, ⟨f0, f1, f2, f3, f4⟩⟩ := h4.boot.cells; have hb4 := (Ch2.below hb3 b c).then (Ch2.two hg4 b); have hbl4 := blk_lt h4.boot)
    go_ret
    rw [HDE.out, svB_ok]
    exact ⟨rfl, h4.setRec _ _ _, hb4.then (Ch2.one (but_set (but_set (but_set (but_refl _ _) hbl4 _ _) hbl4 _ _) hbl4 _ _) c)⟩
  · have hne : (er != 0) = true := by simpa using her
    have HER := Lib.hid her
    clear her
    go_wp2_with (go_at_call 39; refine HSV.out.mono ?_; rintro e w4 ⟨rfl, hD4, hg4⟩)
    go_ret
    rw [HDE.out, svB_no _ _ _ _ HER.out]
    exact ⟨rfl, h3.turn hg4 hD4, (Ch2.below hb3 b c).then (Ch2.two hg4 b)⟩
set_option maxRecDepth 100000 in
set_option maxHeartbeats 1000000 in
theorem save_open (b c : Nat) (B : Bt) (d : Dk) (rb l r t l1 : Nat) (w : World) (h : BtAt w b c B d) (hr : w.heap[rb]? = some (.cells #[.int .i64 (l : Int), .int .i64 (r : Int), .int .i64 (t : Int)] 47 (0, 0))) (hl : l ≤ 1073741824) (hr2 : r ≤ 1099511627776) (ht : t ≤ 1048576) (hl1 : l1 = l + 1) (hlt : ∀ c ∈ d.bs, c < 256) (hw : d.writes ≤ 4611686018427387903) (hfu : d.fuse ≤ 9223372036854775807) :
    Calls Try.prog 72 #[.pointer (some ⟨b, 0, none⟩), .func (.func 73) #[] #[.pointer (some ⟨rb, 0, none⟩)]] w fun e w' =>
      e = .returned (.int .i64 (saveW d l1 (capR r) (capT t)).2) ∧ BtAt w' b c (svB B l1 (capR r) (capT t) (saveW d l1 (capR r) (capT t)).2) (saveW d l1 (capR r) (capT t)).1 ∧ Ch2 w w' b c := by
  obtain ⟨⟨c0, c1, c2, c3, c4, c5⟩, _⟩ := h.boot.cells
  obtain ⟨W1, hW1⟩ : ∃ W1, w.alloc (.cells #[.int .i64 (B.life : Int), .int .i64 (B.kround : Int), .int .i64 (B.ktag : Int)] 47) = W1 := ⟨_, rfl⟩
  have hal : Below w.heap.size w W1 := by rw [← hW1]; exact (Below.refl _ w).alloc (Nat.le_refl _) _
  have hn1 : W1.heap[w.heap.size]? = some (.cells #[.int .i64 (B.life : Int), .int .i64 (B.kround : Int), .int .i64 (B.ktag : Int)] 47 (0, 0)) := by rw [← hW1]; exact box3 w (.int .i64 (B.life : Int)) (.int .i64 (B.kround : Int)) (.int .i64 (B.ktag : Int)) 47
  have h1 := h.below hal
  have hbl := blk_lt h.boot
  have hcl := h.disk.lt
  have hrb := blk_below' hal hr; have HL1 := Lib.hid hl1; clear hl1
  have HSZ := Lib.hid (And.intro hlt (And.intro hw hfu))
  clear hlt hw hfu
  go_enter Try.func72, Try.ntmps72
  go_wp2_with fail
  refine (clo_open' w.heap.size rb B.life B.kround B.ktag l r t l1 W1 hn1 hrb (by have := blk_lt hr; omega) hl hr2 ht HL1.out).mono ?_
  rintro e w2 ⟨rfl, hn2, hg2⟩
  have hb2 : Below w.heap.size w w2 := hal.grown hg2 hal.size (fun j h => by cases h; exact Nat.le_refl _)
  have h2 := h.below hb2
  obtain ⟨⟨y0, y1, y2, y3, y4, y5⟩, _⟩ := h2.boot.cells
  obtain ⟨x0, x1, x2, _⟩ := blk3 hn2
  clear hg2 h1 hn1 hW1 hal c0 c1 c2 c3 c4 c5
  go_wp2_with fail
  refine wp_region_still_tail 5 (by kernel_rfl) (by kernel_rfl) ?_
  simp only [List.take_succ_cons, List.take_zero, List.drop_succ_cons, List.drop_zero]
  repeat still_step
  try refine wpStill_nil ?_
  change wpList _ _ _ _ _ w2.drew
  have h3 : BtAt w2.drew b c B d := ⟨h2.boot, h2.disk, h2.ne⟩
  have hb3 := hb2.drew
  have hn3 : w2.drew.heap[w.heap.size]? = _ := hn2
  clear h2 hb2 hn2 x0 x1 x2 y0 y1 y2 y3 y4 y5
  generalize w2.drew = W3 at *
  have HSV := Lib.hid (save_any c d (l1 : Nat) ((capR r) : Nat) ((capT t) : Nat) W3 h3.disk HSZ.out.1 HSZ.out.2.1 HSZ.out.2.2)
  unfold recV at HSV
  obtain ⟨D, hDe⟩ : ∃ D, saveW d (l1 : Nat) ((capR r) : Nat) ((capT t) : Nat) = D := ⟨_, rfl⟩
  rw [hDe] at HSV
  have HDE := Lib.hid hDe
  clear hDe
  obtain ⟨d', er⟩ := D
  simp only at HSV
  by_cases her : er = 0
  · subst her
    go_wp2_with (go_at_call 39; refine HSV.out.mono ?_; rintro e w4 ⟨rfl, hD4, hg4⟩; have h4 := h3.turn hg4 hD4; obtain ⟨x0, x1, x2, _⟩ := blk3 (blk_grown hg4 hn3 (by simp; omega)); obtain ⟨⟨y0, y1, y2, y3, y4, y5⟩, ⟨f0, f1, f2, f3, f4⟩⟩ := h4.boot.cells; have hb4 := (Ch2.below hb3 b c).then (Ch2.two hg4 b); have hbl4 := blk_lt h4.boot)
    go_ret
    rw [HDE.out, svB_ok]
    exact ⟨rfl, h4.setRec _ _ _, hb4.then (Ch2.one (but_set (but_set (but_set (but_refl _ _) hbl4 _ _) hbl4 _ _) hbl4 _ _) c)⟩
  · have hne : (er != 0) = true := by simpa using her
    have HER := Lib.hid her
    clear her
    go_wp2_with (go_at_call 39; refine HSV.out.mono ?_; rintro e w4 ⟨rfl, hD4, hg4⟩)
    go_ret
    rw [HDE.out, svB_no _ _ _ _ HER.out]
    exact ⟨rfl, h3.turn hg4 hD4, (Ch2.below hb3 b c).then (Ch2.two hg4 b)⟩
set_option maxRecDepth 100000 in
set_option maxHeartbeats 1000000 in
theorem save_raise (b c : Nat) (B : Bt) (d : Dk) (tb t : Nat) (w : World) (h : BtAt w b c B d) (ht : w.heap[tb]? = some (.cells #[.int .i64 (t : Int)] 3 (0, 0))) (ht2 : t ≤ 1048576) (hlt : ∀ c ∈ d.bs, c < 256) (hw : d.writes ≤ 4611686018427387903) (hfu : d.fuse ≤ 9223372036854775807) :
    Calls Try.prog 72 #[.pointer (some ⟨b, 0, none⟩), .func (.func 78) #[] #[.pointer (some ⟨tb, 0, none⟩)]] w fun e w' =>
      e = .returned (.int .i64 (saveW d B.life B.kround (capZ t)).2) ∧ BtAt w' b c (svB B B.life B.kround (capZ t) (saveW d B.life B.kround (capZ t)).2) (saveW d B.life B.kround (capZ t)).1 ∧ Ch2 w w' b c := by
  obtain ⟨⟨c0, c1, c2, c3, c4, c5⟩, _⟩ := h.boot.cells
  obtain ⟨W1, hW1⟩ : ∃ W1, w.alloc (.cells #[.int .i64 (B.life : Int), .int .i64 (B.kround : Int), .int .i64 (B.ktag : Int)] 47) = W1 := ⟨_, rfl⟩
  have hal : Below w.heap.size w W1 := by rw [← hW1]; exact (Below.refl _ w).alloc (Nat.le_refl _) _
  have hn1 : W1.heap[w.heap.size]? = some (.cells #[.int .i64 (B.life : Int), .int .i64 (B.kround : Int), .int .i64 (B.ktag : Int)] 47 (0, 0)) := by rw [← hW1]; exact box3 w (.int .i64 (B.life : Int)) (.int .i64 (B.kround : Int)) (.int .i64 (B.ktag : Int)) 47
  have h1 := h.below hal
  have hbl := blk_lt h.boot
  have hcl := h.disk.lt
  have htb := blk_below' hal ht
  have HSZ := Lib.hid (And.intro hlt (And.intro hw hfu))
  clear hlt hw hfu
  go_enter Try.func72, Try.ntmps72
  go_wp2_with fail
  refine (clo_raise w.heap.size tb B.life B.kround B.ktag t W1 hn1 htb (by have := blk_lt ht; omega) ht2).mono ?_
  rintro e w2 ⟨rfl, hn2, hg2⟩
  have hb2 : Below w.heap.size w w2 := hal.grown hg2 hal.size (fun j h => by cases h; exact Nat.le_refl _)
  have h2 := h.below hb2
  obtain ⟨⟨y0, y1, y2, y3, y4, y5⟩, _⟩ := h2.boot.cells
  obtain ⟨x0, x1, x2, _⟩ := blk3 hn2
  clear hg2 h1 hn1 hW1 hal c0 c1 c2 c3 c4 c5
  go_wp2_with fail
  refine wp_region_still_tail 5 (by kernel_rfl) (by kernel_rfl) ?_
  simp only [List.take_succ_cons, List.take_zero, List.drop_succ_cons, List.drop_zero]
  repeat still_step
  try refine wpStill_nil ?_
  change wpList _ _ _ _ _ w2.drew
  have h3 : BtAt w2.drew b c B d := ⟨h2.boot, h2.disk, h2.ne⟩
  have hb3 := hb2.drew
  have hn3 : w2.drew.heap[w.heap.size]? = _ := hn2
  clear h2 hb2 hn2 x0 x1 x2 y0 y1 y2 y3 y4 y5
  generalize w2.drew = W3 at *
  have HSV := Lib.hid (save_any c d (B.life : Nat) (B.kround : Nat) ((capZ t) : Nat) W3 h3.disk HSZ.out.1 HSZ.out.2.1 HSZ.out.2.2)
  unfold recV at HSV
  obtain ⟨D, hDe⟩ : ∃ D, saveW d (B.life : Nat) (B.kround : Nat) ((capZ t) : Nat) = D := ⟨_, rfl⟩
  rw [hDe] at HSV
  have HDE := Lib.hid hDe
  clear hDe
  obtain ⟨d', er⟩ := D
  simp only at HSV
  by_cases her : er = 0
  · subst her
    go_wp2_with (go_at_call 39; refine HSV.out.mono ?_; rintro e w4 ⟨rfl, hD4, hg4⟩; have h4 := h3.turn hg4 hD4; obtain ⟨x0, x1, x2, _⟩ := blk3 (blk_grown hg4 hn3 (by simp; omega)); obtain ⟨⟨y0, y1, y2, y3, y4, y5⟩, ⟨f0, f1, f2, f3, f4⟩⟩ := h4.boot.cells; have hb4 := (Ch2.below hb3 b c).then (Ch2.two hg4 b); have hbl4 := blk_lt h4.boot)
    go_ret
    rw [HDE.out, svB_ok]
    exact ⟨rfl, h4.setRec _ _ _, hb4.then (Ch2.one (but_set (but_set (but_set (but_refl _ _) hbl4 _ _) hbl4 _ _) hbl4 _ _) c)⟩
  · have hne : (er != 0) = true := by simpa using her
    have HER := Lib.hid her
    clear her
    go_wp2_with (go_at_call 39; refine HSV.out.mono ?_; rintro e w4 ⟨rfl, hD4, hg4⟩)
    go_ret
    rw [HDE.out, svB_no _ _ _ _ HER.out]
    exact ⟨rfl, h3.turn hg4 hD4, (Ch2.below hb3 b c).then (Ch2.two hg4 b)⟩
end Go.Proofs.Ythkppkecclnlnaa
