/- Walks: the document's found, Load. -/
import Derived.Test.YthkppkecclnlnaaRefE
namespace Go.Proofs.Ythkppkecclnlnaa
set_option linter.unusedVariables false
set_option linter.unusedSimpArgs false
open Go.RowKit

theorem slotB_at {bs : List Nat} (hb : bs.length = 256) {k j x : Nat} (hk : k < 2) (h : (slotB bs k)[j]? = some x) : bs[64 * k + j]? = some x := by
  unfold slotB at h
  rw [List.getElem?_append, rowS_len hb (by omega)] at h
  by_cases c : j < 32
  · rw [if_pos c] at h
    unfold rowS at h
    rw [List.getElem?_take_of_lt c, List.getElem?_drop] at h
    rw [← h]; congr 1; omega
  · rw [if_neg c] at h
    have hj : j - 32 < 32 := by have := (List.getElem?_eq_some_iff.1 h).1; rwa [rowS_len hb (by omega)] at this
    unfold rowS at h
    rw [List.getElem?_take_of_lt hj, List.getElem?_drop] at h
    rw [← h]; congr 1; omega
theorem slotB_sz {bs : List Nat} (hb : bs.length = 256) {k : Nat} (hk : k < 2) : (slotB bs k).length = 64 := by
  unfold slotB; rw [List.length_append, rowS_len hb (by omega), rowS_len hb (by omega)]
theorem Rk.slot {W : World} {rb o gb n : Nat} {d : Dk} (h : Rk W rb o gb n d) {k : Nat} (hk : k < 2) : CellsAt W ⟨gb, 64 * k, none⟩ (slotB d.bs k) := by
  intro j x hx
  refine ⟨_, rfl, ?_⟩
  rw [Addr.add_mid]
  exact (h.cell _ _ (slotB_at h.len hk hx)).1
def fndL (bs : List Nat) : Nat → Rc × Int
  | 0 => (Rc.zero, -1)
  | k + 1 => pick (fndL bs k) k (decL (slotB bs k))
theorem fndL_two (bs : List Nat) : fndL bs 2 = bestL bs := rfl
def fndA (b : Rc × Int) : Value := .tuple #[recV b.1.life b.1.round b.1.tag, .int .i64 (b.1.seq : Int), .int .i64 b.2]
theorem found_end {w W : World} {A : Value} {a : Act} {x y z i c : Int} (hd : a.defers = []) (h2 : a.tmps[2]?.getD undef = .pointer (some ⟨w.heap.size, 0, none⟩)) (h3 : a.tmps[3]?.getD undef = .int .i64 i) (h4 : a.tmps[4]?.getD undef = .int .i64 c)
    (hb : W.heap[w.heap.size]? = some (.cells #[.int .i64 x, .int .i64 y, .int .i64 z] 47 (0, 0))) (hl : Below w.heap.size w W)
    (he : .tuple #[.agg #[.int .i64 x, .int .i64 y, .int .i64 z], .int .i64 i, .int .i64 c] = A) :
    bodyPost Try.prog Try.f70 (fun e w' => e = .returned A ∧ Below w.heap.size w w') Exit.ret a W := by
  obtain ⟨y0, y1, y2, _⟩ := blk3 hb
  refine bodyPost_ret (v := .tuple #[.agg #[.int .i64 x, .int .i64 y, .int .i64 z], .int .i64 i, .int .i64 c]) ?_ hd ⟨by rw [he], hl⟩
  simp [results, Try.results70, go_sem, h2, h3, h4, y0, y1, y2]
set_option maxRecDepth 100000 in
set_option maxHeartbeats 2000000 in
theorem refFound_any (rb o gb n : Nat) (d : Dk) (w : World) (h : Rk w rb o gb n d) (hn : 256 ≤ n) (hlt : ∀ c ∈ d.bs, c < 256) :
    Calls Try.prog 70 #[.pointer (some ⟨rb, o, none⟩)] w fun e w' => e = .returned (fndA (bestL d.bs)) ∧ Below w.heap.size w w' := by
  have hh := Lib.hid h
  have hk0 := box3 w (.int .i64 0) (.int .i64 0) (.int .i64 0) 47
  have hb0 := (Below.refl w.heap.size w).alloc (Nat.le_refl _) (.cells #[.int .i64 0, .int .i64 0, .int .i64 0] 47)
  clear h
  go_enter Try.func70, Try.ntmps70
  go_wp2_with fail
  obtain ⟨W2, hW2⟩ : ∃ W2, (w.alloc (.cells #[.int .i64 0, .int .i64 0, .int .i64 0] 47)).alloc (.cells #[.int .i64 0, .int .i64 0, .int .i64 0] 47) = W2 := ⟨_, rfl⟩
  have hB2 : Below w.heap.size w W2 := by rw [← hW2]; exact hb0.alloc hb0.size _
  have hx2 : W2.heap[w.heap.size]? = some (.cells #[.int .i64 0, .int .i64 0, .int .i64 0] 47 (0, 0)) := by rw [← hW2]; exact blk_old hk0 _
  have hy2 : W2.heap[w.heap.size + 1]? = some (.cells #[.int .i64 0, .int .i64 0, .int .i64 0] 47 (0, 0)) := by
    rw [← hW2]
    have := box3 (w.alloc (.cells #[.int .i64 0, .int .i64 0, .int .i64 0] 47)) (.int .i64 0) (.int .i64 0) (.int .i64 0) 47
    simpa using this
  rw [hW2]
  clear hW2 hk0 hb0
  go_loopw [6, 7, 8] (fun s q i wr => ∃ (k : Nat) (B : Rc × Int), s = .int .i64 (B.1.seq : Int) ∧ q = .int .i64 B.2 ∧ i = .int .i64 k ∧ k ≤ 2 ∧ Hid (fndL d.bs k = B) ∧ Below w.heap.size w wr ∧ wr.heap[w.heap.size]? = some (.cells #[.int .i64 0, .int .i64 0, .int .i64 0] 47 (0, 0)) ∧ wr.heap[w.heap.size + 1]? = some (.cells #[.int .i64 (B.1.life : Int), .int .i64 (B.1.round : Int), .int .i64 (B.1.tag : Int)] 47 (0, 0))) (fun _ _ i _ => 2 - (intOf i).toNat)
  case atStart => exact ⟨0, (Rc.zero, -1), rfl, rfl, rfl, by omega, rfl, hB2, hx2, hy2⟩
  case round =>
    obtain ⟨k, B, rfl, rfl, rfl, hk, hF, hB, hx, hy⟩ := hrel
    clear hB2 hx2 hy2
    have hR := hh.out.below hB
    obtain ⟨r, i⟩ := B
    dsimp only at hy ⊢
    by_cases hlt2 : k < 2
    · obtain ⟨c0, _, _, _⟩ := hR.cells
      have hS := hR.slot hlt2
      have HD := Lib.hid (fun cp => refDecode_any gb (64 * k) cp (slotB d.bs k) (slotB_sz hR.len hlt2) (slotB_lt hlt k) wr hS hR.lt.2)
      have i1 : (k : Int) < 2 := by omega
      have i2 : (0 : Int) ≤ (k : Int) := by omega
      have i3 : (k : Int).toNat = k := Int.toNat_natCast k
      have i4 : (0 : Int) ≤ 64 * (k : Int) := by omega
      have i5 : (64 * (k : Int)).toNat = 64 * k := by omega
      have i6 : 64 * (k : Int) + 64 ≤ (n : Int) := by omega
      have i7 : 64 * (k : Int) ≤ 64 * (k : Int) + 64 := by omega
      have i8 : (64 * (k : Int) + 64).toNat = 64 * k + 64 := by omega
      have hfl : fndL d.bs (k + 1) = pick (r, i) k (decL (slotB d.bs k)) := by show pick (fndL d.bs k) k _ = _; rw [hF.out]
      generalize decL (slotB d.bs k) = O at hfl HD
      have HF := Lib.hid hfl
      clear hS hfl hF
      obtain ⟨A, hA⟩ : ∃ A, decA O = A := ⟨_, rfl⟩
      rw [hA] at HD
      go_wp2_with fail
      refine (HD.out _).mono ?_
      rintro e w3 ⟨rfl, hB3⟩
      have hB4 := below_then hB hB3
      have hx3 := blk_below' hB3 hx
      have hy3 := blk_below' hB3 hy
      clear hB hx hy hB3 HD c0
      cases O with
      | none =>
        have hA : Value.tuple #[.agg #[.int .i64 0, .int .i64 0, .int .i64 0], .int .i64 0, .int .i64 70] = A := hA
        subst hA
        go_wp2_with fail
        go_roundw
        case rel => exact ⟨k + 1, (r, i), rfl, rfl, by go_num, by omega, HF.out, hB4.alloc hB4.size _, blk_old hx3 _, blk_old hy3 _⟩
        case measure => simp [intOf]; omega
      | some t =>
        have hA : Value.tuple #[.agg #[.int .i64 (t.life : Int), .int .i64 (t.round : Int), .int .i64 (t.tag : Int)], .int .i64 (t.seq : Int), .int .i64 0] = A := hA
        subst hA
        by_cases hq : r.seq < t.seq
        · have hq' : (r.seq : Int) < (t.seq : Int) := by omega
          have HQ := Lib.hid hq
          have hwx := blk_lt hy3
          have hne : ¬ w3.heap.size = w.heap.size + 1 := by omega
          have hne2 : ¬ w.heap.size + 1 = w3.heap.size := by omega
          have hz3 := box3 w3 (.int .i64 (t.life : Int)) (.int .i64 (t.round : Int)) (.int .i64 (t.tag : Int)) 47
          have hy4 := blk_old hy3 (.cells #[.int .i64 (t.life : Int), .int .i64 (t.round : Int), .int .i64 (t.tag : Int)] 47)
          have hx4 := blk_old hx3 (.cells #[.int .i64 (t.life : Int), .int .i64 (t.round : Int), .int .i64 (t.tag : Int)] 47)
          have hb4 := hB4.alloc hB4.size (.cells #[.int .i64 (t.life : Int), .int .i64 (t.round : Int), .int .i64 (t.tag : Int)] 47)
          clear hq hx3 hy3 hB4
          go_upto_region 7 with fail
          generalize World.alloc w3 _ = W4 at *
          obtain ⟨y0, y1, y2, g0, g1, g2⟩ := blk3 hy4
          obtain ⟨x0, x1, x2, f0, f1, f2⟩ := blk3 hz3
          have HX := Lib.hid hx4
          have HY := Lib.hid hy4
          clear hx4 hy4 hz3
          go_wp2_with fail
          go_roundw
          case rel => 
            refine ⟨k + 1, (t, (k : Int)), rfl, rfl, by go_num, by omega, ?_, ?_, ?_, ?_⟩
            · show _ = _
              rw [HF.out]; unfold pick; simp only; rw [if_pos HQ.out]
            · exact ((hb4.setCell (by simp) _).setCell (by simp) _).setCell (by simp) _
            · exact blk_set (blk_set (blk_set HX.out _ _ (by simp)) _ _ (by simp)) _ _ (by simp)
            · exact blk_store (blk_store (blk_store HY.out 0 _) 1 _) 2 _
          case measure => simp [intOf]; omega
        · have hq' : ¬ (r.seq : Int) < (t.seq : Int) := by omega
          have HQ := Lib.hid hq
          clear hq
          go_wp2_with fail
          go_roundw
          case rel => 
            refine ⟨k + 1, (r, i), rfl, rfl, by go_num, by omega, ?_, hB4.alloc hB4.size _, blk_old hx3 _, blk_old hy3 _⟩
            show _ = _
            rw [HF.out]; unfold pick; simp only; rw [if_neg HQ.out]
          case measure => simp [intOf]; omega
    · obtain rfl : k = 2 := by omega
      obtain ⟨y0, y1, y2, g0, g1, g2⟩ := blk3 hy
      obtain ⟨x0, x1, x2, f0, f1, f2⟩ := blk3 hx
      rw [fndL_two] at hF
      have HB := Lib.hid hB
      have HX := Lib.hid hx
      clear hB hx hy
      go_wp2_with fail
      generalize hWF : World.setCell (World.setCell (World.setCell _ _ _) _ _) _ _ = WF
      refine found_end (x := (r.life : Int)) (y := (r.round : Int)) (z := (r.tag : Int)) (i := (r.seq : Int)) (c := i) rfl rfl rfl rfl ?_ ?_ (by rw [hF.out]; rfl)
      · rw [← hWF]; exact blk_store (blk_store (blk_store HX.out 0 _) 1 _) 2 _
      · rw [← hWF]; exact ((HB.out.setCell (Nat.le_refl _) _).setCell (Nat.le_refl _) _).setCell (Nat.le_refl _) _
end Go.Proofs.Ythkppkecclnlnaa
