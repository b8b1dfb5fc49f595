/- Walks: the document's Read and Copy of a disk. -/
import Derived.Test.YtpfiaepoibablaaRefJ
import Derived.Test.YtpfiaepoibablaaRefE
import Derived.Test.YtpfiaepoibablaaRead
import Derived.Test.YtpfiaepoibablaaBkB
namespace Go.Proofs.Ytpfiaepoibablaa
set_option linter.unusedVariables false
set_option linter.unusedSimpArgs false
open Go.RowKit

theorem cells_of {W : World} {g : Nat} {l : List Nat} {rest : List Value} (h : W.heap[g]? = some (.cells (bC l ++ rest).toArray 5 (0, 0))) (k m : Nat) (hl : k + m ≤ l.length) : ∀ j u, (bC ((l.drop k).take m))[j]? = some u → W.cell? ((⟨g, k, none⟩ : Addr).add j) = some u := by
  intro j u hu
  rw [Addr.add_mid, blk_cell h, List.getElem?_toArray]
  have hj : j < m := by
    have := (List.getElem?_eq_some_iff.1 hu).1
    rw [bC_len, List.length_take, List.length_drop] at this
    omega
  unfold bC at hu ⊢
  rw [List.map_take, List.map_drop, List.getElem?_take, if_pos hj, List.getElem?_drop] at hu
  rw [List.getElem?_append_left (by rw [List.length_map]; omega)]
  exact hu
theorem own_block {W : World} {base n : Nat} {l : List Nat} {v : Value} (h : W.ownsRow base 5 1 v n (bC l)) (hn : 0 < n) :
    ∃ g cap rest, v = .slice (some ⟨g, 0, none⟩) n cap ∧ n ≤ cap ∧ base ≤ g ∧ W.heap[g]? = some (.cells (bC l ++ rest).toArray 5 (0, 0)) := by
  rcases h.2 with ⟨_, h0⟩ | ⟨g, cap, cur, rfl, hb, hg, hc, _, _, ht⟩
  · omega
  · refine ⟨g, cap, cur.toList.drop (n * 1), rfl, hc, hb, ?_⟩
    rw [hg, ← ht, List.take_append_drop]
/-- What a reading answers. -/
def Rd10 (d : Dk) (s : Int) (w : World) (e : Ending) (w' : World) : Prop :=
  ∃ v, e = .returned (.tuple #[v, .int .i64 (mayV d s)]) ∧ (mayV d s ≠ 0 → v = .slice none 0 0) ∧ (mayV d s = 0 → w'.ownsRow w.heap.size 5 1 v 32 (bC ((d.bs.drop (s.toNat * 32)).take 32))) ∧ Below w.heap.size w w'
theorem Rd10.no {d : Dk} {s x : Int} {w : World} (h : mayV d s = x) (hx : x ≠ 0) : Rd10 d s w (.returned (.tuple #[.slice none 0 0, .int .i64 x])) w :=
  ⟨_, by rw [h], fun _ => rfl, fun k => absurd (h.symm.trans k) hx, Below.refl _ _⟩
theorem Rd10.yes {d : Dk} {s : Int} {w w' : World} {v : Value} (h : mayV d s = 0) (hv : w'.ownsRow w.heap.size 5 1 v 32 (bC ((d.bs.drop (s.toNat * 32)).take 32))) (hb : Below w.heap.size w w') : Rd10 d s w (.returned (.tuple #[v, .int .i64 0])) w' :=
  ⟨_, by rw [h], fun k => absurd h k, fun _ => hv, hb⟩
set_option maxRecDepth 100000 in
set_option maxHeartbeats 1000000 in
theorem refRead10_any (rb o gb n : Nat) (d : Dk) (s : Int) (w : World) (h : Rk w rb o gb n d) (hn : 256 ≤ n) :
    Calls Try.prog 23 #[.pointer (some ⟨rb, o, none⟩), .int .i64 s] w (Rd10 d s w) := by
  obtain ⟨i0, hi, hz0, hz1, hz2⟩ := info_parts Try.infoByte
  obtain ⟨c0, c1, c2, c3⟩ := h.cells
  have hh := Lib.hid h
  have hlen := h.len
  clear h
  cases hoff : d.off with
  | true =>
    rw [hoff] at c1
    have hm : mayV d s = 100 := by unfold mayV; rw [hoff]; rfl
    go_enter Try.func23, Try.ntmps23
    go_wp2_with fail
    go_ret2
    exact .no hm (by decide)
  | false =>
    rw [hoff] at c1
    by_cases hs : s < 0 ∨ 8 ≤ s
    · have hm : mayV d s = 101 := by unfold mayV; rw [hoff, if_pos hs]; rfl
      go_enter Try.func23, Try.ntmps23
      rcases (by omega : s < 0 ∨ (0 ≤ s ∧ 8 ≤ s)) with s0 | ⟨s1, s2⟩
      · go_wp2_with fail
        go_ret2
        exact .no hm (by decide)
      · have s3 : ¬ s < 0 := by omega
        go_wp2_with fail
        go_ret2
        exact .no hm (by decide)
    · have hm : mayV d s = 0 := by unfold mayV; rw [hoff, if_neg hs]; rfl
      obtain ⟨k, rfl⟩ : ∃ k : Nat, s = k := ⟨s.toNat, by omega⟩
      have k0 : (k : Int) < 8 := by omega
      have k1 : (0 : Int) ≤ (k : Int) := by omega
      have k5 : ¬ (k : Int) < 0 := by omega
      have k6 : ¬ (8 : Int) ≤ (k : Int) := by omega
      have q1 : 32 * (k : Int) + 32 ≤ (n : Int) := by omega
      have q2 : (0 : Int) ≤ 32 * (k : Int) + 32 := by omega
      have q3 : (0 : Int) ≤ 32 * (k : Int) := by omega
      have q4 : 32 * (k : Int) ≤ 32 * (k : Int) + 32 := by omega
      have q5 : (32 * (k : Int) + 32).toNat - (32 * (k : Int)).toNat = 32 := by omega
      have q6 : (32 * (k : Int)).toNat = k * 32 := by omega
      have q7 : (32 * (k : Int) + 32).toNat = k * 32 + 32 := by omega
      have q8 : k * 32 + 32 - k * 32 = 32 := by omega
      obtain ⟨_, ⟨rest, hb⟩, _, _⟩ := hh.out
      have HC := Lib.hid (cells_of hb (k * 32) 32 (by omega))
      have HL : Hid (((d.bs.drop (k * 32)).take 32).length = 32) := by show _ = _; rw [List.length_take, List.length_drop]; omega
      obtain ⟨M, hM⟩ : ∃ M, (d.bs.drop (k * 32)).take 32 = M := ⟨_, rfl⟩
      rw [hM] at HC HL
      have HM := Lib.hid hM
      have HMV := Lib.hid hm
      clear hs hm hb hlen hh hM
      go_enter Try.func23, Try.ntmps23
      go_wp2_with (at_builtin; refine wpList_append_own _ rfl _ _ 22 rfl w.heap.size 5 i0 (.int .u8 0) 1 1 Try.underlying22 hi hz0 hz1 hz2 rfl (by decide) (.slice none 0 0) 0 [] rfl (World.ownsRow_nil _ _ _ _) ⟨gb, k * 32, none⟩ 32 (n - k * 32) (bC M) rfl (by rw [bC_len, HL.out]) HC.out (bC_one M) (by unfold maxLen; omega) (by omega) (Nat.le_refl _) ?_; intro v' w4 hown4 hg4 hv4)
      go_ret2
      refine .yes HMV.out ?_ ((Below.refl _ w).grown hg4 (Nat.le_refl _) (fun j hj => by cases hj))
      rw [Int.toNat_natCast, HM.out]
      exact hown4
theorem refCopy_end {w W : World} {a : Act} (hd : a.defers = []) (h2 : a.tmps[2]?.getD undef = .pointer (some ⟨w.heap.size + 1, 0, none⟩)) (x0 x1 x2 x3 : Value)
    (hb : W.heap[w.heap.size + 1]? = some (.cells #[x0, x1, x2, x3] 44 (0, 0))) (Q : Ending → World → Prop) (hQ : Q (.returned (.agg #[x0, x1, x2, x3])) W) :
    bodyPost Try.prog Try.f12 Q Exit.ret a W := by
  have y0 := blk_cell hb 0
  have y1 := blk_cell hb 1
  have y2 := blk_cell hb 2
  have y3 := blk_cell hb 3
  simp at y0 y1 y2 y3
  refine bodyPost_ret (v := .agg #[x0, x1, x2, x3]) ?_ hd hQ
  simp [results, Try.results12, go_sem, h2, y0, y1, y2, y3]
set_option maxRecDepth 100000 in
set_option maxHeartbeats 1000000 in
theorem refCopy_any (g n : Nat) (d : Dk) (W : World) (hb : ∃ rest, W.heap[g]? = some (.cells (bC d.bs ++ rest).toArray 5 (0, 0))) (hl : d.bs.length = 256) :
    Calls Try.prog 12 #[rkV g n d] W fun e w' => ∃ v, e = .returned v ∧ RkV W w' v d ∧ Below W.heap.size W w' := by
  obtain ⟨i0, hi, hz0, hz1, hz2⟩ := info_parts Try.infoByte
  obtain ⟨rest, hb⟩ := hb
  have HC := Lib.hid (cells_of hb 0 256 (by omega))
  rw [List.drop_zero, List.take_of_length_le (by omega)] at HC
  have HL := Lib.hid hl
  clear hb hl
  unfold rkV rkC
  have hb2 : Below W.heap.size W ((W.alloc (.cells #[.slice (some ⟨g, 0, none⟩) 256 n, .bool d.off, .int .i64 (fuZ d), .int .i64 (d.writes : Nat)] 44)).alloc (.cells #[.slice none 0 0, .bool false, .int .i64 0, .int .i64 0] 44)) := ((Below.refl _ W).alloc (Nat.le_refl _) _).alloc (by simp) _
  have k0 := blk_old (blk_new W (.cells #[.slice (some ⟨g, 0, none⟩) 256 n, .bool d.off, .int .i64 (fuZ d), .int .i64 (d.writes : Nat)] 44)) (.cells #[.slice none 0 0, .bool false, .int .i64 0, .int .i64 0] 44)
  have k1 := blk_new (W.alloc (.cells #[.slice (some ⟨g, 0, none⟩) 256 n, .bool d.off, .int .i64 (fuZ d), .int .i64 (d.writes : Nat)] 44)) (.cells #[.slice none 0 0, .bool false, .int .i64 0, .int .i64 0] 44)
  have hs2 : ((W.alloc (.cells #[.slice (some ⟨g, 0, none⟩) 256 n, .bool d.off, .int .i64 (fuZ d), .int .i64 (d.writes : Nat)] 44)).alloc (.cells #[.slice none 0 0, .bool false, .int .i64 0, .int .i64 0] 44)).heap.size = W.heap.size + 2 := by simp
  rw [show (W.alloc (.cells #[.slice (some ⟨g, 0, none⟩) 256 n, .bool d.off, .int .i64 (fuZ d), .int .i64 (d.writes : Nat)] 44)).heap.size = W.heap.size + 1 by simp] at k1
  obtain ⟨W2, hW2⟩ : ∃ W2, (W.alloc (.cells #[.slice (some ⟨g, 0, none⟩) 256 n, .bool d.off, .int .i64 (fuZ d), .int .i64 (d.writes : Nat)] 44)).alloc (.cells #[.slice none 0 0, .bool false, .int .i64 0, .int .i64 0] 44) = W2 := ⟨_, rfl⟩
  rw [hW2] at hb2 k0 k1 hs2
  have HW2 := Lib.hid hW2
  have HC2 := Lib.hid (show ∀ j u, (bC d.bs)[j]? = some u → W2.cell? ((⟨g, 0, none⟩ : Addr).add j) = some u from fun j u hu => (hb2.cell (cell_lt (HC.out j u hu))).trans (HC.out j u hu))
  have K0 := Lib.hid k0
  have K1 := Lib.hid k1
  have HB2 := Lib.hid hb2
  have HS2 := Lib.hid hs2
  clear hW2 hb2 k0 k1 hs2 HC
  go_enter Try.func12, Try.ntmps12
  go_wp2_with (at_builtin; rw [HW2.out]; refine wpList_append_own _ rfl _ _ 22 rfl W2.heap.size 5 i0 (.int .u8 0) 1 1 Try.underlying22 hi hz0 hz1 hz2 rfl (by decide) (.slice none 0 0) 0 [] rfl (World.ownsRow_nil _ _ _ _) ⟨g, 0, none⟩ 256 n (bC d.bs) rfl (by rw [bC_len, HL.out]) HC2.out (bC_one d.bs) (by unfold maxLen; omega) (by omega) (Nat.le_refl _) ?_; intro v' w4 hown4 hg4 hv4; rw [List.nil_append] at hown4; have hg5 : W2.grownBy w4 none := hg4; have j0 := blk_grown hg5 K0.out (by simp); have j1 := blk_grown hg5 K1.out (by simp); have hb4 := HB2.out.grown hg5 (by rw [HS2.out]; omega) (fun j hj => by cases hj); obtain ⟨gv, cv, rv, rfl, hcv, hgv, hbv⟩ := own_block hown4 (by decide); obtain ⟨⟨y0, y1, y2, y3⟩, ⟨g0, g1, g2, g3⟩⟩ := blk4' j0; obtain ⟨⟨x0, x1, x2, x3⟩, ⟨f0, f1, f2, f3⟩⟩ := blk4' j1)
  generalize hWF : World.setCell (World.setCell (World.setCell (World.setCell (World.setCell _ _ _) _ _) _ _) _ _) _ _ = WF
  have hgs := HS2.out
  have hbk : WF.heap[W.heap.size + 1]? = some (.cells #[.slice (some ⟨gv, 0, none⟩) 256 cv, .bool d.off, .int .i64 (fuZ d), .int .i64 (d.writes : Nat)] 44 (0, 0)) := by
    rw [← hWF]; exact blk_store (blk_store (blk_store (blk_store (blk_set j1 ⟨W.heap.size, 0, none⟩ _ (by simp)) 0 _) 1 _) 2 _) 3 _
  have hgb : WF.heap[gv]? = some (.cells (bC d.bs ++ rv).toArray 5 (0, 0)) := by
    rw [← hWF]
    exact blk_set (blk_set (blk_set (blk_set (blk_set hbv ⟨W.heap.size, 0, none⟩ _ (by simp; omega)) ⟨W.heap.size + 1, 0, none⟩ _ (by simp; omega)) ⟨W.heap.size + 1, 1, none⟩ _ (by simp; omega)) ⟨W.heap.size + 1, 2, none⟩ _ (by simp; omega)) ⟨W.heap.size + 1, 3, none⟩ _ (by simp; omega)
  have hbw : Below W.heap.size W WF := by
    rw [← hWF]
    exact ((((hb4.setCell (Nat.le_refl _) _).setCell (by simp) _).setCell (by simp) _).setCell (by simp) _).setCell (by simp) _
  refine refCopy_end rfl rfl _ _ _ _ hbk _ ⟨_, rfl, ⟨gv, cv, rv, rfl, by omega, by omega, hgb, HL.out⟩, hbw⟩
end Go.Proofs.Ytpfiaepoibablaa
