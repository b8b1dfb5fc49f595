/- Lemmas of this claim, laid one behind the other. -/
import Derived.Test.YtpfiaepoibablaaWalkNone
import Derived.Test.YtpfiaepoibablaaMDiskAll1
import Derived.Test.YtpfiaepoibablaaRefJ
import Derived.Test.YtpfiaepoibablaaAliveD
namespace Go.Proofs.Ytpfiaepoibablaa
set_option linter.unusedVariables false
set_option linter.unusedSimpArgs false
open Go.RowKit

theorem dk_info : (Try.prog.info? 56).map (·.size) = some 260 := by kernel_rfl
theorem dk_zero : Try.zeroCells56.size = 260 := by kernel_rfl
theorem dkC_one (d : Dk) : (dkC d).all (·.oneCell') = true := by
  unfold dkC
  refine all_oneCell_toArray fun v hv => ?_
  rcases List.mem_append.1 hv with h | h
  · exact bC_one _ v h
  · unfold dkT at h
    simp at h
    rcases h with rfl | rfl | rfl | rfl <;> rfl
set_option maxRecDepth 100000 in
set_option maxHeartbeats 1000000 in
theorem twin_any (b : Nat) (d : Dk) (w : World) (h : DkAt w b d) : Calls Try.prog 11 #[.pointer (some ⟨b, 0, none⟩)] w fun e w' => ∃ c, e = .returned (.pointer (some ⟨c, 0, none⟩)) ∧ w.heap.size ≤ c ∧ DkAt w' c d ∧ Below w.heap.size w w' := by
  have hD := Lib.hid h
  clear h
  go_enter Try.func11, Try.ntmps11
  go_wp2_with (first
    | (refine wpList_load_row rfl _ _ rfl b rfl _ (dkC d) _ _ hD.out.1 Try.underlying56 rfl (dk_info.trans (by rw [dkC_size hD.out.2])) ?_)
    | (refine wpList_store_mid rfl _ _ _ rfl w.heap.size 0 (dkC d) rfl rfl (there_blk (blk_new w _) 0 _ (by rw [dkC_size hD.out.2, dk_zero]; decide)) (dk_info.trans (by rw [dkC_size hD.out.2])) (dkC_one d) ?_; have n3 := new_row w Try.zeroCells56 56 (dkC d).toList (by rw [dk_zero, Array.length_toList, dkC_size hD.out.2])))
  go_ret
  exact ⟨_, rfl, Nat.le_refl _, ⟨by simpa using n3.1, hD.out.2⟩, by simpa using n3.2⟩
end Go.Proofs.Ytpfiaepoibablaa
namespace Go.Proofs.Ytpfiaepoibablaa
set_option linter.unusedVariables false
set_option linter.unusedSimpArgs false
open Go.RowKit

set_option maxRecDepth 100000 in
theorem of_short (a : Option Addr) (n c : Nat) (w : World) (hn : n ≠ 256) : Calls Try.prog 7 #[.slice a n c] w fun e w' => e = .returned (.tuple #[.pointer none, .int .i64 102]) ∧ Below w.heap.size w w' := by
  have hne : ((n : Int) != 256) = true := by simp; omega
  clear hn
  go_enter Try.func7, Try.ntmps7
  go_wp2_with fail
  go_ret2
  exact ⟨rfl, Below.refl _ _⟩
/-- The first k sectors of l, then noughts. -/
def ofL (l : List Nat) (k : Nat) : List Nat := l.take (32 * k) ++ List.replicate (256 - 32 * k) 0
theorem ofL_put {l : List Nat} (hl : l.length = 256) {k : Nat} (hk : k < 8) : putS (ofL l k) k ((l.drop (k * 32)).take 32) = ofL l (k + 1) := by
  have hlen : (l.take (32 * k)).length = 32 * k := by rw [List.length_take]; omega
  have e1 : (l.take (32 * k) ++ List.replicate (256 - 32 * k) 0).drop (32 * k + 32) = List.replicate (256 - 32 * (k + 1)) 0 := by
    rw [List.drop_append, hlen, List.drop_of_length_le (by rw [hlen]; omega), List.nil_append, List.drop_replicate]
    congr 1; omega
  unfold putS ofL
  rw [e1, List.take_append_of_le_length (by omega), List.take_take, Nat.min_self, ← List.append_assoc]
  congr 1
  rw [Nat.mul_comm k 32, show 32 * (k + 1) = 32 * k + 32 from by omega, List.take_add]
set_option maxRecDepth 100000 in
set_option maxHeartbeats 1000000 in
theorem of_any (p : Addr) (c : Nat) (l : List Nat) (w : World) (hl : l.length = 256) (hc : 256 ≤ c) (hp : p.block < w.heap.size) (hr : ∀ j x, l[j]? = some x → w.cell? (p.add j) = some (.int .u8 (x : Nat))) :
    Calls Try.prog 7 #[.slice (some p) 256 c] w fun e w' => ∃ b, e = .returned (.tuple #[.pointer (some ⟨b, 0, none⟩), .int .i64 0]) ∧ w.heap.size ≤ b ∧ DkAt w' b { Dk.new with bs := l } ∧ Below w.heap.size w w' := by
  go_enter Try.func7, Try.ntmps7
  go_wp2_with (go_at_call 10; refine (new_any _).mono ?_; rintro e w1 ⟨rfl, hD1, hB1⟩)
  have hD0 : DkAt w1 w.heap.size { Dk.new with bs := ofL l 0 } := hD1
  clear hD1
  go_loopw [10] (fun i wr => ∃ k : Nat, i = .int .i64 k ∧ k ≤ 8 ∧ DkAt wr w.heap.size { Dk.new with bs := ofL l k } ∧ Below w.heap.size w wr) (fun i _ => 8 - (intOf i).toNat)
  case atStart => exact ⟨0, rfl, by omega, hD0, hB1⟩
  case round =>
    obtain ⟨k, rfl, hk, hD, hb⟩ := hrel
    clear hD0 hB1
    by_cases hlt : k < 8
    · have i1 : (k : Int) < 8 := by omega
      have i2 : (0 : Int) ≤ (k : Int) := by omega
      have i3 : (k : Int).toNat = k := Int.toNat_natCast k
      have i4 : (k : Int) * 32 ≤ 256 := by omega
      have i5 : (256 : Int) ≤ (c : Int) := by omega
      have i6 : ¬ c = k * 32 := by omega
      have i7 : IntKind.i64.wrap ((k : Int) * 32) = (k : Int) * 32 := by rw [IntKind.wrap_i64]; omega
      have i8 : (0 : Int) ≤ (k : Int) * 32 := by omega
      have i9 : ((k : Int) * 32).toNat = k * 32 := by omega
      go_wp2_with fail
      refine wp_region_still_tail 10 (by kernel_rfl) (by kernel_rfl) ?_
      simp only [List.take_succ_cons, List.take_zero, List.drop_succ_cons, List.drop_zero]
      repeat still_step
      try refine wpStill_nil ?_
      change wpList _ _ _ _ _ wr.drew
      have hLl : (bC ((l.drop (k * 32)).take 32)).length = 32 := by rw [bC_len, List.length_take, List.length_drop]; omega
      have hsrc : ∀ j u, (bC ((l.drop (k * 32)).take 32))[j]? = some u → wr.drew.cell? ((p.add (k * 32)).add j) = some u := by
        intro j u hu
        have hj : j < 32 := by have := (List.getElem?_eq_some_iff.1 hu).1; omega
        unfold bC at hu
        rw [List.getElem?_map, List.getElem?_take_of_lt hj, List.getElem?_drop] at hu
        obtain ⟨x, hx, rfl⟩ := Option.map_eq_some_iff.1 hu
        rw [Addr.add_add]
        exact (hb.cell (show (p.add (k * 32 + j)).block < w.heap.size by rw [show (p.add (k * 32 + j)).block = p.block from by unfold Addr.add; split <;> rfl]; exact hp)).trans (hr _ x hx)
      have hD2 := hD.drew.copy hlt (show ((l.drop (k * 32)).take 32).length = 32 by rw [← bC_len]; exact hLl)
      have hb2 := (hb.drew).grown (but_setRow (but_refl wr.drew (some w.heap.size)) ((dkC { Dk.new with bs := ofL l k }).toList.take (k * 32) ++ (bC ((l.drop (k * 32)).take 32) ++ (dkC { Dk.new with bs := ofL l k }).toList.drop (k * 32 + (bC ((l.drop (k * 32)).take 32)).length))).toArray) hb.size (fun j h => by cases h; exact Nat.le_refl _)
      have HS := Lib.hid hsrc
      have HL := Lib.hid hLl
      have HD := Lib.hid hD
      have HD2 := Lib.hid hD2
      have HB2 := Lib.hid hb2
      clear hsrc hLl hD hD2 hb2 hb
      refine wpList_copy_own rfl _ _ 22 22 rfl 5 Try.underlying22 (by kernel_rfl) w.heap.size (k * 32) 32 32 (p.add (k * 32)) (256 - k * 32) (c - k * 32) rfl rfl (dkC { Dk.new with bs := ofL l k }) 56 HD.out.1 (bC ((l.drop (k * 32)).take 32)) (by rw [HL.out]; exact (Nat.min_eq_right (by omega)).symm) HS.out (by rw [HL.out, dkC_size HD.out.2]; omega) (bC_one _) ?_
      go_wp2
      go_roundw
      case rel => exact ⟨k + 1, by go_num, by omega, by rw [← ofL_put hl hlt]; exact HD2.out, HB2.out⟩
      case measure => simp [intOf]; omega
    · obtain rfl : k = 8 := by omega
      have he : ofL l 8 = l := by unfold ofL; rw [List.take_of_length_le (by omega)]; simp
      rw [he] at hD
      go_wp2
      go_ret2
      exact ⟨_, rfl, Nat.le_refl _, hD, hb⟩
end Go.Proofs.Ytpfiaepoibablaa
namespace Go.Proofs.Ytpfiaepoibablaa
set_option linter.unusedVariables false
set_option linter.unusedSimpArgs false
open Go.RowKit

theorem row_rd {W : World} {v : Value} {xs : List Int} (h : RowOf W .u8 v xs) (hw : ∀ x ∈ xs, (Lit.int .u8 x).wf = true) : ∃ av cv, ∃ ld : List Nat, v = .slice av ld.length cv ∧ RdP W av ld ∧ ld.length ≤ cv ∧ ∀ x ∈ ld, x < 256 := by
  obtain ⟨av, cv, rfl, hc, _, hr⟩ := h.slice
  have hbnd : ∀ x ∈ xs, 0 ≤ x ∧ x < 256 := fun x hx => by
    have h := hw x hx
    simp only [Lit.wf, Bool.and_eq_true, decide_eq_true_eq] at h
    have h5 : IntKind.u8.max = 255 := by decide
    have h6 : IntKind.u8.min = 0 := by decide
    omega
  refine ⟨av, cv, xs.map Int.toNat, by rw [List.length_map], fun j x hx => ?_, by rw [List.length_map]; exact hc, fun x hx => ?_⟩
  · rw [List.getElem?_map] at hx
    obtain ⟨y, hy, rfl⟩ := Option.map_eq_some_iff.1 hx
    obtain ⟨p, hp, hc⟩ := hr j y hy
    exact ⟨p, hp, by rw [hc, Int.toNat_of_nonneg (hbnd y (List.mem_of_getElem? hy)).1]⟩
  · obtain ⟨y, hy, rfl⟩ := List.mem_map.1 hx
    have := hbnd y hy
    omega
theorem op_at {W : World} {x : List Value} (h : ShL W [.int .i64, .int .i64, .int .i64, .ints .u8] x) :
    ∃ k who a av cv, ∃ ld : List Nat, x = [.int .i64 k, .int .i64 who, .int .i64 a, .slice av ld.length cv] ∧ (Lit.int .i64 a).wf = true ∧ RdP W av ld := by
  have hlen := h.len
  match x, hlen with
  | [x0, x1, x2, x3], _ =>
    obtain ⟨⟨k, h0, _⟩, ⟨who, h1, _⟩, ⟨a, h2, ha⟩, h3, _⟩ := h
    obtain ⟨xs, hr, hw⟩ := h3
    obtain ⟨av, cv, ld, h4, h5, _, _⟩ := row_rd hr hw
    exact ⟨k, who, a, av, cv, ld, by rw [h0, h1, h2, h4], ha, h5⟩
theorem and1 (a : Int) : bits .and .i64 a 1 = 0 ∨ bits .and .i64 a 1 = 1 := by
  obtain ⟨m, hm⟩ : ∃ m, (BitVec.ofInt 64 a &&& BitVec.ofInt 64 1).toNat = m := ⟨_, rfl⟩
  have h3 : m ≤ 1 := by rw [← hm, BitVec.toNat_and]; exact Nat.le_trans Nat.and_le_right (by decide)
  have hb : bits .and .i64 a 1 = IntKind.i64.wrap (m : Int) := by
    unfold bits
    show IntKind.i64.wrap (((BitVec.ofInt 64 a &&& BitVec.ofInt 64 1).toNat : Nat) : Int) = _
    rw [hm]
  rw [hb]
  rcases (by omega : m = 0 ∨ m = 1) with h | h
  · rw [h]; exact .inl (by decide)
  · rw [h]; exact .inr (by decide)
def sideC (c g n K : Nat) (d : Dk) : List Value := [.pointer (some ⟨c, 0, none⟩), .slice (some ⟨g, 0, none⟩) 256 n, .bool d.off, .int .i64 (fuZ d), .int .i64 (d.writes : Nat), .pointer (some ⟨K, 0, none⟩)]
theorem sd_of {W : World} {LB o c g n K : Nat} {d : Dk} {cs : Array Value} {t : TypeId} {rest : List Value} (hb : W.heap[LB]? = some (.cells cs t (0, 0))) (hc : ∀ j x, (sideC c g n K d)[j]? = some x → cs[o + j]? = some x) (hD : DkAt W c d) (hg : W.heap[g]? = some (.cells (bC d.bs ++ rest).toArray 5 (0, 0))) (hne : LB ≠ g) (hn : 256 ≤ n) :
    Sd W LB o c g n K d d :=
  ⟨by rw [blk_cell hb]; exact hc 0 _ rfl, by rw [blk_cell hb]; exact hc 5 _ rfl, hD, ⟨⟨cs, t, hb, fun j x hx => by
    have := hc (1 + j) x (by
      match j, hx with
      | 0, hx => exact hx
      | 1, hx => exact hx
      | 2, hx => exact hx
      | 3, hx => exact hx
      | j + 4, hx => simp [rkC] at hx)
    rw [← Nat.add_assoc] at this
    exact this⟩, ⟨rest, hg⟩, hD.2, hne⟩, hn⟩
theorem set6 (cs : Array Value) (o : Nat) (a0 a1 a2 a3 a4 a5 : Value) (ho : o + 5 < cs.size) : (∀ j x, [a0, a1, a2, a3, a4, a5][j]? = some x → ((((((cs.setIfInBounds o a0).setIfInBounds (o + 1) a1).setIfInBounds (o + 2) a2).setIfInBounds (o + 3) a3).setIfInBounds (o + 4) a4).setIfInBounds (o + 5) a5)[o + j]? = some x) ∧
    ∀ j, (j < o ∨ o + 6 ≤ j) → ((((((cs.setIfInBounds o a0).setIfInBounds (o + 1) a1).setIfInBounds (o + 2) a2).setIfInBounds (o + 3) a3).setIfInBounds (o + 4) a4).setIfInBounds (o + 5) a5)[j]? = cs[j]? := by
  refine ⟨fun j x hx => ?_, fun j hj => ?_⟩
  · simp only [set_get, Array.size_setIfInBounds]
    match j, hx with
    | 0, hx => rw [if_neg (by omega), if_neg (by omega), if_neg (by omega), if_neg (by omega), if_neg (by omega), if_pos (by omega : o = o + 0), if_pos (by omega)]; exact hx
    | 1, hx => rw [if_neg (by omega), if_neg (by omega), if_neg (by omega), if_neg (by omega), if_pos rfl, if_pos (by omega)]; exact hx
    | 2, hx => rw [if_neg (by omega), if_neg (by omega), if_neg (by omega), if_pos rfl, if_pos (by omega)]; exact hx
    | 3, hx => rw [if_neg (by omega), if_neg (by omega), if_pos rfl, if_pos (by omega)]; exact hx
    | 4, hx => rw [if_neg (by omega), if_pos rfl, if_pos (by omega)]; exact hx
    | 5, hx => rw [if_pos rfl, if_pos (by omega)]; exact hx
    | j + 6, hx => simp at hx
  · simp only [set_get, Array.size_setIfInBounds]
    rw [if_neg (by omega), if_neg (by omega), if_neg (by omega), if_neg (by omega), if_neg (by omega), if_neg (by omega)]
/-- Six cells are written. -/
def put6 (W : World) (LB o : Nat) (a0 a1 a2 a3 a4 a5 : Value) : World := (((((W.setCell ⟨LB, o, none⟩ a0).setCell ⟨LB, o + 1, none⟩ a1).setCell ⟨LB, o + 2, none⟩ a2).setCell ⟨LB, o + 3, none⟩ a3).setCell ⟨LB, o + 4, none⟩ a4).setCell ⟨LB, o + 5, none⟩ a5
theorem put6_heap {W : World} {LB o : Nat} {a0 a1 a2 a3 a4 a5 : Value} {cs : Array Value} {t : TypeId} (hb : W.heap[LB]? = some (.cells cs t (0, 0))) :
    (put6 W LB o a0 a1 a2 a3 a4 a5).heap[LB]? = some (.cells ((((((cs.setIfInBounds o a0).setIfInBounds (o + 1) a1).setIfInBounds (o + 2) a2).setIfInBounds (o + 3) a3).setIfInBounds (o + 4) a4).setIfInBounds (o + 5) a5) t (0, 0)) :=
  blk_store (blk_store (blk_store (blk_store (blk_store (blk_store hb o a0) (o + 1) a1) (o + 2) a2) (o + 3) a3) (o + 4) a4) (o + 5) a5
theorem put6_but (W : World) {LB o : Nat} {a0 a1 a2 a3 a4 a5 : Value} (hb : LB < W.heap.size) : W.grownBy (put6 W LB o a0 a1 a2 a3 a4 a5) (some LB) :=
  but_set (but_set (but_set (but_set (but_set (but_set (but_refl W _) hb o a0) hb (o + 1) a1) hb (o + 2) a2) hb (o + 3) a3) hb (o + 4) a4) hb (o + 5) a5
theorem Dp.twin {w : World} {LB K : Nat} {vb vw : Value} {L : List Ls} {o c g n : Nat} {d : Dk} {o' c' g' n' : Nat} {d' : Dk} {W : World} (h : Dp w LB K vb vw L o c g n d d o' c' g' n' d' W) {c2 g2 n2 : Nat} {d2 : Dk} {rest : List Value} (hD : DkAt W c2 d2) (hg : W.heap[g2]? = some (.cells (bC d2.bs ++ rest).toArray 5 (0, 0))) (hn : 256 ≤ n2)
    (hf : (c2 ≠ LB ∧ c2 ≠ c ∧ c2 ≠ g) ∧ (g2 ≠ LB ∧ g2 ≠ c ∧ g2 ≠ g) ∧ c2 ≠ g2) (hs : c2 ∉ bkB K vb vw L ∧ g2 ∉ bkB K vb vw L) (hw : w.heap.size ≤ c2 ∧ w.heap.size ≤ g2) :
    Dp w LB K vb vw L o c g n d d o' c2 g2 n2 d2 (put6 W LB o' (.pointer (some ⟨c2, 0, none⟩)) (.slice (some ⟨g2, 0, none⟩) 256 n2) (.bool d2.off) (.int .i64 (fuZ d2)) (.int .i64 (d2.writes : Nat)) (.pointer (some ⟨K, 0, none⟩))) := by
  obtain ⟨⟨k1, k2, k3⟩, ⟨k4, k5, k6⟩, k7⟩ := hf
  obtain ⟨h1, h2, h3, h4, ⟨n1, n2', n3, n4, n5, n6, n7, n8, n9, n10⟩, ⟨g1, g2', g3, g4, g5⟩, h7, h8⟩ := h
  obtain ⟨cs, t, hb⟩ := h1.rk.blk
  have hbut := put6_but W (o := o') (a0 := .pointer (some ⟨c2, 0, none⟩)) (a1 := .slice (some ⟨g2, 0, none⟩) 256 n2) (a2 := .bool d2.off) (a3 := .int .i64 (fuZ d2)) (a4 := .int .i64 (d2.writes : Nat)) (a5 := .pointer (some ⟨K, 0, none⟩)) (blk_lt hb)
  have hX := put6_heap (o := o') (a0 := .pointer (some ⟨c2, 0, none⟩)) (a1 := .slice (some ⟨g2, 0, none⟩) 256 n2) (a2 := .bool d2.off) (a3 := .int .i64 (fuZ d2)) (a4 := .int .i64 (d2.writes : Nat)) (a5 := .pointer (some ⟨K, 0, none⟩)) hb
  have hsz : o' + 5 < cs.size := by
    have := h2.b
    rw [blk_cell hb] at this
    exact (Array.getElem?_eq_some_iff.1 this).1
  obtain ⟨s1, s2⟩ := set6 cs o' (.pointer (some ⟨c2, 0, none⟩)) (.slice (some ⟨g2, 0, none⟩) 256 n2) (.bool d2.off) (.int .i64 (fuZ d2)) (.int .i64 (d2.writes : Nat)) (.pointer (some ⟨K, 0, none⟩)) hsz
  have hk : ∀ k, k < W.heap.size → k ≠ LB → (put6 W LB o' (.pointer (some ⟨c2, 0, none⟩)) (.slice (some ⟨g2, 0, none⟩) 256 n2) (.bool d2.off) (.int .i64 (fuZ d2)) (.int .i64 (d2.writes : Nat)) (.pointer (some ⟨K, 0, none⟩))).heap[k]? = W.heap[k]? := fun k hk hne => hbut.block k hk (by simpa using hne)
  refine ⟨⟨?_, ?_, ⟨(hk _ h1.lt.2.1 (Ne.symm n1)).trans h1.disk.1, h1.disk.2⟩, ?_, h1.n⟩, sd_of hX s1 ⟨(hk _ hD.lt k1).trans hD.1, hD.2⟩ ((hk _ (blk_lt hg) k4).trans hg) (Ne.symm k4) hn, h3.keep (fun k hm => hk k (h3.lt k hm).2 (h7 k hm).1),
    h4.grown hbut h4.size (fun j hj => by cases hj; exact g1), ⟨n1, n2', Ne.symm k1, Ne.symm k4, n5, Ne.symm k2, Ne.symm k5, Ne.symm k3, Ne.symm k6, k7⟩, ⟨g1, g2', g3, hw.1, hw.2⟩, fun k hm => ⟨(h7 k hm).1, (h7 k hm).2.1, (h7 k hm).2.2.1, fun e => hs.1 (e ▸ hm), fun e => hs.2 (e ▸ hm)⟩, h8⟩
  · rw [blk_cell hX, s2 _ (by omega), ← blk_cell hb]; exact h1.p
  · rw [blk_cell hX, s2 _ (by omega), ← blk_cell hb]; exact h1.b
  · obtain ⟨⟨cs0, t0, b1, b2⟩, ⟨r, b3⟩, b4, b5⟩ := h1.rk
    have he := hb.symm.trans b1
    injection he with he
    injection he with he _ _
    subst he
    refine ⟨⟨_, _, hX, fun j x hx => ?_⟩, ⟨r, (hk _ (blk_lt b3) (Ne.symm b5)).trans b3⟩, b4, b5⟩
    have hj : j < 4 := by have := (List.getElem?_eq_some_iff.1 hx).1; simpa [rkC] using this
    rw [s2 _ (by omega)]
    exact b2 j x hx
/-- The start: two sides in a block of zeros. -/
theorem Dp.start {w W : World} {LB K c g n c' g' n' : Nat} {d d' : Dk} {cs : Array Value} {t : TypeId} {rest rest' : List Value} (hb : W.heap[LB]? = some (.cells cs t (0, 0))) (hc : ∀ j x, (sideC c g n K d)[j]? = some x → cs[0 + j]? = some x) (hc' : ∀ j x, (sideC c' g' n' K d')[j]? = some x → cs[6 + j]? = some x)
    (hD : DkAt W c d) (hg : W.heap[g]? = some (.cells (bC d.bs ++ rest).toArray 5 (0, 0))) (hn : 256 ≤ n) (hD' : DkAt W c' d') (hg' : W.heap[g']? = some (.cells (bC d'.bs ++ rest').toArray 5 (0, 0))) (hn' : 256 ≤ n')
    (hK : W.heap[K]? = some (.cells (bookC (.slice none 0 0) (.slice none 0 0)) 41 (0, 0))) (hl : Below w.heap.size w W)
    (ne : LB ≠ c ∧ LB ≠ g ∧ LB ≠ c' ∧ LB ≠ g' ∧ c ≠ g ∧ c ≠ c' ∧ c ≠ g' ∧ g ≠ c' ∧ g ≠ g' ∧ c' ≠ g') (nk : K ≠ LB ∧ K ≠ c ∧ K ≠ g ∧ K ≠ c' ∧ K ≠ g') (ge : w.heap.size ≤ LB ∧ w.heap.size ≤ c ∧ w.heap.size ≤ g ∧ w.heap.size ≤ c' ∧ w.heap.size ≤ g') (hgK : w.heap.size ≤ K) :
    Dp w LB K (.slice none 0 0) (.slice none 0 0) [] 0 c g n d d 6 c' g' n' d' W :=
  ⟨sd_of hb hc hD hg ne.2.1 hn, sd_of hb hc' hD' hg' ne.2.2.2.1 hn', Bk.new (w := w) hK hgK, hl, ne, ge, fun k hk => by
    have : k = K := by simpa [bkB, obs, Value.ownBlock] using hk
    subst this; exact nk, .inl ⟨rfl, rfl⟩⟩
theorem get6 {l : List Value} {x0 x1 x2 x3 x4 x5 : Value} (e : l = [x0, x1, x2, x3, x4, x5]) {cs : Array Value} {o : Nat} (h : cs[o + 0]? = some x0 ∧ cs[o + 1]? = some x1 ∧ cs[o + 2]? = some x2 ∧ cs[o + 3]? = some x3 ∧ cs[o + 4]? = some x4 ∧ cs[o + 5]? = some x5) : ∀ j x, l[j]? = some x → cs[o + j]? = some x := by
  subst e
  obtain ⟨h0, h1, h2, h3, h4, h5⟩ := h
  intro j x hx
  match j, hx with
  | 0, hx => exact h0.trans hx
  | 1, hx => exact h1.trans hx
  | 2, hx => exact h2.trans hx
  | 3, hx => exact h3.trans hx
  | 4, hx => exact h4.trans hx
  | 5, hx => exact h5.trans hx
  | j + 6, hx => simp at hx
theorem blk12 {W : World} {g : Nat} {a b c d e f a' b' c' d' e' f' : Value} {t : TypeId} (h : W.heap[g]? = some (.cells #[a, b, c, d, e, f, a', b', c', d', e', f'] t (0, 0))) :
    ((W.cell? ⟨g, 0, none⟩ = some a ∧ W.cell? ⟨g, 1, none⟩ = some b ∧ W.cell? ⟨g, 2, none⟩ = some c ∧ W.cell? ⟨g, 3, none⟩ = some d ∧ W.cell? ⟨g, 4, none⟩ = some e ∧ W.cell? ⟨g, 5, none⟩ = some f) ∧
      (W.cell? ⟨g, 6, none⟩ = some a' ∧ W.cell? ⟨g, 7, none⟩ = some b' ∧ W.cell? ⟨g, 8, none⟩ = some c' ∧ W.cell? ⟨g, 9, none⟩ = some d' ∧ W.cell? ⟨g, 10, none⟩ = some e' ∧ W.cell? ⟨g, 11, none⟩ = some f')) ∧
    ((W.frozen? ⟨g, 0, none⟩ = false ∧ W.frozen? ⟨g, 1, none⟩ = false ∧ W.frozen? ⟨g, 2, none⟩ = false ∧ W.frozen? ⟨g, 3, none⟩ = false ∧ W.frozen? ⟨g, 4, none⟩ = false ∧ W.frozen? ⟨g, 5, none⟩ = false) ∧
      (W.frozen? ⟨g, 6, none⟩ = false ∧ W.frozen? ⟨g, 7, none⟩ = false ∧ W.frozen? ⟨g, 8, none⟩ = false ∧ W.frozen? ⟨g, 9, none⟩ = false ∧ W.frozen? ⟨g, 10, none⟩ = false ∧ W.frozen? ⟨g, 11, none⟩ = false)) :=
  ⟨⟨⟨blk_cell h 0, blk_cell h 1, blk_cell h 2, blk_cell h 3, blk_cell h 4, blk_cell h 5⟩, ⟨blk_cell h 6, blk_cell h 7, blk_cell h 8, blk_cell h 9, blk_cell h 10, blk_cell h 11⟩⟩,
    ⟨⟨blk_free h 0, blk_free h 1, blk_free h 2, blk_free h 3, blk_free h 4, blk_free h 5⟩, ⟨blk_free h 6, blk_free h 7, blk_free h 8, blk_free h 9, blk_free h 10, blk_free h 11⟩⟩⟩
def zero12 : Array Value := #[.pointer none, .slice none 0 0, .bool false, .int .i64 0, .int .i64 0, .pointer none, .pointer none, .slice none 0 0, .bool false, .int .i64 0, .int .i64 0, .pointer none]
theorem put6_zero {W : World} {LB : Nat} {t : TypeId} (a0 a1 a2 a3 a4 a5 : Value) (hb : W.heap[LB]? = some (.cells zero12 t (0, 0))) :
    (put6 W LB 0 a0 a1 a2 a3 a4 a5).heap[LB]? = some (.cells #[a0, a1, a2, a3, a4, a5, .pointer none, .slice none 0 0, .bool false, .int .i64 0, .int .i64 0, .pointer none] t (0, 0)) := by
  have h := put6_heap (o := 0) (a0 := a0) (a1 := a1) (a2 := a2) (a3 := a3) (a4 := a4) (a5 := a5) hb
  simp only [zero12, Nat.zero_add, List.setIfInBounds_toArray, List.set_cons_zero, List.set_cons_succ] at h
  exact h
end Go.Proofs.Ytpfiaepoibablaa
namespace Go.Proofs.Ytpfiaepoibablaa
set_option linter.unusedVariables false
set_option linter.unusedSimpArgs false
open Go.RowKit

theorem image_at {w : World} {a0 : Option Addr} {im : List Nat} (h0 : RdP w a0 im) (hl : im.length = 256) : ∃ p, a0 = some p ∧ p.block < w.heap.size ∧ ∀ j x : Nat, im[j]? = some x → w.cell? (p.add j) = some (.int .u8 (x : Int)) := by
  obtain ⟨x0, hx0⟩ : ∃ x, im[0]? = some x := ⟨_, List.getElem?_eq_getElem (by omega)⟩
  obtain ⟨p, rfl, hp⟩ := h0 0 x0 hx0
  refine ⟨p, rfl, by have := cell_lt hp; rwa [add_block] at this, fun j x hx => ?_⟩
  obtain ⟨q, hq, hc⟩ := h0 j x hx
  cases hq
  exact hc
set_option maxRecDepth 100000 in
set_option maxHeartbeats 4000000 in
theorem play_full_f (w : World) (a0 a1 : Option Addr) (c0 c1 : Nat) (im : List Nat) (h0 : RdP w a0 im) (hc0 : im.length ≤ c0) (hl : im.length = 256) (xs : List (List Value)) (hxs : xs.length ≤ 150)
    (hx : ∀ i x, xs[i]? = some x → ShL w [.int .i64, .int .i64, .int .i64, .ints .u8] x ∧ ∃ g o, a1 = some ⟨g, o, none⟩ ∧ g < w.heap.size ∧ ∀ j y, x[j]? = some y → w.cell? ⟨g, o + i * 4 + j, none⟩ = some y) :
    Calls Try.prog 5 #[.slice a0 im.length c0, .slice a1 xs.length c1, .bool false] w fun e w' => e = .returned (.bool true) ∧ Below w.heap.size w w' := by
  obtain ⟨p, rfl, hpb, hpr⟩ := image_at h0 hl
  have HX := Lib.hid hx
  have HP := Lib.hid hpr
  have HL := Lib.hid hl
  rw [hl] at hc0 ⊢
  have b0 : ¬ (150 : Int) < (xs.length : Int) := by omega
  clear hx hpr hl h0
  go_enter Try.func5, Try.ntmps5
  go_upto_region 5 with (go_at_call 6; refine (alive_any _).mono ?_; rintro e w9 ⟨rfl, hB9⟩)
  go_upto_region 7 with fail
  have hK0 := blk_old (blk_new w9 (.cells (bookC (.slice none 0 0) (.slice none 0 0)) 41)) (.cells zero12 47)
  have hL0 := blk_new (w9.alloc (.cells (bookC (.slice none 0 0) (.slice none 0 0)) 41)) (.cells zero12 47)
  have hB0 := (hB9.alloc hB9.size (.cells (bookC (.slice none 0 0) (.slice none 0 0)) 41)).alloc (by have := hB9.size; simp; omega) (.cells zero12 47)
  rw [show (w9.alloc (.cells (bookC (.slice none 0 0) (.slice none 0 0)) 41)).heap.size = w9.heap.size + 1 by simp] at hL0
  have hsz := hB9.size
  clear hB9
  generalize hW2 : World.alloc (World.alloc w9 _) _ = W2
  rw [show (w9.alloc (.cells (bookC (.slice none 0 0) (.slice none 0 0)) 41)).alloc (.cells zero12 47) = W2 from hW2] at hK0 hL0 hB0
  clear hW2
  obtain ⟨K, hK⟩ : ∃ K, w9.heap.size = K := ⟨_, rfl⟩
  obtain ⟨LB, hLB⟩ : ∃ LB, K + 1 = LB := ⟨_, rfl⟩
  rw [hK] at hK0 hL0 hsz ⊢
  rw [hLB] at hL0 ⊢
  have HK := Lib.hid hK0
  have HLB := Lib.hid hL0
  have HB := Lib.hid hB0
  have HKL : Hid (w.heap.size ≤ K ∧ K < LB) := ⟨hsz, by omega⟩
  clear hK hLB hK0 hL0 hB0 hsz
  have hpr : ∀ j x : Nat, im[j]? = some x → W2.cell? (p.add j) = some (.int .u8 (x : Int)) := fun j x hx => (HB.out.cell (cell_lt (HP.out j x hx))).trans (HP.out j x hx)
  have hp2 : p.block < W2.heap.size := by have := HB.out.size; omega
  go_upto_region 8 with (go_at_call 7; refine (of_any p c0 im _ HL.out hc0 hp2 hpr).mono ?_; rintro e w3 ⟨b, rfl, hb3, hD3, hB3⟩)
  have hK := blk_below' hB3 HK.out
  have hLB := blk_below' hB3 HLB.out
  have hB := below_then HB.out hB3
  have hpr3 : ∀ j x : Nat, im[j]? = some x → w3.cell? (p.add j) = some (.int .u8 (x : Int)) := fun j x hx => (hB3.cell (cell_lt (hpr j x hx))).trans (hpr j x hx)
  have hp3 : p.block < w3.heap.size := by have := hB3.size; omega
  have hs2 := blk_lt HLB.out
  have hs3 := hB3.size
  have hb4 := hD3.lt
  go_wp2_with fail
  refine (refOf_any p c0 im w3 HL.out hp3 hpr3).mono ?_
  rintro e w4 ⟨v4, rfl, ⟨g, n, rest, rfl, hn, hg, hcs, hclen⟩, hB4⟩
  have hv4 : rkV g n { Dk.new with bs := im } = .agg #[.slice (some ⟨g, 0, none⟩) 256 n, .bool false, .int .i64 (-1), .int .i64 0] := rfl
  rw [hv4]
  obtain ⟨D0, hD0⟩ : ∃ D0, ({ Dk.new with bs := im } : Dk) = D0 := ⟨_, rfl⟩
  have hD0c : D0.off = false ∧ fuZ D0 = -1 ∧ D0.writes = 0 ∧ D0.bs = im ∧ DI D0 0 := by rw [← hD0]; exact ⟨rfl, rfl, rfl, rfl, Nat.le_refl _, Nat.zero_le _⟩
  have hal := (Below.refl w4.heap.size w4).alloc (Nat.le_refl _) (.cells #[.slice (some ⟨g, 0, none⟩) 256 n, .bool false, .int .i64 (-1), .int .i64 0] 44)
  have hbr := blk_new w4 (.cells #[.slice (some ⟨g, 0, none⟩) 256 n, .bool false, .int .i64 (-1), .int .i64 0] 44)
  obtain ⟨W5, hW5⟩ : ∃ W5, w4.alloc (.cells #[.slice (some ⟨g, 0, none⟩) 256 n, .bool false, .int .i64 (-1), .int .i64 0] 44) = W5 := ⟨_, rfl⟩
  obtain ⟨rq, hrq⟩ : ∃ rq, w4.heap.size = rq := ⟨_, rfl⟩
  rw [hW5] at hal hbr
  rw [hrq] at hbr
  have HW5 := Lib.hid hW5
  have HRQ := Lib.hid hrq
  have hD4 : DkAt w4 b D0 := by rw [← hD0]; exact hD3.below hB4
  have hs4 := hB4.size
  have hg4 := blk_lt hcs
  have HD := Lib.hid (hD4.below hal)
  have HG := Lib.hid (blk_below' hal hcs)
  have HK := Lib.hid (blk_below' hal (blk_below' hB4 hK))
  have HLB := Lib.hid (blk_below' hal (blk_below' hB4 hLB))
  have HB := Lib.hid (below_then (below_then hB hB4) hal)
  have HNE : Hid (LB < b ∧ b < g ∧ g < rq) := by rw [← hrq]; exact ⟨by omega, by omega, by omega⟩
  have HBR := Lib.hid hbr
  have HD0 := Lib.hid hD0c
  clear hbr hW5 hrq hal hD0 hD0c hD3 hD4 hcs hclen hK hLB hB hB3 hB4 hpr3 hp3 hs2 hs3 hb4 hs4 hg4 hb3 hg hpr hp2 hv4 HP hpb
  go_upto_region 9 with fail
  rw [HW5.out, HRQ.out]
  clear HW5 HRQ
  obtain ⟨⟨r0, r1, r2, r3⟩, ⟨f0, f1, f2, f3⟩⟩ := blk4' HBR.out
  go_upto_region 13 with fail
  obtain ⟨⟨⟨l0, l1, l2, l3, l4, l5⟩, l6⟩, ⟨⟨e0, e1, e2, e3, e4, e5⟩, e6⟩⟩ := blk12 (by have := HLB.out; unfold zero12 at this; exact this)
  go_upto_region 14 with fail
  generalize hW6 : World.setCell (World.setCell (World.setCell (World.setCell (World.setCell (World.setCell _ _ _) _ _) _ _) _ _) _ _) _ _ = W6
  have h6 : put6 W5 LB 0 (.pointer (some ⟨b, 0, none⟩)) (.slice (some ⟨g, 0, none⟩) 256 n) (.bool false) (.int .i64 (-1)) (.int .i64 0) (.pointer (some ⟨K, 0, none⟩)) = W6 := hW6
  have hL6 := put6_zero (.pointer (some ⟨b, 0, none⟩)) (.slice (some ⟨g, 0, none⟩) 256 n) (.bool false) (.int .i64 (-1)) (.int .i64 0) (.pointer (some ⟨K, 0, none⟩)) HLB.out
  have hbut := put6_but W5 (o := 0) (a0 := .pointer (some ⟨b, 0, none⟩)) (a1 := .slice (some ⟨g, 0, none⟩) 256 n) (a2 := .bool false) (a3 := .int .i64 (-1)) (a4 := .int .i64 0) (a5 := .pointer (some ⟨K, 0, none⟩)) (blk_lt HLB.out)
  rw [h6] at hL6 hbut
  have hne := HNE.out
  have hkl := HKL.out
  have HD := Lib.hid (show DkAt W6 b D0 from ⟨blk_grown hbut HD.out.1 (by simp; omega), HD.out.2⟩)
  have HG := Lib.hid (blk_grown hbut HG.out (by simp; omega))
  have HK := Lib.hid (blk_grown hbut HK.out (by simp; omega))
  have HB := Lib.hid (HB.out.grown hbut HB.out.size (fun j hj => by cases hj; omega))
  have hg6 := blk_lt HG.out
  have HLB := Lib.hid hL6
  clear h6 hW6 hbut hL6 l0 l1 l2 l3 l4 l5 e0 e1 e2 e3 e4 e5 r0 r1 r2 r3 f0 f1 f2 f3 HBR l6 e6
  go_wp2_with fail
  refine (new_any _).mono ?_
  rintro e w7 ⟨rfl, hD7, hB7⟩
  obtain ⟨c', hc'⟩ : ∃ c', W6.heap.size = c' := ⟨_, rfl⟩
  have HD := Lib.hid (HD.out.below hB7)
  have HG := Lib.hid (blk_below' hB7 HG.out)
  have HK := Lib.hid (blk_below' hB7 HK.out)
  have HLB := Lib.hid (blk_below' hB7 HLB.out)
  have HB := Lib.hid (below_then HB.out hB7)
  rw [hc'] at hD7 hg6
  rw [hc']
  have hc7 := hD7.lt
  clear hB7 hc'
  go_wp2_with fail
  refine (refNew_any _).mono ?_
  rintro e w8 ⟨v8, rfl, ⟨g', n', rest', rfl, hn', hg', hcs', hcl'⟩, hB8⟩
  have hv8 : rkV g' n' Dk.new = .agg #[.slice (some ⟨g', 0, none⟩) 256 n', .bool false, .int .i64 (-1), .int .i64 0] := rfl
  rw [hv8]
  have HD := Lib.hid (HD.out.below hB8)
  have HD7 := Lib.hid (hD7.below hB8)
  have HG := Lib.hid (blk_below' hB8 HG.out)
  have HG7 := Lib.hid hcs'
  have HK := Lib.hid (blk_below' hB8 HK.out)
  have HLB := Lib.hid (blk_below' hB8 HLB.out)
  have HB := Lib.hid (below_then HB.out hB8)
  clear hB8 hv8 hcs' hcl' hD7
  obtain ⟨⟨l6, ⟨l0, l1, l2, l3, l4, l5⟩⟩, ⟨e6, ⟨e0, e1, e2, e3, e4, e5⟩⟩⟩ := blk12 HLB.out
  clear l6 e6
  go_upto_region 15 with fail
  generalize hW9 : World.setCell (World.setCell (World.setCell (World.setCell (World.setCell (World.setCell _ _ _) _ _) _ _) _ _) _ _) _ _ = W9
  have h9 : put6 w8 LB 6 (.pointer (some ⟨c', 0, none⟩)) (.slice (some ⟨g', 0, none⟩) 256 n') (.bool false) (.int .i64 (-1)) (.int .i64 0) (.pointer (some ⟨K, 0, none⟩)) = W9 := hW9
  have hlast : ∃ cs : Array Value, w8.heap[LB]? = some (.cells cs 47 (0, 0)) ∧ 6 + 5 < cs.size ∧ ∀ j x, (sideC b g n K D0)[j]? = some x → cs[0 + j]? = some x := by
    refine ⟨_, HLB.out, by show 11 < 12; omega, get6 (x0 := .pointer (some ⟨b, 0, none⟩)) (x1 := .slice (some ⟨g, 0, none⟩) 256 n) (x2 := .bool false) (x3 := .int .i64 (-1)) (x4 := .int .i64 0) (x5 := .pointer (some ⟨K, 0, none⟩)) ?_ ⟨rfl, rfl, rfl, rfl, rfl, rfl⟩⟩
    unfold sideC; rw [HD0.out.1, HD0.out.2.1, HD0.out.2.2.1]; rfl
  have hLl := blk_lt HLB.out
  clear hW9 HLB l0 l1 l2 l3 l4 l5 e0 e1 e2 e3 e4 e5
  have hDP : Dp w LB K (.slice none 0 0) (.slice none 0 0) [] 0 b g n D0 D0 6 c' g' n' Dk.new W9 := by
    obtain ⟨cs, k1, k2, k3⟩ := hlast
    obtain ⟨s1, s2⟩ := set6 cs 6 (.pointer (some ⟨c', 0, none⟩)) (.slice (some ⟨g', 0, none⟩) 256 n') (.bool false) (.int .i64 (-1)) (.int .i64 0) (.pointer (some ⟨K, 0, none⟩)) k2
    have hL9 := put6_heap (o := 6) (a0 := .pointer (some ⟨c', 0, none⟩)) (a1 := .slice (some ⟨g', 0, none⟩) 256 n') (a2 := .bool false) (a3 := .int .i64 (-1)) (a4 := .int .i64 0) (a5 := .pointer (some ⟨K, 0, none⟩)) k1
    have hbut := put6_but w8 (o := 6) (a0 := .pointer (some ⟨c', 0, none⟩)) (a1 := .slice (some ⟨g', 0, none⟩) 256 n') (a2 := .bool false) (a3 := .int .i64 (-1)) (a4 := .int .i64 0) (a5 := .pointer (some ⟨K, 0, none⟩)) hLl
    rw [h9] at hL9 hbut
    refine Dp.start hL9 (fun j x hx => ?_) s1 ⟨blk_grown hbut HD.out.1 (by simp; omega), HD.out.2⟩ (rest := rest) ?_ hn ⟨blk_grown hbut HD7.out.1 (by simp; omega), HD7.out.2⟩ (blk_grown hbut HG7.out (by simp; omega)) hn' (blk_grown hbut HK.out (by simp; omega)) (HB.out.grown hbut HB.out.size (fun j hj => by cases hj; omega)) (by omega) (by omega) (by omega) hkl.1
    · have hj : j < 6 := by have := (List.getElem?_eq_some_iff.1 hx).1; simpa [sideC] using this
      rw [s2 _ (by omega)]; exact k3 j x hx
    · rw [HD0.out.2.2.2.1]; exact blk_grown hbut HG.out (by simp; omega)
  have HDP := Lib.hid hDP
  have HI := Lib.hid HD0.out.2.2.2.2
  clear h9 hlast hLl hDP HD HD7 HG HG7 HK HB HD0 hne hkl hg6 hc7 hg' HNE hn hn'
  go_wp2_with fail
  go_loopw [13] (fun i wr => ∃ (k : Nat) (vb vw : Value) (L : List Ls) (c g n : Nat) (d : Dk) (c' g' n' : Nat) (d' : Dk), i = .int .i64 (k : Nat) ∧ k ≤ xs.length ∧ Hid (Dp w LB K vb vw L 0 c g n d d 6 c' g' n' d' wr) ∧ Hid (DI d k) ∧ Hid (DI d' k)) (fun i _ => xs.length - (intOf i).toNat)
  case atStart => exact ⟨0, _, _, _, _, _, _, _, _, _, _, _, rfl, Nat.zero_le _, HDP.out, HI.out, ⟨Nat.le_refl _, Nat.zero_le _⟩⟩
  case round =>
    clear HDP HI
    obtain ⟨k, vb, vw, L, c, g, n, d, c', g', n', d', rfl, hk, HDP, HI, HI'⟩ := hrel
    by_cases hlt : k < xs.length
    · have b4 : ((k : Nat) : Int) < ((xs.length : Nat) : Int) := by omega
      obtain ⟨x, hx⟩ : ∃ x, xs[k]? = some x := ⟨_, List.getElem?_eq_getElem hlt⟩
      obtain ⟨hsh, gx, ox, rfl, hgx, hcx⟩ := HX.out k x hx
      obtain ⟨kk, who, a, av, cv, ld, rfl, ha, hr⟩ := op_at hsh
      have HCX : Hid (∀ W, Below w.heap.size w W → W.cell? ⟨gx, ox + k * 4, none⟩ = some (.int .i64 kk) ∧ W.cell? ⟨gx, ox + k * 4 + 1, none⟩ = some (.int .i64 who) ∧ W.cell? ⟨gx, ox + k * 4 + 2, none⟩ = some (.int .i64 a) ∧ W.cell? ⟨gx, ox + k * 4 + 3, none⟩ = some (.slice av ld.length cv)) := fun W hW =>
        ⟨(hW.cell hgx).trans (hcx 0 _ rfl), (hW.cell hgx).trans (hcx 1 _ rfl), (hW.cell hgx).trans (hcx 2 _ rfl), (hW.cell hgx).trans (hcx 3 _ rfl)⟩
      obtain ⟨t0, t1, t2, t3⟩ := HCX.out _ HDP.out.low
      have HA := Lib.hid ha
      have HR := Lib.hid hr
      clear hsh hgx hcx ha hr
      obtain ⟨wh, hwh⟩ : ∃ wh, bits .and .i64 who 1 = wh := ⟨_, rfl⟩
      have hw01 : wh = 0 ∨ wh = 1 := hwh ▸ and1 who
      have hbe := (Below.refl wr.heap.size wr).alloc (Nat.le_refl _) (.cells #[.int .i64 kk, .int .i64 who, .int .i64 a, .slice av ld.length cv] 60)
      have hq := blk_new wr (.cells #[.int .i64 kk, .int .i64 who, .int .i64 a, .slice av ld.length cv] 60)
      obtain ⟨W1, hW1⟩ : ∃ W1, wr.alloc (.cells #[.int .i64 kk, .int .i64 who, .int .i64 a, .slice av ld.length cv] 60) = W1 := ⟨_, rfl⟩
      obtain ⟨q, hqq⟩ : ∃ q, wr.heap.size = q := ⟨_, rfl⟩
      rw [hW1] at hbe hq
      rw [hqq] at hq
      have HW1 := Lib.hid hW1
      have HQQ := Lib.hid hqq
      have HDP := Lib.hid (HDP.out.below hbe)
      have HQ := Lib.hid hq
      clear hbe hq hW1 hqq
      go_upto_region 19 with fail
      rw [HW1.out, HQQ.out]
      clear HW1 HQQ HCX t0 t1 t2 t3 hx
      obtain ⟨⟨q0, q1, q2, q3⟩, _⟩ := blk4' HQ.out
      by_cases hl : 300 < ld.length
      · have b5 : (300 : Int) < (ld.length : Int) := by omega
        go_wp2_with fail
        go_ret
        exact ⟨rfl, HDP.out.low⟩
      · have b5 : ¬ (300 : Int) < (ld.length : Int) := by omega
        rcases hw01 with rfl | rfl
        · skip
          have HIA := HI
          by_cases hkk : kk = 6
          · subst hkk
            have HDA := Lib.hid (HDP.out)
            go_upto_region 23 with fail
            clear q0 q1 q2 q3
            have wr0 : IntKind.i64.wrap 0 = 0 := by decide
            have wr1 : IntKind.i64.wrap 1 = 1 := by decide
            refine wp_region_early (fun w' => w'.cell? ⟨LB, 0, none⟩ = some (.pointer (some ⟨c, 0, none⟩)) ∧ w'.cell? ⟨LB, 1, none⟩ = some (.slice (some ⟨g, 0, none⟩) 256 n) ∧ w'.cell? ⟨LB, 2, none⟩ = some (.bool (d).off) ∧ w'.cell? ⟨LB, 3, none⟩ = some (.int .i64 (fuZ d)) ∧ w'.cell? ⟨LB, 4, none⟩ = some (.int .i64 ((d).writes : Nat))) (fun k => k == 15) (by kernel_rfl) ?_
            simp only [List.size_toArray, List.length_cons, List.length_nil, Nat.reduceAdd, Array.replicate_succ, Array.replicate_zero, List.push_toArray, List.nil_append, List.cons_append]
            have HDA := Lib.hid HDA.out.drew
            generalize World.drew W1 = W3 at *
            have hSS : W3.cell? ⟨LB, 0, none⟩ = some (.pointer (some ⟨c, 0, none⟩)) ∧ W3.cell? ⟨LB, 1, none⟩ = some (.slice (some ⟨g, 0, none⟩) 256 n) ∧ W3.cell? ⟨LB, 2, none⟩ = some (.bool (d).off) ∧ W3.cell? ⟨LB, 3, none⟩ = some (.int .i64 (fuZ d)) ∧ W3.cell? ⟨LB, 4, none⟩ = some (.int .i64 ((d).writes : Nat)) := HDA.out.all
            refine wpAnyE_take (i := 0) (v := ?_) rfl (by kernel_rfl) (by kernel_rfl) (by kernel_rfl) (by kernel_rfl) (fun _ _ _ h => h) (Or.inl ⟨by rfl, ?_⟩) hSS ?_
            rotate_left
            · intro w hSw
              obtain ⟨j0, j1, j2, j3, j4⟩ := hSw
              go_simp
              all_goals with_reducible rfl
            simp only [Act.put, List.setIfInBounds_toArray, List.set_cons_zero, List.set_cons_succ, List.getElem_toArray, List.getElem_cons_zero, List.getElem_cons_succ]
            refine wpAnyE_take (i := 1) (v := ?_) rfl (by kernel_rfl) (by kernel_rfl) (by kernel_rfl) (by kernel_rfl) (fun _ _ _ h => h) (Or.inl ⟨by rfl, ?_⟩) hSS ?_
            rotate_left
            · intro w hSw
              obtain ⟨j0, j1, j2, j3, j4⟩ := hSw
              go_simp
              all_goals with_reducible rfl
            simp only [Act.put, List.setIfInBounds_toArray, List.set_cons_zero, List.set_cons_succ, List.getElem_toArray, List.getElem_cons_zero, List.getElem_cons_succ]
            refine wpAnyE_take (i := 2) (v := ?_) rfl (by kernel_rfl) (by kernel_rfl) (by kernel_rfl) (by kernel_rfl) (fun _ _ _ h => h) (Or.inl ⟨by rfl, ?_⟩) hSS ?_
            rotate_left
            · intro w hSw
              obtain ⟨j0, j1, j2, j3, j4⟩ := hSw
              go_simp
              all_goals with_reducible rfl
            simp only [Act.put, List.setIfInBounds_toArray, List.set_cons_zero, List.set_cons_succ, List.getElem_toArray, List.getElem_cons_zero, List.getElem_cons_succ]
            refine wpAnyE_take (i := 3) (v := ?_) rfl (by kernel_rfl) (by kernel_rfl) (by kernel_rfl) (by kernel_rfl) (fun _ _ _ h => h) (Or.inl ⟨by rfl, ?_⟩) hSS ?_
            rotate_left
            · intro w hSw
              obtain ⟨j0, j1, j2, j3, j4⟩ := hSw
              go_simp
              all_goals with_reducible rfl
            simp only [Act.put, List.setIfInBounds_toArray, List.set_cons_zero, List.set_cons_succ, List.getElem_toArray, List.getElem_cons_zero, List.getElem_cons_succ]
            refine wpAnyE_take (i := 4) (v := ?_) rfl (by kernel_rfl) (by kernel_rfl) (by kernel_rfl) (by kernel_rfl) (fun _ _ _ h => h) (Or.inl ⟨by rfl, ?_⟩) hSS ?_
            rotate_left
            · intro w hSw
              obtain ⟨j0, j1, j2, j3, j4⟩ := hSw
              go_simp
              all_goals with_reducible rfl
            simp only [Act.put, List.setIfInBounds_toArray, List.set_cons_zero, List.set_cons_succ, List.getElem_toArray, List.getElem_cons_zero, List.getElem_cons_succ]
            refine wpAnyE_take (i := 5) (v := ?_) rfl (by kernel_rfl) (by kernel_rfl) (by kernel_rfl) (by kernel_rfl) (fun _ _ _ h => h) (Or.inl ⟨by rfl, ?_⟩) hSS ?_
            rotate_left
            · intro w hSw
              obtain ⟨j0, j1, j2, j3, j4⟩ := hSw
              go_simp
              all_goals with_reducible rfl
            simp only [Act.put, List.setIfInBounds_toArray, List.set_cons_zero, List.set_cons_succ, List.getElem_toArray, List.getElem_cons_zero, List.getElem_cons_succ]
            refine wpAnyE_take (i := 7) (v := ?_) rfl (by kernel_rfl) (by kernel_rfl) (by kernel_rfl) (by kernel_rfl) (fun _ _ _ h => h) (Or.inl ⟨by rfl, ?_⟩) hSS ?_
            rotate_left
            · intro w hSw
              obtain ⟨j0, j1, j2, j3, j4⟩ := hSw
              go_simp
              all_goals with_reducible rfl
            simp only [Act.put, List.setIfInBounds_toArray, List.set_cons_zero, List.set_cons_succ, List.getElem_toArray, List.getElem_cons_zero, List.getElem_cons_succ]
            refine wpAnyE_take (i := 8) (v := ?_) rfl (by kernel_rfl) (by kernel_rfl) (by kernel_rfl) (by kernel_rfl) (fun _ _ _ h => h) (Or.inl ⟨by rfl, ?_⟩) hSS ?_
            rotate_left
            · intro w hSw
              obtain ⟨j0, j1, j2, j3, j4⟩ := hSw
              go_simp
              all_goals with_reducible rfl
            simp only [Act.put, List.setIfInBounds_toArray, List.set_cons_zero, List.set_cons_succ, List.getElem_toArray, List.getElem_cons_zero, List.getElem_cons_succ]
            refine wpAnyE_take (i := 9) (v := ?_) rfl (by kernel_rfl) (by kernel_rfl) (by kernel_rfl) (by kernel_rfl) (fun _ _ _ h => h) (Or.inl ⟨by rfl, ?_⟩) hSS ?_
            rotate_left
            · intro w hSw
              obtain ⟨j0, j1, j2, j3, j4⟩ := hSw
              go_simp
              all_goals with_reducible rfl
            simp only [Act.put, List.setIfInBounds_toArray, List.set_cons_zero, List.set_cons_succ, List.getElem_toArray, List.getElem_cons_zero, List.getElem_cons_succ]
            refine wpAnyE_take (i := 10) (v := ?_) rfl (by kernel_rfl) (by kernel_rfl) (by kernel_rfl) (by kernel_rfl) (fun _ _ _ h => h) (Or.inl ⟨by rfl, ?_⟩) hSS ?_
            rotate_left
            · intro w hSw
              obtain ⟨j0, j1, j2, j3, j4⟩ := hSw
              go_simp
              all_goals with_reducible rfl
            simp only [Act.put, List.setIfInBounds_toArray, List.set_cons_zero, List.set_cons_succ, List.getElem_toArray, List.getElem_cons_zero, List.getElem_cons_succ]
            refine wpAnyE_take (i := 12) (v := ?_) rfl (by kernel_rfl) (by kernel_rfl) (by kernel_rfl) (by kernel_rfl) (fun _ _ _ h => h) (Or.inl ⟨by rfl, ?_⟩) hSS ?_
            rotate_left
            · intro w hSw
              obtain ⟨j0, j1, j2, j3, j4⟩ := hSw
              go_simp
              all_goals with_reducible rfl
            simp only [Act.put, List.setIfInBounds_toArray, List.set_cons_zero, List.set_cons_succ, List.getElem_toArray, List.getElem_cons_zero, List.getElem_cons_succ]
            refine wpAnyE_one (i := 6) (by kernel_rfl) rfl ?_
            change wpList _ _ (Exit.then _ _) [_] _ _
            try simp only [List.setIfInBounds_toArray, List.set_cons_zero, List.set_cons_succ, List.getElem_toArray, List.getElem_cons_zero, List.getElem_cons_succ]
            go_wp2_with (go_at_call 11; refine (twin_any c d _ HDA.out.x.disk).mono ?_; rintro e w4 ⟨c2, rfl, hc2, hD4, hB4⟩)
            have hlt := And.intro HDA.out.x.lt (And.intro HDA.out.y.lt HDA.out.low.size)
            have hbk := fun k hk => (HDA.out.bk.lt k hk).2
            have HDA := Lib.hid (HDA.out.below hB4)
            have hs4 := hB4.size
            clear hSS hB4
            have hSS : w4.cell? ⟨LB, 0, none⟩ = some (.pointer (some ⟨c, 0, none⟩)) ∧ w4.cell? ⟨LB, 1, none⟩ = some (.slice (some ⟨g, 0, none⟩) 256 n) ∧ w4.cell? ⟨LB, 2, none⟩ = some (.bool (d).off) ∧ w4.cell? ⟨LB, 3, none⟩ = some (.int .i64 (fuZ d)) ∧ w4.cell? ⟨LB, 4, none⟩ = some (.int .i64 ((d).writes : Nat)) := HDA.out.all
            refine ⟨fun _ => hSS, ?_⟩
            try simp only [List.setIfInBounds_toArray, List.set_cons_zero, List.set_cons_succ, List.getElem_toArray, List.getElem_cons_zero, List.getElem_cons_succ]
            refine wpAnyE_one (i := 11) (by kernel_rfl) rfl ?_
            change wpList _ _ (Exit.then _ _) [_] _ _
            try simp only [List.setIfInBounds_toArray, List.set_cons_zero, List.set_cons_succ, List.getElem_toArray, List.getElem_cons_zero, List.getElem_cons_succ]
            go_wp2_with (go_at_call 12; refine (refCopy_any g n d _ HDA.out.x.rk.bytes HDA.out.x.rk.len).mono ?_; rintro e w5 ⟨v5, rfl, ⟨g2, n2, rest2, rfl, hn2, hg2, hcs2, hcl2⟩, hB5⟩; rw [show rkV g2 n2 d = .agg #[.slice (some ⟨g2, 0, none⟩) 256 n2, .bool (d).off, .int .i64 (fuZ d), .int .i64 ((d).writes : Nat)] from rfl])
            have hc4 := hD4.lt
            have HDA := Lib.hid (HDA.out.below hB5)
            have HD5 := Lib.hid (hD4.below hB5)
            have HG5 := Lib.hid hcs2
            have HFR : Hid ((c2 ≠ LB ∧ c2 ≠ c ∧ c2 ≠ g) ∧ (g2 ≠ LB ∧ g2 ≠ c ∧ g2 ≠ g) ∧ c2 ≠ g2) := by
              obtain ⟨h1, h2, h3⟩ := hlt
              exact ⟨by omega, by omega, by omega⟩
            have HSP : Hid (c2 ∉ bkB K vb vw L ∧ g2 ∉ bkB K vb vw L) := ⟨fun hm => by have := hbk c2 hm; omega, fun hm => by have := hbk g2 hm; omega⟩
            have HGE : Hid (w.heap.size ≤ c2 ∧ w.heap.size ≤ g2) := by
              obtain ⟨h1, h2, h3⟩ := hlt
              exact ⟨by omega, by omega⟩
            clear hSS hB5 hcs2 hcl2 hD4 hlt hbk hs4 hc2 hg2 hc4
            have hSS : w5.cell? ⟨LB, 0, none⟩ = some (.pointer (some ⟨c, 0, none⟩)) ∧ w5.cell? ⟨LB, 1, none⟩ = some (.slice (some ⟨g, 0, none⟩) 256 n) ∧ w5.cell? ⟨LB, 2, none⟩ = some (.bool (d).off) ∧ w5.cell? ⟨LB, 3, none⟩ = some (.int .i64 (fuZ d)) ∧ w5.cell? ⟨LB, 4, none⟩ = some (.int .i64 ((d).writes : Nat)) := HDA.out.all
            refine ⟨fun _ => hSS, ?_⟩
            try simp only [List.setIfInBounds_toArray, List.set_cons_zero, List.set_cons_succ, List.getElem_toArray, List.getElem_cons_zero, List.getElem_cons_succ]
            refine wpAnyE_take (i := 13) (v := ?_) rfl (by kernel_rfl) (by kernel_rfl) (by kernel_rfl) (by kernel_rfl) (fun _ _ _ h => h) (Or.inl ⟨by rfl, ?_⟩) hSS ?_
            rotate_left
            · intro w hSw
              obtain ⟨j0, j1, j2, j3, j4⟩ := hSw
              go_simp
              all_goals with_reducible rfl
            simp only [Act.put, List.setIfInBounds_toArray, List.set_cons_zero, List.set_cons_succ, List.getElem_toArray, List.getElem_cons_zero, List.getElem_cons_succ]
            refine wpAnyE_take (i := 14) (v := ?_) rfl (by kernel_rfl) (by kernel_rfl) (by kernel_rfl) (by kernel_rfl) (fun _ _ _ h => h) (Or.inl ⟨by rfl, ?_⟩) hSS ?_
            rotate_left
            · intro w hSw
              obtain ⟨j0, j1, j2, j3, j4⟩ := hSw
              go_simp
              all_goals with_reducible rfl
            simp only [Act.put, List.setIfInBounds_toArray, List.set_cons_zero, List.set_cons_succ, List.getElem_toArray, List.getElem_cons_zero, List.getElem_cons_succ]
            obtain ⟨csB, tB, hbB⟩ := HDA.out.y.rk.blk
            have k0 : w5.cell? ⟨LB, 6, none⟩ = _ := HDA.out.y.p
            have k1 : w5.cell? ⟨LB, 7, none⟩ = _ := HDA.out.y.rk.cells.1
            have k2 : w5.cell? ⟨LB, 8, none⟩ = _ := HDA.out.y.rk.cells.2.1
            have k3 : w5.cell? ⟨LB, 9, none⟩ = _ := HDA.out.y.rk.cells.2.2.1
            have k4 : w5.cell? ⟨LB, 10, none⟩ = _ := HDA.out.y.rk.cells.2.2.2
            have k5 : w5.cell? ⟨LB, 11, none⟩ = _ := HDA.out.y.b
            have f0 := blk_free hbB 6
            have f1 := blk_free hbB 7
            have f2 := blk_free hbB 8
            have f3 := blk_free hbB 9
            have f4 := blk_free hbB 10
            have f5 := blk_free hbB 11
            clear hSS hbB
            refine wpAnyE_one (i := 15) (by kernel_rfl) rfl ?_
            change wpList _ _ (Exit.then _ _) [_] _ _
            try simp only [List.setIfInBounds_toArray, List.set_cons_zero, List.set_cons_succ, List.getElem_toArray, List.getElem_cons_zero, List.getElem_cons_succ]
            go_wp2_with fail
            generalize hW6 : World.setCell (World.setCell (World.setCell (World.setCell (World.setCell (World.setCell _ _ _) _ _) _ _) _ _) _ _) _ _ = W6
            have h6 : put6 w5 LB 6 (.pointer (some ⟨c2, 0, none⟩)) (.slice (some ⟨g2, 0, none⟩) 256 n2) (.bool (d).off) (.int .i64 (fuZ d)) (.int .i64 ((d).writes : Nat)) (.pointer (some ⟨K, 0, none⟩)) = W6 := hW6
            have hD6 := HDA.out.twin HD5.out HG5.out hn2 HFR.out HSP.out HGE.out
            rw [h6] at hD6
            have HD6 := Lib.hid hD6
            clear hW6 h6 hD6 k0 k1 k2 k3 k4 k5 f0 f1 f2 f3 f4 f5 HD5 HG5 hn2 HFR HSP HGE
            first | refine ⟨fun h => absurd h (by decide), ?_⟩ | refine ⟨trivial, ?_⟩ | skip
            try simp only [List.setIfInBounds_toArray, List.set_cons_zero, List.set_cons_succ, List.getElem_toArray, List.getElem_cons_zero, List.getElem_cons_succ]
            refine wpAnyE_end (by kernel_rfl) ?_
            go_wp2_with fail
            have HE := HD6
            skip
            go_roundw
            case rel => exact ⟨k + 1, _, _, _, _, _, _, _, _, _, _, _, by go_num, by omega, HE.out, HI.out.up, HI.out.up⟩
            case measure => simp [intOf]; omega
          · have e6 : (kk == 6) = false := by simpa using hkk
            go_wp2_with fail
            refine wp_region_early (fun w' => w'.cell? ⟨q, 0, none⟩ = some (.int .i64 kk) ∧ w'.cell? ⟨q, 1, none⟩ = some (.int .i64 who) ∧ w'.cell? ⟨q, 2, none⟩ = some (.int .i64 a) ∧ w'.cell? ⟨q, 3, none⟩ = some (.slice av ld.length cv)) (fun k => k == 3 || k == 4) (by kernel_rfl) ?_
            simp only [List.size_toArray, List.length_cons, List.length_nil, Nat.reduceAdd, Array.replicate_succ, Array.replicate_zero, List.push_toArray, List.nil_append, List.cons_append]
            have HDA := Lib.hid (HDP.out).drew
            have hSS := (blk4' (blk_below' ((Below.refl W1.heap.size W1).drew) HQ.out)).1
            clear q0 q1 q2 q3
            generalize World.drew W1 = W3 at *
            refine wpAnyE_take (i := 0) (v := ?_) rfl (by kernel_rfl) (by kernel_rfl) (by kernel_rfl) (by kernel_rfl) (fun _ _ _ h => h) (Or.inl ⟨by rfl, ?_⟩) hSS ?_
            rotate_left
            · intro w hSw
              obtain ⟨j0, j1, j2, j3⟩ := hSw
              go_simp
              all_goals with_reducible rfl
            simp only [Act.put, List.setIfInBounds_toArray, List.set_cons_zero, List.set_cons_succ, List.getElem_toArray, List.getElem_cons_zero, List.getElem_cons_succ]
            refine wpAnyE_take (i := 1) (v := ?_) rfl (by kernel_rfl) (by kernel_rfl) (by kernel_rfl) (by kernel_rfl) (fun _ _ _ h => h) (Or.inl ⟨by rfl, ?_⟩) hSS ?_
            rotate_left
            · intro w hSw
              obtain ⟨j0, j1, j2, j3⟩ := hSw
              go_simp
              all_goals with_reducible rfl
            simp only [Act.put, List.setIfInBounds_toArray, List.set_cons_zero, List.set_cons_succ, List.getElem_toArray, List.getElem_cons_zero, List.getElem_cons_succ]
            refine wpAnyE_take (i := 2) (v := ?_) rfl (by kernel_rfl) (by kernel_rfl) (by kernel_rfl) (by kernel_rfl) (fun _ _ _ h => h) (Or.inl ⟨by rfl, ?_⟩) hSS ?_
            rotate_left
            · intro w hSw
              obtain ⟨j0, j1, j2, j3⟩ := hSw
              go_simp
              all_goals with_reducible rfl
            simp only [Act.put, List.setIfInBounds_toArray, List.set_cons_zero, List.set_cons_succ, List.getElem_toArray, List.getElem_cons_zero, List.getElem_cons_succ]
            refine wpAnyE_one (i := 3) (by kernel_rfl) rfl ?_
            change wpList _ _ (Exit.then _ _) [_] _ _
            try simp only [List.setIfInBounds_toArray, List.set_cons_zero, List.set_cons_succ, List.getElem_toArray, List.getElem_cons_zero, List.getElem_cons_succ]
            go_wp2_with (go_at_call 13; refine (step_any _ _ _ _ _ _ _ _ _ _ _ _ _ _ _ _ kk who a av cv ld k _ HDA.out HIA.out (by omega) HA.out (by omega) HR.out).mono ?_; rintro e w4 ⟨rfl, vb2, vw2, L2, d2, hD2, hI2⟩)
            clear hSS
            first | refine ⟨fun h => absurd h (by decide), ?_⟩ | refine ⟨trivial, ?_⟩ | skip
            try simp only [List.setIfInBounds_toArray, List.set_cons_zero, List.set_cons_succ, List.getElem_toArray, List.getElem_cons_zero, List.getElem_cons_succ]
            refine wpAnyE_one (i := 4) (by kernel_rfl) rfl ?_
            change wpList _ _ (Exit.then _ _) [_] _ _
            try simp only [List.setIfInBounds_toArray, List.set_cons_zero, List.set_cons_succ, List.getElem_toArray, List.getElem_cons_zero, List.getElem_cons_succ]
            go_wp2_with fail
            first | refine ⟨fun h => absurd h (by decide), ?_⟩ | refine ⟨trivial, ?_⟩ | skip
            try simp only [List.setIfInBounds_toArray, List.set_cons_zero, List.set_cons_succ, List.getElem_toArray, List.getElem_cons_zero, List.getElem_cons_succ]
            refine wpAnyE_end (by kernel_rfl) ?_
            have HD2 := Lib.hid hD2
            have HI2 := Lib.hid hI2
            clear hD2 hI2
            go_wp2_with fail
            have HE := HD2
            skip
            go_roundw
            case rel => exact ⟨k + 1, _, _, _, _, _, _, _, _, _, _, _, by go_num, by omega, HE.out, HI2.out, HI'.out.up⟩
            case measure => simp [intOf]; omega
        · skip
          have HIA := HI'
          by_cases hkk : kk = 6
          · subst hkk
            have HDA := Lib.hid (HDP.out.swap)
            go_upto_region 23 with fail
            clear q0 q1 q2 q3
            have wr0 : IntKind.i64.wrap 0 = 0 := by decide
            have wr1 : IntKind.i64.wrap 1 = 1 := by decide
            refine wp_region_early (fun w' => w'.cell? ⟨LB, 6, none⟩ = some (.pointer (some ⟨c', 0, none⟩)) ∧ w'.cell? ⟨LB, 7, none⟩ = some (.slice (some ⟨g', 0, none⟩) 256 n') ∧ w'.cell? ⟨LB, 8, none⟩ = some (.bool (d').off) ∧ w'.cell? ⟨LB, 9, none⟩ = some (.int .i64 (fuZ d')) ∧ w'.cell? ⟨LB, 10, none⟩ = some (.int .i64 ((d').writes : Nat))) (fun k => k == 15) (by kernel_rfl) ?_
            simp only [List.size_toArray, List.length_cons, List.length_nil, Nat.reduceAdd, Array.replicate_succ, Array.replicate_zero, List.push_toArray, List.nil_append, List.cons_append]
            have HDA := Lib.hid HDA.out.drew
            generalize World.drew W1 = W3 at *
            have hSS : W3.cell? ⟨LB, 6, none⟩ = some (.pointer (some ⟨c', 0, none⟩)) ∧ W3.cell? ⟨LB, 7, none⟩ = some (.slice (some ⟨g', 0, none⟩) 256 n') ∧ W3.cell? ⟨LB, 8, none⟩ = some (.bool (d').off) ∧ W3.cell? ⟨LB, 9, none⟩ = some (.int .i64 (fuZ d')) ∧ W3.cell? ⟨LB, 10, none⟩ = some (.int .i64 ((d').writes : Nat)) := HDA.out.all
            refine wpAnyE_take (i := 0) (v := ?_) rfl (by kernel_rfl) (by kernel_rfl) (by kernel_rfl) (by kernel_rfl) (fun _ _ _ h => h) (Or.inl ⟨by rfl, ?_⟩) hSS ?_
            rotate_left
            · intro w hSw
              obtain ⟨j0, j1, j2, j3, j4⟩ := hSw
              go_simp
              all_goals with_reducible rfl
            simp only [Act.put, List.setIfInBounds_toArray, List.set_cons_zero, List.set_cons_succ, List.getElem_toArray, List.getElem_cons_zero, List.getElem_cons_succ]
            refine wpAnyE_take (i := 1) (v := ?_) rfl (by kernel_rfl) (by kernel_rfl) (by kernel_rfl) (by kernel_rfl) (fun _ _ _ h => h) (Or.inl ⟨by rfl, ?_⟩) hSS ?_
            rotate_left
            · intro w hSw
              obtain ⟨j0, j1, j2, j3, j4⟩ := hSw
              go_simp
              all_goals with_reducible rfl
            simp only [Act.put, List.setIfInBounds_toArray, List.set_cons_zero, List.set_cons_succ, List.getElem_toArray, List.getElem_cons_zero, List.getElem_cons_succ]
            refine wpAnyE_take (i := 2) (v := ?_) rfl (by kernel_rfl) (by kernel_rfl) (by kernel_rfl) (by kernel_rfl) (fun _ _ _ h => h) (Or.inl ⟨by rfl, ?_⟩) hSS ?_
            rotate_left
            · intro w hSw
              obtain ⟨j0, j1, j2, j3, j4⟩ := hSw
              go_simp
              all_goals with_reducible rfl
            simp only [Act.put, List.setIfInBounds_toArray, List.set_cons_zero, List.set_cons_succ, List.getElem_toArray, List.getElem_cons_zero, List.getElem_cons_succ]
            refine wpAnyE_take (i := 3) (v := ?_) rfl (by kernel_rfl) (by kernel_rfl) (by kernel_rfl) (by kernel_rfl) (fun _ _ _ h => h) (Or.inl ⟨by rfl, ?_⟩) hSS ?_
            rotate_left
            · intro w hSw
              obtain ⟨j0, j1, j2, j3, j4⟩ := hSw
              go_simp
              all_goals with_reducible rfl
            simp only [Act.put, List.setIfInBounds_toArray, List.set_cons_zero, List.set_cons_succ, List.getElem_toArray, List.getElem_cons_zero, List.getElem_cons_succ]
            refine wpAnyE_take (i := 4) (v := ?_) rfl (by kernel_rfl) (by kernel_rfl) (by kernel_rfl) (by kernel_rfl) (fun _ _ _ h => h) (Or.inl ⟨by rfl, ?_⟩) hSS ?_
            rotate_left
            · intro w hSw
              obtain ⟨j0, j1, j2, j3, j4⟩ := hSw
              go_simp
              all_goals with_reducible rfl
            simp only [Act.put, List.setIfInBounds_toArray, List.set_cons_zero, List.set_cons_succ, List.getElem_toArray, List.getElem_cons_zero, List.getElem_cons_succ]
            refine wpAnyE_take (i := 5) (v := ?_) rfl (by kernel_rfl) (by kernel_rfl) (by kernel_rfl) (by kernel_rfl) (fun _ _ _ h => h) (Or.inl ⟨by rfl, ?_⟩) hSS ?_
            rotate_left
            · intro w hSw
              obtain ⟨j0, j1, j2, j3, j4⟩ := hSw
              go_simp
              all_goals with_reducible rfl
            simp only [Act.put, List.setIfInBounds_toArray, List.set_cons_zero, List.set_cons_succ, List.getElem_toArray, List.getElem_cons_zero, List.getElem_cons_succ]
            refine wpAnyE_take (i := 7) (v := ?_) rfl (by kernel_rfl) (by kernel_rfl) (by kernel_rfl) (by kernel_rfl) (fun _ _ _ h => h) (Or.inl ⟨by rfl, ?_⟩) hSS ?_
            rotate_left
            · intro w hSw
              obtain ⟨j0, j1, j2, j3, j4⟩ := hSw
              go_simp
              all_goals with_reducible rfl
            simp only [Act.put, List.setIfInBounds_toArray, List.set_cons_zero, List.set_cons_succ, List.getElem_toArray, List.getElem_cons_zero, List.getElem_cons_succ]
            refine wpAnyE_take (i := 8) (v := ?_) rfl (by kernel_rfl) (by kernel_rfl) (by kernel_rfl) (by kernel_rfl) (fun _ _ _ h => h) (Or.inl ⟨by rfl, ?_⟩) hSS ?_
            rotate_left
            · intro w hSw
              obtain ⟨j0, j1, j2, j3, j4⟩ := hSw
              go_simp
              all_goals with_reducible rfl
            simp only [Act.put, List.setIfInBounds_toArray, List.set_cons_zero, List.set_cons_succ, List.getElem_toArray, List.getElem_cons_zero, List.getElem_cons_succ]
            refine wpAnyE_take (i := 9) (v := ?_) rfl (by kernel_rfl) (by kernel_rfl) (by kernel_rfl) (by kernel_rfl) (fun _ _ _ h => h) (Or.inl ⟨by rfl, ?_⟩) hSS ?_
            rotate_left
            · intro w hSw
              obtain ⟨j0, j1, j2, j3, j4⟩ := hSw
              go_simp
              all_goals with_reducible rfl
            simp only [Act.put, List.setIfInBounds_toArray, List.set_cons_zero, List.set_cons_succ, List.getElem_toArray, List.getElem_cons_zero, List.getElem_cons_succ]
            refine wpAnyE_take (i := 10) (v := ?_) rfl (by kernel_rfl) (by kernel_rfl) (by kernel_rfl) (by kernel_rfl) (fun _ _ _ h => h) (Or.inl ⟨by rfl, ?_⟩) hSS ?_
            rotate_left
            · intro w hSw
              obtain ⟨j0, j1, j2, j3, j4⟩ := hSw
              go_simp
              all_goals with_reducible rfl
            simp only [Act.put, List.setIfInBounds_toArray, List.set_cons_zero, List.set_cons_succ, List.getElem_toArray, List.getElem_cons_zero, List.getElem_cons_succ]
            refine wpAnyE_take (i := 12) (v := ?_) rfl (by kernel_rfl) (by kernel_rfl) (by kernel_rfl) (by kernel_rfl) (fun _ _ _ h => h) (Or.inl ⟨by rfl, ?_⟩) hSS ?_
            rotate_left
            · intro w hSw
              obtain ⟨j0, j1, j2, j3, j4⟩ := hSw
              go_simp
              all_goals with_reducible rfl
            simp only [Act.put, List.setIfInBounds_toArray, List.set_cons_zero, List.set_cons_succ, List.getElem_toArray, List.getElem_cons_zero, List.getElem_cons_succ]
            refine wpAnyE_one (i := 6) (by kernel_rfl) rfl ?_
            change wpList _ _ (Exit.then _ _) [_] _ _
            try simp only [List.setIfInBounds_toArray, List.set_cons_zero, List.set_cons_succ, List.getElem_toArray, List.getElem_cons_zero, List.getElem_cons_succ]
            go_wp2_with (go_at_call 11; refine (twin_any c' d' _ HDA.out.x.disk).mono ?_; rintro e w4 ⟨c2, rfl, hc2, hD4, hB4⟩)
            have hlt := And.intro HDA.out.x.lt (And.intro HDA.out.y.lt HDA.out.low.size)
            have hbk := fun k hk => (HDA.out.bk.lt k hk).2
            have HDA := Lib.hid (HDA.out.below hB4)
            have hs4 := hB4.size
            clear hSS hB4
            have hSS : w4.cell? ⟨LB, 6, none⟩ = some (.pointer (some ⟨c', 0, none⟩)) ∧ w4.cell? ⟨LB, 7, none⟩ = some (.slice (some ⟨g', 0, none⟩) 256 n') ∧ w4.cell? ⟨LB, 8, none⟩ = some (.bool (d').off) ∧ w4.cell? ⟨LB, 9, none⟩ = some (.int .i64 (fuZ d')) ∧ w4.cell? ⟨LB, 10, none⟩ = some (.int .i64 ((d').writes : Nat)) := HDA.out.all
            refine ⟨fun _ => hSS, ?_⟩
            try simp only [List.setIfInBounds_toArray, List.set_cons_zero, List.set_cons_succ, List.getElem_toArray, List.getElem_cons_zero, List.getElem_cons_succ]
            refine wpAnyE_one (i := 11) (by kernel_rfl) rfl ?_
            change wpList _ _ (Exit.then _ _) [_] _ _
            try simp only [List.setIfInBounds_toArray, List.set_cons_zero, List.set_cons_succ, List.getElem_toArray, List.getElem_cons_zero, List.getElem_cons_succ]
            go_wp2_with (go_at_call 12; refine (refCopy_any g' n' d' _ HDA.out.x.rk.bytes HDA.out.x.rk.len).mono ?_; rintro e w5 ⟨v5, rfl, ⟨g2, n2, rest2, rfl, hn2, hg2, hcs2, hcl2⟩, hB5⟩; rw [show rkV g2 n2 d' = .agg #[.slice (some ⟨g2, 0, none⟩) 256 n2, .bool (d').off, .int .i64 (fuZ d'), .int .i64 ((d').writes : Nat)] from rfl])
            have hc4 := hD4.lt
            have HDA := Lib.hid (HDA.out.below hB5)
            have HD5 := Lib.hid (hD4.below hB5)
            have HG5 := Lib.hid hcs2
            have HFR : Hid ((c2 ≠ LB ∧ c2 ≠ c' ∧ c2 ≠ g') ∧ (g2 ≠ LB ∧ g2 ≠ c' ∧ g2 ≠ g') ∧ c2 ≠ g2) := by
              obtain ⟨h1, h2, h3⟩ := hlt
              exact ⟨by omega, by omega, by omega⟩
            have HSP : Hid (c2 ∉ bkB K vb vw L ∧ g2 ∉ bkB K vb vw L) := ⟨fun hm => by have := hbk c2 hm; omega, fun hm => by have := hbk g2 hm; omega⟩
            have HGE : Hid (w.heap.size ≤ c2 ∧ w.heap.size ≤ g2) := by
              obtain ⟨h1, h2, h3⟩ := hlt
              exact ⟨by omega, by omega⟩
            clear hSS hB5 hcs2 hcl2 hD4 hlt hbk hs4 hc2 hg2 hc4
            have hSS : w5.cell? ⟨LB, 6, none⟩ = some (.pointer (some ⟨c', 0, none⟩)) ∧ w5.cell? ⟨LB, 7, none⟩ = some (.slice (some ⟨g', 0, none⟩) 256 n') ∧ w5.cell? ⟨LB, 8, none⟩ = some (.bool (d').off) ∧ w5.cell? ⟨LB, 9, none⟩ = some (.int .i64 (fuZ d')) ∧ w5.cell? ⟨LB, 10, none⟩ = some (.int .i64 ((d').writes : Nat)) := HDA.out.all
            refine ⟨fun _ => hSS, ?_⟩
            try simp only [List.setIfInBounds_toArray, List.set_cons_zero, List.set_cons_succ, List.getElem_toArray, List.getElem_cons_zero, List.getElem_cons_succ]
            refine wpAnyE_take (i := 13) (v := ?_) rfl (by kernel_rfl) (by kernel_rfl) (by kernel_rfl) (by kernel_rfl) (fun _ _ _ h => h) (Or.inl ⟨by rfl, ?_⟩) hSS ?_
            rotate_left
            · intro w hSw
              obtain ⟨j0, j1, j2, j3, j4⟩ := hSw
              go_simp
              all_goals with_reducible rfl
            simp only [Act.put, List.setIfInBounds_toArray, List.set_cons_zero, List.set_cons_succ, List.getElem_toArray, List.getElem_cons_zero, List.getElem_cons_succ]
            refine wpAnyE_take (i := 14) (v := ?_) rfl (by kernel_rfl) (by kernel_rfl) (by kernel_rfl) (by kernel_rfl) (fun _ _ _ h => h) (Or.inl ⟨by rfl, ?_⟩) hSS ?_
            rotate_left
            · intro w hSw
              obtain ⟨j0, j1, j2, j3, j4⟩ := hSw
              go_simp
              all_goals with_reducible rfl
            simp only [Act.put, List.setIfInBounds_toArray, List.set_cons_zero, List.set_cons_succ, List.getElem_toArray, List.getElem_cons_zero, List.getElem_cons_succ]
            obtain ⟨csB, tB, hbB⟩ := HDA.out.y.rk.blk
            have k0 : w5.cell? ⟨LB, 0, none⟩ = _ := HDA.out.y.p
            have k1 : w5.cell? ⟨LB, 1, none⟩ = _ := HDA.out.y.rk.cells.1
            have k2 : w5.cell? ⟨LB, 2, none⟩ = _ := HDA.out.y.rk.cells.2.1
            have k3 : w5.cell? ⟨LB, 3, none⟩ = _ := HDA.out.y.rk.cells.2.2.1
            have k4 : w5.cell? ⟨LB, 4, none⟩ = _ := HDA.out.y.rk.cells.2.2.2
            have k5 : w5.cell? ⟨LB, 5, none⟩ = _ := HDA.out.y.b
            have f0 := blk_free hbB 0
            have f1 := blk_free hbB 1
            have f2 := blk_free hbB 2
            have f3 := blk_free hbB 3
            have f4 := blk_free hbB 4
            have f5 := blk_free hbB 5
            clear hSS hbB
            refine wpAnyE_one (i := 15) (by kernel_rfl) rfl ?_
            change wpList _ _ (Exit.then _ _) [_] _ _
            try simp only [List.setIfInBounds_toArray, List.set_cons_zero, List.set_cons_succ, List.getElem_toArray, List.getElem_cons_zero, List.getElem_cons_succ]
            go_wp2_with fail
            generalize hW6 : World.setCell (World.setCell (World.setCell (World.setCell (World.setCell (World.setCell _ _ _) _ _) _ _) _ _) _ _) _ _ = W6
            have h6 : put6 w5 LB 0 (.pointer (some ⟨c2, 0, none⟩)) (.slice (some ⟨g2, 0, none⟩) 256 n2) (.bool (d').off) (.int .i64 (fuZ d')) (.int .i64 ((d').writes : Nat)) (.pointer (some ⟨K, 0, none⟩)) = W6 := hW6
            have hD6 := HDA.out.twin HD5.out HG5.out hn2 HFR.out HSP.out HGE.out
            rw [h6] at hD6
            have HD6 := Lib.hid hD6
            clear hW6 h6 hD6 k0 k1 k2 k3 k4 k5 f0 f1 f2 f3 f4 f5 HD5 HG5 hn2 HFR HSP HGE
            first | refine ⟨fun h => absurd h (by decide), ?_⟩ | refine ⟨trivial, ?_⟩ | skip
            try simp only [List.setIfInBounds_toArray, List.set_cons_zero, List.set_cons_succ, List.getElem_toArray, List.getElem_cons_zero, List.getElem_cons_succ]
            refine wpAnyE_end (by kernel_rfl) ?_
            go_wp2_with fail
            have HE := Lib.hid HD6.out.swap
            skip
            go_roundw
            case rel => exact ⟨k + 1, _, _, _, _, _, _, _, _, _, _, _, by go_num, by omega, HE.out, HI'.out.up, HI'.out.up⟩
            case measure => simp [intOf]; omega
          · have e6 : (kk == 6) = false := by simpa using hkk
            go_wp2_with fail
            refine wp_region_early (fun w' => w'.cell? ⟨q, 0, none⟩ = some (.int .i64 kk) ∧ w'.cell? ⟨q, 1, none⟩ = some (.int .i64 who) ∧ w'.cell? ⟨q, 2, none⟩ = some (.int .i64 a) ∧ w'.cell? ⟨q, 3, none⟩ = some (.slice av ld.length cv)) (fun k => k == 3 || k == 4) (by kernel_rfl) ?_
            simp only [List.size_toArray, List.length_cons, List.length_nil, Nat.reduceAdd, Array.replicate_succ, Array.replicate_zero, List.push_toArray, List.nil_append, List.cons_append]
            have HDA := Lib.hid (HDP.out.swap).drew
            have hSS := (blk4' (blk_below' ((Below.refl W1.heap.size W1).drew) HQ.out)).1
            clear q0 q1 q2 q3
            generalize World.drew W1 = W3 at *
            refine wpAnyE_take (i := 0) (v := ?_) rfl (by kernel_rfl) (by kernel_rfl) (by kernel_rfl) (by kernel_rfl) (fun _ _ _ h => h) (Or.inl ⟨by rfl, ?_⟩) hSS ?_
            rotate_left
            · intro w hSw
              obtain ⟨j0, j1, j2, j3⟩ := hSw
              go_simp
              all_goals with_reducible rfl
            simp only [Act.put, List.setIfInBounds_toArray, List.set_cons_zero, List.set_cons_succ, List.getElem_toArray, List.getElem_cons_zero, List.getElem_cons_succ]
            refine wpAnyE_take (i := 1) (v := ?_) rfl (by kernel_rfl) (by kernel_rfl) (by kernel_rfl) (by kernel_rfl) (fun _ _ _ h => h) (Or.inl ⟨by rfl, ?_⟩) hSS ?_
            rotate_left
            · intro w hSw
              obtain ⟨j0, j1, j2, j3⟩ := hSw
              go_simp
              all_goals with_reducible rfl
            simp only [Act.put, List.setIfInBounds_toArray, List.set_cons_zero, List.set_cons_succ, List.getElem_toArray, List.getElem_cons_zero, List.getElem_cons_succ]
            refine wpAnyE_take (i := 2) (v := ?_) rfl (by kernel_rfl) (by kernel_rfl) (by kernel_rfl) (by kernel_rfl) (fun _ _ _ h => h) (Or.inl ⟨by rfl, ?_⟩) hSS ?_
            rotate_left
            · intro w hSw
              obtain ⟨j0, j1, j2, j3⟩ := hSw
              go_simp
              all_goals with_reducible rfl
            simp only [Act.put, List.setIfInBounds_toArray, List.set_cons_zero, List.set_cons_succ, List.getElem_toArray, List.getElem_cons_zero, List.getElem_cons_succ]
            refine wpAnyE_one (i := 3) (by kernel_rfl) rfl ?_
            change wpList _ _ (Exit.then _ _) [_] _ _
            try simp only [List.setIfInBounds_toArray, List.set_cons_zero, List.set_cons_succ, List.getElem_toArray, List.getElem_cons_zero, List.getElem_cons_succ]
            go_wp2_with (go_at_call 13; refine (step_any _ _ _ _ _ _ _ _ _ _ _ _ _ _ _ _ kk who a av cv ld k _ HDA.out HIA.out (by omega) HA.out (by omega) HR.out).mono ?_; rintro e w4 ⟨rfl, vb2, vw2, L2, d2, hD2, hI2⟩)
            clear hSS
            first | refine ⟨fun h => absurd h (by decide), ?_⟩ | refine ⟨trivial, ?_⟩ | skip
            try simp only [List.setIfInBounds_toArray, List.set_cons_zero, List.set_cons_succ, List.getElem_toArray, List.getElem_cons_zero, List.getElem_cons_succ]
            refine wpAnyE_one (i := 4) (by kernel_rfl) rfl ?_
            change wpList _ _ (Exit.then _ _) [_] _ _
            try simp only [List.setIfInBounds_toArray, List.set_cons_zero, List.set_cons_succ, List.getElem_toArray, List.getElem_cons_zero, List.getElem_cons_succ]
            go_wp2_with fail
            first | refine ⟨fun h => absurd h (by decide), ?_⟩ | refine ⟨trivial, ?_⟩ | skip
            try simp only [List.setIfInBounds_toArray, List.set_cons_zero, List.set_cons_succ, List.getElem_toArray, List.getElem_cons_zero, List.getElem_cons_succ]
            refine wpAnyE_end (by kernel_rfl) ?_
            have HD2 := Lib.hid hD2
            have HI2 := Lib.hid hI2
            clear hD2 hI2
            go_wp2_with fail
            have HE := Lib.hid HD2.out.swap
            skip
            go_roundw
            case rel => exact ⟨k + 1, _, _, _, _, _, _, _, _, _, _, _, by go_num, by omega, HE.out, HI.out.up, HI2.out⟩
            case measure => simp [intOf]; omega
    · obtain rfl : k = xs.length := by omega
      have b4 : ¬ ((xs.length : Nat) : Int) < ((xs.length : Nat) : Int) := by omega
      go_wp2_with fail
      refine (looks_any _ _ _ _ _ _ _ _ _ _ _ _ _ _ _ _ _ HDP.out).mono ?_
      rintro e w2 ⟨rfl, vb2, vw2, L2, hD2⟩
      have HD2 := Lib.hid hD2.swap
      clear hD2 HDP
      go_wp2_with fail
      refine (looks_any _ _ _ _ _ _ _ _ _ _ _ _ _ _ _ _ _ HD2.out).mono ?_
      rintro e w3 ⟨rfl, vb3, vw3, L3, hD3⟩
      have HD3 := Lib.hid hD3
      clear hD3 HD2
      go_wp2_with fail
      go_ret
      exact ⟨rfl, HD3.out.low⟩
end Go.Proofs.Ytpfiaepoibablaa
