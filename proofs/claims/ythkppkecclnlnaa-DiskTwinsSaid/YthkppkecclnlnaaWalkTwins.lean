/- The walk of the law DiskTwins. -/
import Derived.Test.YthkppkecclnlnaaWalkWhole
import Derived.Test.YthkppkecclnlnaaOf
import Derived.Test.YthkppkecclnlnaaEarly
namespace Go.Proofs.Ythkppkecclnlnaa
set_option linter.unusedVariables false
set_option linter.unusedSimpArgs false
open Go.RowKit

theorem DkAt.but {W W' : World} {b c : Nat} {d : Dk} (h : DkAt W b d) (hg : W.grownBy W' (some c)) (hne : b ≠ c) : DkAt W' b d := ⟨blk_grown hg h.1 (by simpa using hne), h.2⟩
theorem own_but {W W' : World} {B g n cp b : Nat} {e : TypeId} {xs : List Value} {sz : Nat} (h : W.ownsRow B e sz (.slice (some ⟨g, 0, none⟩) n cp) n xs) (hg : W.grownBy W' (some b)) (hne : g ≠ b) : W'.ownsRow B e sz (.slice (some ⟨g, 0, none⟩) n cp) n xs :=
  h.kept hg (.inr (by simp [Value.ownBlock]; omega))
/-- A disk without a fuse keeps its power. -/
theorem wrV_plain {d : Dk} (hf : d.fused = false) (s : Int) (l : List Nat) (hl : l.length = 32) (hb : d.bs.length = 256) :
    (wrV d s l).1.fused = false ∧ (wrV d s l).1.off = d.off ∧ (wrV d s l).1.fuse = d.fuse ∧ (wrV d s l).1.writes ≤ d.writes + 1 ∧ (wrV d s l).1.bs.length = 256 := by
  have h5 := wrV_len hb s l hl
  refine ⟨?_, ?_, ?_, ?_, h5⟩ <;> (unfold wrV; split <;> (try split) <;> (try split) <;> (try split) <;> first | rfl | exact hf | (simp_all; done) | (simp_all; omega))
structure TwP (d : Dk) (n : Nat) : Prop where
  on : d.off = false
  plain : d.fused = false
  fz : d.fuse = 0
  le : d.writes ≤ n
theorem secL_len (v : Int) : (secL v).length = 32 := by unfold secL; simp
theorem wr_new (bs l : List Nat) (hl : l.length = 32) : wrV { Dk.new with bs := bs } 3 l = (⟨putS bs 3 l, false, false, 0, 1⟩, 0) := by
  unfold wrV
  rw [if_pos (by rfl), if_pos hl, if_neg (by show ¬ false = true; decide)]
  rfl
/-- Bytes that lie from a place on. -/
def CellsAt (W : World) (p : Addr) (l : List Nat) : Prop := ∀ j x, l[j]? = some x → ∃ b, some p = some b ∧ W.cell? (b.add j) = some (.int .u8 (x : Nat))
theorem CellsAt.below {W W' : World} {p : Addr} {l : List Nat} (h : CellsAt W p l) (hb : Below W.heap.size W W') : CellsAt W' p l := by
  intro j x hx
  obtain ⟨b, h1, h2⟩ := h j x hx
  exact ⟨b, h1, (hb.cell (cell_lt h2)).trans h2⟩
theorem CellsAt.but {W W' : World} {p : Addr} {l : List Nat} {b : Nat} (h : CellsAt W p l) (hg : W.grownBy W' (some b)) (hne : p.block ≠ b) : CellsAt W' p l := by
  intro j x hx
  obtain ⟨q, h1, h2⟩ := h j x hx
  cases h1
  refine ⟨_, rfl, ?_⟩
  obtain ⟨_, _, _, _, hgb⟩ := hg
  have hk := hgb (p.add j).block (cell_lt h2) (by rw [show (p.add j).block = p.block from by unfold Addr.add; split <;> rfl]; simpa using hne)
  unfold World.cell? at h2 ⊢
  rw [hk]; exact h2
theorem row_all {W : World} {B g n c : Nat} {l : List Nat} (h : W.ownsRow B 5 1 (.slice (some ⟨g, 0, none⟩) n c) n (bC l)) (hl : l.length = n) : CellsAt W ⟨g, 0, none⟩ l :=
  row_part (o := 0) h hl (fun j x hx => by rw [Nat.zero_add]; exact hx)
/-- Three disks, each in a block of its own. -/
structure K3 (w : World) (b c o : Nat) (d e f : Dk) (W : World) : Prop where
  one : DkAt W b d
  two : DkAt W c e
  three : DkAt W o f
  low : Below w.heap.size w W
theorem K3.below {w W W' : World} {b c o : Nat} {d e f : Dk} (h : K3 w b c o d e f W) (hb : Below W.heap.size W W') : K3 w b c o d e f W' := ⟨h.one.below hb, h.two.below hb, h.three.below hb, below_then h.low hb⟩
theorem K3.turn2 {w W W' : World} {b c o : Nat} {d e f e' : Dk} (h : K3 w b c o d e f W) (hg : W.grownBy W' (some c)) (hd : DkAt W' c e') (h1 : b ≠ c) (h2 : c ≠ o) (h3 : w.heap.size ≤ c) : K3 w b c o d e' f W' :=
  ⟨h.one.but hg h1, hd, h.three.but hg (Ne.symm h2), h.low.grown hg h.low.size (fun j h => by cases h; exact h3)⟩
theorem K3.turn3 {w W W' : World} {b c o : Nat} {d e f f' : Dk} (h : K3 w b c o d e f W) (hg : W.grownBy W' (some o)) (hd : DkAt W' o f') (h1 : b ≠ o) (h2 : c ≠ o) (h3 : w.heap.size ≤ o) : K3 w b c o d e f' W' :=
  ⟨h.one.but hg h1, h.two.but hg h2, hd, h.low.grown hg h.low.size (fun j h => by cases h; exact h3)⟩
theorem row_cap {W : World} {B g n c : Nat} {e : TypeId} {sz : Nat} {xs : List Value} (h : W.ownsRow B e sz (.slice (some ⟨g, 0, none⟩) n c) n xs) : n ≤ c := by
  rcases h.2 with ⟨h', _⟩ | ⟨g', cap', cur, h', _, _, hnc, _⟩
  · simp at h'
  · injection h' with _ _ h'; omega
set_option maxRecDepth 100000 in
set_option maxHeartbeats 4000000 in
theorem diskTwins_walk (w : World) (k v : Int) (u : Value) (hk : (Lit.int .i64 k).wf = true) (hv : (Lit.int .i64 v).wf = true) (xs : List Int) (hrow : RowOf w .i64 u xs) (hwf : ∀ x ∈ xs, (Lit.int .i64 x).wf = true) :
    Calls Try.prog 6 #[.int .i64 k, .int .i64 v, u] w fun e w' => e = .returned (.bool true) ∧ Below w.heap.size w w' := by
  obtain ⟨a, cap, rfl, hcap, hmax, hcell⟩ := hrow.slice
  have HC := Lib.hid hcell
  clear hcell hrow hcap hmax hwf
  have HKV := Lib.hid hk
  clear hk hv
  by_cases hout : 60 < xs.length
  · have b0 : (60 : Int) < (xs.length : Int) := by omega
    clear hout
    go_enter Try.func6, Try.ntmps6
    go_wp2_with (go_at_call 20; refine (alive_any _).mono ?_; rintro e w9 ⟨rfl, hB9⟩)
    all_goals (go_ret; exact ⟨rfl, hB9⟩)
  · have b0 : ¬ (60 : Int) < (xs.length : Int) := by omega
    have HN := Lib.hid hout
    clear hout
    go_enter Try.func6, Try.ntmps6
    go_wp2_with (go_at_call 21; refine (new_any _).mono ?_; rintro e w1 ⟨rfl, hD1, hB1⟩)
    go_loopw [8] (fun i wr => ∃ (n : Nat) (d : Dk), i = .int .i64 n ∧ n ≤ xs.length ∧ TwP d n ∧ DkAt wr w.heap.size d ∧ Below w.heap.size w wr) (fun i _ => xs.length - (intOf i).toNat)
    case atStart => exact ⟨0, Dk.new, rfl, by omega, ⟨rfl, rfl, rfl, Nat.le_refl _⟩, hD1, hB1⟩
    case round =>
      obtain ⟨n, d, rfl, hn, hF, hD, hb⟩ := hrel
      clear hD1 hB1
      by_cases hlt : n < xs.length
      · obtain ⟨x, hx⟩ : ∃ x, xs[n]? = some x := ⟨_, List.getElem?_eq_getElem hlt⟩
        obtain ⟨p, rfl, hp⟩ := HC.out n x hx
        have hp := (hb.cell (cell_lt hp)).trans hp
        have i1 : (n : Int) < (xs.length : Int) := by omega
        have i2 : (0 : Int) ≤ (n : Int) := by omega
        have i3 : (n : Int).toNat = n := Int.toNat_natCast n
        have HF := Lib.hid hF
        clear hF hx
        go_wp2_with fail
        refine wp_region_early (fun W' => W'.cell? (p.add n) = some (.int .i64 x)) (fun j => j == 12) (by kernel_rfl) ?_
        have hSS : wr.drew.cell? (p.add n) = some (.int .i64 x) := hp
        have hD := hD.drew
        have hb := hb.drew
        generalize wr.drew = W2 at *
        simp only [List.size_toArray, List.length_cons, List.length_nil, Nat.reduceAdd, Array.replicate_succ, Array.replicate_zero, List.push_toArray, List.nil_append, List.cons_append]
        refine wpAnyE_take (i := 0) (v := ?_) rfl (by kernel_rfl) (by kernel_rfl) (by kernel_rfl) (by kernel_rfl) (fun _ _ _ h => h) (Or.inl ⟨by rfl, ?_⟩) hSS ?_
        rotate_left
        · intro w hSw
          (try have kc0 := hSw.1.cell); (try have kc1 := hSw.2.cell)
          go_simp
          all_goals with_reducible rfl
        simp only [Act.put, List.setIfInBounds_toArray, List.set_cons_zero, List.set_cons_succ, List.getElem_toArray, List.getElem_cons_zero, List.getElem_cons_succ]
        refine wpAnyE_take (i := 1) (v := ?_) rfl (by kernel_rfl) (by kernel_rfl) (by kernel_rfl) (by kernel_rfl) (fun _ _ _ h => h) (Or.inl ⟨by rfl, ?_⟩) hSS ?_
        rotate_left
        · intro w hSw
          (try have kc0 := hSw.1.cell); (try have kc1 := hSw.2.cell)
          go_simp
          all_goals with_reducible rfl
        simp only [Act.put, List.setIfInBounds_toArray, List.set_cons_zero, List.set_cons_succ, List.getElem_toArray, List.getElem_cons_zero, List.getElem_cons_succ]
        refine wpAnyE_take (i := 2) (v := ?_) rfl (by kernel_rfl) (by kernel_rfl) (by kernel_rfl) (by kernel_rfl) (fun _ _ _ h => h) (Or.inl ⟨by rfl, ?_⟩) hSS ?_
        rotate_left
        · intro w hSw
          (try have kc0 := hSw.1.cell); (try have kc1 := hSw.2.cell)
          go_simp
          all_goals with_reducible rfl
        simp only [Act.put, List.setIfInBounds_toArray, List.set_cons_zero, List.set_cons_succ, List.getElem_toArray, List.getElem_cons_zero, List.getElem_cons_succ]
        refine wpAnyE_take (i := 3) (v := ?_) rfl (by kernel_rfl) (by kernel_rfl) (by kernel_rfl) (by kernel_rfl) (fun _ _ _ h => h) (Or.inl ⟨by rfl, ?_⟩) hSS ?_
        rotate_left
        · intro w hSw
          (try have kc0 := hSw.1.cell); (try have kc1 := hSw.2.cell)
          go_simp
          all_goals with_reducible rfl
        simp only [Act.put, List.setIfInBounds_toArray, List.set_cons_zero, List.set_cons_succ, List.getElem_toArray, List.getElem_cons_zero, List.getElem_cons_succ]
        refine wpAnyE_take (i := 4) (v := ?_) rfl (by kernel_rfl) (by kernel_rfl) (by kernel_rfl) (by kernel_rfl) (fun _ _ _ h => h) (Or.inl ⟨by rfl, ?_⟩) hSS ?_
        rotate_left
        · intro w hSw
          (try have kc0 := hSw.1.cell); (try have kc1 := hSw.2.cell)
          go_simp
          all_goals with_reducible rfl
        simp only [Act.put, List.setIfInBounds_toArray, List.set_cons_zero, List.set_cons_succ, List.getElem_toArray, List.getElem_cons_zero, List.getElem_cons_succ]
        refine wpAnyE_take (i := 5) (v := ?_) rfl (by kernel_rfl) (by kernel_rfl) (by kernel_rfl) (by kernel_rfl) (fun _ _ _ h => h) (Or.inl ⟨by rfl, ?_⟩) hSS ?_
        rotate_left
        · intro w hSw
          (try have kc0 := hSw.1.cell); (try have kc1 := hSw.2.cell)
          go_simp
          all_goals with_reducible rfl
        simp only [Act.put, List.setIfInBounds_toArray, List.set_cons_zero, List.set_cons_succ, List.getElem_toArray, List.getElem_cons_zero, List.getElem_cons_succ]
        refine wpAnyE_take (i := 6) (v := ?_) rfl (by kernel_rfl) (by kernel_rfl) (by kernel_rfl) (by kernel_rfl) (fun _ _ _ h => h) (Or.inl ⟨by rfl, ?_⟩) hSS ?_
        rotate_left
        · intro w hSw
          (try have kc0 := hSw.1.cell); (try have kc1 := hSw.2.cell)
          go_simp
          all_goals with_reducible rfl
        simp only [Act.put, List.setIfInBounds_toArray, List.set_cons_zero, List.set_cons_succ, List.getElem_toArray, List.getElem_cons_zero, List.getElem_cons_succ]
        refine wpAnyE_take (i := 7) (v := ?_) rfl (by kernel_rfl) (by kernel_rfl) (by kernel_rfl) (by kernel_rfl) (fun _ _ _ h => h) (Or.inl ⟨by rfl, ?_⟩) hSS ?_
        rotate_left
        · intro w hSw
          (try have kc0 := hSw.1.cell); (try have kc1 := hSw.2.cell)
          go_simp
          all_goals with_reducible rfl
        simp only [Act.put, List.setIfInBounds_toArray, List.set_cons_zero, List.set_cons_succ, List.getElem_toArray, List.getElem_cons_zero, List.getElem_cons_succ]
        refine wpAnyE_take (i := 8) (v := ?_) rfl (by kernel_rfl) (by kernel_rfl) (by kernel_rfl) (by kernel_rfl) (fun _ _ _ h => h) (Or.inl ⟨by rfl, ?_⟩) hSS ?_
        rotate_left
        · intro w hSw
          (try have kc0 := hSw.1.cell); (try have kc1 := hSw.2.cell)
          go_simp
          all_goals with_reducible rfl
        simp only [Act.put, List.setIfInBounds_toArray, List.set_cons_zero, List.set_cons_succ, List.getElem_toArray, List.getElem_cons_zero, List.getElem_cons_succ]
        refine wpAnyE_take (i := 9) (v := ?_) rfl (by kernel_rfl) (by kernel_rfl) (by kernel_rfl) (by kernel_rfl) (fun _ _ _ h => h) (Or.inl ⟨by rfl, ?_⟩) hSS ?_
        rotate_left
        · intro w hSw
          (try have kc0 := hSw.1.cell); (try have kc1 := hSw.2.cell)
          go_simp
          all_goals with_reducible rfl
        simp only [Act.put, List.setIfInBounds_toArray, List.set_cons_zero, List.set_cons_succ, List.getElem_toArray, List.getElem_cons_zero, List.getElem_cons_succ]
        refine wpAnyE_take (i := 10) (v := ?_) rfl (by kernel_rfl) (by kernel_rfl) (by kernel_rfl) (by kernel_rfl) (fun _ _ _ h => h) (Or.inl ⟨by rfl, ?_⟩) hSS ?_
        rotate_left
        · intro w hSw
          (try have kc0 := hSw.1.cell); (try have kc1 := hSw.2.cell)
          go_simp
          all_goals with_reducible rfl
        simp only [Act.put, List.setIfInBounds_toArray, List.set_cons_zero, List.set_cons_succ, List.getElem_toArray, List.getElem_cons_zero, List.getElem_cons_succ]
        refine wpAnyE_tail 11 rfl (by kernel_rfl) ?_
        simp only [List.drop_succ_cons, List.drop_zero]
        change wpList _ _ (Exit.then _ _) [_] _ _
        go_wp2_with (go_at_call 24; refine (sector_any (wrap64 (x + v)) _).mono ?_; rintro e w3 ⟨rfl, hr3, hB3⟩)
        have hD3 := hD.below hB3
        have hb3 := below_then hb hB3
        have hlt3 := hD.lt
        refine ⟨fun _ => (hB3.cell (cell_lt hSS)).trans hSS, wpListE_late _ _ _ _ (fun j hj => by rcases j with _ | j <;> first | rfl | exact absurd hj (by simp only [List.length_cons, List.length_nil]; omega)) ?_⟩
        clear hSS hp
        have hsl : (secL (wrap64 (x + v))).length = 32 := by unfold secL; simp
        have hwp := wrV_plain HF.out.plain x (secL (wrap64 (x + v))) hsl hD.2
        have HWP := Lib.hid hwp
        have hwb : d.writes ≤ 4611686018427387904 := by have := HF.out.le; have := HN.out; omega
        have hfb : d.fuse ≤ 9223372036854775807 := by rw [HF.out.fz]; decide
        clear hwp
        go_wp2_with (go_at_call 23; refine (write_any w.heap.size d x _ (secL (wrap64 (x + v))) _ hD3 (bytes_row hr3 hsl (by omega)) (by rw [hsl]; decide) hwb hfb).mono ?_; rintro e w4 ⟨rfl, hD4, hg4⟩; have hb4 := hb3.grown hg4 hb3.size (fun j h => by cases h; exact Nat.le_refl _))
        go_roundw
        case rel => exact ⟨n + 1, _, by go_num, by omega, ⟨HWP.out.2.1.trans HF.out.on, HWP.out.1, HWP.out.2.2.1.trans HF.out.fz, by have := HWP.out.2.2.2.1; have := HF.out.le; omega⟩, hD4, hb4⟩
        case measure => simp [intOf]; omega
      · obtain rfl : n = xs.length := by omega
        have i1 : ¬ (xs.length : Int) < (xs.length : Int) := by omega
        obtain ⟨bs, off, fused, fuse, writes⟩ := d
        obtain ⟨f1, f2, f3, f4⟩ := hF
        simp only at f1 f2 f3 f4
        subst f1 f2 f3
        have HW := Lib.hid f4
        have HKF := Lib.hid (show k.toNat ≤ 9223372036854775807 by
          have hk := HKV.out
          simp only [Lit.wf, Bool.and_eq_true, decide_eq_true_eq] at hk
          have h5 : IntKind.i64.max = 9223372036854775807 := by decide
          omega)
        clear f4 HC
        have hlt := hD.lt
        have HLT := Lib.hid hlt
        clear hlt
        by_cases hv3 : Int.tmod v 3 = 0
        · go_wp2_with (first
            | (go_at_call 22; refine (fuse_any _ _ _ _ hD).mono ?_; rintro e w2 ⟨rfl, hD2, hg2⟩; have hb2 := hb.grown hg2 hb.size (fun j h => by cases h; exact Nat.le_refl _))
            | (go_at_call 31; refine (cut_any _ _ _ hD2).mono ?_; rintro e w5 ⟨rfl, hD5, hg5⟩; have hb5 := hb2.grown hg5 hb2.size (fun j h => by cases h; exact Nat.le_refl _); clear hD hD2 hb hb2 hg2 hg5))
          obtain ⟨d2, hd2, hpw⟩ : ∃ d2 : Dk, d2 = ⟨bs, true, decide (0 ≤ k), k.toNat, writes⟩ ∧ d2.off = true := ⟨_, rfl, rfl⟩
          have hD5 : DkAt w5 w.heap.size d2 := by rw [hd2]; exact hD5
          have hfz2 : d2.fuse ≤ 9223372036854775807 := by rw [hd2]; exact HKF.out
          have hwz2 : d2.writes ≤ 60 := by rw [hd2]; show writes ≤ 60; have := HW.out; have := HN.out; omega
          have HF2 := Lib.hid hfz2
          have HW2 := Lib.hid hwz2
          clear hd2 hfz2 hwz2
          obtain ⟨lf, hlf⟩ : ∃ lf, (if d2.fused then (d2.fuse : Int) else -1) = lf := ⟨_, rfl⟩
          go_wp2_with (first
            | (go_at_call 33; refine (twin_any _ _ _ hD5).mono ?_; rintro e w6 ⟨c, rfl, hc6, hT6, hB6⟩; have hD6 := hD5.below hB6; have hb6 := below_then hb5 hB6; have hsz5 := hD5.lt)
            | (go_at_call 25; refine (image_any _ d2 _ hD6).mono ?_; rintro e w7 ⟨v7, rfl, ho7, hB7⟩; have hD7 := hD6.below hB7; have hT7 := hT6.below hB7; have hb7 := below_then hb6 hB7; obtain ⟨g7, cp7, rfl, hg71, hg72⟩ := ownsRow_pos ho7 (by omega); have hcp7 := row_cap ho7; have hcells7 := row_part (o := 0) (m := d2.bs) ho7 hD7.2 (fun j x hx => by rw [Nat.zero_add]; exact hx))
            | (go_at_call 34; refine (of_any _ cp7 d2.bs _ hD7.2 hcp7 hg72 (fun j x hx => by obtain ⟨b, hb, hc⟩ := hcells7 j x hx; cases hb; exact hc)).mono ?_; rintro e w8 ⟨ob, rfl, hob, hO8, hB8⟩; have hD8 := hD7.below hB8; have hT8 := hT7.below hB8; have hb8 := below_then hb7 hB8; have hsz6 := hT6.lt; have hsz6' := hB7.size)
            | fail)
          have h8 : K3 w w.heap.size c ob d2 d2 { Dk.new with bs := d2.bs } w8 := ⟨hD8, hT8, hO8, hb8⟩
          have hsz8 := hO8.lt
          have hsz7 := hB7.size
          have n1 : w.heap.size ≠ c := by omega
          have n2 : w.heap.size ≠ ob := by omega
          have n3 : c ≠ ob := by omega
          have n4 : w.heap.size ≤ c := by omega
          have n5 : w.heap.size ≤ ob := by omega
          clear hD8 hT8 hO8 hb8 hD7 hT7 hb7 hD6 hT6 hb6 hD5 hb5 hB8 hB7 hB6 ho7 hcells7 hcp7 hg71 hg72
          refine (on_any c d2 w8 h8.two).mono ?_
          rintro e w9 ⟨rfl, hB⟩
          have h9 := h8.below hB
          clear hB
          go_wp2_with fail
          refine (on_any w.heap.size d2 w9 h9.one).mono ?_
          rintro e w10 ⟨rfl, hB⟩
          have h10 := h9.below hB
          clear hB
          go_wp2_with fail
          refine (left_any c d2 w10 h10.two).mono ?_
          rw [hlf]
          rintro e w11 ⟨rfl, hB⟩
          have h11 := h10.below hB
          clear hB
          go_wp2_with fail
          refine (left_any w.heap.size d2 w11 h11.one).mono ?_
          rw [hlf]
          rintro e w12 ⟨rfl, hB⟩
          have h12 := h11.below hB
          clear hB
          go_wp2_with fail
          refine (writes_any c d2 w12 h12.two).mono ?_
          rintro e w13 ⟨rfl, hB⟩
          have h13 := h12.below hB
          clear hB
          go_wp2_with fail
          refine (writes_any w.heap.size d2 w13 h13.one).mono ?_
          rintro e w14 ⟨rfl, hB⟩
          have h14 := h13.below hB
          clear hB
          go_wp2_with fail
          refine (image_any c d2 w14 h14.two).mono ?_
          rintro e w15 ⟨va, rfl, hoa, hBa⟩
          have h15 := h14.below hBa
          obtain ⟨ga, cpa, rfl, hga, hla⟩ := ownsRow_pos hoa (by omega)
          have hcpa := row_cap hoa
          have pa : Hid (CellsAt w15 ⟨ga, 0, none⟩ d2.bs) := row_all hoa (h8.one.2)
          go_wp2_with fail
          refine (image_any w.heap.size d2 w15 h15.one).mono ?_
          rintro e w16 ⟨vb, rfl, hob, hBb⟩
          have h16 := h15.below hBb
          obtain ⟨gb, cpb, rfl, hgb, hlb⟩ := ownsRow_pos hob (by omega)
          have hcpb := row_cap hob
          have pb : Hid (CellsAt w16 ⟨gb, 0, none⟩ d2.bs) := row_all hob (h8.one.2)
          go_wp2_with fail
          refine (same_any _ _ d2.bs d2.bs w16 _ _ _ _ (by rw [h16.one.2]) (by rw [h16.one.2]) (by rw [h16.one.2]; decide) (by rw [h16.one.2]; decide) (pa.out.below hBb) pb.out).mono ?_
          rw [decide_eq_true (rfl : d2.bs = d2.bs)]
          rintro e w17 ⟨rfl, hB⟩
          have h17 := h16.below hB
          clear hB
          go_wp2_with fail
          refine (image_any ob _ w17 h17.three).mono ?_
          rintro e w18 ⟨vc, rfl, hoc, hBc⟩
          have h18 := h17.below hBc
          obtain ⟨gc, cpc, rfl, hgc, hlc⟩ := ownsRow_pos hoc (by omega)
          have hcpc := row_cap hoc
          have pc : Hid (CellsAt w18 ⟨gc, 0, none⟩ d2.bs) := row_all hoc (h8.one.2)
          go_wp2_with fail
          refine (image_any w.heap.size d2 w18 h18.one).mono ?_
          rintro e w19 ⟨vd, rfl, hod, hBd⟩
          have h19 := h18.below hBd
          obtain ⟨gd, cpd, rfl, hgd, hld⟩ := ownsRow_pos hod (by omega)
          have hcpd := row_cap hod
          have pd : Hid (CellsAt w19 ⟨gd, 0, none⟩ d2.bs) := row_all hod (h8.one.2)
          go_wp2_with fail
          refine (same_any _ _ d2.bs d2.bs w19 _ _ _ _ (by rw [h19.one.2]) (by rw [h19.one.2]) (by rw [h19.one.2]; decide) (by rw [h19.one.2]; decide) (pc.out.below hBd) pd.out).mono ?_
          rw [decide_eq_true (rfl : d2.bs = d2.bs)]
          rintro e w20 ⟨rfl, hB⟩
          have h20 := h19.below hB
          clear hB
          go_wp2_with fail
          refine (image_any w.heap.size d2 w20 h20.one).mono ?_
          rintro e w21 ⟨ve, rfl, hoe, hBe⟩
          have h21 := h20.below hBe
          obtain ⟨ge, cpe, rfl, hge, hle⟩ := ownsRow_pos hoe (by omega)
          have hcpe := row_cap hoe
          have pe : Hid (CellsAt w21 ⟨ge, 0, none⟩ d2.bs) := row_all hoe (h8.one.2)
          go_wp2_with fail
          have m1 : ge ≠ c := by have := h20.two.lt; omega
          have m2 : ge ≠ ob := by have := h20.three.lt; omega
          refine (restore_any c d2 w21 h21.two).mono ?_
          rintro e w22 ⟨rfl, hT22, hg22⟩
          have h22 := h21.turn2 hg22 hT22 n1 n3 n4
          have pe := Lib.hid (pe.out.but hg22 m1)
          clear hg22 hT22
          go_wp2_with fail
          refine (fuse_any c _ (-1) w22 h22.two).mono ?_
          rintro e w23 ⟨rfl, hT23, hg23⟩
          have h23 : K3 w w.heap.size c ob d2 ⟨d2.bs, false, false, 0, d2.writes⟩ { Dk.new with bs := d2.bs } w23 := h22.turn2 hg23 hT23 n1 n3 n4
          have pe := Lib.hid (pe.out.but hg23 m1)
          clear hg23 hT23 h22
          go_wp2_with fail
          refine (sector_any _ w23).mono ?_
          rintro e w24 ⟨rfl, hr24, hB24⟩
          have h24 := h23.below hB24
          have pe := Lib.hid (pe.out.below hB24)
          have q1 : w23.heap.size ≠ c := by have := h23.two.lt; omega
          go_wp2_with fail
          refine (write_any c _ 3 _ (secL (wrap64 (v + 1))) w24 h24.two (bytes_row hr24 (secL_len _) q1) (by rw [secL_len]; decide) (by have := HW2.out; show d2.writes ≤ _; omega) (Nat.zero_le _)).mono ?_
          rintro e w25 ⟨rfl, hT25, hg25⟩
          have h25 := h24.turn2 hg25 hT25 n1 n3 n4
          have pe := Lib.hid (pe.out.but hg25 m1)
          clear hg25 hT25 h24 hr24
          obtain ⟨dT, hdT⟩ : ∃ dT, (wrV ⟨d2.bs, false, false, 0, d2.writes⟩ 3 (secL (wrap64 (v + 1)))).1 = dT := ⟨_, rfl⟩
          rw [hdT] at h25
          clear hdT
          go_wp2_with fail
          refine (sector_any _ w25).mono ?_
          rintro e w26 ⟨rfl, hr26, hB26⟩
          have h26 := h25.below hB26
          have pe := Lib.hid (pe.out.below hB26)
          have q2 : w25.heap.size ≠ ob := by have := h25.three.lt; omega
          go_wp2_with fail
          refine (write_any ob _ 3 _ (secL (wrap64 (v + 2))) w26 h26.three (bytes_row hr26 (secL_len _) q2) (by rw [secL_len]; decide) (Nat.zero_le _) (Nat.zero_le _)).mono ?_
          rintro e w27 ⟨rfl, hO27, hg27⟩
          rw [wr_new _ _ (secL_len _)] at hO27 ⊢
          have h27 := h26.turn3 hg27 hO27 n2 n3 n5
          have pe := Lib.hid (pe.out.but hg27 m2)
          clear hg27 hO27 h26 hr26
          go_wp2_with fail
          refine (alive_any w27).mono ?_
          rintro e w28 ⟨rfl, hB28⟩
          have h28 := h27.below hB28
          have pe := Lib.hid (pe.out.below hB28)
          clear hB28
          go_wp2_with fail
          refine (image_any w.heap.size d2 w28 h28.one).mono ?_
          rintro e w29 ⟨vf, rfl, hof, hBf⟩
          have h29 := h28.below hBf
          obtain ⟨gf, cpf, rfl, hgf, hlf⟩ := ownsRow_pos hof (by omega)
          have hcpf := row_cap hof
          have pf : Hid (CellsAt w29 ⟨gf, 0, none⟩ d2.bs) := row_all hof (h8.one.2)
          go_wp2_with fail
          refine (same_any _ _ d2.bs d2.bs w29 _ _ _ _ (by rw [h29.one.2]) (by rw [h29.one.2]) (by rw [h29.one.2]; decide) (by rw [h29.one.2]; decide) pf.out (pe.out.below hBf)).mono ?_
          rw [decide_eq_true (rfl : d2.bs = d2.bs)]
          rintro e w30 ⟨rfl, hB⟩
          have h30 := h29.below hB
          clear hB
          go_wp2_with fail
          refine (on_any w.heap.size d2 w30 h30.one).mono ?_
          rw [hpw]
          rintro e w31 ⟨rfl, hB⟩
          have h31 := h30.below hB
          clear hB
          go_wp2_with fail
          refine (writes_any ob _ w31 h31.three).mono ?_
          rintro e w32 ⟨rfl, hB⟩
          have h32 := h31.below hB
          clear hB
          go_wp2_with fail
          refine (left_any ob _ w32 h32.three).mono ?_
          rintro e w33 ⟨rfl, hB⟩
          have h33 := h32.below hB
          clear hB
          go_wp2_with fail
          go_ret
          exact ⟨rfl, h33.low⟩
        · have hv4 : (Int.tmod v 3 == 0) = false := by simpa using hv3
          have hv5 : (Int.tmod v 3 != 0) = true := by simpa using hv3
          go_wp2_with (go_at_call 22; refine (fuse_any _ _ _ _ hD).mono ?_; rintro e w5 ⟨rfl, hD5, hg2⟩; have hb5 := hb.grown hg2 hb.size (fun j h => by cases h; exact Nat.le_refl _); clear hD hb hg2)
          obtain ⟨d2, hd2, hpw⟩ : ∃ d2 : Dk, d2 = ⟨bs, false, decide (0 ≤ k), k.toNat, writes⟩ ∧ d2.off = false := ⟨_, rfl, rfl⟩
          have hD5 : DkAt w5 w.heap.size d2 := by rw [hd2]; exact hD5
          have hfz2 : d2.fuse ≤ 9223372036854775807 := by rw [hd2]; exact HKF.out
          have hwz2 : d2.writes ≤ 60 := by rw [hd2]; show writes ≤ 60; have := HW.out; have := HN.out; omega
          have HF2 := Lib.hid hfz2
          have HW2 := Lib.hid hwz2
          clear hd2 hfz2 hwz2
          obtain ⟨lf, hlf⟩ : ∃ lf, (if d2.fused then (d2.fuse : Int) else -1) = lf := ⟨_, rfl⟩
          go_wp2_with (first
            | (go_at_call 33; refine (twin_any _ _ _ hD5).mono ?_; rintro e w6 ⟨c, rfl, hc6, hT6, hB6⟩; have hD6 := hD5.below hB6; have hb6 := below_then hb5 hB6; have hsz5 := hD5.lt)
            | (go_at_call 25; refine (image_any _ d2 _ hD6).mono ?_; rintro e w7 ⟨v7, rfl, ho7, hB7⟩; have hD7 := hD6.below hB7; have hT7 := hT6.below hB7; have hb7 := below_then hb6 hB7; obtain ⟨g7, cp7, rfl, hg71, hg72⟩ := ownsRow_pos ho7 (by omega); have hcp7 := row_cap ho7; have hcells7 := row_part (o := 0) (m := d2.bs) ho7 hD7.2 (fun j x hx => by rw [Nat.zero_add]; exact hx))
            | (go_at_call 34; refine (of_any _ cp7 d2.bs _ hD7.2 hcp7 hg72 (fun j x hx => by obtain ⟨b, hb, hc⟩ := hcells7 j x hx; cases hb; exact hc)).mono ?_; rintro e w8 ⟨ob, rfl, hob, hO8, hB8⟩; have hD8 := hD7.below hB8; have hT8 := hT7.below hB8; have hb8 := below_then hb7 hB8; have hsz6 := hT6.lt; have hsz6' := hB7.size)
            | fail)
          have h8 : K3 w w.heap.size c ob d2 d2 { Dk.new with bs := d2.bs } w8 := ⟨hD8, hT8, hO8, hb8⟩
          have hsz8 := hO8.lt
          have hsz7 := hB7.size
          have n1 : w.heap.size ≠ c := by omega
          have n2 : w.heap.size ≠ ob := by omega
          have n3 : c ≠ ob := by omega
          have n4 : w.heap.size ≤ c := by omega
          have n5 : w.heap.size ≤ ob := by omega
          clear hD8 hT8 hO8 hb8 hD7 hT7 hb7 hD6 hT6 hb6 hD5 hb5 hB8 hB7 hB6 ho7 hcells7 hcp7 hg71 hg72
          refine (on_any c d2 w8 h8.two).mono ?_
          rintro e w9 ⟨rfl, hB⟩
          have h9 := h8.below hB
          clear hB
          go_wp2_with fail
          refine (on_any w.heap.size d2 w9 h9.one).mono ?_
          rintro e w10 ⟨rfl, hB⟩
          have h10 := h9.below hB
          clear hB
          go_wp2_with fail
          refine (left_any c d2 w10 h10.two).mono ?_
          rw [hlf]
          rintro e w11 ⟨rfl, hB⟩
          have h11 := h10.below hB
          clear hB
          go_wp2_with fail
          refine (left_any w.heap.size d2 w11 h11.one).mono ?_
          rw [hlf]
          rintro e w12 ⟨rfl, hB⟩
          have h12 := h11.below hB
          clear hB
          go_wp2_with fail
          refine (writes_any c d2 w12 h12.two).mono ?_
          rintro e w13 ⟨rfl, hB⟩
          have h13 := h12.below hB
          clear hB
          go_wp2_with fail
          refine (writes_any w.heap.size d2 w13 h13.one).mono ?_
          rintro e w14 ⟨rfl, hB⟩
          have h14 := h13.below hB
          clear hB
          go_wp2_with fail
          refine (image_any c d2 w14 h14.two).mono ?_
          rintro e w15 ⟨va, rfl, hoa, hBa⟩
          have h15 := h14.below hBa
          obtain ⟨ga, cpa, rfl, hga, hla⟩ := ownsRow_pos hoa (by omega)
          have hcpa := row_cap hoa
          have pa : Hid (CellsAt w15 ⟨ga, 0, none⟩ d2.bs) := row_all hoa (h8.one.2)
          go_wp2_with fail
          refine (image_any w.heap.size d2 w15 h15.one).mono ?_
          rintro e w16 ⟨vb, rfl, hob, hBb⟩
          have h16 := h15.below hBb
          obtain ⟨gb, cpb, rfl, hgb, hlb⟩ := ownsRow_pos hob (by omega)
          have hcpb := row_cap hob
          have pb : Hid (CellsAt w16 ⟨gb, 0, none⟩ d2.bs) := row_all hob (h8.one.2)
          go_wp2_with fail
          refine (same_any _ _ d2.bs d2.bs w16 _ _ _ _ (by rw [h16.one.2]) (by rw [h16.one.2]) (by rw [h16.one.2]; decide) (by rw [h16.one.2]; decide) (pa.out.below hBb) pb.out).mono ?_
          rw [decide_eq_true (rfl : d2.bs = d2.bs)]
          rintro e w17 ⟨rfl, hB⟩
          have h17 := h16.below hB
          clear hB
          go_wp2_with fail
          refine (image_any ob _ w17 h17.three).mono ?_
          rintro e w18 ⟨vc, rfl, hoc, hBc⟩
          have h18 := h17.below hBc
          obtain ⟨gc, cpc, rfl, hgc, hlc⟩ := ownsRow_pos hoc (by omega)
          have hcpc := row_cap hoc
          have pc : Hid (CellsAt w18 ⟨gc, 0, none⟩ d2.bs) := row_all hoc (h8.one.2)
          go_wp2_with fail
          refine (image_any w.heap.size d2 w18 h18.one).mono ?_
          rintro e w19 ⟨vd, rfl, hod, hBd⟩
          have h19 := h18.below hBd
          obtain ⟨gd, cpd, rfl, hgd, hld⟩ := ownsRow_pos hod (by omega)
          have hcpd := row_cap hod
          have pd : Hid (CellsAt w19 ⟨gd, 0, none⟩ d2.bs) := row_all hod (h8.one.2)
          go_wp2_with fail
          refine (same_any _ _ d2.bs d2.bs w19 _ _ _ _ (by rw [h19.one.2]) (by rw [h19.one.2]) (by rw [h19.one.2]; decide) (by rw [h19.one.2]; decide) (pc.out.below hBd) pd.out).mono ?_
          rw [decide_eq_true (rfl : d2.bs = d2.bs)]
          rintro e w20 ⟨rfl, hB⟩
          have h20 := h19.below hB
          clear hB
          go_wp2_with fail
          refine (image_any w.heap.size d2 w20 h20.one).mono ?_
          rintro e w21 ⟨ve, rfl, hoe, hBe⟩
          have h21 := h20.below hBe
          obtain ⟨ge, cpe, rfl, hge, hle⟩ := ownsRow_pos hoe (by omega)
          have hcpe := row_cap hoe
          have pe : Hid (CellsAt w21 ⟨ge, 0, none⟩ d2.bs) := row_all hoe (h8.one.2)
          go_wp2_with fail
          have m1 : ge ≠ c := by have := h20.two.lt; omega
          have m2 : ge ≠ ob := by have := h20.three.lt; omega
          refine (restore_any c d2 w21 h21.two).mono ?_
          rintro e w22 ⟨rfl, hT22, hg22⟩
          have h22 := h21.turn2 hg22 hT22 n1 n3 n4
          have pe := Lib.hid (pe.out.but hg22 m1)
          clear hg22 hT22
          go_wp2_with fail
          refine (fuse_any c _ (-1) w22 h22.two).mono ?_
          rintro e w23 ⟨rfl, hT23, hg23⟩
          have h23 : K3 w w.heap.size c ob d2 ⟨d2.bs, false, false, 0, d2.writes⟩ { Dk.new with bs := d2.bs } w23 := h22.turn2 hg23 hT23 n1 n3 n4
          have pe := Lib.hid (pe.out.but hg23 m1)
          clear hg23 hT23 h22
          go_wp2_with fail
          refine (sector_any _ w23).mono ?_
          rintro e w24 ⟨rfl, hr24, hB24⟩
          have h24 := h23.below hB24
          have pe := Lib.hid (pe.out.below hB24)
          have q1 : w23.heap.size ≠ c := by have := h23.two.lt; omega
          go_wp2_with fail
          refine (write_any c _ 3 _ (secL (wrap64 (v + 1))) w24 h24.two (bytes_row hr24 (secL_len _) q1) (by rw [secL_len]; decide) (by have := HW2.out; show d2.writes ≤ _; omega) (Nat.zero_le _)).mono ?_
          rintro e w25 ⟨rfl, hT25, hg25⟩
          have h25 := h24.turn2 hg25 hT25 n1 n3 n4
          have pe := Lib.hid (pe.out.but hg25 m1)
          clear hg25 hT25 h24 hr24
          obtain ⟨dT, hdT⟩ : ∃ dT, (wrV ⟨d2.bs, false, false, 0, d2.writes⟩ 3 (secL (wrap64 (v + 1)))).1 = dT := ⟨_, rfl⟩
          rw [hdT] at h25
          clear hdT
          go_wp2_with fail
          refine (sector_any _ w25).mono ?_
          rintro e w26 ⟨rfl, hr26, hB26⟩
          have h26 := h25.below hB26
          have pe := Lib.hid (pe.out.below hB26)
          have q2 : w25.heap.size ≠ ob := by have := h25.three.lt; omega
          go_wp2_with fail
          refine (write_any ob _ 3 _ (secL (wrap64 (v + 2))) w26 h26.three (bytes_row hr26 (secL_len _) q2) (by rw [secL_len]; decide) (Nat.zero_le _) (Nat.zero_le _)).mono ?_
          rintro e w27 ⟨rfl, hO27, hg27⟩
          rw [wr_new _ _ (secL_len _)] at hO27 ⊢
          have h27 := h26.turn3 hg27 hO27 n2 n3 n5
          have pe := Lib.hid (pe.out.but hg27 m2)
          clear hg27 hO27 h26 hr26
          go_wp2_with fail
          refine (alive_any w27).mono ?_
          rintro e w28 ⟨rfl, hB28⟩
          have h28 := h27.below hB28
          have pe := Lib.hid (pe.out.below hB28)
          clear hB28
          go_wp2_with fail
          refine (image_any w.heap.size d2 w28 h28.one).mono ?_
          rintro e w29 ⟨vf, rfl, hof, hBf⟩
          have h29 := h28.below hBf
          obtain ⟨gf, cpf, rfl, hgf, hlf⟩ := ownsRow_pos hof (by omega)
          have hcpf := row_cap hof
          have pf : Hid (CellsAt w29 ⟨gf, 0, none⟩ d2.bs) := row_all hof (h8.one.2)
          go_wp2_with fail
          refine (same_any _ _ d2.bs d2.bs w29 _ _ _ _ (by rw [h29.one.2]) (by rw [h29.one.2]) (by rw [h29.one.2]; decide) (by rw [h29.one.2]; decide) pf.out (pe.out.below hBf)).mono ?_
          rw [decide_eq_true (rfl : d2.bs = d2.bs)]
          rintro e w30 ⟨rfl, hB⟩
          have h30 := h29.below hB
          clear hB
          go_wp2_with fail
          refine (on_any w.heap.size d2 w30 h30.one).mono ?_
          rw [hpw]
          rintro e w31 ⟨rfl, hB⟩
          have h31 := h30.below hB
          clear hB
          go_wp2_with fail
          refine (writes_any ob _ w31 h31.three).mono ?_
          rintro e w32 ⟨rfl, hB⟩
          have h32 := h31.below hB
          clear hB
          go_wp2_with fail
          refine (left_any ob _ w32 h32.three).mono ?_
          rintro e w33 ⟨rfl, hB⟩
          have h33 := h32.below hB
          clear hB
          go_wp2_with fail
          go_ret
          exact ⟨rfl, h33.low⟩
end Go.Proofs.Ythkppkecclnlnaa
