/- Walks over the book: is each list as it was; are lists marked. -/
import Derived.Test.YtpfiaepoibablaaBkB
import Derived.Deep.CutBlock
namespace Go.Proofs.Ytpfiaepoibablaa
set_option linter.unusedVariables false
set_option linter.unusedSimpArgs false
open Go.RowKit

theorem rd_own {W : World} {base n c : Nat} {t : TypeId} {a : Option Addr} {l : List Nat} (h : W.ownsRow base t 1 (.slice a n c) n (bC l)) (hl : l.length = n) : ∀ j x, l[j]? = some x → ∃ b, a = some b ∧ W.cell? (b.add j) = some (.int .u8 (x : Nat)) := by
  intro j x hx
  have hj := (List.getElem?_eq_some_iff.1 hx).1
  obtain ⟨g, cap, hv, _, _⟩ := ownsRow_pos h (by omega)
  injection hv with e1 e2 e3
  subst e1 e3
  refine ⟨_, rfl, ?_⟩
  rw [Addr.add_mid, Nat.zero_add, h.cellAt j (by omega)]
  unfold bC; rw [List.getElem?_map, hx]; rfl
/-- The element i of a row of slices. -/
theorem el_own {W : World} {base n c : Nat} {e : TypeId} {a : Option Addr} {xs : List Value} (h : W.ownsRow base e 1 (.slice a n c) n xs) {i : Nat} {x : Value} (hx : xs[i]? = some x) : ∃ g, a = some ⟨g, 0, none⟩ ∧ W.cell? ⟨g, i, none⟩ = some x ∧ i < n := by
  have hi := (List.getElem?_eq_some_iff.1 hx).1
  rw [h.1, Nat.mul_one] at hi
  obtain ⟨g, cap, hv, _, _⟩ := ownsRow_pos h (by omega)
  injection hv with e1 e2 e3
  subst e1 e3
  exact ⟨g, rfl, by rw [h.cellAt i (by omega)]; exact hx, hi⟩
set_option maxRecDepth 100000 in
set_option maxHeartbeats 1000000 in
theorem still_any (base K : Nat) (vb vw : Value) (L : List Ls) (W : World) (h : Bk W base K vb vw L) :
    Calls Try.prog 36 #[.pointer (some ⟨K, 0, none⟩)] W fun e w' => e = .returned (.bool true) ∧ Below W.heap.size W w' := by
  obtain ⟨a, cap, rfl⟩ := sl_form h.rb
  obtain ⟨a2, cap2, rfl⟩ := sl_form h.rw
  have HB := Lib.hid h
  have hfew := h.few
  clear h
  go_enter Try.func36, Try.ntmps36
  go_wp2_with fail
  go_loopw [3] (fun iv wr => ∃ i : Nat, iv = .int .i64 i ∧ i ≤ L.length ∧ Hid (Below W.heap.size W wr)) (fun iv _ => L.length - (intOf iv).toNat)
  case atStart => exact ⟨0, rfl, Nat.zero_le _, Below.refl _ _⟩
  case round =>
    obtain ⟨i, rfl, hi, hbl⟩ := hrel
    have hb := HB.out.below hbl.out
    have c8 := (blk_cell hb.box 8).trans rfl
    have c9 := (blk_cell hb.box 9).trans rfl
    simp [bookC] at c8 c9
    by_cases hlt : i < L.length
    · obtain ⟨x, hx⟩ : ∃ x, L[i]? = some x := ⟨_, List.getElem?_eq_getElem hlt⟩
      obtain ⟨g1, rfl, k1, _⟩ := el_own hb.rb (i := i) (x := x.v) (by rw [List.getElem?_map, hx]; rfl)
      obtain ⟨g2, rfl, k2, _⟩ := el_own hb.rw (i := i) (x := x.u) (by rw [List.getElem?_map, hx]; rfl)
      have hxm := List.mem_of_getElem? hx
      obtain ⟨xv, xu, l, tt⟩ := x
      have ho1 := hb.own _ hxm
      have ho2 := hb.was _ hxm
      have hsh := hb.short _ hxm
      dsimp only at ho1 ho2 hsh k1 k2
      obtain ⟨av, cv, rfl⟩ := sl_form ho1
      obtain ⟨au, cu, rfl⟩ := sl_form ho2
      have i1 : (i : Int) < (L.length : Int) := by omega
      have i2 : (0 : Int) ≤ (i : Int) := by omega
      have i3 : (i : Int).toNat = i := Int.toNat_natCast i
      have HO1 := Lib.hid ho1
      have HO2 := Lib.hid ho2
      clear ho1 ho2 hx hxm hb
      go_upto_region 4 with fail
      refine wp_region_early (fun w' => w'.cell? ⟨K, 8, none⟩ = some (.slice (some ⟨g1, 0, none⟩) L.length cap) ∧ w'.cell? ⟨K, 9, none⟩ = some (.slice (some ⟨g2, 0, none⟩) L.length cap2) ∧ w'.cell? ⟨g1, i, none⟩ = some (.slice av l.length cv) ∧ w'.cell? ⟨g2, i, none⟩ = some (.slice au l.length cu)) (fun _ => false) (by kernel_rfl) ?_
      simp only [List.size_toArray, List.length_cons, List.length_nil, Nat.reduceAdd, Array.replicate_succ, Array.replicate_zero, List.push_toArray, List.nil_append, List.cons_append]
      have hdr : Below wr.heap.size wr wr.drew := (Below.refl _ _).drew
      have hSS : wr.drew.cell? ⟨K, 8, none⟩ = some (.slice (some ⟨g1, 0, none⟩) L.length cap) ∧ wr.drew.cell? ⟨K, 9, none⟩ = some (.slice (some ⟨g2, 0, none⟩) L.length cap2) ∧ wr.drew.cell? ⟨g1, i, none⟩ = some (.slice av l.length cv) ∧ wr.drew.cell? ⟨g2, i, none⟩ = some (.slice au l.length cu) := ⟨c8, c9, k1, k2⟩
      have HBL := Lib.hid (below_then hbl.out hdr)
      have HP1 := Lib.hid (ownsRow_same HO1.out (X := wr.drew) (fun g _ => rfl))
      have HP2 := Lib.hid (ownsRow_same HO2.out (X := wr.drew) (fun g _ => rfl))
      clear hdr c8 c9 k1 k2 hbl HO1 HO2
      generalize wr.drew = W4 at *
      refine wpAnyE_take (i := 0) (v := ?_) rfl (by kernel_rfl) (by kernel_rfl) (by kernel_rfl) (by kernel_rfl) (fun _ _ _ h => h) (Or.inl ⟨by rfl, ?_⟩) hSS ?_
      rotate_left
      · intro w hSw
        obtain ⟨j0, j1, j2, j3⟩ := hSw
        go_simp
        all_goals with_reducible rfl
      simp only [Act.put, List.setIfInBounds_toArray, List.set_cons_zero, List.set_cons_succ, List.getElem_toArray, List.getElem_cons_zero, List.getElem_cons_succ]
      refine wpAnyE_take (i := 1) (v := ?_) rfl (by kernel_rfl) (by kernel_rfl) (by kernel_rfl) (by kernel_rfl) (fun _ _ _ h => h) (Or.inl ⟨by rfl, ?_⟩) hSS ?_
      rotate_left
      · intro w hSw
        obtain ⟨j0, j1, j2, j3⟩ := hSw
        go_simp
        all_goals with_reducible rfl
      simp only [Act.put, List.setIfInBounds_toArray, List.set_cons_zero, List.set_cons_succ, List.getElem_toArray, List.getElem_cons_zero, List.getElem_cons_succ]
      refine wpAnyE_take (i := 2) (v := ?_) rfl (by kernel_rfl) (by kernel_rfl) (by kernel_rfl) (by kernel_rfl) (fun _ _ _ h => h) (Or.inl ⟨by rfl, ?_⟩) hSS ?_
      rotate_left
      · intro w hSw
        obtain ⟨j0, j1, j2, j3⟩ := hSw
        go_simp
        all_goals with_reducible rfl
      simp only [Act.put, List.setIfInBounds_toArray, List.set_cons_zero, List.set_cons_succ, List.getElem_toArray, List.getElem_cons_zero, List.getElem_cons_succ]
      refine wpAnyE_take (i := 3) (v := ?_) rfl (by kernel_rfl) (by kernel_rfl) (by kernel_rfl) (by kernel_rfl) (fun _ _ _ h => h) (Or.inl ⟨by rfl, ?_⟩) hSS ?_
      rotate_left
      · intro w hSw
        obtain ⟨j0, j1, j2, j3⟩ := hSw
        go_simp
        all_goals with_reducible rfl
      simp only [Act.put, List.setIfInBounds_toArray, List.set_cons_zero, List.set_cons_succ, List.getElem_toArray, List.getElem_cons_zero, List.getElem_cons_succ]
      refine wpAnyE_take (i := 4) (v := ?_) rfl (by kernel_rfl) (by kernel_rfl) (by kernel_rfl) (by kernel_rfl) (fun _ _ _ h => h) (Or.inl ⟨by rfl, ?_⟩) hSS ?_
      rotate_left
      · intro w hSw
        obtain ⟨j0, j1, j2, j3⟩ := hSw
        go_simp
        all_goals with_reducible rfl
      simp only [Act.put, List.setIfInBounds_toArray, List.set_cons_zero, List.set_cons_succ, List.getElem_toArray, List.getElem_cons_zero, List.getElem_cons_succ]
      refine wpAnyE_take (i := 5) (v := ?_) rfl (by kernel_rfl) (by kernel_rfl) (by kernel_rfl) (by kernel_rfl) (fun _ _ _ h => h) (Or.inl ⟨by rfl, ?_⟩) hSS ?_
      rotate_left
      · intro w hSw
        obtain ⟨j0, j1, j2, j3⟩ := hSw
        go_simp
        all_goals with_reducible rfl
      simp only [Act.put, List.setIfInBounds_toArray, List.set_cons_zero, List.set_cons_succ, List.getElem_toArray, List.getElem_cons_zero, List.getElem_cons_succ]
      refine wpAnyE_take (i := 6) (v := ?_) rfl (by kernel_rfl) (by kernel_rfl) (by kernel_rfl) (by kernel_rfl) (fun _ _ _ h => h) (Or.inl ⟨by rfl, ?_⟩) hSS ?_
      rotate_left
      · intro w hSw
        obtain ⟨j0, j1, j2, j3⟩ := hSw
        go_simp
        all_goals with_reducible rfl
      simp only [Act.put, List.setIfInBounds_toArray, List.set_cons_zero, List.set_cons_succ, List.getElem_toArray, List.getElem_cons_zero, List.getElem_cons_succ]
      refine wpAnyE_take (i := 7) (v := ?_) rfl (by kernel_rfl) (by kernel_rfl) (by kernel_rfl) (by kernel_rfl) (fun _ _ _ h => h) (Or.inl ⟨by rfl, ?_⟩) hSS ?_
      rotate_left
      · intro w hSw
        obtain ⟨j0, j1, j2, j3⟩ := hSw
        go_simp
        all_goals with_reducible rfl
      simp only [Act.put, List.setIfInBounds_toArray, List.set_cons_zero, List.set_cons_succ, List.getElem_toArray, List.getElem_cons_zero, List.getElem_cons_succ]
      refine wpAnyE_take (i := 8) (v := ?_) rfl (by kernel_rfl) (by kernel_rfl) (by kernel_rfl) (by kernel_rfl) (fun _ _ _ h => h) (Or.inl ⟨by rfl, ?_⟩) hSS ?_
      rotate_left
      · intro w hSw
        obtain ⟨j0, j1, j2, j3⟩ := hSw
        go_simp
        all_goals with_reducible rfl
      simp only [Act.put, List.setIfInBounds_toArray, List.set_cons_zero, List.set_cons_succ, List.getElem_toArray, List.getElem_cons_zero, List.getElem_cons_succ]
      refine wpAnyE_take (i := 9) (v := ?_) rfl (by kernel_rfl) (by kernel_rfl) (by kernel_rfl) (by kernel_rfl) (fun _ _ _ h => h) (Or.inl ⟨by rfl, ?_⟩) hSS ?_
      rotate_left
      · intro w hSw
        obtain ⟨j0, j1, j2, j3⟩ := hSw
        go_simp
        all_goals with_reducible rfl
      simp only [Act.put, List.setIfInBounds_toArray, List.set_cons_zero, List.set_cons_succ, List.getElem_toArray, List.getElem_cons_zero, List.getElem_cons_succ]
      refine wpAnyE_take (i := 10) (v := ?_) rfl (by kernel_rfl) (by kernel_rfl) (by kernel_rfl) (by kernel_rfl) (fun _ _ _ h => h) (Or.inl ⟨by rfl, ?_⟩) hSS ?_
      rotate_left
      · intro w hSw
        obtain ⟨j0, j1, j2, j3⟩ := hSw
        go_simp
        all_goals with_reducible rfl
      simp only [Act.put, List.setIfInBounds_toArray, List.set_cons_zero, List.set_cons_succ, List.getElem_toArray, List.getElem_cons_zero, List.getElem_cons_succ]
      refine wpAnyE_take (i := 11) (v := ?_) rfl (by kernel_rfl) (by kernel_rfl) (by kernel_rfl) (by kernel_rfl) (fun _ _ _ h => h) (Or.inl ⟨by rfl, ?_⟩) hSS ?_
      rotate_left
      · intro w hSw
        obtain ⟨j0, j1, j2, j3⟩ := hSw
        go_simp
        all_goals with_reducible rfl
      simp only [Act.put, List.setIfInBounds_toArray, List.set_cons_zero, List.set_cons_succ, List.getElem_toArray, List.getElem_cons_zero, List.getElem_cons_succ]
      refine wpAnyE_take (i := 12) (v := ?_) rfl (by kernel_rfl) (by kernel_rfl) (by kernel_rfl) (by kernel_rfl) (fun _ _ _ h => h) (Or.inl ⟨by rfl, ?_⟩) hSS ?_
      rotate_left
      · intro w hSw
        obtain ⟨j0, j1, j2, j3⟩ := hSw
        go_simp
        all_goals with_reducible rfl
      simp only [Act.put, List.setIfInBounds_toArray, List.set_cons_zero, List.set_cons_succ, List.getElem_toArray, List.getElem_cons_zero, List.getElem_cons_succ]
      refine wpAnyE_take (i := 13) (v := ?_) rfl (by kernel_rfl) (by kernel_rfl) (by kernel_rfl) (by kernel_rfl) (fun _ _ _ h => h) (Or.inl ⟨by rfl, ?_⟩) hSS ?_
      rotate_left
      · intro w hSw
        obtain ⟨j0, j1, j2, j3⟩ := hSw
        go_simp
        all_goals with_reducible rfl
      simp only [Act.put, List.setIfInBounds_toArray, List.set_cons_zero, List.set_cons_succ, List.getElem_toArray, List.getElem_cons_zero, List.getElem_cons_succ]
      refine wpAnyE_one (i := 14) (by kernel_rfl) rfl ?_
      change wpList _ _ (Exit.then _ _) [_] _ _
      try simp only [List.setIfInBounds_toArray, List.set_cons_zero, List.set_cons_succ, List.getElem_toArray, List.getElem_cons_zero, List.getElem_cons_succ]
      go_wp2_with (go_at_call 25; refine (same_any _ _ l l _ _ _ _ _ rfl rfl (by omega) (by omega) (rd_own HP1.out rfl) (rd_own HP2.out rfl)).mono ?_; rintro e w5 ⟨rfl, hB5⟩; rw [decide_eq_true (rfl : l = l)])
      have hSS := And.intro ((hB5.cell (cell_lt hSS.1)).trans hSS.1) (And.intro ((hB5.cell (cell_lt hSS.2.1)).trans hSS.2.1) (And.intro ((hB5.cell (cell_lt hSS.2.2.1)).trans hSS.2.2.1) ((hB5.cell (cell_lt hSS.2.2.2)).trans hSS.2.2.2)))
      refine ⟨fun _ => hSS, ?_⟩
      try simp only [List.setIfInBounds_toArray, List.set_cons_zero, List.set_cons_succ, List.getElem_toArray, List.getElem_cons_zero, List.getElem_cons_succ]
      refine wpAnyE_take (i := 15) (v := ?_) rfl (by kernel_rfl) (by kernel_rfl) (by kernel_rfl) (by kernel_rfl) (fun _ _ _ h => h) (Or.inl ⟨by rfl, ?_⟩) hSS ?_
      rotate_left
      · intro w hSw
        obtain ⟨j0, j1, j2, j3⟩ := hSw
        go_simp
        all_goals with_reducible rfl
      simp only [Act.put, List.setIfInBounds_toArray, List.set_cons_zero, List.set_cons_succ, List.getElem_toArray, List.getElem_cons_zero, List.getElem_cons_succ]
      refine wpAnyE_end (by kernel_rfl) ?_
      have hb5 := below_then HBL.out hB5
      clear hSS hB5
      go_wp2_with fail
      go_roundw
      case rel => exact ⟨i + 1, by go_num, by omega, hb5⟩
      case measure => simp [intOf]; omega
    · obtain rfl : i = L.length := by omega
      clear hb
      go_wp2_with fail
      go_ret
      exact ⟨rfl, hbl.out⟩
end Go.Proofs.Ytpfiaepoibablaa
