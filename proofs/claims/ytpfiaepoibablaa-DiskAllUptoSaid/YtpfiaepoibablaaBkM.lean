/- Walk over the book: are lists marked. -/
import Derived.Test.YtpfiaepoibablaaBkS
namespace Go.Proofs.Ytpfiaepoibablaa
set_option linter.unusedVariables false
set_option linter.unusedSimpArgs false
open Go.RowKit

/-- A slice that reads as these bytes. -/
def Rd (W : World) (x : Value) (l : List Nat) : Prop := ∃ a c, x = .slice a l.length c ∧ ∀ j y : Nat, l[j]? = some y → ∃ b, a = some b ∧ W.cell? (b.add j) = some (.int .u8 (y : Int))
theorem Rd.below {W X : World} {x : Value} {l : List Nat} (h : Rd W x l) (hb : Below W.heap.size W X) : Rd X x l := by
  obtain ⟨a, c, rfl, h1⟩ := h
  refine ⟨a, c, rfl, fun j y hy => ?_⟩
  obtain ⟨b, e, hc⟩ := h1 j y hy
  exact ⟨b, e, (hb.cell (cell_lt hc)).trans hc⟩
theorem Rd.own {W : World} {base : Nat} {t : TypeId} {x : Value} {l : List Nat} (h : W.ownsRow base t 1 x l.length (bC l)) : Rd W x l := by
  obtain ⟨a, c, rfl⟩ := sl_form h
  exact ⟨a, c, rfl, rd_own h rfl⟩
/-- A row of n slices, each of which is marked. -/
def Mkd (W : World) (base : Nat) (v : Value) (n : Nat) : Prop := ∃ xs, W.ownsRow base 22 1 v n xs ∧ ∀ i x, xs[i]? = some x → ∃ len, len ≤ 2000 ∧ Rd W x (markL i 0 len)
theorem Mkd.below {W X : World} {base n : Nat} {v : Value} (h : Mkd W base v n) (hb : Below W.heap.size W X) : Mkd X base v n := by
  obtain ⟨xs, h1, h2⟩ := h
  refine ⟨xs, ownsRow_same h1 (fun g hg => hb.block g (ownsRow_obs h1 g hg).2), fun i x hx => ?_⟩
  obtain ⟨len, h3, h4⟩ := h2 i x hx
  exact ⟨len, h3, h4.below hb⟩
theorem mark0_any (i n : Nat) (w : World) (hi : i ≤ 1000) (hn : n ≤ 2000) :
    Calls Try.prog 97 #[.int .i64 (i : Int), .int .i64 0, .int .i64 (n : Int)] w fun e w' => ∃ v, e = .returned v ∧ w'.ownsRow w.heap.size 5 1 v n (bC (markL i 0 n)) ∧ Below w.heap.size w w' := mark_any i 0 n w hi (by decide) hn
set_option maxRecDepth 100000 in
set_option maxHeartbeats 1000000 in
theorem marked_any (base n : Nat) (v : Value) (W : World) (h : Mkd W base v n) (hn : n ≤ 400) :
    Calls Try.prog 72 #[v] W fun e w' => e = .returned (.bool true) ∧ Below W.heap.size W w' := by
  have HB := Lib.hid h
  obtain ⟨xs, ho, _⟩ := h
  obtain ⟨a, cap, rfl⟩ := sl_form ho
  clear ho
  go_enter Try.func72, Try.ntmps72
  go_wp2_with fail
  go_loopw [3] (fun iv wr => ∃ i : Nat, iv = .int .i64 i ∧ i ≤ n ∧ Hid (Below W.heap.size W wr)) (fun iv _ => n - (intOf iv).toNat)
  case atStart => exact ⟨0, rfl, Nat.zero_le _, Below.refl _ _⟩
  case round =>
    obtain ⟨i, rfl, hi, hbl⟩ := hrel
    by_cases hlt : i < n
    · obtain ⟨ys, ho, hall⟩ := HB.out.below hbl.out
      obtain ⟨x, hx⟩ : ∃ x, ys[i]? = some x := ⟨_, List.getElem?_eq_getElem (by rw [ho.1]; omega)⟩
      obtain ⟨g1, rfl, k1, _⟩ := el_own ho hx
      obtain ⟨len, hlen, av, cv, rfl, hrd⟩ := hall i x hx
      have hml := markL_len i 0 len
      have HM := Lib.hid (fun w => mark0_any i len w (by omega) hlen)
      have hlc : (markL i 0 len).length = len := hml
      rw [hml] at k1
      have i1 : (i : Int) < (n : Int) := by omega
      have i2 : (0 : Int) ≤ (i : Int) := by omega
      have i3 : (i : Int).toNat = i := Int.toNat_natCast i
      have HRD := Lib.hid hrd
      have HML := Lib.hid hml
      clear ho hall hx hrd hml hlc
      go_upto_region 4 with fail
      refine wp_region_early (fun w' => w'.cell? ⟨g1, i, none⟩ = some (.slice av len cv) ∧ True) (fun _ => false) (by kernel_rfl) ?_
      simp only [List.size_toArray, List.length_cons, List.length_nil, Nat.reduceAdd, Array.replicate_succ, Array.replicate_zero, List.push_toArray, List.nil_append, List.cons_append]
      have hdr : Below wr.heap.size wr wr.drew := (Below.refl _ _).drew
      have hSS : wr.drew.cell? ⟨g1, i, none⟩ = some (.slice av len cv) ∧ True := ⟨k1, trivial⟩
      have HBL := Lib.hid (below_then hbl.out hdr)
      have HR4 : Hid (∀ j y : Nat, (markL i 0 len)[j]? = some y → ∃ b, av = some b ∧ wr.drew.cell? (b.add j) = some (.int .u8 (y : Int))) := HRD.out
      clear hdr k1 hbl HRD
      generalize wr.drew = W4 at *
      refine wpAnyE_take (i := 0) (v := ?_) rfl (by kernel_rfl) (by kernel_rfl) (by kernel_rfl) (by kernel_rfl) (fun _ _ _ h => h) (Or.inl ⟨by rfl, ?_⟩) hSS ?_
      rotate_left
      · intro w hSw
        obtain ⟨j0, j1⟩ := hSw
        go_simp
        all_goals with_reducible rfl
      simp only [Act.put, List.setIfInBounds_toArray, List.set_cons_zero, List.set_cons_succ, List.getElem_toArray, List.getElem_cons_zero, List.getElem_cons_succ]
      refine wpAnyE_take (i := 1) (v := ?_) rfl (by kernel_rfl) (by kernel_rfl) (by kernel_rfl) (by kernel_rfl) (fun _ _ _ h => h) (Or.inl ⟨by rfl, ?_⟩) hSS ?_
      rotate_left
      · intro w hSw
        obtain ⟨j0, j1⟩ := hSw
        go_simp
        all_goals with_reducible rfl
      simp only [Act.put, List.setIfInBounds_toArray, List.set_cons_zero, List.set_cons_succ, List.getElem_toArray, List.getElem_cons_zero, List.getElem_cons_succ]
      refine wpAnyE_take (i := 2) (v := ?_) rfl (by kernel_rfl) (by kernel_rfl) (by kernel_rfl) (by kernel_rfl) (fun _ _ _ h => h) (Or.inl ⟨by rfl, ?_⟩) hSS ?_
      rotate_left
      · intro w hSw
        obtain ⟨j0, j1⟩ := hSw
        go_simp
        all_goals with_reducible rfl
      simp only [Act.put, List.setIfInBounds_toArray, List.set_cons_zero, List.set_cons_succ, List.getElem_toArray, List.getElem_cons_zero, List.getElem_cons_succ]
      refine wpAnyE_take (i := 3) (v := ?_) rfl (by kernel_rfl) (by kernel_rfl) (by kernel_rfl) (by kernel_rfl) (fun _ _ _ h => h) (Or.inl ⟨by rfl, ?_⟩) hSS ?_
      rotate_left
      · intro w hSw
        obtain ⟨j0, j1⟩ := hSw
        go_simp
        all_goals with_reducible rfl
      simp only [Act.put, List.setIfInBounds_toArray, List.set_cons_zero, List.set_cons_succ, List.getElem_toArray, List.getElem_cons_zero, List.getElem_cons_succ]
      refine wpAnyE_take (i := 4) (v := ?_) rfl (by kernel_rfl) (by kernel_rfl) (by kernel_rfl) (by kernel_rfl) (fun _ _ _ h => h) (Or.inl ⟨by rfl, ?_⟩) hSS ?_
      rotate_left
      · intro w hSw
        obtain ⟨j0, j1⟩ := hSw
        go_simp
        all_goals with_reducible rfl
      simp only [Act.put, List.setIfInBounds_toArray, List.set_cons_zero, List.set_cons_succ, List.getElem_toArray, List.getElem_cons_zero, List.getElem_cons_succ]
      refine wpAnyE_take (i := 5) (v := ?_) rfl (by kernel_rfl) (by kernel_rfl) (by kernel_rfl) (by kernel_rfl) (fun _ _ _ h => h) (Or.inl ⟨by rfl, ?_⟩) hSS ?_
      rotate_left
      · intro w hSw
        obtain ⟨j0, j1⟩ := hSw
        go_simp
        all_goals with_reducible rfl
      simp only [Act.put, List.setIfInBounds_toArray, List.set_cons_zero, List.set_cons_succ, List.getElem_toArray, List.getElem_cons_zero, List.getElem_cons_succ]
      refine wpAnyE_take (i := 6) (v := ?_) rfl (by kernel_rfl) (by kernel_rfl) (by kernel_rfl) (by kernel_rfl) (fun _ _ _ h => h) (Or.inl ⟨by rfl, ?_⟩) hSS ?_
      rotate_left
      · intro w hSw
        obtain ⟨j0, j1⟩ := hSw
        go_simp
        all_goals with_reducible rfl
      simp only [Act.put, List.setIfInBounds_toArray, List.set_cons_zero, List.set_cons_succ, List.getElem_toArray, List.getElem_cons_zero, List.getElem_cons_succ]
      refine wpAnyE_take (i := 7) (v := ?_) rfl (by kernel_rfl) (by kernel_rfl) (by kernel_rfl) (by kernel_rfl) (fun _ _ _ h => h) (Or.inl ⟨by rfl, ?_⟩) hSS ?_
      rotate_left
      · intro w hSw
        obtain ⟨j0, j1⟩ := hSw
        go_simp
        all_goals with_reducible rfl
      simp only [Act.put, List.setIfInBounds_toArray, List.set_cons_zero, List.set_cons_succ, List.getElem_toArray, List.getElem_cons_zero, List.getElem_cons_succ]
      refine wpAnyE_take (i := 8) (v := ?_) rfl (by kernel_rfl) (by kernel_rfl) (by kernel_rfl) (by kernel_rfl) (fun _ _ _ h => h) (Or.inl ⟨by rfl, ?_⟩) hSS ?_
      rotate_left
      · intro w hSw
        obtain ⟨j0, j1⟩ := hSw
        go_simp
        all_goals with_reducible rfl
      simp only [Act.put, List.setIfInBounds_toArray, List.set_cons_zero, List.set_cons_succ, List.getElem_toArray, List.getElem_cons_zero, List.getElem_cons_succ]
      refine wpAnyE_take (i := 9) (v := ?_) rfl (by kernel_rfl) (by kernel_rfl) (by kernel_rfl) (by kernel_rfl) (fun _ _ _ h => h) (Or.inl ⟨by rfl, ?_⟩) hSS ?_
      rotate_left
      · intro w hSw
        obtain ⟨j0, j1⟩ := hSw
        go_simp
        all_goals with_reducible rfl
      simp only [Act.put, List.setIfInBounds_toArray, List.set_cons_zero, List.set_cons_succ, List.getElem_toArray, List.getElem_cons_zero, List.getElem_cons_succ]
      refine wpAnyE_one (i := 10) (by kernel_rfl) rfl ?_
      change wpList _ _ (Exit.then _ _) [_] _ _
      try simp only [List.setIfInBounds_toArray, List.set_cons_zero, List.set_cons_succ, List.getElem_toArray, List.getElem_cons_zero, List.getElem_cons_succ]
      go_wp2_with (go_at_call 97; refine (HM.out _).mono ?_; rintro e w5 ⟨v5, rfl, ho5, hB5⟩)
      have hSS : w5.cell? ⟨g1, i, none⟩ = some (.slice av len cv) ∧ True := ⟨(hB5.cell (cell_lt hSS.1)).trans hSS.1, trivial⟩
      refine ⟨fun _ => hSS, ?_⟩
      try simp only [List.setIfInBounds_toArray, List.set_cons_zero, List.set_cons_succ, List.getElem_toArray, List.getElem_cons_zero, List.getElem_cons_succ]
      obtain ⟨a5, c5, rfl⟩ := sl_form ho5
      have HS := Lib.hid (same_any (.slice av len cv) (.slice a5 len c5) (markL i 0 len) (markL i 0 len) w5 av a5 cv c5 (by rw [HML.out]) (by rw [HML.out]) (by rw [HML.out]; omega) (by rw [HML.out]; omega)
        (fun j y hy => by obtain ⟨b, e, hc⟩ := HR4.out j y hy; exact ⟨b, e, (hB5.cell (cell_lt hc)).trans hc⟩) (rd_own ho5 HML.out))
      have hb5 := below_then HBL.out hB5
      clear hB5 ho5
      refine wpAnyE_one (i := 11) (by kernel_rfl) rfl ?_
      change wpList _ _ (Exit.then _ _) [_] _ _
      try simp only [List.setIfInBounds_toArray, List.set_cons_zero, List.set_cons_succ, List.getElem_toArray, List.getElem_cons_zero, List.getElem_cons_succ]
      go_wp2_with (go_at_call 25; refine HS.out.mono ?_; rintro e w6 ⟨rfl, hB6⟩; rw [decide_eq_true (rfl : markL i 0 len = markL i 0 len)])
      have hSS : w6.cell? ⟨g1, i, none⟩ = some (.slice av len cv) ∧ True := ⟨(hB6.cell (cell_lt hSS.1)).trans hSS.1, trivial⟩
      refine ⟨fun _ => hSS, ?_⟩
      try simp only [List.setIfInBounds_toArray, List.set_cons_zero, List.set_cons_succ, List.getElem_toArray, List.getElem_cons_zero, List.getElem_cons_succ]
      refine wpAnyE_take (i := 12) (v := ?_) rfl (by kernel_rfl) (by kernel_rfl) (by kernel_rfl) (by kernel_rfl) (fun _ _ _ h => h) (Or.inl ⟨by rfl, ?_⟩) hSS ?_
      rotate_left
      · intro w hSw
        obtain ⟨j0, j1⟩ := hSw
        go_simp
        all_goals with_reducible rfl
      simp only [Act.put, List.setIfInBounds_toArray, List.set_cons_zero, List.set_cons_succ, List.getElem_toArray, List.getElem_cons_zero, List.getElem_cons_succ]
      refine wpAnyE_end (by kernel_rfl) ?_
      have hb6 := below_then hb5 hB6
      clear hSS hB6 hb5
      go_wp2_with fail
      go_roundw
      case rel => exact ⟨i + 1, by go_num, by omega, hb6⟩
      case measure => simp [intOf]; omega
    · obtain rfl : i = n := by omega
      go_wp2_with fail
      go_ret
      exact ⟨rfl, hbl.out⟩
end Go.Proofs.Ytpfiaepoibablaa
