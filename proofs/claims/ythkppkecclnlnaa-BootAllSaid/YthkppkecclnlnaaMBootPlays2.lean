/- Lemmas of this claim, laid one behind the other. -/
import Derived.Test.YthkppkecclnlnaaMBootPlays1
import Derived.Test.YthkppkecclnlnaaFloat
import Derived.Test.YthkppkecclnlnaaOps
namespace Go.Proofs.Ythkppkecclnlnaa
set_option linter.unusedVariables false
set_option linter.unusedSimpArgs false
open Go.RowKit

set_option maxRecDepth 100000 in
set_option maxHeartbeats 1000000 in
theorem step12_raise (w : World) (b c bb rb gb n N : Nat) (a : Int) (B : Bt) (d : Dk) (W : World) (h : BP w b c bb rb gb n B d B d W) (hI : BI B d N) (hN : N ≤ 500000) (hn : 256 ≤ n) :
    Calls Try.prog 81 #[.pointer (some ⟨bb, 0, none⟩), .agg #[.int .i64 2, .int .i64 a]] W fun e w' => BRes w c bb rb gb n N e w' := by
  obtain ⟨k, hk⟩ : ∃ k : Int, 2 = k := ⟨_, rfl⟩
  rw [hk]
  have HN := Lib.hid hN
  have HNN := Lib.hid hn
  have HO0 : Hid (BO w b c bb rb gb n W.heap.size k a B d B d (W.alloc (.cells #[.int .i64 k, .int .i64 a] 141))) := by
    have h1 := blk_lt h.bt.boot; have h2 := blk_lt h.bt.disk.1; have h3 := blk_lt h.box; have h4 := h.rk.lt
    exact ⟨h.below ((Below.refl _ _).alloc (Nat.le_refl _) _), blk_new W _, by omega, by omega, by omega, by omega, by omega⟩
  have HI := Lib.hid hI
  clear h hI hN hn
  go_enter Try.func81, Try.ntmps81
  go_upto_region 1 with fail
  generalize World.alloc W _ = W1 at *
  obtain ⟨g, hg⟩ : ∃ g, W.heap.size = g := ⟨_, rfl⟩
  rw [hg] at HO0
  (try rw [hg])
  clear hg
  obtain ⟨⟨p0, p1, p8⟩, ⟨q0, q1⟩, _⟩ := HO0.out.cells
  subst hk
  have HB' := Lib.hid (HI.out.raise a)
  have HF := Lib.hid (fun w (h : BtAt w b c B d) => raise_F b c B d a N w h HI.out (by have := HN.out; omega))
  have HS := Lib.hid (fun w (h : RbAt w bb 2 B) (k : Rk w rb 0 gb n d) (hne : bb ≠ rb ∧ bb ≠ gb) => rraise_F bb 2 rb 0 gb n B d a N w h k hne HNN.out HI.out (by have := HN.out; omega))
  obtain ⟨R, hR⟩ : ∃ R, rsF B d a = R := ⟨_, rfl⟩
  rw [hR] at HB' HF HS
  obtain ⟨rv, er, B', d'⟩ := R
  dsimp only at HB' HF HS
  clear hR
  go_wp2_with fail
  refine wp_region_early (fun w' => w'.cell? ⟨bb, 0, none⟩ = some (.pointer (some ⟨b, 0, none⟩)) ∧ w'.cell? ⟨bb, 1, none⟩ = some (.pointer (some ⟨c, 0, none⟩)) ∧ w'.cell? ⟨bb, 8, none⟩ = some (.pointer (some ⟨rb, 0, none⟩)) ∧ w'.cell? ⟨g, 1, none⟩ = some (.int .i64 a)) (fun _ => false) (by kernel_rfl) ?_
  simp only [List.size_toArray, List.length_cons, List.length_nil, Nat.reduceAdd, Array.replicate_succ, Array.replicate_zero, List.push_toArray, List.nil_append, List.cons_append]
  have ho2 := HO0.out.drew
  generalize W1.drew = W2 at *
  have hSS := (fun (h : _ ∧ _ ∧ _) => And.intro h.1.1 (And.intro h.1.2.1 (And.intro h.1.2.2 h.2.1.2))) ho2.cells
  clear p0 p1 p8 q0 q1
  refine wpAnyE_take (i := 0) (v := ?_) rfl (by kernel_rfl) (by kernel_rfl) (by kernel_rfl) (by kernel_rfl) (fun _ _ _ h => h) (Or.inl ⟨by rfl, ?_⟩) hSS ?_
  rotate_left
  · intro w hSw
    obtain ⟨k0, k1, k8, ka⟩ := hSw
    go_simp
    all_goals with_reducible rfl
  simp only [Act.put, List.setIfInBounds_toArray, List.set_cons_zero, List.set_cons_succ, List.getElem_toArray, List.getElem_cons_zero, List.getElem_cons_succ]
  refine wpAnyE_take (i := 1) (v := ?_) rfl (by kernel_rfl) (by kernel_rfl) (by kernel_rfl) (by kernel_rfl) (fun _ _ _ h => h) (Or.inl ⟨by rfl, ?_⟩) hSS ?_
  rotate_left
  · intro w hSw
    obtain ⟨k0, k1, k8, ka⟩ := hSw
    go_simp
    all_goals with_reducible rfl
  simp only [Act.put, List.setIfInBounds_toArray, List.set_cons_zero, List.set_cons_succ, List.getElem_toArray, List.getElem_cons_zero, List.getElem_cons_succ]
  refine wpAnyE_take (i := 2) (v := ?_) rfl (by kernel_rfl) (by kernel_rfl) (by kernel_rfl) (by kernel_rfl) (fun _ _ _ h => h) (Or.inl ⟨by rfl, ?_⟩) hSS ?_
  rotate_left
  · intro w hSw
    obtain ⟨k0, k1, k8, ka⟩ := hSw
    go_simp
    all_goals with_reducible rfl
  simp only [Act.put, List.setIfInBounds_toArray, List.set_cons_zero, List.set_cons_succ, List.getElem_toArray, List.getElem_cons_zero, List.getElem_cons_succ]
  refine wpAnyE_take (i := 3) (v := ?_) rfl (by kernel_rfl) (by kernel_rfl) (by kernel_rfl) (by kernel_rfl) (fun _ _ _ h => h) (Or.inl ⟨by rfl, ?_⟩) hSS ?_
  rotate_left
  · intro w hSw
    obtain ⟨k0, k1, k8, ka⟩ := hSw
    go_simp
    all_goals with_reducible rfl
  simp only [Act.put, List.setIfInBounds_toArray, List.set_cons_zero, List.set_cons_succ, List.getElem_toArray, List.getElem_cons_zero, List.getElem_cons_succ]
  refine wpAnyE_take (i := 4) (v := ?_) rfl (by kernel_rfl) (by kernel_rfl) (by kernel_rfl) (by kernel_rfl) (fun _ _ _ h => h) (Or.inl ⟨by rfl, ?_⟩) hSS ?_
  rotate_left
  · intro w hSw
    obtain ⟨k0, k1, k8, ka⟩ := hSw
    go_simp
    all_goals with_reducible rfl
  simp only [Act.put, List.setIfInBounds_toArray, List.set_cons_zero, List.set_cons_succ, List.getElem_toArray, List.getElem_cons_zero, List.getElem_cons_succ]
  refine wpAnyE_take (i := 5) (v := ?_) rfl (by kernel_rfl) (by kernel_rfl) (by kernel_rfl) (by kernel_rfl) (fun _ _ _ h => h) (Or.inl ⟨by rfl, ?_⟩) hSS ?_
  rotate_left
  · intro w hSw
    obtain ⟨k0, k1, k8, ka⟩ := hSw
    go_simp
    all_goals with_reducible rfl
  simp only [Act.put, List.setIfInBounds_toArray, List.set_cons_zero, List.set_cons_succ, List.getElem_toArray, List.getElem_cons_zero, List.getElem_cons_succ]
  refine wpAnyE_take (i := 7) (v := ?_) rfl (by kernel_rfl) (by kernel_rfl) (by kernel_rfl) (by kernel_rfl) (fun _ _ _ h => h) (Or.inl ⟨by rfl, ?_⟩) hSS ?_
  rotate_left
  · intro w hSw
    obtain ⟨k0, k1, k8, ka⟩ := hSw
    go_simp
    all_goals with_reducible rfl
  simp only [Act.put, List.setIfInBounds_toArray, List.set_cons_zero, List.set_cons_succ, List.getElem_toArray, List.getElem_cons_zero, List.getElem_cons_succ]
  refine wpAnyE_take (i := 8) (v := ?_) rfl (by kernel_rfl) (by kernel_rfl) (by kernel_rfl) (by kernel_rfl) (fun _ _ _ h => h) (Or.inl ⟨by rfl, ?_⟩) hSS ?_
  rotate_left
  · intro w hSw
    obtain ⟨k0, k1, k8, ka⟩ := hSw
    go_simp
    all_goals with_reducible rfl
  simp only [Act.put, List.setIfInBounds_toArray, List.set_cons_zero, List.set_cons_succ, List.getElem_toArray, List.getElem_cons_zero, List.getElem_cons_succ]
  refine wpAnyE_take (i := 9) (v := ?_) rfl (by kernel_rfl) (by kernel_rfl) (by kernel_rfl) (by kernel_rfl) (fun _ _ _ h => h) (Or.inl ⟨by rfl, ?_⟩) hSS ?_
  rotate_left
  · intro w hSw
    obtain ⟨k0, k1, k8, ka⟩ := hSw
    go_simp
    all_goals with_reducible rfl
  simp only [Act.put, List.setIfInBounds_toArray, List.set_cons_zero, List.set_cons_succ, List.getElem_toArray, List.getElem_cons_zero, List.getElem_cons_succ]
  refine wpAnyE_take (i := 10) (v := ?_) rfl (by kernel_rfl) (by kernel_rfl) (by kernel_rfl) (by kernel_rfl) (fun _ _ _ h => h) (Or.inl ⟨by rfl, ?_⟩) hSS ?_
  rotate_left
  · intro w hSw
    obtain ⟨k0, k1, k8, ka⟩ := hSw
    go_simp
    all_goals with_reducible rfl
  simp only [Act.put, List.setIfInBounds_toArray, List.set_cons_zero, List.set_cons_succ, List.getElem_toArray, List.getElem_cons_zero, List.getElem_cons_succ]
  refine wpAnyE_take (i := 11) (v := ?_) rfl (by kernel_rfl) (by kernel_rfl) (by kernel_rfl) (by kernel_rfl) (fun _ _ _ h => h) (Or.inl ⟨by rfl, ?_⟩) hSS ?_
  rotate_left
  · intro w hSw
    obtain ⟨k0, k1, k8, ka⟩ := hSw
    go_simp
    all_goals with_reducible rfl
  simp only [Act.put, List.setIfInBounds_toArray, List.set_cons_zero, List.set_cons_succ, List.getElem_toArray, List.getElem_cons_zero, List.getElem_cons_succ]
  refine wpAnyE_take (i := 12) (v := ?_) rfl (by kernel_rfl) (by kernel_rfl) (by kernel_rfl) (by kernel_rfl) (fun _ _ _ h => h) (Or.inl ⟨by rfl, ?_⟩) hSS ?_
  rotate_left
  · intro w hSw
    obtain ⟨k0, k1, k8, ka⟩ := hSw
    go_simp
    all_goals with_reducible rfl
  simp only [Act.put, List.setIfInBounds_toArray, List.set_cons_zero, List.set_cons_succ, List.getElem_toArray, List.getElem_cons_zero, List.getElem_cons_succ]
  refine wpAnyE_take (i := 13) (v := ?_) rfl (by kernel_rfl) (by kernel_rfl) (by kernel_rfl) (by kernel_rfl) (fun _ _ _ h => h) (Or.inl ⟨by rfl, ?_⟩) hSS ?_
  rotate_left
  · intro w hSw
    obtain ⟨k0, k1, k8, ka⟩ := hSw
    go_simp
    all_goals with_reducible rfl
  simp only [Act.put, List.setIfInBounds_toArray, List.set_cons_zero, List.set_cons_succ, List.getElem_toArray, List.getElem_cons_zero, List.getElem_cons_succ]
  refine wpAnyE_take (i := 14) (v := ?_) rfl (by kernel_rfl) (by kernel_rfl) (by kernel_rfl) (by kernel_rfl) (fun _ _ _ h => h) (Or.inl ⟨by rfl, ?_⟩) hSS ?_
  rotate_left
  · intro w hSw
    obtain ⟨k0, k1, k8, ka⟩ := hSw
    go_simp
    all_goals with_reducible rfl
  simp only [Act.put, List.setIfInBounds_toArray, List.set_cons_zero, List.set_cons_succ, List.getElem_toArray, List.getElem_cons_zero, List.getElem_cons_succ]
  refine wpAnyE_take (i := 15) (v := ?_) rfl (by kernel_rfl) (by kernel_rfl) (by kernel_rfl) (by kernel_rfl) (fun _ _ _ h => h) (Or.inl ⟨by rfl, ?_⟩) hSS ?_
  rotate_left
  · intro w hSw
    obtain ⟨k0, k1, k8, ka⟩ := hSw
    go_simp
    all_goals with_reducible rfl
  simp only [Act.put, List.setIfInBounds_toArray, List.set_cons_zero, List.set_cons_succ, List.getElem_toArray, List.getElem_cons_zero, List.getElem_cons_succ]
  refine wpAnyE_one (i := 6) (by kernel_rfl) rfl ?_
  change wpList _ _ (Exit.then _ _) [_] _ _
  try simp only [List.setIfInBounds_toArray, List.set_cons_zero, List.set_cons_succ, List.getElem_toArray, List.getElem_cons_zero, List.getElem_cons_succ]
  go_wp2_with (go_at_call 53; refine (HF.out _ ho2.sp.bt).mono ?_; rintro e w3 ⟨rfl, hT3, hC3⟩)
  have ho3 := ho2.turnB hT3 hC3
  have hSS := (fun (h : _ ∧ _ ∧ _) => And.intro h.1.1 (And.intro h.1.2.1 (And.intro h.1.2.2 h.2.1.2))) ho3.cells
  refine ⟨fun _ => hSS, ?_⟩
  try simp only [List.setIfInBounds_toArray, List.set_cons_zero, List.set_cons_succ, List.getElem_toArray, List.getElem_cons_zero, List.getElem_cons_succ]
  refine wpAnyE_one (i := 16) (by kernel_rfl) rfl ?_
  change wpList _ _ (Exit.then _ _) [_] _ _
  try simp only [List.setIfInBounds_toArray, List.set_cons_zero, List.set_cons_succ, List.getElem_toArray, List.getElem_cons_zero, List.getElem_cons_succ]
  go_wp2_with (go_at_call 139; refine (HS.out _ ho3.sp.rb ho3.sp.rk ⟨ho3.sp.ne.1.2.2.1, ho3.sp.ne.1.2.2.2⟩).mono ?_; rintro e w4 ⟨rfl, hR4, hK4, hC4⟩)
  have ho4 := ho3.turnR hR4 hK4 hC4
  have hSS := (fun (h : _ ∧ _ ∧ _) => And.intro h.1.1 (And.intro h.1.2.1 (And.intro h.1.2.2 h.2.1.2))) ho4.cells
  refine ⟨fun _ => hSS, ?_⟩
  try simp only [List.setIfInBounds_toArray, List.set_cons_zero, List.set_cons_succ, List.getElem_toArray, List.getElem_cons_zero, List.getElem_cons_succ]
  refine wpAnyE_one (i := 17) (by kernel_rfl) rfl ?_
  change wpList _ _ (Exit.then _ _) [_] _ _
  try simp only [List.setIfInBounds_toArray, List.set_cons_zero, List.set_cons_succ, List.getElem_toArray, List.getElem_cons_zero, List.getElem_cons_succ]
  go_wp2_with fail
  refine ⟨fun _ => hSS, ?_⟩
  try simp only [List.setIfInBounds_toArray, List.set_cons_zero, List.set_cons_succ, List.getElem_toArray, List.getElem_cons_zero, List.getElem_cons_succ]
  refine wpAnyE_one (i := 18) (by kernel_rfl) rfl ?_
  change wpList _ _ (Exit.then _ _) [_] _ _
  try simp only [List.setIfInBounds_toArray, List.set_cons_zero, List.set_cons_succ, List.getElem_toArray, List.getElem_cons_zero, List.getElem_cons_succ]
  go_wp2_with fail
  refine ⟨fun _ => hSS, ?_⟩
  try simp only [List.setIfInBounds_toArray, List.set_cons_zero, List.set_cons_succ, List.getElem_toArray, List.getElem_cons_zero, List.getElem_cons_succ]
  refine wpAnyE_end (by kernel_rfl) ?_
  go_wp2_with fail
  go_ret
  exact ⟨rfl, b, B', d', HB'.out.more (by omega), ho4.sp⟩
end Go.Proofs.Ythkppkecclnlnaa
namespace Go.Proofs.Ythkppkecclnlnaa
set_option linter.unusedVariables false
set_option linter.unusedSimpArgs false
open Go.RowKit

set_option maxRecDepth 100000 in
set_option maxHeartbeats 2000000 in
theorem step12_next (w : World) (b c bb rb gb n N : Nat) (a : Int) (B : Bt) (d : Dk) (W : World) (h : BP w b c bb rb gb n B d B d W) (hI : BI B d N) (hN : N ≤ 500000) (hn : 256 ≤ n) :
    Calls Try.prog 81 #[.pointer (some ⟨bb, 0, none⟩), .agg #[.int .i64 1, .int .i64 a]] W fun e w' => BRes w c bb rb gb n N e w' := by
  obtain ⟨k, hk⟩ : ∃ k : Int, 1 = k := ⟨_, rfl⟩
  rw [hk]
  have HN := Lib.hid hN
  have HNN := Lib.hid hn
  have HO0 : Hid (BO w b c bb rb gb n W.heap.size k a B d B d (W.alloc (.cells #[.int .i64 k, .int .i64 a] 141))) := by
    have h1 := blk_lt h.bt.boot; have h2 := blk_lt h.bt.disk.1; have h3 := blk_lt h.box; have h4 := h.rk.lt
    exact ⟨h.below ((Below.refl _ _).alloc (Nat.le_refl _) _), blk_new W _, by omega, by omega, by omega, by omega, by omega⟩
  have HI := Lib.hid hI
  clear h hI hN hn
  go_enter Try.func81, Try.ntmps81
  go_upto_region 1 with fail
  generalize World.alloc W _ = W1 at *
  obtain ⟨g, hg⟩ : ∃ g, W.heap.size = g := ⟨_, rfl⟩
  rw [hg] at HO0
  (try rw [hg])
  clear hg
  obtain ⟨⟨p0, p1, p8⟩, ⟨q0, q1⟩, _⟩ := HO0.out.cells
  subst hk
  go_wp2_with fail
  go_loopw [5] (fun iv wr => ∃ (i : Nat) (B : Bt) (d : Dk), iv = .int .i64 i ∧ i ≤ 100 ∧ Hid (BI B d (N + i)) ∧ Hid (BO w b c bb rb gb n g 1 a B d B d wr)) (fun iv _ => 100 - (intOf iv).toNat)
  case atStart => exact ⟨0, B, d, rfl, by omega, HI.out, HO0.out⟩
  case round =>
    clear p0 p1 p8 q0 q1 HO0 HI
    obtain ⟨i, B, d, rfl, hi, HI, HO⟩ := hrel
    obtain ⟨⟨p0, p1, p8⟩, ⟨q0, q1⟩, _⟩ := HO.out.cells
    by_cases hlt : (i : Int) < a ∧ i < 100
    · obtain ⟨l1, l2⟩ := hlt
      have l3 : (i : Int) < 100 := by omega
      have HB' := Lib.hid HI.out.next
      have HF := Lib.hid (fun w (h : BtAt w b c B d) => bnext_F b c B d (N + i) w h HI.out (by have := HN.out; omega))
      have HS := Lib.hid (fun w (h : RbAt w bb 2 B) (k : Rk w rb 0 gb n d) (hne : bb ≠ rb ∧ bb ≠ gb) => rnext_F bb 2 rb 0 gb n B d (N + i) w h k hne HNN.out HI.out (by have := HN.out; omega))
      obtain ⟨R, hR⟩ : ∃ R, nxF B d = R := ⟨_, rfl⟩
      rw [hR] at HB' HF HS
      obtain ⟨rv, er, B', d'⟩ := R
      dsimp only at HB' HF HS
      clear hR
      go_wp2_with (go_at_call 50; refine (HF.out _ HO.out.sp.bt).mono ?_; rintro e w3 ⟨rfl, hT3, hC3⟩)
      have ho3 := HO.out.turnB hT3 hC3
      refine wp_region_early (fun w' => w'.cell? ⟨bb, 0, none⟩ = some (.pointer (some ⟨b, 0, none⟩)) ∧ w'.cell? ⟨bb, 1, none⟩ = some (.pointer (some ⟨c, 0, none⟩)) ∧ w'.cell? ⟨bb, 8, none⟩ = some (.pointer (some ⟨rb, 0, none⟩)) ∧ w'.cell? ⟨g, 1, none⟩ = some (.int .i64 a)) (fun _ => false) (by kernel_rfl) ?_
      simp only [List.size_toArray, List.length_cons, List.length_nil, Nat.reduceAdd, Array.replicate_succ, Array.replicate_zero, List.push_toArray, List.nil_append, List.cons_append]
      have ho3 := ho3.drew
      generalize w3.drew = W4 at *
      have hSS := (fun (h : _ ∧ _ ∧ _) => And.intro h.1.1 (And.intro h.1.2.1 (And.intro h.1.2.2 h.2.1.2))) (ho3).cells
      refine wpAnyE_take (i := 0) (v := ?_) rfl (by kernel_rfl) (by kernel_rfl) (by kernel_rfl) (by kernel_rfl) (fun _ _ _ h => h) (Or.inl ⟨by rfl, ?_⟩) hSS ?_
      rotate_left
      · intro w hSw
        obtain ⟨k0, k1, k8, ka⟩ := hSw
        go_simp
        all_goals with_reducible rfl
      simp only [Act.put, List.setIfInBounds_toArray, List.set_cons_zero, List.set_cons_succ, List.getElem_toArray, List.getElem_cons_zero, List.getElem_cons_succ]
      refine wpAnyE_take (i := 1) (v := ?_) rfl (by kernel_rfl) (by kernel_rfl) (by kernel_rfl) (by kernel_rfl) (fun _ _ _ h => h) (Or.inl ⟨by rfl, ?_⟩) hSS ?_
      rotate_left
      · intro w hSw
        obtain ⟨k0, k1, k8, ka⟩ := hSw
        go_simp
        all_goals with_reducible rfl
      simp only [Act.put, List.setIfInBounds_toArray, List.set_cons_zero, List.set_cons_succ, List.getElem_toArray, List.getElem_cons_zero, List.getElem_cons_succ]
      refine wpAnyE_take (i := 2) (v := ?_) rfl (by kernel_rfl) (by kernel_rfl) (by kernel_rfl) (by kernel_rfl) (fun _ _ _ h => h) (Or.inl ⟨by rfl, ?_⟩) hSS ?_
      rotate_left
      · intro w hSw
        obtain ⟨k0, k1, k8, ka⟩ := hSw
        go_simp
        all_goals with_reducible rfl
      simp only [Act.put, List.setIfInBounds_toArray, List.set_cons_zero, List.set_cons_succ, List.getElem_toArray, List.getElem_cons_zero, List.getElem_cons_succ]
      refine wpAnyE_take (i := 3) (v := ?_) rfl (by kernel_rfl) (by kernel_rfl) (by kernel_rfl) (by kernel_rfl) (fun _ _ _ h => h) (Or.inl ⟨by rfl, ?_⟩) hSS ?_
      rotate_left
      · intro w hSw
        obtain ⟨k0, k1, k8, ka⟩ := hSw
        go_simp
        all_goals with_reducible rfl
      simp only [Act.put, List.setIfInBounds_toArray, List.set_cons_zero, List.set_cons_succ, List.getElem_toArray, List.getElem_cons_zero, List.getElem_cons_succ]
      refine wpAnyE_take (i := 4) (v := ?_) rfl (by kernel_rfl) (by kernel_rfl) (by kernel_rfl) (by kernel_rfl) (fun _ _ _ h => h) (Or.inl ⟨by rfl, ?_⟩) hSS ?_
      rotate_left
      · intro w hSw
        obtain ⟨k0, k1, k8, ka⟩ := hSw
        go_simp
        all_goals with_reducible rfl
      simp only [Act.put, List.setIfInBounds_toArray, List.set_cons_zero, List.set_cons_succ, List.getElem_toArray, List.getElem_cons_zero, List.getElem_cons_succ]
      refine wpAnyE_take (i := 5) (v := ?_) rfl (by kernel_rfl) (by kernel_rfl) (by kernel_rfl) (by kernel_rfl) (fun _ _ _ h => h) (Or.inl ⟨by rfl, ?_⟩) hSS ?_
      rotate_left
      · intro w hSw
        obtain ⟨k0, k1, k8, ka⟩ := hSw
        go_simp
        all_goals with_reducible rfl
      simp only [Act.put, List.setIfInBounds_toArray, List.set_cons_zero, List.set_cons_succ, List.getElem_toArray, List.getElem_cons_zero, List.getElem_cons_succ]
      refine wpAnyE_take (i := 6) (v := ?_) rfl (by kernel_rfl) (by kernel_rfl) (by kernel_rfl) (by kernel_rfl) (fun _ _ _ h => h) (Or.inl ⟨by rfl, ?_⟩) hSS ?_
      rotate_left
      · intro w hSw
        obtain ⟨k0, k1, k8, ka⟩ := hSw
        go_simp
        all_goals with_reducible rfl
      simp only [Act.put, List.setIfInBounds_toArray, List.set_cons_zero, List.set_cons_succ, List.getElem_toArray, List.getElem_cons_zero, List.getElem_cons_succ]
      refine wpAnyE_one (i := 7) (by kernel_rfl) rfl ?_
      change wpList _ _ (Exit.then _ _) [_] _ _
      try simp only [List.setIfInBounds_toArray, List.set_cons_zero, List.set_cons_succ, List.getElem_toArray, List.getElem_cons_zero, List.getElem_cons_succ]
      go_wp2_with (go_at_call 138; refine (HS.out _ ho3.sp.rb ho3.sp.rk ⟨ho3.sp.ne.1.2.2.1, ho3.sp.ne.1.2.2.2⟩).mono ?_; rintro e w5 ⟨rfl, hR5, hK5, hC5⟩)
      have ho5 := ho3.turnR hR5 hK5 hC5
      have hSS := (fun (h : _ ∧ _ ∧ _) => And.intro h.1.1 (And.intro h.1.2.1 (And.intro h.1.2.2 h.2.1.2))) (ho5).cells
      refine ⟨fun _ => hSS, ?_⟩
      try simp only [List.setIfInBounds_toArray, List.set_cons_zero, List.set_cons_succ, List.getElem_toArray, List.getElem_cons_zero, List.getElem_cons_succ]
      refine wpAnyE_take (i := 8) (v := ?_) rfl (by kernel_rfl) (by kernel_rfl) (by kernel_rfl) (by kernel_rfl) (fun _ _ _ h => h) (Or.inl ⟨by rfl, ?_⟩) hSS ?_
      rotate_left
      · intro w hSw
        obtain ⟨k0, k1, k8, ka⟩ := hSw
        go_simp
        all_goals with_reducible rfl
      simp only [Act.put, List.setIfInBounds_toArray, List.set_cons_zero, List.set_cons_succ, List.getElem_toArray, List.getElem_cons_zero, List.getElem_cons_succ]
      refine wpAnyE_take (i := 9) (v := ?_) rfl (by kernel_rfl) (by kernel_rfl) (by kernel_rfl) (by kernel_rfl) (fun _ _ _ h => h) (Or.inl ⟨by rfl, ?_⟩) hSS ?_
      rotate_left
      · intro w hSw
        obtain ⟨k0, k1, k8, ka⟩ := hSw
        go_simp
        all_goals with_reducible rfl
      simp only [Act.put, List.setIfInBounds_toArray, List.set_cons_zero, List.set_cons_succ, List.getElem_toArray, List.getElem_cons_zero, List.getElem_cons_succ]
      refine wpAnyE_take (i := 10) (v := ?_) rfl (by kernel_rfl) (by kernel_rfl) (by kernel_rfl) (by kernel_rfl) (fun _ _ _ h => h) (Or.inl ⟨by rfl, ?_⟩) hSS ?_
      rotate_left
      · intro w hSw
        obtain ⟨k0, k1, k8, ka⟩ := hSw
        go_simp
        all_goals with_reducible rfl
      simp only [Act.put, List.setIfInBounds_toArray, List.set_cons_zero, List.set_cons_succ, List.getElem_toArray, List.getElem_cons_zero, List.getElem_cons_succ]
      refine wpAnyE_take (i := 11) (v := ?_) rfl (by kernel_rfl) (by kernel_rfl) (by kernel_rfl) (by kernel_rfl) (fun _ _ _ h => h) (Or.inl ⟨by rfl, ?_⟩) hSS ?_
      rotate_left
      · intro w hSw
        obtain ⟨k0, k1, k8, ka⟩ := hSw
        go_simp
        all_goals with_reducible rfl
      simp only [Act.put, List.setIfInBounds_toArray, List.set_cons_zero, List.set_cons_succ, List.getElem_toArray, List.getElem_cons_zero, List.getElem_cons_succ]
      refine wpAnyE_take (i := 12) (v := ?_) rfl (by kernel_rfl) (by kernel_rfl) (by kernel_rfl) (by kernel_rfl) (fun _ _ _ h => h) (Or.inl ⟨by rfl, ?_⟩) hSS ?_
      rotate_left
      · intro w hSw
        obtain ⟨k0, k1, k8, ka⟩ := hSw
        go_simp
        all_goals with_reducible rfl
      simp only [Act.put, List.setIfInBounds_toArray, List.set_cons_zero, List.set_cons_succ, List.getElem_toArray, List.getElem_cons_zero, List.getElem_cons_succ]
      refine wpAnyE_end (by kernel_rfl) ?_
      clear HO HI HF HS hSS p0 p1 p8 q0 q1
      go_wp2_with fail
      go_roundw
      case rel => exact ⟨i + 1, B', d', by go_num, by omega, HB'.out, ho5⟩
      case measure => simp [intOf]; omega
    · by_cases l1 : (i : Int) < a
      · have l3 : ¬ (i : Int) < 100 := by omega
        clear hlt
        go_wp2_with fail
        go_ret
        exact ⟨rfl, b, B, d, HI.out.more (by omega), HO.out.sp⟩
      · clear hlt
        go_wp2_with fail
        go_ret
        exact ⟨rfl, b, B, d, HI.out.more (by omega), HO.out.sp⟩
end Go.Proofs.Ythkppkecclnlnaa
namespace Go.Proofs.Ythkppkecclnlnaa
set_option linter.unusedVariables false
set_option linter.unusedSimpArgs false
open Go.RowKit

theorem BP.newB {w W X : World} {b b' c bb rb gb n : Nat} {B A B' : Bt} {d e : Dk} (h : BP w b c bb rb gb n B d A e W) (hT : BtAt W b' c B' d) (hb : w.heap.size ≤ b') (h1 : bb ≠ b') (h2 : rb ≠ b') (h3 : gb ≠ b')
    (hx : X.heap[bb]? = some (.cells (bbC b' c rb B') 138 (0, 0))) (ho : ∀ k, k ≠ bb → X.heap[k]? = W.heap[k]?) (hl : Below w.heap.size w X) : BP w b' c bb rb gb n B' d B' e X := by
  obtain ⟨⟨a1, a2, a3, a4⟩, ⟨a5, a6⟩, ⟨a7, a8⟩⟩ := h.ne
  exact ⟨⟨(ho _ (Ne.symm h1)).trans hT.boot, ⟨(ho _ (Ne.symm a2)).trans hT.disk.1, hT.disk.2⟩, hT.ne⟩, hx, h.rk.heap (ho _ (Ne.symm a3)) (ho _ (Ne.symm a4)), hl, ⟨hb, h.far.2⟩, ⟨h1, a2, a3, a4⟩, ⟨h2, a6⟩, ⟨h3, a8⟩⟩
theorem blk_other {W : World} {k : Nat} (p : Addr) (v : Value) (h : k ≠ p.block) : (W.setCell p v).heap[k]? = W.heap[k]? := Below.heap_setCell W p v k h
set_option maxRecDepth 100000 in
set_option maxHeartbeats 2000000 in
theorem step12_open (w : World) (b c bb rb gb n N : Nat) (a : Int) (B : Bt) (d : Dk) (W : World) (h : BP w b c bb rb gb n B d B d W) (hI : BI B d N) (hN : N ≤ 500000) (hn : 256 ≤ n) :
    Calls Try.prog 81 #[.pointer (some ⟨bb, 0, none⟩), .agg #[.int .i64 3, .int .i64 a]] W fun e w' => BRes w c bb rb gb n N e w' := by
  obtain ⟨k, hk⟩ : ∃ k : Int, 3 = k := ⟨_, rfl⟩
  rw [hk]
  have HN := Lib.hid hN
  have HNN := Lib.hid hn
  have HO0 : Hid (BO w b c bb rb gb n W.heap.size k a B d B d (W.alloc (.cells #[.int .i64 k, .int .i64 a] 141))) := by
    have h1 := blk_lt h.bt.boot; have h2 := blk_lt h.bt.disk.1; have h3 := blk_lt h.box; have h4 := h.rk.lt
    exact ⟨h.below ((Below.refl _ _).alloc (Nat.le_refl _) _), blk_new W _, by omega, by omega, by omega, by omega, by omega⟩
  have HI := Lib.hid hI
  clear h hI hN hn
  go_enter Try.func81, Try.ntmps81
  go_upto_region 1 with fail
  generalize World.alloc W _ = W1 at *
  obtain ⟨g, hg⟩ : ∃ g, W.heap.size = g := ⟨_, rfl⟩
  rw [hg] at HO0
  (try rw [hg])
  clear hg
  obtain ⟨⟨p0, p1, p8⟩, ⟨q0, q1⟩, _⟩ := HO0.out.cells
  subst hk
  have HB' := Lib.hid HI.out.dk.open
  have HF := Lib.hid (fun w (h : DkAt w c d) => bopen_F c d N w h HI.out.dk (by have := HN.out; omega))
  have HS := Lib.hid (fun w (h : Rk w rb 0 gb n d) => ropen_F rb 0 gb n d N w h HNN.out HI.out.dk (by have := HN.out; omega))
  obtain ⟨R, hR⟩ : ∃ R, opF d = R := ⟨_, rfl⟩
  rw [hR] at HB' HF HS
  obtain ⟨rv, er, B', d'⟩ := R
  dsimp only at HB' HF HS
  clear hR
  go_wp2_with fail
  refine (HF.out _ HO0.out.sp.bt.disk).mono ?_
  rintro e w3 ⟨h0, h1, hg3⟩
  dsimp only at h0 h1
  by_cases her : er = 0
  · obtain ⟨b', rfl, hb', hT3⟩ := h0 her
    subst her
    clear h0 h1
    have ho3 := HO0.out.turnD hT3.disk hg3
    obtain ⟨⟨p0, p1, p8⟩, ⟨q0, q1⟩, _⟩ := ho3.cells
    go_wp2_with fail
    refine (HS.out _ ho3.sp.rk).mono ?_
    rintro e w4 ⟨k0, _, hC4⟩
    obtain ⟨rfl, hK4⟩ := k0 rfl
    have ho4 := ho3.turnK hK4 hC4
    unfold rbV rbC
    have hal : Below w4.heap.size w4 (w4.alloc (.cells #[.int .i64 (B'.life : Int), .int .i64 (B'.kround : Int), .int .i64 (B'.ktag : Int), .int .i64 (B'.life : Int), .int .i64 (B'.round : Int), .int .i64 (B'.tag : Int)] 133)) := (Below.refl _ _).alloc (Nat.le_refl _) _
    have HX := Lib.hid (blk_new w4 (.cells #[.int .i64 (B'.life : Int), .int .i64 (B'.kround : Int), .int .i64 (B'.ktag : Int), .int .i64 (B'.life : Int), .int .i64 (B'.round : Int), .int .i64 (B'.tag : Int)] 133))
    have hbs : W1.heap.size ≤ b' := hb'
    have hbx : b' ≠ rb ∧ b' ≠ gb ∧ b' ≠ bb ∧ w.heap.size ≤ b' := by
      have q1 := HO0.out.sp.rk.lt; have q2 := blk_lt HO0.out.sp.box; have q3 := HO0.out.sp.low.size
      exact ⟨by omega, by omega, by omega, by omega⟩
    have hT5 : BtAt (w4.alloc (.cells #[.int .i64 (B'.life : Int), .int .i64 (B'.kround : Int), .int .i64 (B'.ktag : Int), .int .i64 (B'.life : Int), .int .i64 (B'.round : Int), .int .i64 (B'.tag : Int)] 133)) b' c B' d' :=
      ((⟨hC4.blk hT3.boot hbx.1 hbx.2.1, ho4.sp.bt.disk, hT3.ne⟩ : BtAt w4 b' c B' d')).below hal
    have ho5 := ho4.below hal
    have HGB : Hid (bb ≠ w4.heap.size) := by have := blk_lt ho4.sp.box; show bb ≠ _; omega
    have HO5 := Lib.hid ho5
    have HT5 := Lib.hid hT5
    have HBX := Lib.hid hbx
    clear ho5 hT5 hbx hal hbs hb' hT3 hC4 hK4 ho4
    go_upto_region 18 with fail
    generalize World.alloc w4 _ = W5 at *
    obtain ⟨g2, hg2⟩ : ∃ g2, w4.heap.size = g2 := ⟨_, rfl⟩
    rw [hg2] at HX HGB
    (try rw [hg2])
    clear hg2
    refine wp_region_early (fun w' => w'.cell? ⟨g2, 0, none⟩ = some (.int .i64 (B'.life : Int)) ∧ w'.cell? ⟨g2, 1, none⟩ = some (.int .i64 (B'.kround : Int)) ∧ w'.cell? ⟨g2, 2, none⟩ = some (.int .i64 (B'.ktag : Int)) ∧ w'.cell? ⟨g2, 3, none⟩ = some (.int .i64 (B'.life : Int)) ∧ w'.cell? ⟨g2, 4, none⟩ = some (.int .i64 (B'.round : Int)) ∧ w'.cell? ⟨g2, 5, none⟩ = some (.int .i64 (B'.tag : Int))) (fun _ => false) (by kernel_rfl) ?_
    simp only [List.size_toArray, List.length_cons, List.length_nil, Nat.reduceAdd, Array.replicate_succ, Array.replicate_zero, List.push_toArray, List.nil_append, List.cons_append]
    have hdr : Below W5.heap.size W5 W5.drew := (Below.refl _ _).drew
    have HO6 := Lib.hid (HO5.out.below hdr)
    have HT6 := Lib.hid (HT5.out.below hdr)
    have HX6 := Lib.hid (blk_below' hdr HX.out)
    clear HX HT5 HO5 hdr
    generalize W5.drew = W6 at *
    have hSS := (blk6 HX6.out).1
    refine wpAnyE_take (i := 0) (v := ?_) rfl (by kernel_rfl) (by kernel_rfl) (by kernel_rfl) (by kernel_rfl) (fun _ _ _ h => h) (Or.inl ⟨by rfl, ?_⟩) hSS ?_
    rotate_left
    · intro w hSw
      obtain ⟨k0, k1, k2, k3, k4, k5⟩ := hSw
      go_simp
      all_goals with_reducible rfl
    simp only [Act.put, List.setIfInBounds_toArray, List.set_cons_zero, List.set_cons_succ, List.getElem_toArray, List.getElem_cons_zero, List.getElem_cons_succ]
    refine wpAnyE_take (i := 1) (v := ?_) rfl (by kernel_rfl) (by kernel_rfl) (by kernel_rfl) (by kernel_rfl) (fun _ _ _ h => h) (Or.inl ⟨by rfl, ?_⟩) hSS ?_
    rotate_left
    · intro w hSw
      obtain ⟨k0, k1, k2, k3, k4, k5⟩ := hSw
      go_simp
      all_goals with_reducible rfl
    simp only [Act.put, List.setIfInBounds_toArray, List.set_cons_zero, List.set_cons_succ, List.getElem_toArray, List.getElem_cons_zero, List.getElem_cons_succ]
    refine wpAnyE_take (i := 2) (v := ?_) rfl (by kernel_rfl) (by kernel_rfl) (by kernel_rfl) (by kernel_rfl) (fun _ _ _ h => h) (Or.inl ⟨by rfl, ?_⟩) hSS ?_
    rotate_left
    · intro w hSw
      obtain ⟨k0, k1, k2, k3, k4, k5⟩ := hSw
      go_simp
      all_goals with_reducible rfl
    simp only [Act.put, List.setIfInBounds_toArray, List.set_cons_zero, List.set_cons_succ, List.getElem_toArray, List.getElem_cons_zero, List.getElem_cons_succ]
    refine wpAnyE_take (i := 3) (v := ?_) rfl (by kernel_rfl) (by kernel_rfl) (by kernel_rfl) (by kernel_rfl) (fun _ _ _ h => h) (Or.inl ⟨by rfl, ?_⟩) hSS ?_
    rotate_left
    · intro w hSw
      obtain ⟨k0, k1, k2, k3, k4, k5⟩ := hSw
      go_simp
      all_goals with_reducible rfl
    simp only [Act.put, List.setIfInBounds_toArray, List.set_cons_zero, List.set_cons_succ, List.getElem_toArray, List.getElem_cons_zero, List.getElem_cons_succ]
    refine wpAnyE_take (i := 4) (v := ?_) rfl (by kernel_rfl) (by kernel_rfl) (by kernel_rfl) (by kernel_rfl) (fun _ _ _ h => h) (Or.inl ⟨by rfl, ?_⟩) hSS ?_
    rotate_left
    · intro w hSw
      obtain ⟨k0, k1, k2, k3, k4, k5⟩ := hSw
      go_simp
      all_goals with_reducible rfl
    simp only [Act.put, List.setIfInBounds_toArray, List.set_cons_zero, List.set_cons_succ, List.getElem_toArray, List.getElem_cons_zero, List.getElem_cons_succ]
    refine wpAnyE_take (i := 5) (v := ?_) rfl (by kernel_rfl) (by kernel_rfl) (by kernel_rfl) (by kernel_rfl) (fun _ _ _ h => h) (Or.inl ⟨by rfl, ?_⟩) hSS ?_
    rotate_left
    · intro w hSw
      obtain ⟨k0, k1, k2, k3, k4, k5⟩ := hSw
      go_simp
      all_goals with_reducible rfl
    simp only [Act.put, List.setIfInBounds_toArray, List.set_cons_zero, List.set_cons_succ, List.getElem_toArray, List.getElem_cons_zero, List.getElem_cons_succ]
    have z0 : W6.cell? ⟨bb, 0, none⟩ = some (.pointer (some ⟨b, 0, none⟩)) := HO6.out.cells.1.1
    have zf0 : W6.frozen? ⟨bb, 0, none⟩ = false := blk_free HO6.out.sp.box 0
    refine wpAnyE_one (i := 6) (by kernel_rfl) rfl ?_
    change wpList _ _ (Exit.then _ _) [_] _ _
    try simp only [List.setIfInBounds_toArray, List.set_cons_zero, List.set_cons_succ, List.getElem_toArray, List.getElem_cons_zero, List.getElem_cons_succ]
    go_wp2_with fail
    have HX7 := Lib.hid (blk_set HX6.out ⟨bb, 0, none⟩ (.pointer (some ⟨b', 0, none⟩)) (fun e => HGB.out e.symm))
    have hSS := (blk6 HX7.out).1
    refine ⟨fun _ => hSS, ?_⟩
    try simp only [List.setIfInBounds_toArray, List.set_cons_zero, List.set_cons_succ, List.getElem_toArray, List.getElem_cons_zero, List.getElem_cons_succ]
    refine wpAnyE_take (i := 7) (v := ?_) rfl (by kernel_rfl) (by kernel_rfl) (by kernel_rfl) (by kernel_rfl) (fun _ _ _ h => h) (Or.inl ⟨by rfl, ?_⟩) hSS ?_
    rotate_left
    · intro w hSw
      obtain ⟨k0, k1, k2, k3, k4, k5⟩ := hSw
      go_simp
      all_goals with_reducible rfl
    simp only [Act.put, List.setIfInBounds_toArray, List.set_cons_zero, List.set_cons_succ, List.getElem_toArray, List.getElem_cons_zero, List.getElem_cons_succ]
    refine wpAnyE_take (i := 8) (v := ?_) rfl (by kernel_rfl) (by kernel_rfl) (by kernel_rfl) (by kernel_rfl) (fun _ _ _ h => h) (Or.inl ⟨by rfl, ?_⟩) hSS ?_
    rotate_left
    · intro w hSw
      obtain ⟨k0, k1, k2, k3, k4, k5⟩ := hSw
      go_simp
      all_goals with_reducible rfl
    simp only [Act.put, List.setIfInBounds_toArray, List.set_cons_zero, List.set_cons_succ, List.getElem_toArray, List.getElem_cons_zero, List.getElem_cons_succ]
    have HB7 := Lib.hid (blk_store HO6.out.sp.box 0 (.pointer (some ⟨b', 0, none⟩)))
    have zf2 := blk_free HB7.out 2
    have zf3 := blk_free HB7.out 3
    have zf4 := blk_free HB7.out 4
    have zf5 := blk_free HB7.out 5
    have zf6 := blk_free HB7.out 6
    have zf7 := blk_free HB7.out 7
    have zc2 := blk_cell HB7.out 2
    have zc3 := blk_cell HB7.out 3
    have zc4 := blk_cell HB7.out 4
    have zc5 := blk_cell HB7.out 5
    have zc6 := blk_cell HB7.out 6
    have zc7 := blk_cell HB7.out 7
    simp [bbC] at zc2 zc3 zc4 zc5 zc6 zc7
    obtain ⟨W7, hW7⟩ : ∃ W7, W6.setCell ⟨bb, 0, none⟩ (.pointer (some ⟨b', 0, none⟩)) = W7 := ⟨_, rfl⟩
    have HL7 : Hid (Below w.heap.size w W7 ∧ ∀ k, k ≠ bb → W7.heap[k]? = W6.heap[k]?) := by
      rw [← hW7]; exact ⟨HO6.out.sp.low.setCell HO6.out.sp.far.2.2.1 _, fun k hk => blk_other _ _ hk⟩
    rw [hW7] at HX7 HB7 hSS zc2 zc3 zc4 zc5 zc6 zc7 zf2 zf3 zf4 zf5 zf6 zf7
    rw [hW7]
    clear hW7 HX6 z0 zf0 p0 p1 p8 q0 q1
    refine wpAnyE_one (i := 9) (by kernel_rfl) rfl ?_
    change wpList _ _ (Exit.then _ _) [_] _ _
    try simp only [List.setIfInBounds_toArray, List.set_cons_zero, List.set_cons_succ, List.getElem_toArray, List.getElem_cons_zero, List.getElem_cons_succ]
    go_wp2_with fail
    obtain ⟨W8, hW8⟩ : ∃ W8, (((((W7.setCell ⟨bb, 2, none⟩ (.int .i64 (B'.life : Int))).setCell ⟨bb, 3, none⟩ (.int .i64 (B'.kround : Int))).setCell ⟨bb, 4, none⟩ (.int .i64 (B'.ktag : Int))).setCell ⟨bb, 5, none⟩ (.int .i64 (B'.life : Int))).setCell ⟨bb, 6, none⟩ (.int .i64 (B'.round : Int))).setCell ⟨bb, 7, none⟩ (.int .i64 (B'.tag : Int)) = W8 := ⟨_, rfl⟩
    have hne : g2 ≠ bb := fun e => HGB.out e.symm
    have hX8 := blk_set (blk_set (blk_set (blk_set (blk_set (blk_set HX7.out ⟨bb, 2, none⟩ (.int .i64 (B'.life : Int)) hne) ⟨bb, 3, none⟩ (.int .i64 (B'.kround : Int)) hne) ⟨bb, 4, none⟩ (.int .i64 (B'.ktag : Int)) hne) ⟨bb, 5, none⟩ (.int .i64 (B'.life : Int)) hne) ⟨bb, 6, none⟩ (.int .i64 (B'.round : Int)) hne) ⟨bb, 7, none⟩ (.int .i64 (B'.tag : Int)) hne
    have hB8 := blk_store (blk_store (blk_store (blk_store (blk_store (blk_store HB7.out 2 (.int .i64 (B'.life : Int))) 3 (.int .i64 (B'.kround : Int))) 4 (.int .i64 (B'.ktag : Int))) 5 (.int .i64 (B'.life : Int))) 6 (.int .i64 (B'.round : Int))) 7 (.int .i64 (B'.tag : Int))
    have HL8 : Hid (Below w.heap.size w W8 ∧ ∀ k, k ≠ bb → W8.heap[k]? = W6.heap[k]?) := by
      have hg := HO6.out.sp.far.2.2.1
      rw [← hW8]
      exact ⟨(((((HL7.out.1.setCell hg _).setCell hg _).setCell hg _).setCell hg _).setCell hg _).setCell hg _, fun k hk => (blk_other _ _ hk).trans ((blk_other _ _ hk).trans ((blk_other _ _ hk).trans ((blk_other _ _ hk).trans ((blk_other _ _ hk).trans ((blk_other _ _ hk).trans (HL7.out.2 k hk))))))⟩
    rw [hW8] at hX8 hB8
    rw [hW8]
    have HB8 : Hid (W8.heap[bb]? = some (.cells (bbC b' c rb B') 138 (0, 0))) := by
      show W8.heap[bb]? = _
      rw [hB8]
      simp [bbC]
    have hSS := (blk6 hX8).1
    clear hW8 hX8 hB8 zc2 zc3 zc4 zc5 zc6 zc7 zf2 zf3 zf4 zf5 zf6 zf7
    refine ⟨fun _ => hSS, ?_⟩
    try simp only [List.setIfInBounds_toArray, List.set_cons_zero, List.set_cons_succ, List.getElem_toArray, List.getElem_cons_zero, List.getElem_cons_succ]
    refine wpAnyE_end (by kernel_rfl) ?_
    clear hSS
    go_wp2_with fail
    go_ret
    exact ⟨rfl, b', B', d', HB'.out.more (by omega), HO6.out.sp.newB HT6.out HBX.out.2.2.2 (Ne.symm HBX.out.2.2.1) (Ne.symm HBX.out.1) (Ne.symm HBX.out.2.1) HB8.out HL8.out.2 HL8.out.1⟩
  · obtain ⟨rfl, hD3⟩ := h1 her
    have ho3 := HO0.out.turnD hD3 hg3
    obtain ⟨⟨p0, p1, p8⟩, ⟨q0, q1⟩, _⟩ := ho3.cells
    have her2 : (er == 0) = false := by simpa using her
    have HER := Lib.hid her
    clear h0 h1 her
    go_wp2_with fail
    refine (HS.out _ ho3.sp.rk).mono ?_
    rintro e w4 ⟨_, k1, hC4⟩
    obtain ⟨rfl, hK4⟩ := k1 HER.out
    have ho4 := ho3.turnK hK4 hC4
    unfold zB
    go_wp2_with fail
    go_ret
    exact ⟨rfl, b, B, d', BI.more (i := N + 1) ⟨HB'.out.dk, HI.out.rnd⟩ (by omega), ho4.sp.below ((Below.refl _ _).alloc (Nat.le_refl _) _)⟩
end Go.Proofs.Ythkppkecclnlnaa
namespace Go.Proofs.Ythkppkecclnlnaa
set_option linter.unusedVariables false
set_option linter.unusedSimpArgs false
open Go.RowKit

theorem on_eq (b : Nat) (d : Dk) (w : World) (h : DkAt w b d) : Calls Try.prog 28 #[.pointer (some ⟨b, 0, none⟩)] w fun e w' => e = .returned (.bool (!d.off)) ∧ w' = w := by
  obtain ⟨c0, c1, c2, c3⟩ := h.cells
  go_enter Try.func28, Try.ntmps28
  go_wp2_with fail
  go_ret
  exact ⟨rfl, rfl⟩
theorem writes_eq (b : Nat) (d : Dk) (w : World) (h : DkAt w b d) : Calls Try.prog 27 #[.pointer (some ⟨b, 0, none⟩)] w fun e w' => e = .returned (.int .i64 d.writes) ∧ w' = w := by
  obtain ⟨c0, c1, c2, c3⟩ := h.cells
  go_enter Try.func27, Try.ntmps27
  go_wp2_with fail
  go_ret
  exact ⟨rfl, rfl⟩
theorem left_eq (b : Nat) (d : Dk) (w : World) (h : DkAt w b d) : Calls Try.prog 29 #[.pointer (some ⟨b, 0, none⟩)] w fun e w' => e = .returned (.int .i64 (if d.fused then (d.fuse : Int) else -1)) ∧ w' = w := by
  obtain ⟨c0, c1, c2, c3⟩ := h.cells
  go_enter Try.func29, Try.ntmps29
  cases hf : d.fused with
  | true =>
    rw [hf] at c1
    go_wp2_with fail
    go_ret
    exact ⟨rfl, rfl⟩
  | false =>
    rw [hf] at c1
    go_wp2_with fail
    go_ret
    exact ⟨rfl, rfl⟩
end Go.Proofs.Ythkppkecclnlnaa
