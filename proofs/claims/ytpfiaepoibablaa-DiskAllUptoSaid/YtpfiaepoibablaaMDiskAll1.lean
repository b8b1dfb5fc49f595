/- Lemmas of this claim, laid one behind the other. -/
import Derived.Test.YtpfiaepoibablaaOps
import Derived.Test.YtpfiaepoibablaaMDiskAll0
import Derived.Deep.DeepCutAuto
import Derived.Test.YtpfiaepoibablaaArgs
import Derived.OpenShut
import Derived.Deep.Slices
namespace Go.Proofs.Ytpfiaepoibablaa
set_option linter.unusedVariables false
set_option linter.unusedSimpArgs false
open Go.RowKit

theorem on_eq (b : Nat) (d : Dk) (w : World) (h : DkAt w b d) : Calls Try.prog 31 #[.pointer (some ⟨b, 0, none⟩)] w fun e w' => e = .returned (.bool (!d.off)) ∧ w' = w := by
  obtain ⟨c0, c1, c2, c3⟩ := h.cells
  go_enter Try.func31, Try.ntmps31
  go_wp2_with fail
  go_ret
  exact ⟨rfl, rfl⟩
theorem writes_eq (b : Nat) (d : Dk) (w : World) (h : DkAt w b d) : Calls Try.prog 18 #[.pointer (some ⟨b, 0, none⟩)] w fun e w' => e = .returned (.int .i64 d.writes) ∧ w' = w := by
  obtain ⟨c0, c1, c2, c3⟩ := h.cells
  go_enter Try.func18, Try.ntmps18
  go_wp2_with fail
  go_ret
  exact ⟨rfl, rfl⟩
theorem left_eq (b : Nat) (d : Dk) (w : World) (h : DkAt w b d) : Calls Try.prog 19 #[.pointer (some ⟨b, 0, none⟩)] w fun e w' => e = .returned (.int .i64 (if d.fused then (d.fuse : Int) else -1)) ∧ w' = w := by
  obtain ⟨c0, c1, c2, c3⟩ := h.cells
  go_enter Try.func19, Try.ntmps19
  cases hf : d.fused with
  | true =>
    rw [hf] at c1
    go_wp2_with fail
    go_ret
    exact ⟨rfl, rfl⟩
  | false =>
    rw [hf] at c1
    go_wp2_with fail
    go_ret
    exact ⟨rfl, rfl⟩
end Go.Proofs.Ytpfiaepoibablaa
namespace Go.Proofs.Ytpfiaepoibablaa
set_option linter.unusedVariables false
set_option linter.unusedSimpArgs false
open Go.RowKit

theorem same_yes (a g : Nat) (l : List Nat) (c n : Nat) {W : World} (hl : l.length = 256) (h1 : ∀ j u, (bC ((l.drop 0).take 256))[j]? = some u → W.cell? ((⟨a, 0, none⟩ : Addr).add j) = some u) (h2 : ∀ j x : Nat, l[j]? = some x → W.cell? ⟨g, j, none⟩ = some (.int .u8 (x : Int))) :
    Calls Try.prog 25 #[.slice (some ⟨a, 0, none⟩) 256 c, .slice (some ⟨g, 0, none⟩) 256 n] W fun e w' => e = .returned (.bool true) ∧ Below W.heap.size W w' := by
  rw [List.drop_zero, List.take_of_length_le (by omega)] at h1
  refine (same_any _ _ l l W (some ⟨a, 0, none⟩) (some ⟨g, 0, none⟩) c n (by rw [hl]) (by rw [hl]) (by omega) (by omega) (fun j x hx => ⟨_, rfl, h1 j _ (by rw [bC_get, hx]; rfl)⟩) (fun j x hx => ⟨_, rfl, by rw [Addr.add_mid, Nat.zero_add]; exact h2 j x hx⟩)).mono ?_
  rintro e w' ⟨rfl, hB⟩
  exact ⟨by simp, hB⟩
theorem left_is (b : Nat) (d : Dk) (w : World) (h : DkAt w b d) : Calls Try.prog 19 #[.pointer (some ⟨b, 0, none⟩)] w fun e w' => e = .returned (.int .i64 (fuZ d)) ∧ w' = w := left_eq b d w h
theorem Dp.all {w : World} {LB K : Nat} {vb vw : Value} {L : List Ls} {o c g n : Nat} {d e : Dk} {o' c' g' n' : Nat} {d' : Dk} {W : World} (h : Dp w LB K vb vw L o c g n d e o' c' g' n' d' W) :
    W.cell? ⟨LB, o, none⟩ = some (.pointer (some ⟨c, 0, none⟩)) ∧ W.cell? ⟨LB, o + 1, none⟩ = some (.slice (some ⟨g, 0, none⟩) 256 n) ∧ W.cell? ⟨LB, o + 1 + 1, none⟩ = some (.bool e.off) ∧ W.cell? ⟨LB, o + 1 + 2, none⟩ = some (.int .i64 (fuZ e)) ∧ W.cell? ⟨LB, o + 1 + 3, none⟩ = some (.int .i64 (e.writes : Nat)) := ⟨h.x.p, h.x.rk.cells⟩
set_option maxRecDepth 100000 in
set_option maxHeartbeats 2000000 in
theorem looks_any (w : World) (LB K : Nat) (vb vw : Value) (L : List Ls) (o c g n : Nat) (d : Dk) (o' c' g' n' : Nat) (d' : Dk) (W : World) (h : Dp w LB K vb vw L o c g n d d o' c' g' n' d' W) :
    Calls Try.prog 14 #[.pointer (some ⟨LB, o, none⟩)] W fun e W' => e = .returned (.bool true) ∧ ∃ vb' vw' L', Dp w LB K vb' vw' L' o c g n d d o' c' g' n' d' W' := by
  have HD := Lib.hid h
  have h0 := Lib.hid h
  have p0 := h.x.p
  clear h
  go_enter Try.func14, Try.ntmps14
  go_wp2_with fail
  refine (image_any c d _ HD.out.x.disk).mono ?_
  rintro e w1 ⟨v, rfl, hown, hB1⟩
  have hws := HD.out.x.lt
  have HD := Lib.hid (HD.out.below hB1)
  have hbb := HD.out.x.b
  have hob := Lib.hid (fun k hk => (ownsRow_obs hown k hk).1)
  have hlow := HD.out.low.size
  have hwK := fun k hk => (h0.out.bk.lt k hk).2
  have hown1 : w1.ownsRow w.heap.size 5 1 v d.bs.length (bC d.bs) := by rw [HD.out.x.disk.2]; exact ownsRow_base hown h0.out.low.size
  go_wp2_with fail
  refine (bkBytes_any w.heap.size K vb vw L v d.bs 5 _ (.inl rfl) HD.out.bk hlow hown1 (by rw [HD.out.x.disk.2]; decide) (fun k hk hm => by have := hob.out k hk; have := hwK k hm; omega)).mono ?_
  rintro e w2 ⟨rfl, hP⟩
  obtain ⟨vb', vw', L', hD2⟩ := HD.out.book hP (fun k hk => by have := hob.out k hk; have := h0.out.x.lt; have := h0.out.y.lt; omega)
  have hown2 : w2.ownsRow W.heap.size 5 1 v 256 (bC d.bs) := by
    obtain ⟨_, _, _, _, hF, _⟩ := hP
    have mK : K ∈ bkB K vb vw L := by simp [bkB]
    refine ownsRow_same hown fun k hk => hF.block k (ownsRow_obs hown k hk).2 (fun e => ?_) (fun e => ?_) (fun e => ?_)
    · have := hob.out k hk; have := hwK K mK; omega
    · have := hob.out k hk; have := hwK k (by simp [bkB, e]); omega
    · have := hob.out k hk; have := hwK k (by simp [bkB, e]); omega
  obtain ⟨gv, cv, rv, rfl, hcv, hgv, hbv⟩ := own_block hown2 (by decide)
  have HBV := Lib.hid hbv
  have HD := Lib.hid hD2
  clear hP hown hown1 hown2 hob hwK hlow hws hbb hbv hgv h0 hB1 hD2
  go_upto_region 3 with fail
  refine wp_region_early (fun w' => w'.cell? ⟨LB, o, none⟩ = some (.pointer (some ⟨c, 0, none⟩)) ∧ w'.cell? ⟨LB, o + 1, none⟩ = some (.slice (some ⟨g, 0, none⟩) 256 n) ∧ w'.cell? ⟨LB, o + 1 + 1, none⟩ = some (.bool d.off) ∧ w'.cell? ⟨LB, o + 1 + 2, none⟩ = some (.int .i64 (fuZ d)) ∧ w'.cell? ⟨LB, o + 1 + 3, none⟩ = some (.int .i64 (d.writes : Nat))) (fun _ => false) (by kernel_rfl) ?_
  simp only [List.size_toArray, List.length_cons, List.length_nil, Nat.reduceAdd, Array.replicate_succ, Array.replicate_zero, List.push_toArray, List.nil_append, List.cons_append]
  have hdr : Below w2.heap.size w2 w2.drew := (Below.refl _ _).drew
  have HD := Lib.hid (HD.out.below hdr)
  have HBV := Lib.hid (blk_below' hdr HBV.out)
  clear hdr
  generalize World.drew w2 = W4 at *
  have hSS := And.intro HD.out.x.p HD.out.x.rk.cells
  refine wpAnyE_take (i := 0) (v := ?_) rfl (by kernel_rfl) (by kernel_rfl) (by kernel_rfl) (by kernel_rfl) (fun _ _ _ h => h) (Or.inl ⟨by rfl, ?_⟩) hSS ?_
  rotate_left
  · intro w hSw
    obtain ⟨j0, j1, j2, j3, j4⟩ := hSw
    go_simp
    all_goals with_reducible rfl
  simp only [Act.put, List.setIfInBounds_toArray, List.set_cons_zero, List.set_cons_succ, List.getElem_toArray, List.getElem_cons_zero, List.getElem_cons_succ]
  refine wpAnyE_take (i := 1) (v := ?_) rfl (by kernel_rfl) (by kernel_rfl) (by kernel_rfl) (by kernel_rfl) (fun _ _ _ h => h) (Or.inl ⟨by rfl, ?_⟩) hSS ?_
  rotate_left
  · intro w hSw
    obtain ⟨j0, j1, j2, j3, j4⟩ := hSw
    go_simp
    all_goals with_reducible rfl
  simp only [Act.put, List.setIfInBounds_toArray, List.set_cons_zero, List.set_cons_succ, List.getElem_toArray, List.getElem_cons_zero, List.getElem_cons_succ]
  refine wpAnyE_take (i := 2) (v := ?_) rfl (by kernel_rfl) (by kernel_rfl) (by kernel_rfl) (by kernel_rfl) (fun _ _ _ h => h) (Or.inl ⟨by rfl, ?_⟩) hSS ?_
  rotate_left
  · intro w hSw
    obtain ⟨j0, j1, j2, j3, j4⟩ := hSw
    go_simp
    all_goals with_reducible rfl
  simp only [Act.put, List.setIfInBounds_toArray, List.set_cons_zero, List.set_cons_succ, List.getElem_toArray, List.getElem_cons_zero, List.getElem_cons_succ]
  refine wpAnyE_take (i := 3) (v := ?_) rfl (by kernel_rfl) (by kernel_rfl) (by kernel_rfl) (by kernel_rfl) (fun _ _ _ h => h) (Or.inl ⟨by rfl, ?_⟩) hSS ?_
  rotate_left
  · intro w hSw
    obtain ⟨j0, j1, j2, j3, j4⟩ := hSw
    go_simp
    all_goals with_reducible rfl
  simp only [Act.put, List.setIfInBounds_toArray, List.set_cons_zero, List.set_cons_succ, List.getElem_toArray, List.getElem_cons_zero, List.getElem_cons_succ]
  refine wpAnyE_take (i := 4) (v := ?_) rfl (by kernel_rfl) (by kernel_rfl) (by kernel_rfl) (by kernel_rfl) (fun _ _ _ h => h) (Or.inl ⟨by rfl, ?_⟩) hSS ?_
  rotate_left
  · intro w hSw
    obtain ⟨j0, j1, j2, j3, j4⟩ := hSw
    go_simp
    all_goals with_reducible rfl
  simp only [Act.put, List.setIfInBounds_toArray, List.set_cons_zero, List.set_cons_succ, List.getElem_toArray, List.getElem_cons_zero, List.getElem_cons_succ]
  refine wpAnyE_take (i := 5) (v := ?_) rfl (by kernel_rfl) (by kernel_rfl) (by kernel_rfl) (by kernel_rfl) (fun _ _ _ h => h) (Or.inl ⟨by rfl, ?_⟩) hSS ?_
  rotate_left
  · intro w hSw
    obtain ⟨j0, j1, j2, j3, j4⟩ := hSw
    go_simp
    all_goals with_reducible rfl
  simp only [Act.put, List.setIfInBounds_toArray, List.set_cons_zero, List.set_cons_succ, List.getElem_toArray, List.getElem_cons_zero, List.getElem_cons_succ]
  refine wpAnyE_one (i := 6) (by kernel_rfl) rfl ?_
  change wpList _ _ (Exit.then _ _) [_] _ _
  try simp only [List.setIfInBounds_toArray, List.set_cons_zero, List.set_cons_succ, List.getElem_toArray, List.getElem_cons_zero, List.getElem_cons_succ]
  go_wp2_with (go_at_call 25; refine (same_yes _ _ d.bs _ _ HD.out.x.disk.2 (cells_of HBV.out 0 256 (by rw [HD.out.x.disk.2]; decide)) (fun j x hx => (HD.out.x.rk.cell j x hx).1)).mono ?_; rintro e w5 ⟨rfl, hB5⟩)
  have hSS := (HD.out.below hB5).all
  have HD := Lib.hid (HD.out.below hB5)
  clear hB5 HBV
  refine ⟨fun _ => hSS, ?_⟩
  try simp only [List.setIfInBounds_toArray, List.set_cons_zero, List.set_cons_succ, List.getElem_toArray, List.getElem_cons_zero, List.getElem_cons_succ]
  refine wpAnyE_take (i := 7) (v := ?_) rfl (by kernel_rfl) (by kernel_rfl) (by kernel_rfl) (by kernel_rfl) (fun _ _ _ h => h) (Or.inl ⟨by rfl, ?_⟩) hSS ?_
  rotate_left
  · intro w hSw
    obtain ⟨j0, j1, j2, j3, j4⟩ := hSw
    go_simp
    all_goals with_reducible rfl
  simp only [Act.put, List.setIfInBounds_toArray, List.set_cons_zero, List.set_cons_succ, List.getElem_toArray, List.getElem_cons_zero, List.getElem_cons_succ]
  refine wpAnyE_take (i := 8) (v := ?_) rfl (by kernel_rfl) (by kernel_rfl) (by kernel_rfl) (by kernel_rfl) (fun _ _ _ h => h) (Or.inl ⟨by rfl, ?_⟩) hSS ?_
  rotate_left
  · intro w hSw
    obtain ⟨j0, j1, j2, j3, j4⟩ := hSw
    go_simp
    all_goals with_reducible rfl
  simp only [Act.put, List.setIfInBounds_toArray, List.set_cons_zero, List.set_cons_succ, List.getElem_toArray, List.getElem_cons_zero, List.getElem_cons_succ]
  refine wpAnyE_take (i := 9) (v := ?_) rfl (by kernel_rfl) (by kernel_rfl) (by kernel_rfl) (by kernel_rfl) (fun _ _ _ h => h) (Or.inl ⟨by rfl, ?_⟩) hSS ?_
  rotate_left
  · intro w hSw
    obtain ⟨j0, j1, j2, j3, j4⟩ := hSw
    go_simp
    all_goals with_reducible rfl
  simp only [Act.put, List.setIfInBounds_toArray, List.set_cons_zero, List.set_cons_succ, List.getElem_toArray, List.getElem_cons_zero, List.getElem_cons_succ]
  refine wpAnyE_take (i := 10) (v := ?_) rfl (by kernel_rfl) (by kernel_rfl) (by kernel_rfl) (by kernel_rfl) (fun _ _ _ h => h) (Or.inl ⟨by rfl, ?_⟩) hSS ?_
  rotate_left
  · intro w hSw
    obtain ⟨j0, j1, j2, j3, j4⟩ := hSw
    go_simp
    all_goals with_reducible rfl
  simp only [Act.put, List.setIfInBounds_toArray, List.set_cons_zero, List.set_cons_succ, List.getElem_toArray, List.getElem_cons_zero, List.getElem_cons_succ]
  refine wpAnyE_take (i := 11) (v := ?_) rfl (by kernel_rfl) (by kernel_rfl) (by kernel_rfl) (by kernel_rfl) (fun _ _ _ h => h) (Or.inl ⟨by rfl, ?_⟩) hSS ?_
  rotate_left
  · intro w hSw
    obtain ⟨j0, j1, j2, j3, j4⟩ := hSw
    go_simp
    all_goals with_reducible rfl
  simp only [Act.put, List.setIfInBounds_toArray, List.set_cons_zero, List.set_cons_succ, List.getElem_toArray, List.getElem_cons_zero, List.getElem_cons_succ]
  refine wpAnyE_take (i := 13) (v := ?_) rfl (by kernel_rfl) (by kernel_rfl) (by kernel_rfl) (by kernel_rfl) (fun _ _ _ h => h) (Or.inl ⟨by rfl, ?_⟩) hSS ?_
  rotate_left
  · intro w hSw
    obtain ⟨j0, j1, j2, j3, j4⟩ := hSw
    go_simp
    all_goals with_reducible rfl
  simp only [Act.put, List.setIfInBounds_toArray, List.set_cons_zero, List.set_cons_succ, List.getElem_toArray, List.getElem_cons_zero, List.getElem_cons_succ]
  refine wpAnyE_take (i := 14) (v := ?_) rfl (by kernel_rfl) (by kernel_rfl) (by kernel_rfl) (by kernel_rfl) (fun _ _ _ h => h) (Or.inl ⟨by rfl, ?_⟩) hSS ?_
  rotate_left
  · intro w hSw
    obtain ⟨j0, j1, j2, j3, j4⟩ := hSw
    go_simp
    all_goals with_reducible rfl
  simp only [Act.put, List.setIfInBounds_toArray, List.set_cons_zero, List.set_cons_succ, List.getElem_toArray, List.getElem_cons_zero, List.getElem_cons_succ]
  refine wpAnyE_take (i := 15) (v := ?_) rfl (by kernel_rfl) (by kernel_rfl) (by kernel_rfl) (by kernel_rfl) (fun _ _ _ h => h) (Or.inl ⟨by rfl, ?_⟩) hSS ?_
  rotate_left
  · intro w hSw
    obtain ⟨j0, j1, j2, j3, j4⟩ := hSw
    go_simp
    all_goals with_reducible rfl
  simp only [Act.put, List.setIfInBounds_toArray, List.set_cons_zero, List.set_cons_succ, List.getElem_toArray, List.getElem_cons_zero, List.getElem_cons_succ]
  refine wpAnyE_take (i := 16) (v := ?_) rfl (by kernel_rfl) (by kernel_rfl) (by kernel_rfl) (by kernel_rfl) (fun _ _ _ h => h) (Or.inl ⟨by rfl, ?_⟩) hSS ?_
  rotate_left
  · intro w hSw
    obtain ⟨j0, j1, j2, j3, j4⟩ := hSw
    go_simp
    all_goals with_reducible rfl
  simp only [Act.put, List.setIfInBounds_toArray, List.set_cons_zero, List.set_cons_succ, List.getElem_toArray, List.getElem_cons_zero, List.getElem_cons_succ]
  refine wpAnyE_take (i := 17) (v := ?_) rfl (by kernel_rfl) (by kernel_rfl) (by kernel_rfl) (by kernel_rfl) (fun _ _ _ h => h) (Or.inl ⟨by rfl, ?_⟩) hSS ?_
  rotate_left
  · intro w hSw
    obtain ⟨j0, j1, j2, j3, j4⟩ := hSw
    go_simp
    all_goals with_reducible rfl
  simp only [Act.put, List.setIfInBounds_toArray, List.set_cons_zero, List.set_cons_succ, List.getElem_toArray, List.getElem_cons_zero, List.getElem_cons_succ]
  refine wpAnyE_take (i := 18) (v := ?_) rfl (by kernel_rfl) (by kernel_rfl) (by kernel_rfl) (by kernel_rfl) (fun _ _ _ h => h) (Or.inl ⟨by rfl, ?_⟩) hSS ?_
  rotate_left
  · intro w hSw
    obtain ⟨j0, j1, j2, j3, j4⟩ := hSw
    go_simp
    all_goals with_reducible rfl
  simp only [Act.put, List.setIfInBounds_toArray, List.set_cons_zero, List.set_cons_succ, List.getElem_toArray, List.getElem_cons_zero, List.getElem_cons_succ]
  refine wpAnyE_one (i := 12) (by kernel_rfl) rfl ?_
  change wpList _ _ (Exit.then _ _) [_] _ _
  try simp only [List.setIfInBounds_toArray, List.set_cons_zero, List.set_cons_succ, List.getElem_toArray, List.getElem_cons_zero, List.getElem_cons_succ]
  go_wp2_with (go_at_call 31; refine (on_eq c d _ HD.out.x.disk).mono ?_; rintro e w6 ⟨rfl, rfl⟩)
  refine ⟨fun _ => hSS, ?_⟩
  try simp only [List.setIfInBounds_toArray, List.set_cons_zero, List.set_cons_succ, List.getElem_toArray, List.getElem_cons_zero, List.getElem_cons_succ]
  refine wpAnyE_take (i := 19) (v := ?_) rfl (by kernel_rfl) (by kernel_rfl) (by kernel_rfl) (by kernel_rfl) (fun _ _ _ h => h) (Or.inl ⟨by rfl, ?_⟩) hSS ?_
  rotate_left
  · intro w hSw
    obtain ⟨j0, j1, j2, j3, j4⟩ := hSw
    go_simp
    all_goals with_reducible rfl
  simp only [Act.put, List.setIfInBounds_toArray, List.set_cons_zero, List.set_cons_succ, List.getElem_toArray, List.getElem_cons_zero, List.getElem_cons_succ]
  refine wpAnyE_take (i := 20) (v := ?_) rfl (by kernel_rfl) (by kernel_rfl) (by kernel_rfl) (by kernel_rfl) (fun _ _ _ h => h) (Or.inl ⟨by rfl, ?_⟩) hSS ?_
  rotate_left
  · intro w hSw
    obtain ⟨j0, j1, j2, j3, j4⟩ := hSw
    go_simp
    all_goals with_reducible rfl
  simp only [Act.put, List.setIfInBounds_toArray, List.set_cons_zero, List.set_cons_succ, List.getElem_toArray, List.getElem_cons_zero, List.getElem_cons_succ]
  refine wpAnyE_take (i := 21) (v := ?_) rfl (by kernel_rfl) (by kernel_rfl) (by kernel_rfl) (by kernel_rfl) (fun _ _ _ h => h) (Or.inl ⟨by rfl, ?_⟩) hSS ?_
  rotate_left
  · intro w hSw
    obtain ⟨j0, j1, j2, j3, j4⟩ := hSw
    go_simp
    all_goals with_reducible rfl
  simp only [Act.put, List.setIfInBounds_toArray, List.set_cons_zero, List.set_cons_succ, List.getElem_toArray, List.getElem_cons_zero, List.getElem_cons_succ]
  refine wpAnyE_take (i := 22) (v := ?_) rfl (by kernel_rfl) (by kernel_rfl) (by kernel_rfl) (by kernel_rfl) (fun _ _ _ h => h) (Or.inl ⟨by rfl, ?_⟩) hSS ?_
  rotate_left
  · intro w hSw
    obtain ⟨j0, j1, j2, j3, j4⟩ := hSw
    go_simp
    all_goals with_reducible rfl
  simp only [Act.put, List.setIfInBounds_toArray, List.set_cons_zero, List.set_cons_succ, List.getElem_toArray, List.getElem_cons_zero, List.getElem_cons_succ]
  refine wpAnyE_take (i := 23) (v := ?_) rfl (by kernel_rfl) (by kernel_rfl) (by kernel_rfl) (by kernel_rfl) (fun _ _ _ h => h) (Or.inl ⟨by rfl, ?_⟩) hSS ?_
  rotate_left
  · intro w hSw
    obtain ⟨j0, j1, j2, j3, j4⟩ := hSw
    go_simp
    all_goals with_reducible rfl
  simp only [Act.put, List.setIfInBounds_toArray, List.set_cons_zero, List.set_cons_succ, List.getElem_toArray, List.getElem_cons_zero, List.getElem_cons_succ]
  refine wpAnyE_take (i := 24) (v := ?_) rfl (by kernel_rfl) (by kernel_rfl) (by kernel_rfl) (by kernel_rfl) (fun _ _ _ h => h) (Or.inl ⟨by rfl, ?_⟩) hSS ?_
  rotate_left
  · intro w hSw
    obtain ⟨j0, j1, j2, j3, j4⟩ := hSw
    go_simp
    all_goals with_reducible rfl
  simp only [Act.put, List.setIfInBounds_toArray, List.set_cons_zero, List.set_cons_succ, List.getElem_toArray, List.getElem_cons_zero, List.getElem_cons_succ]
  refine wpAnyE_take (i := 25) (v := ?_) rfl (by kernel_rfl) (by kernel_rfl) (by kernel_rfl) (by kernel_rfl) (fun _ _ _ h => h) (Or.inl ⟨by rfl, ?_⟩) hSS ?_
  rotate_left
  · intro w hSw
    obtain ⟨j0, j1, j2, j3, j4⟩ := hSw
    go_simp
    all_goals with_reducible rfl
  simp only [Act.put, List.setIfInBounds_toArray, List.set_cons_zero, List.set_cons_succ, List.getElem_toArray, List.getElem_cons_zero, List.getElem_cons_succ]
  refine wpAnyE_take (i := 27) (v := ?_) rfl (by kernel_rfl) (by kernel_rfl) (by kernel_rfl) (by kernel_rfl) (fun _ _ _ h => h) (Or.inl ⟨by rfl, ?_⟩) hSS ?_
  rotate_left
  · intro w hSw
    obtain ⟨j0, j1, j2, j3, j4⟩ := hSw
    go_simp
    all_goals with_reducible rfl
  simp only [Act.put, List.setIfInBounds_toArray, List.set_cons_zero, List.set_cons_succ, List.getElem_toArray, List.getElem_cons_zero, List.getElem_cons_succ]
  refine wpAnyE_take (i := 28) (v := ?_) rfl (by kernel_rfl) (by kernel_rfl) (by kernel_rfl) (by kernel_rfl) (fun _ _ _ h => h) (Or.inl ⟨by rfl, ?_⟩) hSS ?_
  rotate_left
  · intro w hSw
    obtain ⟨j0, j1, j2, j3, j4⟩ := hSw
    go_simp
    all_goals with_reducible rfl
  simp only [Act.put, List.setIfInBounds_toArray, List.set_cons_zero, List.set_cons_succ, List.getElem_toArray, List.getElem_cons_zero, List.getElem_cons_succ]
  refine wpAnyE_take (i := 29) (v := ?_) rfl (by kernel_rfl) (by kernel_rfl) (by kernel_rfl) (by kernel_rfl) (fun _ _ _ h => h) (Or.inl ⟨by rfl, ?_⟩) hSS ?_
  rotate_left
  · intro w hSw
    obtain ⟨j0, j1, j2, j3, j4⟩ := hSw
    go_simp
    all_goals with_reducible rfl
  simp only [Act.put, List.setIfInBounds_toArray, List.set_cons_zero, List.set_cons_succ, List.getElem_toArray, List.getElem_cons_zero, List.getElem_cons_succ]
  refine wpAnyE_take (i := 30) (v := ?_) rfl (by kernel_rfl) (by kernel_rfl) (by kernel_rfl) (by kernel_rfl) (fun _ _ _ h => h) (Or.inl ⟨by rfl, ?_⟩) hSS ?_
  rotate_left
  · intro w hSw
    obtain ⟨j0, j1, j2, j3, j4⟩ := hSw
    go_simp
    all_goals with_reducible rfl
  simp only [Act.put, List.setIfInBounds_toArray, List.set_cons_zero, List.set_cons_succ, List.getElem_toArray, List.getElem_cons_zero, List.getElem_cons_succ]
  refine wpAnyE_take (i := 31) (v := ?_) rfl (by kernel_rfl) (by kernel_rfl) (by kernel_rfl) (by kernel_rfl) (fun _ _ _ h => h) (Or.inl ⟨by rfl, ?_⟩) hSS ?_
  rotate_left
  · intro w hSw
    obtain ⟨j0, j1, j2, j3, j4⟩ := hSw
    go_simp
    all_goals with_reducible rfl
  simp only [Act.put, List.setIfInBounds_toArray, List.set_cons_zero, List.set_cons_succ, List.getElem_toArray, List.getElem_cons_zero, List.getElem_cons_succ]
  refine wpAnyE_one (i := 26) (by kernel_rfl) rfl ?_
  change wpList _ _ (Exit.then _ _) [_] _ _
  try simp only [List.setIfInBounds_toArray, List.set_cons_zero, List.set_cons_succ, List.getElem_toArray, List.getElem_cons_zero, List.getElem_cons_succ]
  go_wp2_with (go_at_call 19; refine (left_is c d _ HD.out.x.disk).mono ?_; rintro e w7 ⟨rfl, rfl⟩)
  refine ⟨fun _ => hSS, ?_⟩
  try simp only [List.setIfInBounds_toArray, List.set_cons_zero, List.set_cons_succ, List.getElem_toArray, List.getElem_cons_zero, List.getElem_cons_succ]
  refine wpAnyE_take (i := 32) (v := ?_) rfl (by kernel_rfl) (by kernel_rfl) (by kernel_rfl) (by kernel_rfl) (fun _ _ _ h => h) (Or.inl ⟨by rfl, ?_⟩) hSS ?_
  rotate_left
  · intro w hSw
    obtain ⟨j0, j1, j2, j3, j4⟩ := hSw
    go_simp
    all_goals with_reducible rfl
  simp only [Act.put, List.setIfInBounds_toArray, List.set_cons_zero, List.set_cons_succ, List.getElem_toArray, List.getElem_cons_zero, List.getElem_cons_succ]
  refine wpAnyE_take (i := 33) (v := ?_) rfl (by kernel_rfl) (by kernel_rfl) (by kernel_rfl) (by kernel_rfl) (fun _ _ _ h => h) (Or.inl ⟨by rfl, ?_⟩) hSS ?_
  rotate_left
  · intro w hSw
    obtain ⟨j0, j1, j2, j3, j4⟩ := hSw
    go_simp
    all_goals with_reducible rfl
  simp only [Act.put, List.setIfInBounds_toArray, List.set_cons_zero, List.set_cons_succ, List.getElem_toArray, List.getElem_cons_zero, List.getElem_cons_succ]
  refine wpAnyE_take (i := 34) (v := ?_) rfl (by kernel_rfl) (by kernel_rfl) (by kernel_rfl) (by kernel_rfl) (fun _ _ _ h => h) (Or.inl ⟨by rfl, ?_⟩) hSS ?_
  rotate_left
  · intro w hSw
    obtain ⟨j0, j1, j2, j3, j4⟩ := hSw
    go_simp
    all_goals with_reducible rfl
  simp only [Act.put, List.setIfInBounds_toArray, List.set_cons_zero, List.set_cons_succ, List.getElem_toArray, List.getElem_cons_zero, List.getElem_cons_succ]
  refine wpAnyE_take (i := 35) (v := ?_) rfl (by kernel_rfl) (by kernel_rfl) (by kernel_rfl) (by kernel_rfl) (fun _ _ _ h => h) (Or.inl ⟨by rfl, ?_⟩) hSS ?_
  rotate_left
  · intro w hSw
    obtain ⟨j0, j1, j2, j3, j4⟩ := hSw
    go_simp
    all_goals with_reducible rfl
  simp only [Act.put, List.setIfInBounds_toArray, List.set_cons_zero, List.set_cons_succ, List.getElem_toArray, List.getElem_cons_zero, List.getElem_cons_succ]
  refine wpAnyE_take (i := 36) (v := ?_) rfl (by kernel_rfl) (by kernel_rfl) (by kernel_rfl) (by kernel_rfl) (fun _ _ _ h => h) (Or.inl ⟨by rfl, ?_⟩) hSS ?_
  rotate_left
  · intro w hSw
    obtain ⟨j0, j1, j2, j3, j4⟩ := hSw
    go_simp
    all_goals with_reducible rfl
  simp only [Act.put, List.setIfInBounds_toArray, List.set_cons_zero, List.set_cons_succ, List.getElem_toArray, List.getElem_cons_zero, List.getElem_cons_succ]
  refine wpAnyE_take (i := 37) (v := ?_) rfl (by kernel_rfl) (by kernel_rfl) (by kernel_rfl) (by kernel_rfl) (fun _ _ _ h => h) (Or.inl ⟨by rfl, ?_⟩) hSS ?_
  rotate_left
  · intro w hSw
    obtain ⟨j0, j1, j2, j3, j4⟩ := hSw
    go_simp
    all_goals with_reducible rfl
  simp only [Act.put, List.setIfInBounds_toArray, List.set_cons_zero, List.set_cons_succ, List.getElem_toArray, List.getElem_cons_zero, List.getElem_cons_succ]
  refine wpAnyE_take (i := 38) (v := ?_) rfl (by kernel_rfl) (by kernel_rfl) (by kernel_rfl) (by kernel_rfl) (fun _ _ _ h => h) (Or.inl ⟨by rfl, ?_⟩) hSS ?_
  rotate_left
  · intro w hSw
    obtain ⟨j0, j1, j2, j3, j4⟩ := hSw
    go_simp
    all_goals with_reducible rfl
  simp only [Act.put, List.setIfInBounds_toArray, List.set_cons_zero, List.set_cons_succ, List.getElem_toArray, List.getElem_cons_zero, List.getElem_cons_succ]
  refine wpAnyE_take (i := 40) (v := ?_) rfl (by kernel_rfl) (by kernel_rfl) (by kernel_rfl) (by kernel_rfl) (fun _ _ _ h => h) (Or.inl ⟨by rfl, ?_⟩) hSS ?_
  rotate_left
  · intro w hSw
    obtain ⟨j0, j1, j2, j3, j4⟩ := hSw
    go_simp
    all_goals with_reducible rfl
  simp only [Act.put, List.setIfInBounds_toArray, List.set_cons_zero, List.set_cons_succ, List.getElem_toArray, List.getElem_cons_zero, List.getElem_cons_succ]
  refine wpAnyE_take (i := 41) (v := ?_) rfl (by kernel_rfl) (by kernel_rfl) (by kernel_rfl) (by kernel_rfl) (fun _ _ _ h => h) (Or.inl ⟨by rfl, ?_⟩) hSS ?_
  rotate_left
  · intro w hSw
    obtain ⟨j0, j1, j2, j3, j4⟩ := hSw
    go_simp
    all_goals with_reducible rfl
  simp only [Act.put, List.setIfInBounds_toArray, List.set_cons_zero, List.set_cons_succ, List.getElem_toArray, List.getElem_cons_zero, List.getElem_cons_succ]
  refine wpAnyE_take (i := 42) (v := ?_) rfl (by kernel_rfl) (by kernel_rfl) (by kernel_rfl) (by kernel_rfl) (fun _ _ _ h => h) (Or.inl ⟨by rfl, ?_⟩) hSS ?_
  rotate_left
  · intro w hSw
    obtain ⟨j0, j1, j2, j3, j4⟩ := hSw
    go_simp
    all_goals with_reducible rfl
  simp only [Act.put, List.setIfInBounds_toArray, List.set_cons_zero, List.set_cons_succ, List.getElem_toArray, List.getElem_cons_zero, List.getElem_cons_succ]
  refine wpAnyE_take (i := 43) (v := ?_) rfl (by kernel_rfl) (by kernel_rfl) (by kernel_rfl) (by kernel_rfl) (fun _ _ _ h => h) (Or.inl ⟨by rfl, ?_⟩) hSS ?_
  rotate_left
  · intro w hSw
    obtain ⟨j0, j1, j2, j3, j4⟩ := hSw
    go_simp
    all_goals with_reducible rfl
  simp only [Act.put, List.setIfInBounds_toArray, List.set_cons_zero, List.set_cons_succ, List.getElem_toArray, List.getElem_cons_zero, List.getElem_cons_succ]
  refine wpAnyE_take (i := 44) (v := ?_) rfl (by kernel_rfl) (by kernel_rfl) (by kernel_rfl) (by kernel_rfl) (fun _ _ _ h => h) (Or.inl ⟨by rfl, ?_⟩) hSS ?_
  rotate_left
  · intro w hSw
    obtain ⟨j0, j1, j2, j3, j4⟩ := hSw
    go_simp
    all_goals with_reducible rfl
  simp only [Act.put, List.setIfInBounds_toArray, List.set_cons_zero, List.set_cons_succ, List.getElem_toArray, List.getElem_cons_zero, List.getElem_cons_succ]
  refine wpAnyE_one (i := 39) (by kernel_rfl) rfl ?_
  change wpList _ _ (Exit.then _ _) [_] _ _
  try simp only [List.setIfInBounds_toArray, List.set_cons_zero, List.set_cons_succ, List.getElem_toArray, List.getElem_cons_zero, List.getElem_cons_succ]
  go_wp2_with (go_at_call 18; refine (writes_eq c d _ HD.out.x.disk).mono ?_; rintro e w8 ⟨rfl, rfl⟩)
  refine ⟨fun _ => hSS, ?_⟩
  try simp only [List.setIfInBounds_toArray, List.set_cons_zero, List.set_cons_succ, List.getElem_toArray, List.getElem_cons_zero, List.getElem_cons_succ]
  refine wpAnyE_take (i := 45) (v := ?_) rfl (by kernel_rfl) (by kernel_rfl) (by kernel_rfl) (by kernel_rfl) (fun _ _ _ h => h) (Or.inl ⟨by rfl, ?_⟩) hSS ?_
  rotate_left
  · intro w hSw
    obtain ⟨j0, j1, j2, j3, j4⟩ := hSw
    go_simp
    all_goals with_reducible rfl
  simp only [Act.put, List.setIfInBounds_toArray, List.set_cons_zero, List.set_cons_succ, List.getElem_toArray, List.getElem_cons_zero, List.getElem_cons_succ]
  refine wpAnyE_take (i := 46) (v := ?_) rfl (by kernel_rfl) (by kernel_rfl) (by kernel_rfl) (by kernel_rfl) (fun _ _ _ h => h) (Or.inl ⟨by rfl, ?_⟩) hSS ?_
  rotate_left
  · intro w hSw
    obtain ⟨j0, j1, j2, j3, j4⟩ := hSw
    go_simp
    all_goals with_reducible rfl
  simp only [Act.put, List.setIfInBounds_toArray, List.set_cons_zero, List.set_cons_succ, List.getElem_toArray, List.getElem_cons_zero, List.getElem_cons_succ]
  refine wpAnyE_one (i := 47) (by kernel_rfl) rfl ?_
  change wpList _ _ (Exit.then _ _) [_] _ _
  try simp only [List.setIfInBounds_toArray, List.set_cons_zero, List.set_cons_succ, List.getElem_toArray, List.getElem_cons_zero, List.getElem_cons_succ]
  go_wp2_with fail
  refine ⟨fun _ => hSS, ?_⟩
  try simp only [List.setIfInBounds_toArray, List.set_cons_zero, List.set_cons_succ, List.getElem_toArray, List.getElem_cons_zero, List.getElem_cons_succ]
  refine wpAnyE_end (by kernel_rfl) ?_
  go_wp2_with fail
  go_ret
  exact ⟨rfl, vb', vw', L', HD.out⟩
end Go.Proofs.Ytpfiaepoibablaa
namespace Go.Proofs.Ytpfiaepoibablaa
set_option linter.unusedVariables false
set_option linter.unusedSimpArgs false
open Go.RowKit

theorem DI.off {d : Dk} {i : Nat} (h : DI d i) (v : Bool) : DI { d with off := v } i := ⟨h.wr, h.fz⟩
theorem DI.fuse {d : Dk} {i : Nat} (h : DI d i) (k : Int) (hk : (Lit.int .i64 k).wf = true) : DI { d with fused := decide (0 ≤ k), fuse := k.toNat } i :=
  ⟨h.wr, by
    simp only [Lit.wf, Bool.and_eq_true, decide_eq_true_eq] at hk
    have h5 : IntKind.i64.max = 9223372036854775807 := by decide
    show k.toNat ≤ _; omega⟩
set_option maxRecDepth 100000 in
set_option maxHeartbeats 1000000 in
theorem step_fuse (w : World) (LB K : Nat) (vb vw : Value) (L : List Ls) (o c g n : Nat) (d : Dk) (o' c' g' n' : Nat) (d' : Dk) (who a : Int) (av : Option Addr) (cv : Nat) (ld : List Nat) (i : Nat) (W : World)
    (hD : Dp w LB K vb vw L o c g n d d o' c' g' n' d' W) (hI : DI d i) (ha : (Lit.int .i64 a).wf = true) :
    Calls Try.prog 13 #[.pointer (some ⟨LB, o, none⟩), .agg #[.int .i64 3, .int .i64 who, .int .i64 a, .slice av ld.length cv]] W (StP w LB K o c g n o' c' g' n' d' (i + 1)) := by
  have HS := Lib.hid (hD.box #[.int .i64 3, .int .i64 who, .int .i64 a, .slice av ld.length cv])
  have HI := Lib.hid (hI.up.fuse a ha)
  clear hD hI
  go_enter Try.func13, Try.ntmps13
  go_upto_region 18 with fail
  obtain ⟨q, hq⟩ : ∃ q, W.heap.size = q := ⟨_, rfl⟩
  generalize World.alloc W _ = W0 at *
  rw [hq] at HS
  (try rw [hq])
  clear hq
  obtain ⟨p0, p5, y0, y1, y2, y3⟩ := HS.out.cells
  refine wp_region_early (fun w' => w'.cell? ⟨LB, o, none⟩ = some (.pointer (some ⟨c, 0, none⟩)) ∧ w'.cell? ⟨LB, o + 5, none⟩ = some (.pointer (some ⟨K, 0, none⟩)) ∧ w'.cell? ⟨q, 0, none⟩ = some (.int .i64 3) ∧ w'.cell? ⟨q, 1, none⟩ = some (.int .i64 who) ∧ w'.cell? ⟨q, 2, none⟩ = some (.int .i64 a) ∧ w'.cell? ⟨q, 3, none⟩ = some (.slice av ld.length cv)) (fun _ => false) (by kernel_rfl) ?_
  simp only [List.size_toArray, List.length_cons, List.length_nil, Nat.reduceAdd, Array.replicate_succ, Array.replicate_zero, List.push_toArray, List.nil_append, List.cons_append]
  have HS := Lib.hid HS.out.drew
  clear p0 p5 y0 y1 y2 y3
  generalize World.drew W0 = V0 at *
  have hSS := HS.out.cells
  refine wpAnyE_take (i := 0) (v := ?_) rfl (by kernel_rfl) (by kernel_rfl) (by kernel_rfl) (by kernel_rfl) (fun _ _ _ h => h) (Or.inl ⟨by rfl, ?_⟩) hSS ?_
  rotate_left
  · intro w hSw
    obtain ⟨j0, j1, j2, j3, j4, j5⟩ := hSw
    go_simp
    all_goals with_reducible rfl
  simp only [Act.put, List.setIfInBounds_toArray, List.set_cons_zero, List.set_cons_succ, List.getElem_toArray, List.getElem_cons_zero, List.getElem_cons_succ]
  refine wpAnyE_take (i := 1) (v := ?_) rfl (by kernel_rfl) (by kernel_rfl) (by kernel_rfl) (by kernel_rfl) (fun _ _ _ h => h) (Or.inl ⟨by rfl, ?_⟩) hSS ?_
  rotate_left
  · intro w hSw
    obtain ⟨j0, j1, j2, j3, j4, j5⟩ := hSw
    go_simp
    all_goals with_reducible rfl
  simp only [Act.put, List.setIfInBounds_toArray, List.set_cons_zero, List.set_cons_succ, List.getElem_toArray, List.getElem_cons_zero, List.getElem_cons_succ]
  refine wpAnyE_take (i := 2) (v := ?_) rfl (by kernel_rfl) (by kernel_rfl) (by kernel_rfl) (by kernel_rfl) (fun _ _ _ h => h) (Or.inl ⟨by rfl, ?_⟩) hSS ?_
  rotate_left
  · intro w hSw
    obtain ⟨j0, j1, j2, j3, j4, j5⟩ := hSw
    go_simp
    all_goals with_reducible rfl
  simp only [Act.put, List.setIfInBounds_toArray, List.set_cons_zero, List.set_cons_succ, List.getElem_toArray, List.getElem_cons_zero, List.getElem_cons_succ]
  refine wpAnyE_take (i := 3) (v := ?_) rfl (by kernel_rfl) (by kernel_rfl) (by kernel_rfl) (by kernel_rfl) (fun _ _ _ h => h) (Or.inl ⟨by rfl, ?_⟩) hSS ?_
  rotate_left
  · intro w hSw
    obtain ⟨j0, j1, j2, j3, j4, j5⟩ := hSw
    go_simp
    all_goals with_reducible rfl
  simp only [Act.put, List.setIfInBounds_toArray, List.set_cons_zero, List.set_cons_succ, List.getElem_toArray, List.getElem_cons_zero, List.getElem_cons_succ]
  refine wpAnyE_take (i := 4) (v := ?_) rfl (by kernel_rfl) (by kernel_rfl) (by kernel_rfl) (by kernel_rfl) (fun _ _ _ h => h) (Or.inl ⟨by rfl, ?_⟩) hSS ?_
  rotate_left
  · intro w hSw
    obtain ⟨j0, j1, j2, j3, j4, j5⟩ := hSw
    go_simp
    all_goals with_reducible rfl
  simp only [Act.put, List.setIfInBounds_toArray, List.set_cons_zero, List.set_cons_succ, List.getElem_toArray, List.getElem_cons_zero, List.getElem_cons_succ]
  refine wpAnyE_take (i := 5) (v := ?_) rfl (by kernel_rfl) (by kernel_rfl) (by kernel_rfl) (by kernel_rfl) (fun _ _ _ h => h) (Or.inl ⟨by rfl, ?_⟩) hSS ?_
  rotate_left
  · intro w hSw
    obtain ⟨j0, j1, j2, j3, j4, j5⟩ := hSw
    go_simp
    all_goals with_reducible rfl
  simp only [Act.put, List.setIfInBounds_toArray, List.set_cons_zero, List.set_cons_succ, List.getElem_toArray, List.getElem_cons_zero, List.getElem_cons_succ]
  refine wpAnyE_one (i := 6) (by kernel_rfl) rfl ?_
  change wpList _ _ (Exit.then _ _) [_] _ _
  try simp only [List.setIfInBounds_toArray, List.set_cons_zero, List.set_cons_succ, List.getElem_toArray, List.getElem_cons_zero, List.getElem_cons_succ]
  go_wp2_with (go_at_call 26; refine (fuse_any c d a _ HS.out.dp.x.disk).mono ?_; rintro e w1 ⟨rfl, hD1, hg1⟩)
  have HS := Lib.hid (HS.out.turnD hD1 hg1)
  clear hD1 hg1 hSS
  have hSS := HS.out.cells
  refine ⟨fun _ => hSS, ?_⟩
  try simp only [List.setIfInBounds_toArray, List.set_cons_zero, List.set_cons_succ, List.getElem_toArray, List.getElem_cons_zero, List.getElem_cons_succ]
  refine wpAnyE_end (by kernel_rfl) ?_
  obtain ⟨p0, p5, y0, y1, y2, y3⟩ := hSS
  go_upto_region 19 with fail
  refine wp_region_early (fun w' => w'.cell? ⟨LB, o, none⟩ = some (.pointer (some ⟨c, 0, none⟩)) ∧ w'.cell? ⟨LB, o + 5, none⟩ = some (.pointer (some ⟨K, 0, none⟩)) ∧ w'.cell? ⟨q, 0, none⟩ = some (.int .i64 3) ∧ w'.cell? ⟨q, 1, none⟩ = some (.int .i64 who) ∧ w'.cell? ⟨q, 2, none⟩ = some (.int .i64 a) ∧ w'.cell? ⟨q, 3, none⟩ = some (.slice av ld.length cv)) (fun _ => false) (by kernel_rfl) ?_
  simp only [List.size_toArray, List.length_cons, List.length_nil, Nat.reduceAdd, Array.replicate_succ, Array.replicate_zero, List.push_toArray, List.nil_append, List.cons_append]
  have HS := Lib.hid HS.out.drew
  clear p0 p5 y0 y1 y2 y3
  generalize World.drew w1 = V1 at *
  have hSS := HS.out.cells
  refine wpAnyE_take (i := 0) (v := ?_) rfl (by kernel_rfl) (by kernel_rfl) (by kernel_rfl) (by kernel_rfl) (fun _ _ _ h => h) (Or.inl ⟨by rfl, ?_⟩) hSS ?_
  rotate_left
  · intro w hSw
    obtain ⟨j0, j1, j2, j3, j4, j5⟩ := hSw
    go_simp
    all_goals with_reducible rfl
  simp only [Act.put, List.setIfInBounds_toArray, List.set_cons_zero, List.set_cons_succ, List.getElem_toArray, List.getElem_cons_zero, List.getElem_cons_succ]
  refine wpAnyE_take (i := 1) (v := ?_) rfl (by kernel_rfl) (by kernel_rfl) (by kernel_rfl) (by kernel_rfl) (fun _ _ _ h => h) (Or.inl ⟨by rfl, ?_⟩) hSS ?_
  rotate_left
  · intro w hSw
    obtain ⟨j0, j1, j2, j3, j4, j5⟩ := hSw
    go_simp
    all_goals with_reducible rfl
  simp only [Act.put, List.setIfInBounds_toArray, List.set_cons_zero, List.set_cons_succ, List.getElem_toArray, List.getElem_cons_zero, List.getElem_cons_succ]
  refine wpAnyE_take (i := 2) (v := ?_) rfl (by kernel_rfl) (by kernel_rfl) (by kernel_rfl) (by kernel_rfl) (fun _ _ _ h => h) (Or.inl ⟨by rfl, ?_⟩) hSS ?_
  rotate_left
  · intro w hSw
    obtain ⟨j0, j1, j2, j3, j4, j5⟩ := hSw
    go_simp
    all_goals with_reducible rfl
  simp only [Act.put, List.setIfInBounds_toArray, List.set_cons_zero, List.set_cons_succ, List.getElem_toArray, List.getElem_cons_zero, List.getElem_cons_succ]
  refine wpAnyE_take (i := 3) (v := ?_) rfl (by kernel_rfl) (by kernel_rfl) (by kernel_rfl) (by kernel_rfl) (fun _ _ _ h => h) (Or.inl ⟨by rfl, ?_⟩) hSS ?_
  rotate_left
  · intro w hSw
    obtain ⟨j0, j1, j2, j3, j4, j5⟩ := hSw
    go_simp
    all_goals with_reducible rfl
  simp only [Act.put, List.setIfInBounds_toArray, List.set_cons_zero, List.set_cons_succ, List.getElem_toArray, List.getElem_cons_zero, List.getElem_cons_succ]
  refine wpAnyE_take (i := 4) (v := ?_) rfl (by kernel_rfl) (by kernel_rfl) (by kernel_rfl) (by kernel_rfl) (fun _ _ _ h => h) (Or.inl ⟨by rfl, ?_⟩) hSS ?_
  rotate_left
  · intro w hSw
    obtain ⟨j0, j1, j2, j3, j4, j5⟩ := hSw
    go_simp
    all_goals with_reducible rfl
  simp only [Act.put, List.setIfInBounds_toArray, List.set_cons_zero, List.set_cons_succ, List.getElem_toArray, List.getElem_cons_zero, List.getElem_cons_succ]
  refine wpAnyE_one (i := 5) (by kernel_rfl) rfl ?_
  change wpList _ _ (Exit.then _ _) [_] _ _
  try simp only [List.setIfInBounds_toArray, List.set_cons_zero, List.set_cons_succ, List.getElem_toArray, List.getElem_cons_zero, List.getElem_cons_succ]
  go_wp2_with (go_at_call 27; refine (refSet_any LB (o + 1) g n d a _ HS.out.dp.x.rk).mono ?_; rintro e w2 ⟨rfl, hR2, hC2⟩)
  have HS := Lib.hid (HS.out.turnR hR2 hC2)
  clear hR2 hC2 hSS
  have hSS := HS.out.cells
  refine ⟨fun _ => hSS, ?_⟩
  try simp only [List.setIfInBounds_toArray, List.set_cons_zero, List.set_cons_succ, List.getElem_toArray, List.getElem_cons_zero, List.getElem_cons_succ]
  refine wpAnyE_end (by kernel_rfl) ?_
  go_wp2_with fail
  go_ret
  exact ⟨rfl, _, _, _, _, HS.out.dp, HI.out⟩
set_option maxRecDepth 100000 in
set_option maxHeartbeats 1000000 in
theorem step_cut (w : World) (LB K : Nat) (vb vw : Value) (L : List Ls) (o c g n : Nat) (d : Dk) (o' c' g' n' : Nat) (d' : Dk) (who a : Int) (av : Option Addr) (cv : Nat) (ld : List Nat) (i : Nat) (W : World)
    (hD : Dp w LB K vb vw L o c g n d d o' c' g' n' d' W) (hI : DI d i) :
    Calls Try.prog 13 #[.pointer (some ⟨LB, o, none⟩), .agg #[.int .i64 4, .int .i64 who, .int .i64 a, .slice av ld.length cv]] W (StP w LB K o c g n o' c' g' n' d' (i + 1)) := by
  have HS := Lib.hid (hD.box #[.int .i64 4, .int .i64 who, .int .i64 a, .slice av ld.length cv])
  have HI := Lib.hid (hI.up.off true)
  clear hD hI
  go_enter Try.func13, Try.ntmps13
  go_upto_region 21 with fail
  obtain ⟨q, hq⟩ : ∃ q, W.heap.size = q := ⟨_, rfl⟩
  generalize World.alloc W _ = W0 at *
  rw [hq] at HS
  (try rw [hq])
  clear hq
  obtain ⟨p0, p5, y0, y1, y2, y3⟩ := HS.out.cells
  go_wp2_with (go_at_call 28; refine (cut_any c d _ HS.out.dp.x.disk).mono ?_; rintro e w1 ⟨rfl, hD1, hg1⟩; have HS := Lib.hid (HS.out.turnD hD1 hg1); have z1 := HS.out.dp.x.rk.free.2.1; have y1 := HS.out.dp.x.rk.cells.2.1)
  go_ret
  exact ⟨rfl, _, _, _, _, (HS.out.turnR (HS.out.dp.x.rk.off true) ((Chg.refl _ _ _ _).set 1 _ (by decide) HS.out.lt.1)).dp, HI.out⟩
set_option maxRecDepth 100000 in
set_option maxHeartbeats 1000000 in
theorem step_restore (w : World) (LB K : Nat) (vb vw : Value) (L : List Ls) (o c g n : Nat) (d : Dk) (o' c' g' n' : Nat) (d' : Dk) (who a : Int) (av : Option Addr) (cv : Nat) (ld : List Nat) (i : Nat) (W : World)
    (hD : Dp w LB K vb vw L o c g n d d o' c' g' n' d' W) (hI : DI d i) :
    Calls Try.prog 13 #[.pointer (some ⟨LB, o, none⟩), .agg #[.int .i64 5, .int .i64 who, .int .i64 a, .slice av ld.length cv]] W (StP w LB K o c g n o' c' g' n' d' (i + 1)) := by
  have HS := Lib.hid (hD.box #[.int .i64 5, .int .i64 who, .int .i64 a, .slice av ld.length cv])
  have HI := Lib.hid (hI.up.off false)
  clear hD hI
  go_enter Try.func13, Try.ntmps13
  go_upto_region 24 with fail
  obtain ⟨q, hq⟩ : ∃ q, W.heap.size = q := ⟨_, rfl⟩
  generalize World.alloc W _ = W0 at *
  rw [hq] at HS
  (try rw [hq])
  clear hq
  obtain ⟨p0, p5, y0, y1, y2, y3⟩ := HS.out.cells
  go_wp2_with (go_at_call 29; refine (restore_any c d _ HS.out.dp.x.disk).mono ?_; rintro e w1 ⟨rfl, hD1, hg1⟩; have HS := Lib.hid (HS.out.turnD hD1 hg1); have z1 := HS.out.dp.x.rk.free.2.1; have y1 := HS.out.dp.x.rk.cells.2.1)
  go_ret
  exact ⟨rfl, _, _, _, _, (HS.out.turnR (HS.out.dp.x.rk.off false) ((Chg.refl _ _ _ _).set 1 _ (by decide) HS.out.lt.1)).dp, HI.out⟩
set_option maxRecDepth 100000 in
set_option maxHeartbeats 1000000 in
theorem step_looks (w : World) (LB K : Nat) (vb vw : Value) (L : List Ls) (o c g n : Nat) (d : Dk) (o' c' g' n' : Nat) (d' : Dk) (who a : Int) (av : Option Addr) (cv : Nat) (ld : List Nat) (i : Nat) (W : World)
    (hD : Dp w LB K vb vw L o c g n d d o' c' g' n' d' W) (hI : DI d i) :
    Calls Try.prog 13 #[.pointer (some ⟨LB, o, none⟩), .agg #[.int .i64 7, .int .i64 who, .int .i64 a, .slice av ld.length cv]] W (StP w LB K o c g n o' c' g' n' d' (i + 1)) := by
  have HS := Lib.hid (hD.box #[.int .i64 7, .int .i64 who, .int .i64 a, .slice av ld.length cv])
  have HI := Lib.hid hI.up
  clear hD hI
  go_enter Try.func13, Try.ntmps13
  go_upto_region 27 with fail
  obtain ⟨q, hq⟩ : ∃ q, W.heap.size = q := ⟨_, rfl⟩
  generalize World.alloc W _ = W0 at *
  rw [hq] at HS
  (try rw [hq])
  clear hq
  obtain ⟨p0, p5, y0, y1, y2, y3⟩ := HS.out.cells
  go_wp2_with (go_at_call 14; refine (looks_any w LB K vb vw L o c g n d o' c' g' n' d' _ HS.out.dp).mono ?_; rintro e w1 ⟨rfl, vb', vw', L', hD1⟩)
  go_ret
  exact ⟨rfl, _, _, _, _, hD1, HI.out⟩
set_option maxRecDepth 100000 in
set_option maxHeartbeats 1000000 in
theorem step_none (w : World) (LB K : Nat) (vb vw : Value) (L : List Ls) (o c g n : Nat) (d : Dk) (o' c' g' n' : Nat) (d' : Dk) (k who a : Int) (av : Option Addr) (cv : Nat) (ld : List Nat) (i : Nat) (W : World)
    (hD : Dp w LB K vb vw L o c g n d d o' c' g' n' d' W) (hI : DI d i) (h1 : k ≠ 1) (h2 : k ≠ 2) (h3 : k ≠ 3) (h4 : k ≠ 4) (h5 : k ≠ 5) (h7 : k ≠ 7) :
    Calls Try.prog 13 #[.pointer (some ⟨LB, o, none⟩), .agg #[.int .i64 k, .int .i64 who, .int .i64 a, .slice av ld.length cv]] W (StP w LB K o c g n o' c' g' n' d' (i + 1)) := by
  have HS := Lib.hid (hD.box #[.int .i64 k, .int .i64 who, .int .i64 a, .slice av ld.length cv])
  have HI := Lib.hid hI.up
  have e1 : (k == 1) = false := by simpa using h1
  have e2 : (k == 2) = false := by simpa using h2
  have e3 : (k == 3) = false := by simpa using h3
  have e4 : (k == 4) = false := by simpa using h4
  have e5 : (k == 5) = false := by simpa using h5
  have e7 : (k == 7) = false := by simpa using h7
  clear h1 h2 h3 h4 h5 h7
  clear hD hI
  go_enter Try.func13, Try.ntmps13
  go_wp2_with fail
  go_ret
  exact ⟨rfl, _, _, _, _, HS.out.dp, HI.out⟩
theorem step_any (w : World) (LB K : Nat) (vb vw : Value) (L : List Ls) (o c g n : Nat) (d : Dk) (o' c' g' n' : Nat) (d' : Dk) (k who a : Int) (av : Option Addr) (cv : Nat) (ld : List Nat) (i : Nat) (W : World)
    (hD : Dp w LB K vb vw L o c g n d d o' c' g' n' d' W) (hI : DI d i) (hi : i ≤ 1000) (ha : (Lit.int .i64 a).wf = true) (hl : ld.length ≤ 300) (hr : RdP w av ld) :
    Calls Try.prog 13 #[.pointer (some ⟨LB, o, none⟩), .agg #[.int .i64 k, .int .i64 who, .int .i64 a, .slice av ld.length cv]] W (StP w LB K o c g n o' c' g' n' d' (i + 1)) := by
  by_cases h1 : k = 1
  · subst h1; exact step_write _ _ _ _ _ _ _ _ _ _ _ _ _ _ _ _ _ _ _ _ _ _ _ hD hI hi hl hr
  by_cases h2 : k = 2
  · subst h2; exact step_read _ _ _ _ _ _ _ _ _ _ _ _ _ _ _ _ _ _ _ _ _ _ _ hD hI
  by_cases h3 : k = 3
  · subst h3; exact step_fuse _ _ _ _ _ _ _ _ _ _ _ _ _ _ _ _ _ _ _ _ _ _ _ hD hI ha
  by_cases h4 : k = 4
  · subst h4; exact step_cut _ _ _ _ _ _ _ _ _ _ _ _ _ _ _ _ _ _ _ _ _ _ _ hD hI
  by_cases h5 : k = 5
  · subst h5; exact step_restore _ _ _ _ _ _ _ _ _ _ _ _ _ _ _ _ _ _ _ _ _ _ _ hD hI
  by_cases h7 : k = 7
  · subst h7; exact step_looks _ _ _ _ _ _ _ _ _ _ _ _ _ _ _ _ _ _ _ _ _ _ _ hD hI
  exact step_none _ _ _ _ _ _ _ _ _ _ _ _ _ _ _ _ _ _ _ _ _ _ _ _ hD hI h1 h2 h3 h4 h5 h7
end Go.Proofs.Ytpfiaepoibablaa
namespace Go.Proofs.Ytpfiaepoibablaa
set_option linter.unusedVariables false
open Go.RowKit Go.WideShapes Go.ChangeShapes Go.WideElems Go.Deep

/-- What one cell may hold. -/
inductive Sh where
  | int (k : IntKind)
  | bool
  | str
  | ints (k : IntKind)
def ShV (W : World) : Sh → Value → Prop
  | .int k, v => ∃ x, v = .int k x ∧ (Lit.int k x).wf = true
  | .bool, v => ∃ b, v = .bool b
  | .str, v => ∃ s : ByteArray, v = .string s ∧ s.size ≤ maxLen
  | .ints k, v => ∃ xs, RowOf W k v xs ∧ ∀ x ∈ xs, (Lit.int k x).wf = true
theorem ShV.below {W W' : World} (hb : Below W.heap.size W W') : ∀ {s : Sh} {v : Value}, ShV W s v → ShV W' s v
  | .int _, _, h => h
  | .bool, _, h => h
  | .str, _, h => h
  | .ints _, _, ⟨xs, h, hw⟩ => ⟨xs, h.below hb, hw⟩
/-- Cells of these shapes, one by one. -/
def ShL (W : World) : List Sh → List Value → Prop
  | [], [] => True
  | s :: ss, v :: vs => ShV W s v ∧ ShL W ss vs
  | _, _ => False
theorem ShL.len {W : World} : ∀ {ss : List Sh} {vs : List Value}, ShL W ss vs → vs.length = ss.length
  | [], [], _ => rfl
  | s :: ss, v :: vs, h => by simp [ShL.len h.2]
  | [], _ :: _, h => h.elim
  | _ :: _, [], h => h.elim
theorem ShL.append {W : World} : ∀ {ss : List Sh} {vs : List Value} {tt : List Sh} {us : List Value}, ShL W ss vs → ShL W tt us → ShL W (ss ++ tt) (vs ++ us)
  | [], [], _, _, _, h => h
  | s :: ss, v :: vs, _, _, h, k => ⟨h.1, ShL.append h.2 k⟩
  | [], _ :: _, _, _, h, _ => h.elim
  | _ :: _, [], _, _, h, _ => h.elim
theorem ShL.below {W W' : World} (hb : Below W.heap.size W W') : ∀ {ss : List Sh} {vs : List Value}, ShL W ss vs → ShL W' ss vs
  | [], [], h => h
  | s :: ss, v :: vs, h => ⟨h.1.below hb, ShL.below hb h.2⟩
  | [], _ :: _, h => h.elim
  | _ :: _, [], h => h.elim
def tilesS (P : Program) (F : TypeId → Option (List Sh)) : List Field → Nat → Nat → Option (List Sh)
  | [], o, n => if o == n then some [] else none
  | f :: fs, o, n => if f.offset == o then (match F f.type with | none => none | some a => match tilesS P F fs (o + P.cellsOf f.type) n with | none => none | some b => some (a ++ b)) else none
def shapes (P : Program) : Nat → TypeId → Option (List Sh)
  | 0, _ => none
  | d + 1, t =>
    match P.underlying t with
    | some (.int k) => if P.cellsOf t == 1 then some [.int k] else none
    | some .bool => if P.cellsOf t == 1 then some [.bool] else none
    | some .string => if P.cellsOf t == 1 then some [.str] else none
    | some (.slice e) => match P.underlying e with
      | some (.int k) => if P.cellsOf e == 1 && P.cellsOf t == 1 then some [.ints k] else none
      | _ => none
    | some (.struct fs) => tilesS P (shapes P d) fs.toList 0 (P.cellsOf t)
    | _ => none

section
variable {H : Type} {enc : TypeId × Value → H} {P : Program} {w : World} {spare : Nat → Bool} {held : Bool}
theorem rowOf_of_trod {t e : TypeId} {k : IntKind} {n : Nat} {cs : List Value} {x : DataW H × List MemPlace} (ht : P.underlying t = some (.slice e)) (he : P.underlying e = some (.int k)) (hc : P.cellsOf e = 1)
    (hn : DataW.trod enc P w 0 spare held n t cs = some x) : ∃ v xs, cs = [v] ∧ RowOf w k v xs ∧ ∀ x ∈ xs, (Lit.int k x).wf = true := by
  rcases open_ints ht he hc hn with ⟨h1, h2⟩ | ⟨a, len, cap, zs, h1, hb, hl, hm, hz, h2, h3, h4⟩
  · exact ⟨.slice none 0 0, [], h1, .inl ⟨rfl, rfl⟩, by simp⟩
  · have hzl : len ≤ zs.length := by rw [hz]; split <;> omega
    have hlen : (zs.take len).length = len := by rw [List.length_take]; omega
    refine ⟨.slice (some a) len cap, zs.take len, h1, .inr ⟨a, cap, by rw [hlen], by omega, hm, fun i x hx => ?_⟩, fun x hx => h4 x (List.mem_of_mem_take hx)⟩
    have hi : i < len := by have := (List.getElem?_eq_some_iff.1 hx).1; omega
    have hx2 : zs[i]? = some x := by rw [List.getElem?_take_of_lt hi] at hx; exact hx
    have hc1 := h3 i (by omega)
    rw [List.getD_eq_getElem?_getD, hx2] at hc1
    exact ⟨hc1, cell_lt hc1⟩
theorem tilesS_open {F : TypeId → Option (List Sh)} {cs : List Value} (hF : ∀ (t : TypeId) (n : Nat) (cs : List Value) (x : DataW H × List MemPlace) (ss : List Sh), F t = some ss → DataW.trod enc P w 0 spare held n t cs = some x → ShL w ss cs) {n : Nat} :
    ∀ (fs : List Field) (o : Nat) (ss : List Sh), tilesS P F fs o cs.length = some ss → (∀ f ∈ fs, ∃ x, DataW.trod enc P w 0 spare held n f.type ((cs.drop f.offset).take (P.cellsOf f.type)) = some x) → ShL w ss (cs.drop o)
  | [], o, ss, ht, _ => by
    unfold tilesS at ht
    split at ht
    · rename_i ho
      have ho : o = cs.length := by simpa using ho
      obtain rfl : [] = ss := by simpa using ht
      rw [ho, List.drop_length]; trivial
    · cases ht
  | f :: fs, o, ss, ht, hx => by
    unfold tilesS at ht
    split at ht
    · rename_i h1
      have h1 : f.offset = o := by simpa using h1
      split at ht
      · cases ht
      · rename_i a ha
        split at ht
        · cases ht
        · rename_i b hb
          obtain rfl : a ++ b = ss := by simpa using ht
          obtain ⟨x, hx0⟩ := hx f (by simp)
          rw [h1] at hx0
          have h2 := hF _ _ _ _ _ ha hx0
          have h3 := tilesS_open hF fs _ b hb (fun g hg => hx g (by simp [hg]))
          rw [← List.take_append_drop (P.cellsOf f.type) (cs.drop o), List.drop_drop]
          exact h2.append h3
    · cases ht
theorem shapes_open : ∀ (d : Nat) (t : TypeId) (n : Nat) (cs : List Value) (x : DataW H × List MemPlace) (ss : List Sh), shapes P d t = some ss → DataW.trod enc P w 0 spare held n t cs = some x → ShL w ss cs
  | 0, _, _, _, _, _, h, _ => by cases h
  | d + 1, t, n, cs, x, ss, h, hx => by
    unfold shapes at h
    split at h
    · rename_i k hu
      obtain ⟨z, rfl, _, hw⟩ := DataW.trod_int hu hx
      split at h
      · obtain rfl : [Sh.int k] = ss := by simpa using h
        exact ⟨⟨z, rfl, hw⟩, trivial⟩
      · cases h
    · rename_i hu
      obtain ⟨z, rfl, _⟩ := DataW.trod_bool hu hx
      split at h
      · obtain rfl : [Sh.bool] = ss := by simpa using h
        exact ⟨⟨z, rfl⟩, trivial⟩
      · cases h
    · rename_i hu
      obtain ⟨z, rfl, _, hz⟩ := DataW.trod_string hu hx
      split at h
      · obtain rfl : [Sh.str] = ss := by simpa using h
        exact ⟨⟨z, rfl, hz⟩, trivial⟩
      · cases h
    · rename_i e hu
      split at h
      · rename_i k he
        split at h
        · rename_i hc
          simp only [Bool.and_eq_true, beq_iff_eq] at hc
          obtain rfl : [Sh.ints k] = ss := by simpa using h
          obtain ⟨v, xs, rfl, h1, h2⟩ := rowOf_of_trod hu he hc.1 hx
          exact ⟨⟨xs, h1, h2⟩, trivial⟩
        · cases h
      · cases h
    · rename_i fs hu
      obtain ⟨xs, m, _, _, hl, hlen, hf⟩ := DataW.trod_struct hu hx
      rw [← hl] at h
      have := tilesS_open (n := m) (fun t n cs x ss => shapes_open d t n cs x ss) fs.toList 0 ss h (fun f hfm => by
        obtain ⟨i, hi, rfl⟩ := List.mem_iff_getElem.1 hfm
        have := hf i fs.toList[i] (by rw [← Array.getElem?_toList, List.getElem?_eq_getElem hi])
        refine ⟨xs[i]'(by rw [hlen]; simpa using hi), ?_⟩
        rw [this, List.getElem?_eq_getElem])
      simpa using this
    · cases h
/-- A struct that came in. -/
theorem open_shapes {r : Reach} {b0 : Nat} {t : TypeId} {fs : Array Field} {ss : List Sh} {v : Value} {dd : DataW H} {p : List MemPlace} (d : Nat) (ht : P.underlying t = some (.struct fs)) (hfl : shapes P d t = some ss)
    (hval : Value.okWide P w r b0 t v) (h : DataW.Trod enc P w 0 spare held t v dd p) : ∃ cs, v = .agg cs.toArray ∧ ShL w ss cs := by
  obtain ⟨n, hn⟩ := h
  unfold Value.okWide at hval
  rw [ht] at hval
  obtain ⟨cs, rfl, _, _⟩ := hval
  exact ⟨cs.toList, by simp, shapes_open d t n _ _ _ hfl hn⟩
end
/-- A row of elements of these shapes that came in. -/
def RowsS (W : World) (ss : List Sh) (v : Value) (xs : List (List Value)) : Prop :=
  ∃ a cap, v = .slice a xs.length cap ∧ xs.length ≤ cap ∧ cap ≤ maxLen ∧ ∀ (i : Nat) (x : List Value), xs[i]? = some x → ShL W ss x ∧ ∃ g o, a = some ⟨g, o, none⟩ ∧ g < W.heap.size ∧ ∀ (j : Nat) (y : Value), x[j]? = some y → W.cell? ⟨g, o + i * ss.length + j, none⟩ = some y
theorem RowsS.below {W W' : World} {ss : List Sh} {v : Value} {xs : List (List Value)} (h : RowsS W ss v xs) (hb : Below W.heap.size W W') : RowsS W' ss v xs := by
  obtain ⟨a, cap, h1, h2, h3, h4⟩ := h
  refine ⟨a, cap, h1, h2, h3, fun i x hx => ?_⟩
  obtain ⟨h5, g, o, h6, h7, h8⟩ := h4 i x hx
  exact ⟨h5.below hb, g, o, h6, Nat.lt_of_lt_of_le h7 hb.size, fun j y hy => (hb.cell h7).trans (h8 j y hy)⟩
theorem add_midS (b o j : Nat) : (⟨b, o, none⟩ : Addr).add j = ⟨b, o + j, none⟩ := by unfold Addr.add; split <;> simp_all
theorem open_rowsS {H : Type} {enc : TypeId × Value → H} {P : Program} {W : World} {spare : Nat → Bool} {held : Bool} {r : Reach} {b0 : Nat} {t e : TypeId} {ss : List Sh} {v : Value} {dd : DataW H} {p : List MemPlace} (d : Nat) (ht : P.underlying t = some (.slice e)) (hfl : shapes P d e = some ss) (hpos : 0 < ss.length) (hce : P.cellsOf e = ss.length)
    (hval : Value.okWide P W r b0 t v) (h : DataW.Trod enc P W 0 spare held t v dd p) : ∃ xs, RowsS W ss v xs ∧ (dd = .nil ∨ ∃ el sp, dd = .slice el sp ∧ el.length = xs.length) := by
  obtain ⟨n, hn⟩ := h
  have hv : v.cells.toList = [v] := by
    cases v <;> first | rfl | (simp [Value.okWide, Cell.okWide, Cell.ok, ht] at hval)
  rw [hv] at hn
  rcases DataW.trod_slice ht hn with ⟨h1, h2⟩ | ⟨a, len, cap, elems, rest, m, _, h1, h2, hb, hl, hm, hel, hall, _, _⟩
  · obtain rfl : v = .slice none 0 0 := by simpa using h1
    exact ⟨[], ⟨none, 0, rfl, Nat.le_refl _, by unfold maxLen; omega, fun i x h => by simp at h⟩, .inl (congrArg Prod.fst h2)⟩
  · obtain rfl : v = .slice (some a) len cap := by simpa using h1
    rw [hce] at hall
    have key : ∀ i, i < len → ∃ cs : List Value, ShL W ss cs ∧ W.cells? 0 (a.add (i * ss.length)) ss.length = some cs := by
      intro i hi
      have h3 := hall i hi
      rw [List.getElem?_eq_getElem (by omega)] at h3
      obtain ⟨cs, hc, hd⟩ := Option.bind_eq_some_iff.1 h3
      exact ⟨cs, shapes_open d e _ _ _ _ hfl hd, hc⟩
    obtain ⟨f, hf⟩ : ∃ f : Nat → List Value, ∀ i, i < len → ShL W ss (f i) ∧ W.cells? 0 (a.add (i * ss.length)) ss.length = some (f i) := by
      refine ⟨fun i => if h : i < len then (key i h).choose else [], fun i hi => ?_⟩
      simp only [hi, dite_true]
      exact (key i hi).choose_spec
    refine ⟨(List.range len).map f, ⟨some a, cap, by simp, by simpa using hl, hm, fun i x hx => ?_⟩, .inr ⟨elems.map (·.1), rest.map (·.1), congrArg Prod.fst h2, by simp [hel]⟩⟩
    rw [List.getElem?_map] at hx
    have hi : i < len := by
      rcases Nat.lt_or_ge i len with h | h
      · exact h
      · rw [List.getElem?_eq_none (by simpa using h)] at hx; cases hx
    rw [List.getElem?_range hi] at hx
    obtain rfl : f i = x := by simpa using hx
    obtain ⟨h4, h6⟩ := hf i hi
    have hlen := h4.len
    obtain ⟨_, h7, h8⟩ := World.cells?_some h6
    have hcell : ∀ j y, (f i)[j]? = some y → W.cell? ((a.add (i * ss.length)).add j) = some y := by
      intro j y hy
      have hj : j < ss.length := by have := (List.getElem?_eq_some_iff.1 hy).1; omega
      rw [h8 j hj]; exact hy
    have h0 := hcell 0 _ (List.getElem?_eq_getElem (by omega))
    obtain ⟨g, o, spot⟩ := a
    have hspot : spot = none := by
      obtain ⟨k4, k6⟩ := hf 0 (by omega)
      have k4l := k4.len
      obtain ⟨_, k7, k8⟩ := World.cells?_some k6
      have hk := k8 0 hpos
      rw [List.getElem?_eq_getElem (by omega)] at hk
      have := World.cell?_spot hk
      simpa [Addr.add] using this
    subst hspot
    refine ⟨h4, g, o, rfl, ?_, fun j y hy => ?_⟩
    · have := cell_lt h0
      rwa [add_midS, add_midS] at this
    · have := hcell j y hy
      rwa [add_midS, add_midS] at this
end Go.Proofs.Ytpfiaepoibablaa
