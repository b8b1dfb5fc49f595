/- Walk: glyph.Chars. -/
import Derived.Test.YteoehhkdmmcglaaSize
import Derived.Test.YteoehhkdmmcglaaList
import Derived.Test.YteoehhkdmmcglaaAll
import Derived.Test.YteoehhkdmmcglaaEarly
namespace Go.Proofs.Yteoehhkdmmcglaa
open Go.RowKit Go.Shelf
attribute [local go_sem] Oper.semAt_some
set_option linter.unusedVariables false
set_option linter.unusedSimpArgs false

def charsI (s : ByteArray) (B0 n0 : Nat) (pre : List { p : Nat // p < s.size }) (W : World) : Prop :=
  (∃ v, Boxed W (B0 + 1) 22 v ∧ W.ownsRow n0 29 4 v pre.length (chR s (pre.map (·.1))) ∧ True) ∧ Boxed W B0 9 (.string s)
theorem charsI_own (s : ByteArray) (B0 n0 : Nat) : Own (charsI s B0 n0) := fun pre X Y row ⟨h0, h1⟩ hg hr =>
  ⟨holdsRow_own n0 (B0 + 1) _ _ 4 (fun pre : List { p : Nat // p < s.size } => pre.length) (fun pre => chR s (pre.map (·.1))) (fun _ _ => True) pre X Y row h0 hg hr, boxed_own (β := Unit) B0 _ (fun _ => _) () X Y row h1 hg hr⟩

theorem four_one (r a b : Int) (l : Bool) : ∀ u ∈ [Value.int .i32 r, .int .i64 a, .int .i64 b, .bool l], u.oneCell' = true := by
  intro u hu; simp at hu; rcases hu with rfl | rfl | rfl | rfl <;> rfl

set_option maxRecDepth 100000 in
set_option maxHeartbeats 2000000 in
theorem chars_ok (s : ByteArray) (hs : s.size ≤ 65536) (w : World) :
    Calls Try.prog 22 #[.string s] w fun e w' => ∃ v, e = .returned (.tuple #[v, .int .i64 0]) ∧ w'.ownsRow w.heap.size 29 4 v (st s 0).length (chR s (st s 0)) ∧ Below w.heap.size w w' := by
  obtain ⟨i0, hi, hz0, hz1, hz2⟩ := info_parts Try.infoChar
  have HC : Hid (∀ p, p < s.size → ∀ w, Calls Try.prog 41 #[.string s, .int .i64 p, .int .i32 (rn s p)] w fun e w' =>
      e = .returned (.agg #[.int .i32 (rn s p), .int .i64 p, .int .i64 (wd s p), .bool (lo s p)]) ∧ Below w.heap.size w w') := Lib.hid (fun p hp w => char_any s p hp w)
  have h1 : ¬ (65536 : Int) < (s.size : Int) := by omega
  have hN := st_len s 0
  refine (callsIn_wide (n := 8)).1 ?_
  refine callsIn_of_wp_marks Try.func22 rfl trivial ?_ rfl
  simp only [Try.ntmps22, List.size_toArray, List.length_cons, List.length_nil, Nat.reduceAdd, Nat.reduceSub, Array.replicate_succ, Array.replicate_zero, List.push_toArray, List.append_toArray, List.nil_append, List.cons_append]
  gi_wp2_with (first
    | (refine ⟨trivial, ?_⟩; gi_at_call 16; refine (callsIn_wide.2 (all_any s _)).mono ?_; rintro e w2 ⟨rfl, rfl⟩))
  have b0 : (((w.alloc (.cells #[.string s] 9)).alloc (.cells #[.slice none 0 0] 22)).alloc (.cells #[.string s] 9)).heap[w.heap.size]? = some (.cells #[.string s] 9 (0, 0)) := blk_old (blk_old (blk_new w _) _) _
  have b1 : (((w.alloc (.cells #[.string s] 9)).alloc (.cells #[.slice none 0 0] 22)).alloc (.cells #[.string s] 9)).heap[w.heap.size + 1]? = some (.cells #[.slice none 0 0] 22 (0, 0)) := blk_old (by have := blk_new (w.alloc (.cells #[.string s] 9)) (.cells #[.slice none 0 0] 22); rwa [World.size_alloc] at this) _
  have b2 : (((w.alloc (.cells #[.string s] 9)).alloc (.cells #[.slice none 0 0] 22)).alloc (.cells #[.string s] 9)).heap[w.heap.size + 1 + 1]? = some (.cells #[.string s] 9 (0, 0)) := by have := blk_new ((w.alloc (.cells #[.string s] 9)).alloc (.cells #[.slice none 0 0] 22)) (.cells #[.string s] 9); simpa only [World.size_alloc] using this
  have hbl : Below w.heap.size w (((w.alloc (.cells #[.string s] 9)).alloc (.cells #[.slice none 0 0] 22)).alloc (.cells #[.string s] 9)) := (((Below.refl _ w).alloc (Nat.le_refl _) _).alloc (by simp) _).alloc (by simp; omega) _
  have hz : (((w.alloc (.cells #[.string s] 9)).alloc (.cells #[.slice none 0 0] 22)).alloc (.cells #[.string s] 9)).heap.size = w.heap.size + 3 := by simp
  obtain ⟨W0, hW0⟩ : ∃ W0, (((w.alloc (.cells #[.string s] 9)).alloc (.cells #[.slice none 0 0] 22)).alloc (.cells #[.string s] 9)) = W0 := ⟨_, rfl⟩
  rw [hW0] at b0 b1 b2 hbl hz ⊢
  clear hW0
  apply wpIn_rangeFunc_ownF (F := Fence.wide) (n := 8) (P := Try.prog) rfl (by omega) (gf := 39) (lb := #[.pointer (some ⟨w.heap.size + 1 + 1, 0, none⟩)]) rfl trivial (enters_of Try.func39 (by kernel_rfl) rfl)
    (encs := allEncS s) (seqStopsA_iff.1 (all1_stopsS s 7 (by omega) W0 _ b2)) walksK_t walksK_b (Below.refl _ _) (fun _ => rfl)
    (fun pre W => charsI s w.heap.size w.heap.size pre W ∧ Below w.heap.size w W)
    (fun c pre W => False)
    (OwnFrom.and ((charsI_own s w.heap.size w.heap.size).from _) (ownFrom_below (Nat.le_refl _) (by omega)))
    (fun c _ _ _ _ h _ _ => h)
    ⟨⟨⟨_, b1, World.ownsRow_nil _ _ _ _, trivial⟩, b0⟩, hbl⟩
  case hassign =>
    intro l x W K hK
    have HK := Lib.hid hK
    clear hK
    gi_wp2
    exact HK.out
  case hbody =>
    rintro l pre ⟨x, hx⟩ W ⟨⟨⟨v, j1, hown, _⟩, j0⟩, hB⟩ hlen
    have k0 := j0.cell
    have k1 := j1.cell
    have k1f := j1.frozen
    have H := Lib.hid (HC.out x hx)
    clear HC b0 b1 b2
    gi_wp2
    refine wpIn_region_early (fun W => Boxed W (w.heap.size + 1) 22 v ∧ Boxed W w.heap.size 9 (.string s)) (fun j => j == 6 || j == 7) (by kernel_rfl) (by kernel_rfl) (fun ⟨_, _, h⟩ => h) ?_
    have d1 : Boxed W.drew (w.heap.size + 1) 22 v := j1
    have d0 : Boxed W.drew w.heap.size 9 (.string s) := j0
    have downed : W.drew.ownsRow w.heap.size 29 4 v pre.length (chR s (pre.map (·.1))) := hown
    have dB : Below w.heap.size w W.drew := hB.drew
    have dk : KeepsOthers W W.drew := ⟨Nat.le_refl _, fun _ _ h _ => h⟩
    clear k0 k1 k1f
    generalize W.drew = W2 at *
    have hSS := And.intro d1 d0
    simp only [List.size_toArray, List.length_cons, List.length_nil, Nat.reduceAdd, Array.replicate_succ, Array.replicate_zero, List.push_toArray, List.nil_append, List.cons_append]
    refine wpAnyE_take (i := 0) (v := ?_) rfl (by kernel_rfl) (by kernel_rfl) (by kernel_rfl) (by kernel_rfl) (fun _ _ _ h => h) (Or.inl ⟨by rfl, ?_⟩) hSS ?_
    rotate_left
    · intro w hSw
      (try have kc0 := hSw.1.cell); (try have kc1 := hSw.2.cell)
      go_simp
      all_goals with_reducible rfl
    simp only [Act.put, List.setIfInBounds_toArray, List.set_cons_zero, List.set_cons_succ, List.getElem_toArray, List.getElem_cons_zero, List.getElem_cons_succ]
    refine wpAnyE_take (i := 1) (v := ?_) rfl (by kernel_rfl) (by kernel_rfl) (by kernel_rfl) (by kernel_rfl) (fun _ _ _ h => h) (Or.inl ⟨by rfl, ?_⟩) hSS ?_
    rotate_left
    · intro w hSw
      (try have kc0 := hSw.1.cell); (try have kc1 := hSw.2.cell)
      go_simp
      all_goals with_reducible rfl
    simp only [Act.put, List.setIfInBounds_toArray, List.set_cons_zero, List.set_cons_succ, List.getElem_toArray, List.getElem_cons_zero, List.getElem_cons_succ]
    refine wpAnyE_take (i := 2) (v := ?_) rfl (by kernel_rfl) (by kernel_rfl) (by kernel_rfl) (by kernel_rfl) (fun _ _ _ h => h) (Or.inl ⟨by rfl, ?_⟩) hSS ?_
    rotate_left
    · intro w hSw
      (try have kc0 := hSw.1.cell); (try have kc1 := hSw.2.cell)
      go_simp
      all_goals with_reducible rfl
    simp only [Act.put, List.setIfInBounds_toArray, List.set_cons_zero, List.set_cons_succ, List.getElem_toArray, List.getElem_cons_zero, List.getElem_cons_succ]
    refine wpAnyE_take (i := 3) (v := ?_) rfl (by kernel_rfl) (by kernel_rfl) (by kernel_rfl) (by kernel_rfl) (fun _ _ _ h => h) (Or.inl ⟨by rfl, ?_⟩) hSS ?_
    rotate_left
    · intro w hSw
      (try have kc0 := hSw.1.cell); (try have kc1 := hSw.2.cell)
      go_simp
      all_goals with_reducible rfl
    simp only [Act.put, List.setIfInBounds_toArray, List.set_cons_zero, List.set_cons_succ, List.getElem_toArray, List.getElem_cons_zero, List.getElem_cons_succ]
    refine wpAnyE_tail 4 rfl (by kernel_rfl) ?_
    simp only [List.drop_succ_cons, List.drop_zero]
    change wpList _ _ (Exit.then _ _) [_] _ _
    go_wp2_with (first
      | (go_at_call 41; refine (H.out _).mono ?_; rintro e w3 ⟨rfl, hB3⟩))
    refine ⟨fun _ => ⟨blk_below' hB3 d1, blk_below' hB3 d0⟩, ?_⟩
    change wpList _ _ (Exit.then _ _) [_] _ _
    go_wp2
    refine ⟨fun _ => ⟨blk_old (blk_below' hB3 d1) _, blk_old (blk_below' hB3 d0) _⟩, wpListE_late _ _ _ _ (fun j hj => by rcases j with _ | _ | j <;> first | rfl | exact absurd hj (by simp only [List.length_cons, List.length_nil]; omega)) ?_⟩
    at_builtin
    refine wpList_append_own _ rfl _ _ 22 rfl w.heap.size 29 i0 (.agg #[.int .i32 0, .int .i64 0, .int .i64 0, .bool false]) 4 32 Try.underlying22 hi hz0 hz1 hz2 rfl (by decide) _ _ _ rfl ((ownsRow_below downed hB3).alloc _) ⟨w3.heap.size, 0, none⟩ 1 1 [.int .i32 (rn s x), .int .i64 x, .int .i64 (wd s x), .bool (lo s x)] rfl rfl (cell_four_new w3 _ _ _ _ _) (four_one _ _ _ _) (by unfold maxLen; omega) (by omega) (by have := dB.size; have := hB3.size; simp; omega) ?_
    intro v' w4 hown4 hg4 _
    obtain ⟨g', cap', rfl⟩ := ownsRow_succ hown4
    have R := Lib.hid (Boxed.appended (blk_below' hB3 d1) (by decide) (ownsRow_below downed hB3) (by have := dB.size; have := hB3.size; omega) (by omega) hown4 hg4)
    have kc := R.out.1.cell
    have kf := R.out.1.frozen
    go_wp2
    have K5 := (dk.trans (keeps_below hB3)).trans R.out.2.2.2.1
    have B5 := (dB.trans (hB3.mono dB.size)).trans (R.out.2.2.2.2)
    refine ⟨K5, K5.walks, ⟨⟨_, R.out.2.1, ?_, trivial⟩, ?_⟩, B5⟩
    · have := R.out.2.2.1
      simpa [chR, chC] using this
    · have dd : Boxed w3 w.heap.size 9 (.string s) := blk_below' hB3 d0
      exact ((dd.alloc _).kept hg4 (dd.not_row (by decide) (ownsRow_below downed hB3))).other (by omega) _
  case hdone =>
    rintro D ys W hD hys ⟨⟨⟨v, j1, hown, _⟩, j0⟩, hB⟩ hK
    have k1 := j1.cell
    gi_wp2
    refine ⟨by simp, .inl ⟨_, _, rfl, run_takeDeferred hK, ?_⟩⟩
    refine ⟨.tuple #[v, .int .i64 0], by simp [results, Try.results22, go_sem], v, rfl, ?_, hB.trans (belowK_b (w := w) (Nat.le_refl _) _ D _ _ (by omega) hK rfl rfl)⟩
    have hl : ys.length = (st s 0).length := by rw [← hys]; simp
    rw [hys, hl] at hown
    exact ownsRow_putObj hown (.deferred none) hK rfl
  case hstop =>
    rintro D c pre W hD hSp h hK
    exact h.elim

end Go.Proofs.Yteoehhkdmmcglaa
