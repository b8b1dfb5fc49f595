/- The walk of the law GlyphNests. -/
import Derived.Test.YteoehhkdmmcglaaAlive
import Derived.Test.YteoehhkdmmcglaaList
import Derived.Test.YteoehhkdmmcglaaAll
import Derived.Test.YteoehhkdmmcglaaNest
import Derived.Laws.EntriesVeiled
namespace Go.Proofs.Yteoehhkdmmcglaa
open Go.RowKit
attribute [local go_sem] Oper.semAt_some
set_option linter.unusedVariables false

theorem run_eql_all (x : Value) (w : World) : (binOp .eql 25 (.func (.func 39) #[] #[x]) .nilFunc).run Try.prog w = .ok (.bool false) w := by kernel_rfl

/-- What holds between two rounds of the outer loop. -/
def nestI (s t : ByteArray) (B0 Ba Bt Bq Bn : Nat) (pa : Option Addr) (ca : Nat) (pb : Option Addr) (cb : Nat) (pre : List Nat) (W : World) : Prop :=
  pre <+: st s 0 ∧ Boxed W B0 4 (.bool false) ∧ Boxed W Ba 22 (.slice pa (st s 0).length ca) ∧ Boxed W (Ba + 1) 22 (.slice pb (st t 0).length cb) ∧
  Boxed W Bt 9 (.string t) ∧ Boxed W Bq 25 (.func (.func 39) #[] #[.pointer (some ⟨Bt, 0, none⟩)]) ∧ Boxed W Bn 3 (.int .i64 pre.length) ∧
  W.ownsRow B0 29 4 (.slice pa (st s 0).length ca) (st s 0).length (chR s (st s 0)) ∧ W.ownsRow B0 29 4 (.slice pb (st t 0).length cb) (st t 0).length (chR t (st t 0))
theorem nestI_own (s t : ByteArray) (B0 Ba Bt Bq Bn : Nat) (pa : Option Addr) (ca : Nat) (pb : Option Addr) (cb : Nat) : Own (nestI s t B0 Ba Bt Bq Bn pa ca pb cb) := fun pre X Y row ⟨h0, h1, h2, h3, h4, h5, h6, h7, h8⟩ hg hr =>
  ⟨h0, boxed_own (β := Unit) _ _ (fun _ => _) () X Y row h1 hg hr, boxed_own (β := Unit) _ _ (fun _ => _) () X Y row h2 hg hr, boxed_own (β := Unit) _ _ (fun _ => _) () X Y row h3 hg hr, boxed_own (β := Unit) _ _ (fun _ => _) () X Y row h4 hg hr,
    boxed_own (β := Unit) _ _ (fun _ => _) () X Y row h5 hg hr, boxed_own (β := Unit) _ _ (fun _ => _) () X Y row h6 hg hr, row_own (β := Unit) _ _ _ _ _ _ () X Y row h7 hg hr, row_own (β := Unit) _ _ _ _ _ _ () X Y row h8 hg hr⟩

theorem ownsRow_base {w : World} {B B' : Nat} {e : TypeId} {size : Nat} {v : Value} {n : Nat} {xs : List Value} (h : w.ownsRow B e size v n xs) (hb : B' ≤ B) : w.ownsRow B' e size v n xs := by
  refine ⟨h.1, ?_⟩
  rcases h.2 with h2 | ⟨g, cap, cur, h2, h3, h4⟩
  · exact .inl h2
  · exact .inr ⟨g, cap, cur, h2, Nat.le_trans hb h3, h4⟩

set_option maxRecDepth 100000 in
set_option maxHeartbeats 4000000 in
theorem glyphNests_walk (s t : ByteArray) (hs : s.size + t.size ≤ 1048576) (w : World) :
    Calls Try.prog 4 #[.string s, .string t] w fun e w' => e = .returned (.bool true) ∧ Below w.heap.size w w' := by
  have L1 := Lib.hid (fun w => list_any s (by omega) w)
  have L2 := Lib.hid (fun w => list_any t (by omega) w)
  have A := Lib.hid alive_any
  by_cases hlong : 40 < (st s 0).length ∨ 40 < (st t 0).length
  · by_cases i1 : (40 : Int) < ((st s 0).length : Int)
    · clear hlong
      refine (callsIn_wide (n := 10)).1 ?_
      refine callsIn_of_wp_marks Try.func4 rfl trivial ?_ rfl
      simp only [Try.ntmps4, List.size_toArray, List.length_cons, List.length_nil, Nat.reduceAdd, Nat.reduceSub, Array.replicate_succ, Array.replicate_zero, List.push_toArray, List.append_toArray, List.nil_append, List.cons_append]
      gi_wp2_with fail
      refine ⟨trivial, ?_⟩
      gi_at_call 15
      refine (callsIn_wide.2 (L1.out _)).mono ?_
      rintro e w1 ⟨va, rfl, ha, hB1⟩
      obtain ⟨pa, ca, rfl, hpa⟩ := ownsRow_slice ha
      clear hpa ha
      gi_wp2_with fail
      refine ⟨trivial, (callsIn_wide.2 (L2.out _)).mono ?_⟩
      rintro e w2 ⟨vb, rfl, hb, hB2⟩
      obtain ⟨pb, cb, rfl, hpb⟩ := ownsRow_slice hb
      clear hpb hb
      gi_wp2_with fail
      refine ⟨trivial, (callsIn_wide.2 (A.out _)).mono ?_⟩
      rintro e w3 ⟨rfl, hB3⟩
      have m0 : Boxed w3 w.heap.size 4 (.bool false) := blk_below' hB3 (blk_old (blk_old (blk_below' hB2 (blk_below' hB1 (blk_new w _))) _) _)
      have m0c := m0.cell
      have m0f := m0.frozen
      have z1 : w.heap.size + 1 ≤ w1.heap.size := by have := hB1.size; simpa using this
      have z2 := hB2.size
      have h3 : Below w.heap.size w w3 := (((below_alloc_then (Below.refl _ w) hB1).trans (hB2.mono (by omega))).alloc (by omega) _ |>.alloc (by simp; omega) _).trans (hB3.mono (by simp; omega))
      gi_wp2_with fail
      have hc5 := (m0.set (.bool true)).cell
      refine ⟨.bool true, ?_, rfl, h3.setCell (p := ⟨w.heap.size, 0, none⟩) (by simp) _⟩
      simp [results, Try.results4, go_sem, hc5]
    · have i2 : (40 : Int) < ((st t 0).length : Int) := by omega
      clear hlong
      refine (callsIn_wide (n := 10)).1 ?_
      refine callsIn_of_wp_marks Try.func4 rfl trivial ?_ rfl
      simp only [Try.ntmps4, List.size_toArray, List.length_cons, List.length_nil, Nat.reduceAdd, Nat.reduceSub, Array.replicate_succ, Array.replicate_zero, List.push_toArray, List.append_toArray, List.nil_append, List.cons_append]
      gi_wp2_with fail
      refine ⟨trivial, ?_⟩
      gi_at_call 15
      refine (callsIn_wide.2 (L1.out _)).mono ?_
      rintro e w1 ⟨va, rfl, ha, hB1⟩
      obtain ⟨pa, ca, rfl, hpa⟩ := ownsRow_slice ha
      clear hpa ha
      gi_wp2_with fail
      refine ⟨trivial, (callsIn_wide.2 (L2.out _)).mono ?_⟩
      rintro e w2 ⟨vb, rfl, hb, hB2⟩
      obtain ⟨pb, cb, rfl, hpb⟩ := ownsRow_slice hb
      clear hpb hb
      gi_wp2_with fail
      refine ⟨trivial, (callsIn_wide.2 (A.out _)).mono ?_⟩
      rintro e w3 ⟨rfl, hB3⟩
      have m0 : Boxed w3 w.heap.size 4 (.bool false) := blk_below' hB3 (blk_old (blk_old (blk_below' hB2 (blk_below' hB1 (blk_new w _))) _) _)
      have m0c := m0.cell
      have m0f := m0.frozen
      have z1 : w.heap.size + 1 ≤ w1.heap.size := by have := hB1.size; simpa using this
      have z2 := hB2.size
      have h3 : Below w.heap.size w w3 := (((below_alloc_then (Below.refl _ w) hB1).trans (hB2.mono (by omega))).alloc (by omega) _ |>.alloc (by simp; omega) _).trans (hB3.mono (by simp; omega))
      gi_wp2_with fail
      have hc5 := (m0.set (.bool true)).cell
      refine ⟨.bool true, ?_, rfl, h3.setCell (p := ⟨w.heap.size, 0, none⟩) (by simp) _⟩
      simp [results, Try.results4, go_sem, hc5]
  · have i1 : ¬ (40 : Int) < ((st s 0).length : Int) := by omega
    have i2 : ¬ (40 : Int) < ((st t 0).length : Int) := by omega
    refine (callsIn_wide (n := 10)).1 ?_
    refine callsIn_of_wp_marks Try.func4 rfl trivial ?_ rfl
    simp only [Try.ntmps4, List.size_toArray, List.length_cons, List.length_nil, Nat.reduceAdd, Nat.reduceSub, Array.replicate_succ, Array.replicate_zero, List.push_toArray, List.append_toArray, List.nil_append, List.cons_append]
    gi_wp2_with fail
    refine ⟨trivial, ?_⟩
    gi_at_call 15
    refine (callsIn_wide.2 (L1.out _)).mono ?_
    rintro e w1 ⟨va, rfl, ha, hB1⟩
    obtain ⟨pa, ca, rfl, hpa⟩ := ownsRow_slice ha
    gi_wp2_with fail
    refine ⟨trivial, (callsIn_wide.2 (L2.out _)).mono ?_⟩
    rintro e w2 ⟨vb, rfl, hb, hB2⟩
    obtain ⟨pb, cb, rfl, hpb⟩ := ownsRow_slice hb
    gi_wp2_with fail
    refine ⟨trivial, (callsIn_wide.2 (all_any s _)).mono ?_⟩
    rintro e W3 ⟨rfl, hW3⟩
    gi_wp2_with fail
    refine ⟨trivial, (callsIn_wide.2 (all_any t _)).mono ?_⟩
    rintro e W4 ⟨rfl, hW4⟩
    have feq := run_eql_all
    gi_wp2_with fail
    refine ⟨trivial, (callsIn_wide.2 (A.out _)).mono ?_⟩
    rintro e W5 ⟨rfl, hB5⟩
    gi_wp2_with fail
    clear feq
    -- what lies in the world in which the loops begin
    have hz3 : W3.heap.size = w2.heap.size + 3 := by rw [← hW3]; simp
    have hz4 : W4.heap.size = w2.heap.size + 4 := by rw [← hW4]; simp; omega
    have hz1 : w.heap.size + 1 ≤ w1.heap.size := by have := hB1.size; simpa using this
    have hz2 : w1.heap.size ≤ w2.heap.size := hB2.size
    have r3 : Boxed W3 w.heap.size 4 (.bool false) := by
      rw [← hW3]; exact blk_old (blk_old (blk_old (blk_below' hB2 (blk_below' hB1 (blk_new w _))) _) _) _
    have a3 : Boxed W3 w2.heap.size 22 (.slice pa (st s 0).length ca) := by rw [← hW3]; exact blk_old (blk_old (blk_new w2 _) _) _
    have b3 : Boxed W3 (w2.heap.size + 1) 22 (.slice pb (st t 0).length cb) := by
      rw [← hW3]; have := blk_new (w2.alloc (.cells #[.slice pa (st s 0).length ca] 22)) (.cells #[.slice pb (st t 0).length cb] 22)
      rw [World.size_alloc] at this; exact blk_old this _
    have s3 : Boxed W3 (w2.heap.size + 1 + 1) 9 (.string s) := by
      rw [← hW3]; have := blk_new ((w2.alloc (.cells #[.slice pa (st s 0).length ca] 22)).alloc (.cells #[.slice pb (st t 0).length cb] 22)) (.cells #[.string s] 9)
      simp only [World.size_alloc] at this; exact this
    have ra3 : W3.ownsRow w.heap.size 29 4 (.slice pa (st s 0).length ca) (st s 0).length (chR s (st s 0)) := by
      rw [← hW3]; exact (((ownsRow_below (ownsRow_base ha (by simp)) hB2).alloc _).alloc _).alloc _
    have rb3 : W3.ownsRow w.heap.size 29 4 (.slice pb (st t 0).length cb) (st t 0).length (chR t (st t 0)) := by
      rw [← hW3]; exact (((ownsRow_base hb (by omega)).alloc _).alloc _).alloc _
    have h3 : Below w.heap.size w W3 := by
      rw [← hW3]
      exact (((below_alloc_then (Below.refl _ w) hB1).trans (hB2.mono (by omega))).alloc (by omega) _ |>.alloc (by simp; omega) _).alloc (by simp; omega) _
    have t4 : Boxed W4 W3.heap.size 9 (.string t) := by rw [← hW4]; exact blk_new W3 _
    have r4 : Boxed W4 w.heap.size 4 (.bool false) := by rw [← hW4]; exact r3.alloc _
    have a4 : Boxed W4 w2.heap.size 22 (.slice pa (st s 0).length ca) := by rw [← hW4]; exact a3.alloc _
    have b4 : Boxed W4 (w2.heap.size + 1) 22 (.slice pb (st t 0).length cb) := by rw [← hW4]; exact b3.alloc _
    have s4 : Boxed W4 (w2.heap.size + 1 + 1) 9 (.string s) := by rw [← hW4]; exact s3.alloc _
    have ra4 : W4.ownsRow w.heap.size 29 4 (.slice pa (st s 0).length ca) (st s 0).length (chR s (st s 0)) := by rw [← hW4]; exact ra3.alloc _
    have rb4 : W4.ownsRow w.heap.size 29 4 (.slice pb (st t 0).length cb) (st t 0).length (chR t (st t 0)) := by rw [← hW4]; exact rb3.alloc _
    have h4 : Below w.heap.size w W4 := by rw [← hW4]; exact h3.alloc (by omega) _
    clear hW3 hW4 r3 a3 b3 s3 ra3 rb3 h3 ha hb hB1 hB2
    have q5 := blk_below' hB5 (blk_new W4 _)
    have r5 := blk_below' hB5 (blk_old r4 _)
    have a5 := blk_below' hB5 (blk_old a4 _)
    have b5 := blk_below' hB5 (blk_old b4 _)
    have s5 := blk_below' hB5 (blk_old s4 _)
    have t5 := blk_below' hB5 (blk_old t4 _)
    have ra5 := ownsRow_below (ra4.alloc _) hB5
    have rb5 := ownsRow_below (rb4.alloc _) hB5
    have h5 := (h4.alloc (o := _) (by omega)).trans (hB5.mono (by simp; omega))
    have z5 := hB5.size
    simp only [World.size_alloc] at z5
    clear hB5 r4 a4 b4 s4 t4 ra4 rb4 h4
    have z6 : (W5.alloc (.cells #[.int .i64 0] 3)).heap.size = W5.heap.size + 1 := by simp
    have I0 : nestI s t w.heap.size w2.heap.size W3.heap.size W4.heap.size W5.heap.size pa ca pb cb [] (W5.alloc (.cells #[.int .i64 0] 3)) :=
      ⟨List.nil_prefix, blk_old r5 _, blk_old a5 _, blk_old b5 _, blk_old t5 _, blk_old q5 _, blk_new W5 _, ra5.alloc _, rb5.alloc _⟩
    have h6 := h5.alloc (by omega) (.cells #[.int .i64 0] 3)
    have s6 := blk_old s5 (.cells #[.int .i64 0] 3)
    clear r5 a5 b5 t5 q5 ra5 rb5 h5
    obtain ⟨W6, hW6⟩ : ∃ W6, W5.alloc (.cells #[.int .i64 0] 3) = W6 := ⟨_, rfl⟩
    rw [hW6] at z6 I0 h6 s6 ⊢
    have HZ3 := Lib.hid hz3
    have HZ4 := Lib.hid hz4
    have HZ5 := Lib.hid z5
    clear hW6 hz3 hz4 z5
    apply outerLoop (F := Fence.wide) (n := 10) (P := Try.prog) rfl (by omega) (gf := 39) (lb := #[.pointer (some ⟨w2.heap.size + 1 + 1, 0, none⟩)]) rfl trivial (enters_of Try.func39 (by kernel_rfl) rfl)
      (encs := allEnc s) (seqStopsA_iff.1 (all1_stops s 9 (by omega) W6 _ s6)) walksK_t walksK_b (Below.refl _ _) (fun _ => rfl)
      (fun pre W => nestI s t w.heap.size w2.heap.size W3.heap.size W4.heap.size W5.heap.size pa ca pb cb pre W ∧ Below w.heap.size w W)
      (fun c pre W => c = .ret ∧ ¬ pre <+: st s 0)
      (OwnFrom.and ((nestI_own _ _ _ _ _ _ _ _ _ _ _).from _) (ownFrom_below (Nat.le_refl _) (by have := HZ5.out; have := HZ4.out; omega)))
      (fun c _ _ _ _ h _ _ => h)
      ⟨I0, h6⟩ KeepsWalks.refl
    case hassign =>
      intro l x W K hK
      have HK := Lib.hid hK
      clear hK
      gi_wp2
      exact HK.out
    case hstop =>
      rintro D c pre W hD hSp ⟨_, hn⟩ hK
      exact absurd hSp hn
    case hdone =>
      rintro D ys W hD rfl ⟨⟨hp, j0, j1, j2, j3, j4, j5, j6, j7⟩, hB⟩ hK
      have k1 := j1.cell
      have k5 := j5.cell
      have hnn : (((st s 0).length : Int) == ((st s 0).length : Int)) = true := by simp
      gi_wp2_with (first
        | (refine ⟨trivial, ?_⟩; gi_at_call 17; refine (callsIn_wide.2 (A.out _)).mono ?_; rintro e w3 ⟨rfl, hB3⟩; have m0 : Boxed w3 w.heap.size 4 (.bool false) := blk_below' hB3 j0; have m0c := m0.cell; have m0f := m0.frozen; have m1 : Boxed w3 w2.heap.size 22 (.slice pa (st s 0).length ca) := blk_below' hB3 j1; have m1c := m1.cell; have m5 : Boxed w3 W5.heap.size 3 (.int .i64 (st s 0).length) := blk_below' hB3 j5; have m5c := m5.cell))
      have hD2 : w.heap.size < D := by have := HZ5.out; have := HZ4.out; omega
      have hK' := blk_set (blk_below' hB3 hK) ⟨w.heap.size, 0, none⟩ (.bool true) (by simp; omega)
      have hb3 := (hB.trans (hB3.mono hB.size)).setCell (p := ⟨w.heap.size, 0, none⟩) (by simp) (.bool true)
      refine ⟨by simp, .inl ⟨_, _, rfl, run_takeDeferred hK', ?_⟩⟩
      have hc5 := cell_kept (m0.set (.bool true)).cell (grownBy_putObj' _ D (.deferred none)) (fun r e => by cases e; exact ⟨_, hK', rfl⟩)
      refine ⟨.bool true, ?_, rfl, hb3.trans (belowK_b (w := w) (Nat.le_refl _) _ D _ _ (by omega) hK' rfl rfl)⟩
      simp [results, Try.results4, go_sem, hc5]
    case hbody =>
      rintro l pre x W hl ⟨r, hr⟩ ⟨⟨hp, j0, j1, j2, j3, j4, j5, j6, j7⟩, hB⟩ hlen
      have k4 := (j4.alloc (.cells #[.int .i64 0] 3)).cell
      gi_wp2
      have hWz : W6.heap.size ≤ W.heap.size := by have := (Array.getElem?_eq_some_iff.1 hr).1; omega
      have hBz : w.heap.size ≤ W.heap.size := by have h1 := h6.size; omega
      have hr' : (W.alloc (.cells #[.int .i64 0] 3)).heap[l]? = some (.loop r) := blk_old hr _
      have n0 := blk_new W (.cells #[.int .i64 0] 3)
      have J2 : nestI s t w.heap.size w2.heap.size W3.heap.size W4.heap.size W5.heap.size pa ca pb cb pre (W.alloc (.cells #[.int .i64 0] 3)) :=
        ⟨hp, blk_old j0 _, blk_old j1 _, blk_old j2 _, blk_old j3 _, blk_old j4 _, blk_old j5 _, j6.alloc _, j7.alloc _⟩
      apply innerLoop (F := Fence.wide.inRound l) (n := 8) (P := Try.prog) (l₀ := l) (r₀ := r) rfl hr' (by omega) (gf := 39) (lb := #[.pointer (some ⟨W3.heap.size, 0, none⟩)]) rfl trivial (enters_of Try.func39 (by kernel_rfl) rfl)
        (encs := allEnc t) ((seqStopsA_iff.1 (all1_stops t 7 (by omega) _ _ (blk_old j3 _))).inRound l) walksK_t walksK_b (Below.refl _ _) (fun _ => rfl)
        (fun pre' W' => ((pre' <+: st t 0 ∧ Boxed W' W.heap.size 3 (.int .i64 pre'.length)) ∧ nestI s t w.heap.size w2.heap.size W3.heap.size W4.heap.size W5.heap.size pa ca pb cb pre W') ∧ (Below w.heap.size w W' ∧ (KeepsFrom W6.heap.size W W' ∧ KeepsWalks W W')))
        (fun c pre' W' => c = .ret ∧ ¬ pre' <+: st t 0)
        (OwnFrom.and (OwnFrom.and (OwnFrom.and (ownFrom_pure _ (fun pre' => pre' <+: st t 0)) (Own.from (boxed_own W.heap.size _ (fun pre' : List Nat => Value.int .i64 pre'.length)) _)) (fun pre' X Y row h hg hr => (nestI_own s t w.heap.size w2.heap.size W3.heap.size W4.heap.size W5.heap.size pa ca pb cb).from _ pre X Y row h hg hr))
          (OwnFrom.and (ownFrom_below (Nat.le_refl _) (Nat.le_trans hBz (by rw [World.size_alloc]; omega))) (OwnFrom.and (ownFrom_keepsFrom (by simp)) (ownFrom_walks (by simp)))))
        (fun c _ _ _ _ h _ _ => h)
        ⟨⟨⟨List.nil_prefix, n0⟩, J2⟩, hB.alloc hBz _, (KeepsOthers.alloc _ _).from _, KeepsWalks.alloc _ _⟩ KeepsWalks.refl
      case hassign =>
        intro l2 x2 W' K hK
        have HK := Lib.hid hK
        clear hK
        gi_wp2
        exact HK.out
      case hstop =>
        rintro c pre' W' hSp ⟨_, hn⟩
        exact absurd hSp hn
      case hdone =>
        rintro ys W' rfl ⟨⟨⟨hp2, m0⟩, ⟨hp, j0, j1, j2, j3, j4, j5, j6, j7⟩⟩, hB2, hKF, hKW⟩
        obtain ⟨p, hpk⟩ : ∃ p, (st s 0)[pre.length]? = some p := ⟨_, List.getElem?_eq_getElem hlen⟩
        rcases hpa with h0 | ⟨g, rfl, _, _⟩
        · omega
        obtain ⟨e0, e1, e2, e3⟩ := row_cells j6 rfl hpk
        have q0 := j0.cell
        have q0f := j0.frozen
        have q1 := j1.cell
        have q2 := j2.cell
        have q5 := j5.cell
        have q5f := j5.frozen
        have qm := m0.cell
        have i5 : (pre.length : Int) < ((st s 0).length : Int) := by omega
        have i6 : (0 : Int) ≤ (pre.length : Int) := by omega
        have i7 : ((st t 0).length : Int) = ((st t 0).length : Int) := rfl
        have i8 : (((st t 0).length : Int) == ((st t 0).length : Int)) = true := by simp
        by_cases hx : x = p
        · have hpre := snoc_of_get hp hpk
          subst hx
          have HPRE := Lib.hid hpre
          clear hpre hpk
          gi_wp2
          have y5 := HZ5.out
          have y4 := HZ4.out
          have y3 := HZ3.out
          refine ⟨z6 ▸ (hKF.trans ((KeepsOthers.setCell _ _ _).from _)), hKW.trans (KeepsWalks.setCell _ _ _), ⟨HPRE.out, j0.other (by omega) _, j1.other (by omega) _, j2.other (by omega) _, j3.other (by omega) _, j4.other (by omega) _, ?_, j6.kept (grownBy_setCell' _ _ _) (.inr (j5.not_row (by decide) j6).symm), j7.kept (grownBy_setCell' _ _ _) (.inr (j5.not_row (by decide) j7).symm)⟩, hB2.setCell (p := ⟨W5.heap.size, 0, none⟩) (by simp; omega) _⟩
          have := j5.set (.int .i64 ((pre.length : Int) + 1))
          simpa using this
        · have hx1 : ((x : Int) == (p : Int)) = false := by simp; omega
          gi_wp2
          refine ⟨z6 ▸ (hKF.trans ((KeepsOthers.setCell _ _ _).from _)), rfl, fun h => hx ?_⟩
          have := snoc_get h
          rw [hpk] at this
          exact (Option.some.inj this).symm
      case hbody =>
        rintro l2 pre' x2 W' hl2 hr2 ⟨⟨⟨hp2, m0⟩, ⟨hp, j0, j1, j2, j3, j4, j5, j6, j7⟩⟩, hB2, hKF, hKW⟩ hlen2
        obtain ⟨p, hpk⟩ : ∃ p, (st t 0)[pre'.length]? = some p := ⟨_, List.getElem?_eq_getElem hlen2⟩
        rcases hpb with h0 | ⟨g, rfl, _, _⟩
        · omega
        obtain ⟨e0, e1, e2, e3⟩ := row_cells j7 rfl hpk
        have q0 := j0.cell
        have q0f := j0.frozen
        have q2 := j2.cell
        have qm := m0.cell
        have qmf := m0.frozen
        have i5 : (pre'.length : Int) < ((st t 0).length : Int) := by omega
        have i6 : (0 : Int) ≤ (pre'.length : Int) := by omega
        have y5 := Lib.hid z6
        by_cases hx : x2 = p
        · have hpre := snoc_of_get hp2 hpk
          subst hx
          have HPRE := Lib.hid hpre
          clear hpre hpk
          gi_wp2
          have y5 := HZ5.out
          have y4 := HZ4.out
          have y3 := HZ3.out
          refine ⟨(KeepsOthers.setCell _ _ _).from _, KeepsWalks.setCell _ _ _, ⟨⟨HPRE.out, ?_⟩, ⟨hp, j0.other (by omega) _, j1.other (by omega) _, j2.other (by omega) _, j3.other (by omega) _, j4.other (by omega) _, j5.other (by omega) _, j6.kept (grownBy_setCell' _ _ _) (.inr (m0.not_row (by decide) j6).symm), j7.kept (grownBy_setCell' _ _ _) (.inr (m0.not_row (by decide) j7).symm)⟩⟩, hB2.setCell (p := ⟨W.heap.size, 0, none⟩) (by simp; omega) _, hKF.trans ((KeepsOthers.setCell _ _ _).from _), hKW.trans (KeepsWalks.setCell _ _ _)⟩
          have := m0.set (.int .i64 ((pre'.length : Int) + 1))
          simpa using this
        · have hx1 : ((x2 : Int) == (p : Int)) = false := by simp; omega
          gi_wp2
          refine ⟨(KeepsOthers.setCell _ _ _).from _, rfl, fun h => hx ?_⟩
          have := snoc_get h
          rw [hpk] at this
          exact (Option.some.inj this).symm

end Go.Proofs.Yteoehhkdmmcglaa
