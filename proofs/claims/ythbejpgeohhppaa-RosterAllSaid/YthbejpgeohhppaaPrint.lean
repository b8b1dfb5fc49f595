/- Walk: roster.Roster.Print. -/
import Derived.Test.YthbejpgeohhppaaWalkParses
import Derived.Test.YthbejpgeohhppaaIdAll
namespace Go.Proofs.Ythbejpgeohhppaa
set_option linter.unusedVariables false
set_option linter.unusedSimpArgs false
open Go.RowKit Go.Maps Go.Shelf
attribute [local go_sem] Oper.semAt_some

theorem encCells (r : Nat) (h : okR r) : Lib.runeCells (r : Int) = Lib.byteCells (enc r) := by rw [← enc_encodeRune h, Lib.byteCells_encodeRune]

/-- The signs of a set; what Print answers. -/
def sgnL (l : List Nat) (ids : List Nat) : List Nat := ids.map fun i => l.getD i 0
def prV (l : List Nat) (x : Nat) : ByteArray × Int :=
  if x < 2 ^ l.length then (if idsL x 100 = [] then dash else txt (sgnL l (idsL x 100)), 0) else (⟨#[]⟩, 30)
theorem sgnL_ok {l ids : List Nat} (hl : ∀ r ∈ l, okR r) (hi : ∀ i ∈ ids, i < l.length) : ∀ r ∈ sgnL l ids, okR r := by
  intro r hr
  obtain ⟨i, h1, rfl⟩ := List.mem_map.1 hr
  rw [List.getD_eq_getElem?_getD, List.getElem?_eq_getElem (hi i h1)]
  exact hl _ (List.getElem_mem _)
theorem ids_lt {x n i : Nat} (hx : x < 2 ^ n) (h : i ∈ idsL x 100) : i < n := by
  have h1 := (idsL_mem h).2
  rcases Nat.lt_or_ge i n with h2 | h2
  · exact h2
  · exact absurd hx (not_lt_of_bit h1 h2)

/-- A block of cells, a builder: kept where what is no cells is turned. -/
theorem cells_own {β : Type} (k : Nat) (cs : Array Value) (t : TypeId) (f : Nat × Nat) : Own (fun (_ : β) W => W.heap[k]? = some (.cells cs t f)) := by
  intro s X Y row h hg hr
  refine blk_grown hg h fun e => ?_
  obtain ⟨o, ho, hc⟩ := hr k e.symm
  rw [h] at ho; cases ho; cases hc
theorem row_own' {β : Type} (n₀ : Nat) (e : TypeId) (size : Nat) (v : Value) (k : Nat) (xs : List Value) : Own (fun (_ : β) W => W.ownsRow n₀ e size v k xs) := by
  intro s X Y row hr hg hrow
  refine hr.kept hg ?_
  rcases hr.2 with ⟨rfl, _⟩ | ⟨g, cap, cur, rfl, _, hgb, _⟩
  · exact .inl rfl
  · refine .inr fun e' => ?_
    obtain ⟨o, ho, hc⟩ := hrow g (by simpa [Value.ownBlock] using e'.symm)
    rw [hgb] at ho; cases ho; cases hc
theorem builder_own {β : Type} (T e : TypeId) (B b : Nat) (f : β → List Value) : Own (fun (s : β) W => Lib.IsBuilderF T e B b (f s) W) := by
  intro s X Y row h hg hr
  have one : ∀ p, Lib.BuilderAtF T e B b p (f s) X → Lib.BuilderAtF T e B b p (f s) Y := by
    rintro p ⟨hB, v, hv, hown, hne⟩
    refine ⟨hB, v, cells_own (β := Unit) _ _ _ _ () X Y row hv hg hr, hown.kept hg ?_, hne⟩
    rcases hown.2 with ⟨rfl, _⟩ | ⟨g, cap, cur, fz, rfl, _, hgb, _⟩
    · exact .inl rfl
    · refine .inr fun e' => ?_
      obtain ⟨o, ho, hc⟩ := hr g (by simpa [Value.ownBlock] using e'.symm)
      rw [hgb] at ho; cases ho; cases hc
  exact h.imp (one _) (one _)

theorem builder_blk {T e : TypeId} {B b : Nat} {bs : List Value} {W : World} (h : Lib.IsBuilderF T e B b bs W) : ∃ cs, W.heap[b]? = some (.cells cs T (0, 0)) := by
  rcases h with ⟨_, v, hv, _⟩ | ⟨_, v, hv, _⟩ <;> exact ⟨_, hv⟩
theorem row_others {W W' : World} {B b : Nat} {e e' T : TypeId} {n : Nat} {v : Value} {xs : List Value} {cs : Array Value} (h : W.ownsRow B e' 1 v n xs) (k : Lib.OthersKept e (some b) W W') (hb : W.heap[b]? = some (.cells cs T (0, 0))) (hT : T ≠ e') (he : e' ≠ e) : W'.ownsRow B e' 1 v n xs := by
  refine ⟨h.1, ?_⟩
  rcases h.2 with h2 | ⟨g, cap, cur, h2, h3, h4, h5⟩
  · exact .inl h2
  · refine .inr ⟨g, cap, cur, h2, h3, k g _ h4 (fun e1 => ?_) (fun c fz e1 => ?_), h5⟩
    · cases e1
      rw [h4] at hb
      have := Option.some.inj hb
      injection this with _ h6
      exact hT h6.symm
    · injection e1 with _ h6
      exact he h6
/-- A roster and a set in variables. -/
def RS (w0 : World) (b c B x : Nat) (v : Array Value) (o : Option (List Nat)) (W : World) : Prop :=
  W.heap[b]? = some (.cells v 25 (0, 0)) ∧ W.heap[c]? = some (.cells (setC x) 47 (0, 0)) ∧ RostAt W B (.agg v) o ∧ Below w0.heap.size w0 W
theorem RS.below {w0 : World} {b c B x : Nat} {v : Array Value} {o : Option (List Nat)} {W W' : World} (h : RS w0 b c B x v o W) (hb : Below W.heap.size W W') : RS w0 b c B x v o W' :=
  ⟨blk_below' hb h.1, blk_below' hb h.2.1, h.2.2.1.below hb, below_then h.2.2.2 hb⟩
theorem RS.drew {w0 : World} {b c B x : Nat} {v : Array Value} {o : Option (List Nat)} {W : World} (h : RS w0 b c B x v o W) : RS w0 b c B x v o W.drew :=
  ⟨h.1, h.2.1, h.2.2.1.below ⟨rfl, rfl, rfl, Nat.le_refl _, fun _ _ => rfl⟩, below_drewN h.2.2.2 1⟩
theorem RS.all {w0 : World} {b c B x : Nat} {v0 v1 v2 : Value} {o : Option (List Nat)} {W : World} (h : RS w0 b c B x #[v0, v1, v2] o W) :
    (W.cell? ⟨b, 0, none⟩ = some v0 ∧ W.cell? ⟨b, 1, none⟩ = some v1 ∧ W.cell? ⟨b, 2, none⟩ = some v2) ∧
    (W.cell? ⟨c, 0, none⟩ = some (.int .u32 (sw x 0 : Nat)) ∧ W.cell? ⟨c, 1, none⟩ = some (.int .u32 (sw x 1 : Nat)) ∧ W.cell? ⟨c, 2, none⟩ = some (.int .u32 (sw x 2 : Nat)) ∧ W.cell? ⟨c, 3, none⟩ = some (.int .u32 (sw x 3 : Nat))) ∧ RS w0 b c B x #[v0, v1, v2] o W := by
  obtain ⟨c0, c1, c2, _⟩ := three_cells h.1
  obtain ⟨q0, q1, q2, q3, _⟩ := set_cells h.2.1
  exact ⟨⟨c0, c1, c2⟩, ⟨q0, q1, q2, q3⟩, h⟩

theorem RostAt.row {W : World} {B : Nat} {t : ByteArray} {a : Option Addr} {c : Nat} {m : Option Nat} {o : Option (List Nat)} (h : RostAt W B (.agg #[.string t, .slice a (sgs o).length c, .map m]) o) : W.ownsRow B 21 1 (.slice a (sgs o).length c) (sgs o).length (sgC (sgs o)) := by
  cases o with
  | none => cases h; exact World.ownsRow_nil _ _ _ _
  | some l =>
    obtain ⟨sv, b, D, hv, h1, _⟩ := h
    injection hv with hv
    injection hv with hv
    simp only [List.cons.injEq, and_true] at hv
    obtain ⟨_, hv, _⟩ := hv
    subst hv
    exact h1
set_option maxRecDepth 100000 in
set_option maxHeartbeats 2000000 in
theorem print_any (t : ByteArray) (va : Option Addr) (c : Nat) (m : Option Nat) (o : Option (List Nat)) (B x : Nat) (w : World) (hx : x < 2 ^ 128) (hl : (sgs o).length ≤ 100) (hok : ∀ r ∈ sgs o, okR r)
    (hR : RostAt w B (.agg #[.string t, .slice va (sgs o).length c, .map m]) o) :
    Calls Try.prog 23 #[.agg #[.string t, .slice va (sgs o).length c, .map m], setV x] w fun e w' => e = .returned (.tuple #[.string (prV (sgs o) x).1, .int .i64 (prV (sgs o) x).2]) ∧ Below w.heap.size w w' := by
  have HX := Lib.hid hx
  have HOK := Lib.hid hok
  clear hx hok
  unfold setV
  have b0 : RS w w.heap.size (w.heap.size + 1) B x #[.string t, .slice va (sgs o).length c, .map m] o ((w.alloc (.cells #[.string t, .slice va (sgs o).length c, .map m] 25)).alloc (.cells (setC x) 47)) :=
    ⟨blk_old (blk_new w _) _, b1 w _ _, (hR.below ((Below.refl _ _).alloc (Nat.le_refl _) (.cells #[.string t, .slice va (sgs o).length c, .map m] 25))).below ((Below.refl _ _).alloc (Nat.le_refl _) _), ((Below.refl _ w).alloc (Nat.le_refl _) _).alloc (by simp) _⟩
  have hz0 : ((w.alloc (.cells #[.string t, .slice va (sgs o).length c, .map m] 25)).alloc (.cells (setC x) 47)).heap.size = w.heap.size + 2 := by simp
  refine (callsIn_wide (n := 8)).1 ?_
  refine callsIn_of_wp_marks Try.func23 rfl trivial ?_ rfl
  simp only [Try.ntmps23, List.size_toArray, List.length_cons, List.length_nil, Nat.reduceAdd, Nat.reduceSub, Array.replicate_succ, Array.replicate_zero, List.push_toArray, List.append_toArray, List.nil_append, List.cons_append]
  gi_wp2_with fail
  obtain ⟨W, hW⟩ : ∃ W, ((w.alloc (.cells #[.string t, .slice va (sgs o).length c, .map m] 25)).alloc (.cells (setC x) 47)) = W := ⟨_, rfl⟩
  rw [hW] at b0 hz0 ⊢
  clear hW hR
  refine wpIn_wide.2 ?_
  go_region_held3 (fun w' => (w'.cell? ⟨w.heap.size, 0, none⟩ = some (.string t) ∧ w'.cell? ⟨w.heap.size, 1, none⟩ = some (.slice va (sgs o).length c) ∧ w'.cell? ⟨w.heap.size, 2, none⟩ = some (.map m)) ∧
      (w'.cell? ⟨w.heap.size + 1, 0, none⟩ = some (.int .u32 (sw x 0 : Nat)) ∧ w'.cell? ⟨w.heap.size + 1, 1, none⟩ = some (.int .u32 (sw x 1 : Nat)) ∧ w'.cell? ⟨w.heap.size + 1, 2, none⟩ = some (.int .u32 (sw x 2 : Nat)) ∧ w'.cell? ⟨w.heap.size + 1, 3, none⟩ = some (.int .u32 (sw x 3 : Nat))) ∧
      RS w w.heap.size (w.heap.size + 1) B x #[.string t, .slice va (sgs o).length c, .map m] o w')
    (exact RS.all (by first | with_reducible exact b0.drew | with_reducible exact hK2 | with_reducible exact hK))
    (first
      | (go_at_call 15; have hk := (‹_ ∧ _ ∧ RS _ _ _ _ _ _ _ _›).2.2; refine (size_any _ _ _ _ hk.2.2.1).mono ?_; rintro e w' ⟨rfl, hB⟩; have hK := hk.below hB)
      | (go_at_call 35; have hk := (‹_ ∧ _ ∧ RS _ _ _ _ _ _ _ _›).2.2; refine (within_any x _ HX.out hl _).mono ?_; rintro e w' ⟨rfl, hB⟩; have hK2 := hk.below hB))
  have hk := (‹_ ∧ _ ∧ RS _ _ _ _ _ _ _ _›)
  have hk2 := hk.2.2
  obtain ⟨⟨c0, c1, c2⟩, ⟨q0, q1, q2, q3⟩, _⟩ := hk
  by_cases hin : x < 2 ^ (sgs o).length
  · rw [show decide (x < 2 ^ (sgs o).length) = true from by simpa using hin]
    have HIN := Lib.hid hin
    clear hin
    have hz1 := hk2.2.2.2.size
    have hz2 := blk_lt hk2.1
    obtain ⟨q0, q1, q2, q3, _⟩ := set_cells (blk_old hk2.2.1 (.cells #[.pointer none, .slice none 0 0] 77))
    gi_wp2_with fail
    refine ⟨trivial, (callsIn_wide.2 (idAll_any x _)).mono ?_⟩
    rintro e W3 ⟨rfl, hW3⟩
    gi_wp2_with fail
    have r3 : W3.heap[w.heap.size]? = some (.cells #[.string t, .slice va (sgs o).length c, .map m] 25 (0, 0)) := by rw [← hW3]; exact blk_old (blk_old hk2.1 _) _
    have i3 : Lib.IsBuilderF 77 5 w'.heap.size w'.heap.size (Lib.byteCells (([] : List Nat).flatMap enc)) W3 := by
      rw [← hW3]
      exact (Lib.IsBuilderF.of (Lib.fresh_isBuilder 77 5 w')).alloc _
    have hrow : W3.ownsRow B 21 1 (.slice va (sgs o).length c) (sgs o).length (sgC (sgs o)) := by
      rw [← hW3]; exact (hk2.2.2.1.row.alloc _).alloc _
    have s3 : W3.heap[w'.heap.size + 1]? = some (.cells (setC x) 47 (0, 0)) := by rw [← hW3]; exact b1 _ _ _
    have hb3 : Below w.heap.size w W3 := by rw [← hW3]; exact (hk2.2.2.2.alloc hz1 _).alloc (by simp; omega) _
    have hz3 : W3.heap.size = w'.heap.size + 2 := by rw [← hW3]; simp
    have hl4 : ∀ ids : List Nat, ids <+: idsL x 100 → ((sgnL (sgs o) ids).flatMap enc).length ≤ 400 := fun ids hp => by
      have h1 := (flat_len (sgnL (sgs o) ids)).2
      have h2 := hp.length_le
      have h3 := idsL_len x 100
      have h4 : (sgnL (sgs o) ids).length = ids.length := by simp [sgnL]
      omega
    have HL4 := Lib.hid hl4
    clear hl4 hW3 hk2 c0 c1 c2 q0 q1 q2 q3
    apply wpIn_rangeFunc_ownF (F := Fence.wide) (n := 8) (P := Try.prog) rfl (by omega) (gf := 52) (lb := #[.pointer (some ⟨w'.heap.size + 1, 0, none⟩)]) rfl trivial (enters_of Try.func52 (by kernel_rfl) rfl)
      (encs := idEnc x) (idAll1_stops x 7 (by omega) W3 _ s3) (KeepsAt.trans) (KeepsAt.put (by omega)) (Below.refl _ _) (fun _ => rfl)
      (fun pre W => ((Lib.IsBuilderF 77 5 w'.heap.size w'.heap.size (Lib.byteCells ((sgnL (sgs o) (pre.map (·.1))).flatMap enc)) W ∧ W.heap[w.heap.size]? = some (.cells #[.string t, .slice va (sgs o).length c, .map m] 25 (0, 0))) ∧ (W.heap[w'.heap.size + 1]? = some (.cells (setC x) 47 (0, 0)) ∧ W.ownsRow B 21 1 (.slice va (sgs o).length c) (sgs o).length (sgC (sgs o)))) ∧ Below w.heap.size w W)
      (fun c pre W => False)
      (OwnFrom.and (OwnFrom.and (OwnFrom.and ((builder_own _ _ _ _ _).from _) ((cells_own _ _ _ _).from _)) (OwnFrom.and ((cells_own _ _ _ _).from _) ((row_own' _ _ _ _ _ _).from _))) (ownFrom_below (Nat.le_refl _) (by omega)))
      (fun c _ _ _ _ h _ _ => h)
      ⟨⟨⟨i3, r3⟩, s3, hrow⟩, hb3⟩
    case hassign =>
      intro l x W K hK
      have HK := Lib.hid hK
      clear hK
      gi_wp2
      exact HK.out
    case hbody =>
      rintro l pre ⟨i, hi⟩ Wb ⟨⟨⟨j0, j1⟩, j2, j3⟩, hB⟩ hlen
      have hil := ids_lt HIN.out hi
      obtain ⟨r, hr⟩ : ∃ r, (sgs o)[i]? = some r := ⟨_, List.getElem?_eq_getElem hil⟩
      obtain ⟨g, cap, hg, _⟩ := ownsRow_pos j3 (by omega)
      injection hg with hg1 hg2 hg3
      subst hg1
      subst hg3
      clear hg2
      have c0 := sgC_cell j3 rfl hr
      have hrok := HOK.out r (List.mem_of_getElem? hr)
      have hsg : sgnL (sgs o) (pre.map (·.1) ++ [i]) = sgnL (sgs o) (pre.map (·.1)) ++ [r] := by
        simp only [sgnL, List.map_append, List.map_cons, List.map_nil, List.getD_eq_getElem?_getD, hr, Option.getD_some]
      have hlen4 : ((sgnL (sgs o) (pre.map (·.1))).flatMap enc).length ≤ 400 := by
        have h1 := (flat_len (sgnL (sgs o) (pre.map (·.1)))).2
        have h3 := idsL_len x 100
        have h4 : (sgnL (sgs o) (pre.map (·.1))).length = pre.length := by simp [sgnL]
        omega
      obtain ⟨bcs, hbb⟩ := builder_blk j0
      have hzb : w'.heap.size + 1 < Wb.heap.size := blk_lt j2
      have HW := Lib.hid (Try.Builder_WriteRune_k w'.heap.size w'.heap.size _ (r : Int) (by omega) (by have := hrok.1; omega) _ j0 (by rw [Lib.byteCells_length]; omega) (by omega))
      have HSG := Lib.hid hsg
      have ii : (i : Int) < ((sgs o).length : Int) := by omega
      have j10 := three_cells j1
      obtain ⟨k0, k1, k2, _⟩ := j10
      clear hsg hr
      dsimp only
      gi_wp2_with (first
        | (refine ⟨trivial, ?_⟩; gi_at_call 37; refine (CallsIn.inRound l (callsIn_wide.2 HW.out)).mono ?_; rintro e W1 ⟨rfl, h1, b1', k1'⟩))
      refine ⟨⟨b1'.size, fun q ob hq hc => k1' q ob hq (fun e => ?_) (fun cc fz e => by rw [e] at hc; cases hc)⟩, fun ob hq => k1' _ ob hq (by simp) (fun cc fz e => ?_), ⟨⟨⟨?_, k1' _ _ j1 (by simp; omega) (fun cc fz e => by injection e with _ h6; exact absurd h6 (by decide))⟩, k1' _ _ j2 (by simp) (fun cc fz e => by injection e with _ h6; exact absurd h6 (by decide)), row_others j3 k1' hbb (by decide) (by decide)⟩, hB.trans (b1'.mono hz1)⟩⟩
      · cases e; rw [hbb] at hq; cases hq; cases hc
      · rw [j2] at hq; cases hq; injection e with _ h6; exact absurd h6 (by decide)
      · rw [List.map_append, List.map_cons, List.map_nil, HSG.out, List.flatMap_append, List.flatMap_singleton, Lib.byteCells_append, ← encCells r hrok]
        exact Or.inr h1
    case hdone =>
      rintro D ys Wb hD hys ⟨⟨⟨j0, j1⟩, j2, j3⟩, hB⟩ hK
      rw [hys] at j0
      obtain ⟨bcs, hbb⟩ := builder_blk j0
      have hzb : w'.heap.size + 1 < Wb.heap.size := blk_lt j2
      have hokl := sgnL_ok HOK.out (fun i hi => ids_lt HIN.out hi)
      have HLN := Lib.hid (Try.Builder_Len_f w'.heap.size w'.heap.size _ Wb j0)
      rw [Lib.byteCells_length] at HLN
      have hfl := flat_len (sgnL (sgs o) (idsL x 100))
      have hsl : (sgnL (sgs o) (idsL x 100)).length = (idsL x 100).length := by simp [sgnL]
      have hpv : prV (sgs o) x = (if idsL x 100 = [] then dash else txt (sgnL (sgs o) (idsL x 100)), 0) := by unfold prV; rw [if_pos HIN.out]
      by_cases hem : idsL x 100 = []
      · have HPV := Lib.hid (show prV (sgs o) x = (dash, 0) by rw [hpv, if_pos hem])
        rw [hem] at HLN
        have HEM := Lib.hid hem
        clear hem hpv hfl hsl hys
        have hsn : sgnL (sgs o) [] = [] := rfl
        rw [hsn] at HLN
        gi_wp2_with (first
          | (refine ⟨trivial, ?_⟩; gi_at_call 38; refine (callsIn_wide.2 HLN.out).mono ?_; rintro e W1 ⟨rfl, rfl⟩))
        refine ⟨by simp, .inl ⟨_, _, rfl, run_takeDeferred hK, ?_⟩⟩
        exact ⟨.tuple #[.string dash, .int .i64 0], by unfold dash; simp [results, Try.results23, go_sem], by rw [HPV.out], hB.trans (belowK_b (w := w) (Nat.le_refl _) _ D _ _ (by omega) hK rfl rfl)⟩
      · have HPV := Lib.hid (show prV (sgs o) x = (txt (sgnL (sgs o) (idsL x 100)), 0) by rw [hpv, if_neg hem])
        have hpos : 1 ≤ ((sgnL (sgs o) (idsL x 100)).flatMap enc).length := by
          have : (idsL x 100).length ≠ 0 := fun e => hem (List.eq_nil_of_length_eq_zero e)
          omega
        obtain ⟨N, hN⟩ : ∃ N, ((sgnL (sgs o) (idsL x 100)).flatMap enc).length = N := ⟨_, rfl⟩
        rw [hN] at HLN hpos
        have hne : ((N : Int) == 0) = false := by rw [beq_eq_false_iff_ne]; omega
        clear hN
        have HST := Lib.hid (Try.Builder_String_any_k w'.heap.size w'.heap.size _ _ j0 (by omega))
        clear hem hpv hfl hsl hys hpos
        gi_wp2_with (first
          | (refine ⟨trivial, ?_⟩; gi_at_call 38; refine (callsIn_wide.2 HLN.out).mono ?_; rintro e W1 ⟨rfl, rfl⟩)
          | (refine ⟨trivial, ?_⟩; gi_at_call 39; refine (callsIn_wide.2 HST.out).mono ?_; rintro e W2 ⟨rfl, h2, b2', k2'⟩))
        have hK2 : W2.heap[D]? = some (.deferred (some [])) := k2' _ _ hK (by intro e; cases e; rw [hbb] at hK; cases hK) (fun cc fz e => by cases e)
        refine ⟨by simp, .inl ⟨_, _, rfl, run_takeDeferred hK2, ?_⟩⟩
        refine ⟨.tuple #[.string (txt (sgnL (sgs o) (idsL x 100))), .int .i64 0], by simp [results, Try.results23, go_sem, txt], by rw [HPV.out], (hB.trans (b2'.mono hz1)).trans (belowK_b (w := w) (Nat.le_refl _) _ D _ _ (by omega) hK2 rfl rfl)⟩
    case hstop =>
      rintro D c pre W hD hSp h hK
      exact h.elim
  · rw [show decide (x < 2 ^ (sgs o).length) = false from by simpa using hin]
    have HIN := Lib.hid hin
    clear hin
    gi_wp2_with fail
    refine ⟨.tuple #[.string ⟨#[]⟩, .int .i64 30], by simp [results, Try.results23, go_sem], ?_, hk2.2.2.2⟩
    unfold prV
    rw [if_neg HIN.out]
end Go.Proofs.Ythbejpgeohhppaa
