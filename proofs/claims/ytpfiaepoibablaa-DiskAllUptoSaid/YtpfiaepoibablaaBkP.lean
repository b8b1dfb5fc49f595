/- Walk over the book: all lists are marked. -/
import Derived.Test.YtpfiaepoibablaaBkM
namespace Go.Proofs.Ytpfiaepoibablaa
set_option linter.unusedVariables false
set_option linter.unusedSimpArgs false
open Go.RowKit

/-- The book, its lists holding C j in the place of what was answered. -/
structure Bp (W : World) (base K : Nat) (vb vw : Value) (L : List Ls) (C : Nat → List Nat) : Prop where
  box : W.heap[K]? = some (.cells (bookC vb vw) 41 (0, 0))
  rb : W.ownsRow base 22 1 vb L.length (L.map Ls.v)
  own : ∀ (j : Nat) (x : Ls), L[j]? = some x → (C j).length = x.l.length ∧ W.ownsRow base x.t 1 x.v x.l.length (bC (C j))
theorem Bp.keep {W X : World} {base K : Nat} {vb vw : Value} {L : List Ls} {C : Nat → List Nat} (h : Bp W base K vb vw L C) (h1 : X.heap[K]? = W.heap[K]?) (h2 : ∀ g ∈ obs vb, X.heap[g]? = W.heap[g]?) (h3 : ∀ (j : Nat) (x : Ls), L[j]? = some x → ∀ g ∈ obs x.v, X.heap[g]? = W.heap[g]?) : Bp X base K vb vw L C :=
  ⟨h1.trans h.box, ownsRow_same h.rb h2, fun j x hx => ⟨(h.own j x hx).1, ownsRow_same (h.own j x hx).2 (h3 j x hx)⟩⟩
theorem Bp.below {W X : World} {base K : Nat} {vb vw : Value} {L : List Ls} {C : Nat → List Nat} (h : Bp W base K vb vw L C) (hb : Below W.heap.size W X) : Bp X base K vb vw L C :=
  h.keep (hb.block K (blk_lt h.box)) (fun g hg => hb.block g (ownsRow_obs h.rb g hg).2) (fun j x hx g hg => hb.block g (ownsRow_obs (h.own j x hx).2 g hg).2)
def atC (L : List Ls) (i j : Nat) : List Nat := match L[j]? with | some x => if j < i then markL j 0 x.l.length else x.l | none => []
theorem atC_lt {L : List Ls} {i j : Nat} {x : Ls} (h : L[j]? = some x) (hj : j < i) : atC L i j = markL j 0 x.l.length := by unfold atC; rw [h]; exact if_pos hj
theorem atC_ge {L : List Ls} {i j : Nat} {x : Ls} (h : L[j]? = some x) (hj : ¬ j < i) : atC L i j = x.l := by unfold atC; rw [h]; exact if_neg hj
theorem Bk.bp {W : World} {base K : Nat} {vb vw : Value} {L : List Ls} (h : Bk W base K vb vw L) : Bp W base K vb vw L (atC L 0) :=
  ⟨h.box, h.rb, fun j x hx => by rw [atC_ge hx (Nat.not_lt_zero j)]; exact ⟨rfl, h.own x (List.mem_of_getElem? hx)⟩⟩
/-- Blocks of the book lie apart. -/
structure Sep (K : Nat) (vb : Value) (L : List Ls) : Prop where
  k : K ∉ obs vb
  kx : ∀ (j : Nat) (x : Ls), L[j]? = some x → K ∉ obs x.v
  bx : ∀ (j : Nat) (x : Ls), L[j]? = some x → ∀ g ∈ obs vb, g ∉ obs x.v
  xx : ∀ (i j : Nat) (x y : Ls), L[i]? = some x → L[j]? = some y → i ≠ j → ∀ g ∈ obs x.v, g ∉ obs y.v
theorem flat_apart {L : List Ls} (h : (L.flatMap Ls.bl).Nodup) : ∀ (i j : Nat) (x y : Ls), L[i]? = some x → L[j]? = some y → i ≠ j → ∀ g ∈ obs x.v, g ∉ obs y.v := by
  induction L with
  | nil => intro i j x y hx; simp at hx
  | cons a L ih =>
    rw [List.flatMap_cons, List.nodup_append] at h
    obtain ⟨_, h2, h3⟩ := h
    have hmem : ∀ (j : Nat) (y : Ls), L[j]? = some y → ∀ g ∈ obs y.v, g ∈ L.flatMap Ls.bl := fun j y hy g hg => List.mem_flatMap.2 ⟨y, List.mem_of_getElem? hy, by simp [Ls.bl, hg]⟩
    intro i j x y hx hy hij g hg1 hg2
    cases i with
    | zero =>
      cases j with
      | zero => exact hij rfl
      | succ j =>
        simp at hx hy
        subst hx
        exact h3 g (by simp [Ls.bl, hg1]) g (hmem j y hy g hg2) rfl
    | succ i =>
      cases j with
      | zero =>
        simp at hx hy
        subst hy
        exact h3 g (by simp [Ls.bl, hg2]) g (hmem i x hx g hg1) rfl
      | succ j =>
        simp at hx hy
        exact ih h2 i j x y hx hy (by omega) g hg1 hg2
theorem Bk.sep {W : World} {base K : Nat} {vb vw : Value} {L : List Ls} (h : Bk W base K vb vw L) : Sep K vb L := by
  have hnd := h.nd
  unfold bkB at hnd
  have hmem : ∀ (j : Nat) (y : Ls), L[j]? = some y → ∀ g ∈ obs y.v, g ∈ L.flatMap Ls.bl := fun j y hy g hg => List.mem_flatMap.2 ⟨y, List.mem_of_getElem? hy, by simp [Ls.bl, hg]⟩
  simp only [List.nodup_cons, List.nodup_append, List.mem_append, not_or] at hnd
  exact ⟨hnd.1.1, fun j x hx e => hnd.1.2.2 (hmem j x hx K e), fun j x hx g h1 h2 => hnd.2.2.2 g h1 g (.inr (hmem j x hx g h2)) rfl, flat_apart hnd.2.2.1.2.1⟩
theorem bk_get (l : List Nat) (j : Nat) : (bC l)[j]? = (l[j]?).map fun x : Nat => Value.int .u8 (x : Int) := by unfold bC; rw [List.getElem?_map]
theorem bk_set (l : List Nat) (j v : Nat) : (bC l).set j (.int .u8 (v : Int)) = bC (l.set j v) := by unfold bC; rw [List.map_set]
theorem put_list {m l : List Nat} {k y : Nat} (h1 : k < m.length) (h2 : m.length = l.length) (hy : m[k]? = some y) : (m.take k ++ l.drop k).set k y = m.take (k + 1) ++ l.drop (k + 1) := by
  have h3 : k < l.length := by omega
  rw [List.set_append_right _ _ (by rw [List.length_take]; omega), List.length_take, Nat.min_eq_left (by omega), Nat.sub_self, List.drop_eq_getElem_cons h3, List.set_cons_zero, List.take_add_one, hy]
  simp
theorem Bp.to {W : World} {base K : Nat} {vb vw : Value} {L : List Ls} {C C' : Nat → List Nat} (h : Bp W base K vb vw L C) (hc : ∀ (j : Nat) (x : Ls), L[j]? = some x → C' j = C j) : Bp W base K vb vw L C' :=
  ⟨h.box, h.rb, fun j x hx => by rw [hc j x hx]; exact h.own j x hx⟩
/-- The list i is half marked. -/
def midC (L : List Ls) (i k : Nat) (m l : List Nat) (j : Nat) : List Nat := if j = i then m.take k ++ l.drop k else atC L i j
theorem Bp.store {W : World} {base K : Nat} {vb vw : Value} {L : List Ls} {i k n c g y : Nat} {m l : List Nat} {u : Value} {tt : TypeId} (hs : Sep K vb L) (hx : L[i]? = some ⟨.slice (some ⟨g, 0, none⟩) n c, u, l, tt⟩) (hn : n = l.length) (hm : m.length = l.length) (hk : k < l.length) (hy : m[k]? = some y)
    (h : Bp W base K vb vw L (midC L i k m l)) : Bp (W.setCell ⟨g, k, none⟩ (.int .u8 (y : Int))) base K vb vw L (midC L i (k + 1) m l) := by
  have hg : g ∈ obs (.slice (some ⟨g, 0, none⟩) n c) := obs_mem.2 rfl
  have hne : ∀ k', k' ≠ g → (W.setCell ⟨g, k, none⟩ (.int .u8 (y : Int))).heap[k']? = W.heap[k']? := fun k' h' => Below.heap_setCell W ⟨g, k, none⟩ _ k' h'
  refine ⟨(hne K (fun e => hs.kx i _ hx (e ▸ hg))).trans h.box, ownsRow_same h.rb (fun g' hg' => hne g' (fun e => hs.bx i _ hx g' hg' (e ▸ hg))), fun j x hj => ?_⟩
  by_cases hji : j = i
  · subst hji
    rw [hx] at hj
    obtain rfl := Option.some.inj hj
    have ho := h.own j _ hx
    unfold midC at ho ⊢
    rw [if_pos rfl] at ho ⊢
    dsimp only at ho ⊢
    subst hn
    have h1 := (ho.2.stored k (.int .u8 (y : Int))).1
    rw [bk_set, put_list (by omega) hm hy] at h1
    exact ⟨by rw [List.length_append, List.length_take, List.length_drop]; omega, h1⟩
  · have ho := h.own j x hj
    unfold midC at ho ⊢
    rw [if_neg hji] at ho ⊢
    exact ⟨ho.1, ownsRow_same ho.2 (fun g' hg' => hne g' (fun e => hs.xx j i _ _ hj hx hji g' hg' (e ▸ hg)))⟩
set_option maxRecDepth 100000 in
set_option maxHeartbeats 2000000 in
theorem bkPut_any (base K : Nat) (vb vw : Value) (L : List Ls) (W : World) (h : Bk W base K vb vw L) (hbase : base ≤ W.heap.size) :
    Calls Try.prog 48 #[.pointer (some ⟨K, 0, none⟩)] W fun e w' => e = .returned (.tuple #[]) ∧ Bp w' base K vb vw L (atC L L.length) ∧ Below base W w' := by
  obtain ⟨a, cap, rfl⟩ := sl_form h.rb
  have HB := Lib.hid h
  have HSP := Lib.hid h.sep
  have hfew := h.few
  have hge := h.ge
  clear h
  go_enter Try.func48, Try.ntmps48
  go_wp2_with fail
  go_loopw [2] (fun iv wr => ∃ i : Nat, iv = .int .i64 i ∧ i ≤ L.length ∧ Hid (Bp wr base K (.slice a L.length cap) vw L (atC L i)) ∧ Hid (Below base W wr ∧ base ≤ wr.heap.size)) (fun iv _ => L.length - (intOf iv).toNat)
  case atStart => exact ⟨0, rfl, Nat.zero_le _, HB.out.bp, Below.refl _ _, hbase⟩
  case round =>
    obtain ⟨i, rfl, hi, HP, HBL⟩ := hrel
    have c8 := (blk_cell HP.out.box 8).trans rfl
    simp [bookC] at c8
    by_cases hlt : i < L.length
    · obtain ⟨x, hx⟩ : ∃ x, L[i]? = some x := ⟨_, List.getElem?_eq_getElem hlt⟩
      obtain ⟨g1, rfl, k1, _⟩ := el_own HP.out.rb (i := i) (x := x.v) (by rw [List.getElem?_map, hx]; rfl)
      have hsh := HB.out.short _ (List.mem_of_getElem? hx)
      have ho1 := (HP.out.own i x hx).2
      obtain ⟨xv, xu, l, tt⟩ := x
      dsimp only at ho1 hsh k1
      obtain ⟨av, cv, rfl⟩ := sl_form ho1
      have i1 : (i : Int) < (L.length : Int) := by omega
      have i2 : (0 : Int) ≤ (i : Int) := by omega
      have i3 : (i : Int).toNat = i := Int.toNat_natCast i
      have HM := Lib.hid (fun w => mark0_any i l.length w (by omega) (by omega))
      have HX := Lib.hid hx
      clear ho1 hx
      obtain ⟨wo, rfl⟩ : ∃ wo : World, wo = wr := ⟨_, rfl⟩
      go_wp2_with (go_at_call 97; refine (HM.out _).mono ?_; rintro e w5 ⟨v5, rfl, ho5, hB5⟩; obtain ⟨a5, c5, rfl⟩ := sl_form ho5)
      have HP5 := Lib.hid (HP.out.below hB5)
      have HBL5 : Hid (Below base W w5 ∧ base ≤ w5.heap.size) := ⟨HBL.out.1.trans (hB5.mono HBL.out.2), Nat.le_trans HBL.out.2 hB5.size⟩
      have H5 : Hid (w5.ownsRow wo.heap.size 5 1 (.slice a5 l.length c5) l.length (bC (markL i 0 l.length)) ∧ K < wo.heap.size ∧ g1 < wo.heap.size ∧ ∀ g ∈ obs (.slice av l.length cv), g < wo.heap.size) :=
        ⟨ho5, blk_lt HP.out.box, cell_lt k1, fun g hg => (ownsRow_obs (HP.out.own i _ HX.out).2 g hg).2⟩
      have hml := markL_len i 0 l.length
      have HML := Lib.hid hml
      have H0 : Hid (Bp w5 base K (.slice (some ⟨g1, 0, none⟩) L.length cap) vw L (midC L i 0 (markL i 0 l.length) l)) :=
        HP5.out.to (fun j x hx => by
          unfold midC
          by_cases hji : j = i
          · subst hji
            rw [HX.out] at hx
            obtain rfl := Option.some.inj hx
            rw [if_pos rfl, atC_ge HX.out (Nat.lt_irrefl _)]; simp
          · rw [if_neg hji])
      have HWO : Hid (wo.heap.size ≤ w5.heap.size) := hB5.size
      clear ho5 hB5 c8 k1 HP HBL HM HP5 hml
      obtain ⟨m, hme⟩ : ∃ m, markL i 0 l.length = m := ⟨_, rfl⟩
      rw [hme] at HML H5 H0
      have HME := Lib.hid hme
      clear hme
      go_wp2_with fail
      go_loopw [4] (fun kv wr => ∃ k : Nat, kv = .int .i64 k ∧ k ≤ l.length ∧ Hid (Bp wr base K (.slice (some ⟨g1, 0, none⟩) L.length cap) vw L (midC L i k m l)) ∧ Hid (Below base W wr ∧ base ≤ wr.heap.size ∧ wo.heap.size ≤ wr.heap.size) ∧ Hid (wr.ownsRow wo.heap.size 5 1 (.slice a5 l.length c5) l.length (bC m))) (fun kv _ => l.length - (intOf kv).toNat)
      case atStart => exact ⟨0, rfl, Nat.zero_le _, H0.out, ⟨HBL5.out.1, HBL5.out.2, HWO.out⟩, H5.out.1⟩
      case round =>
        obtain ⟨k, rfl, hk, HQ, HL, HM5⟩ := hrel
        by_cases hkl : k < l.length
        · obtain ⟨y, hy⟩ : ∃ y, m[k]? = some y := ⟨_, List.getElem?_eq_getElem (by rw [HML.out]; exact hkl)⟩
          obtain ⟨g5, rfl, q5, _⟩ := el_own HM5.out (i := k) (x := .int .u8 (y : Int)) (by rw [bk_get, hy]; rfl)
          obtain ⟨g1', e1, q1, _⟩ := el_own HQ.out.rb (i := i) (x := .slice av l.length cv) (by rw [List.getElem?_map, HX.out]; rfl)
          injection e1 with e1
          injection e1 with e1
          subst e1
          have ho := (HQ.out.own i _ HX.out).2
          dsimp only at ho
          obtain ⟨gx, capx, hvx, _, hgx⟩ := ownsRow_pos ho (by omega)
          injection hvx with e2 e3 e4
          subst e2 e4
          have q8 := (blk_cell HQ.out.box 8).trans rfl
          simp [bookC] at q8
          obtain ⟨zv, qz⟩ : ∃ zv, wr.cell? ⟨gx, k, none⟩ = some zv := by
            rw [ho.cellAt k (by omega)]
            exact ⟨_, List.getElem?_eq_getElem (by rw [ho.1]; omega)⟩
          have qf := ho.frozenAt k
          have HSEP : Hid (gx < wo.heap.size ∧ wo.heap.size ≤ g5) := ⟨H5.out.2.2.2 gx (obs_mem.2 rfl), (HM5.out.lt g5 rfl).1⟩
          have j1 : (k : Int) < (l.length : Int) := by omega
          have j2 : (0 : Int) ≤ (k : Int) := by omega
          have j3 : (k : Int).toNat = k := Int.toNat_natCast k
          have HY := Lib.hid hy
          clear ho hy hgx
          go_upto_region 7 with fail
          refine wp_region_early (fun w' => w'.cell? ⟨K, 8, none⟩ = some (.slice (some ⟨g1, 0, none⟩) L.length cap) ∧ w'.cell? ⟨g1, i, none⟩ = some (.slice (some ⟨gx, 0, none⟩) l.length cv) ∧ w'.cell? ⟨g5, k, none⟩ = some (.int .u8 (y : Int))) (fun t => t == 13) (by kernel_rfl) ?_
          simp only [List.size_toArray, List.length_cons, List.length_nil, Nat.reduceAdd, Array.replicate_succ, Array.replicate_zero, List.push_toArray, List.nil_append, List.cons_append]
          have hSS : wr.drew.cell? ⟨K, 8, none⟩ = some (.slice (some ⟨g1, 0, none⟩) L.length cap) ∧ wr.drew.cell? ⟨g1, i, none⟩ = some (.slice (some ⟨gx, 0, none⟩) l.length cv) ∧ wr.drew.cell? ⟨g5, k, none⟩ = some (.int .u8 (y : Int)) := ⟨q8, q1, q5⟩
          have qz4 : wr.drew.cell? ⟨gx, k, none⟩ = some zv := qz
          have qf4 : wr.drew.frozen? ⟨gx, k, none⟩ = false := qf
          have hdr : Below wr.heap.size wr wr.drew := (Below.refl _ _).drew
          have HQ4 := Lib.hid (HQ.out.below hdr)
          have HL4 : Hid (Below base W wr.drew ∧ base ≤ wr.drew.heap.size ∧ wo.heap.size ≤ wr.drew.heap.size) := ⟨HL.out.1.drew, HL.out.2⟩
          have HM4 := Lib.hid (ownsRow_same HM5.out (X := wr.drew) (fun g _ => rfl))
          clear hdr q8 q1 q5 qz qf HQ HL HM5
          generalize wr.drew = W4 at *
          refine wpAnyE_take (i := 0) (v := ?_) rfl (by kernel_rfl) (by kernel_rfl) (by kernel_rfl) (by kernel_rfl) (fun _ _ _ h => h) (Or.inl ⟨by rfl, ?_⟩) hSS ?_
          rotate_left
          · intro w hSw
            obtain ⟨t0, t1, t2⟩ := hSw
            go_simp
            all_goals with_reducible rfl
          simp only [Act.put, List.setIfInBounds_toArray, List.set_cons_zero, List.set_cons_succ, List.getElem_toArray, List.getElem_cons_zero, List.getElem_cons_succ]
          refine wpAnyE_take (i := 1) (v := ?_) rfl (by kernel_rfl) (by kernel_rfl) (by kernel_rfl) (by kernel_rfl) (fun _ _ _ h => h) (Or.inl ⟨by rfl, ?_⟩) hSS ?_
          rotate_left
          · intro w hSw
            obtain ⟨t0, t1, t2⟩ := hSw
            go_simp
            all_goals with_reducible rfl
          simp only [Act.put, List.setIfInBounds_toArray, List.set_cons_zero, List.set_cons_succ, List.getElem_toArray, List.getElem_cons_zero, List.getElem_cons_succ]
          refine wpAnyE_take (i := 2) (v := ?_) rfl (by kernel_rfl) (by kernel_rfl) (by kernel_rfl) (by kernel_rfl) (fun _ _ _ h => h) (Or.inl ⟨by rfl, ?_⟩) hSS ?_
          rotate_left
          · intro w hSw
            obtain ⟨t0, t1, t2⟩ := hSw
            go_simp
            all_goals with_reducible rfl
          simp only [Act.put, List.setIfInBounds_toArray, List.set_cons_zero, List.set_cons_succ, List.getElem_toArray, List.getElem_cons_zero, List.getElem_cons_succ]
          refine wpAnyE_take (i := 3) (v := ?_) rfl (by kernel_rfl) (by kernel_rfl) (by kernel_rfl) (by kernel_rfl) (fun _ _ _ h => h) (Or.inl ⟨by rfl, ?_⟩) hSS ?_
          rotate_left
          · intro w hSw
            obtain ⟨t0, t1, t2⟩ := hSw
            go_simp
            all_goals with_reducible rfl
          simp only [Act.put, List.setIfInBounds_toArray, List.set_cons_zero, List.set_cons_succ, List.getElem_toArray, List.getElem_cons_zero, List.getElem_cons_succ]
          refine wpAnyE_take (i := 4) (v := ?_) rfl (by kernel_rfl) (by kernel_rfl) (by kernel_rfl) (by kernel_rfl) (fun _ _ _ h => h) (Or.inl ⟨by rfl, ?_⟩) hSS ?_
          rotate_left
          · intro w hSw
            obtain ⟨t0, t1, t2⟩ := hSw
            go_simp
            all_goals with_reducible rfl
          simp only [Act.put, List.setIfInBounds_toArray, List.set_cons_zero, List.set_cons_succ, List.getElem_toArray, List.getElem_cons_zero, List.getElem_cons_succ]
          refine wpAnyE_take (i := 5) (v := ?_) rfl (by kernel_rfl) (by kernel_rfl) (by kernel_rfl) (by kernel_rfl) (fun _ _ _ h => h) (Or.inl ⟨by rfl, ?_⟩) hSS ?_
          rotate_left
          · intro w hSw
            obtain ⟨t0, t1, t2⟩ := hSw
            go_simp
            all_goals with_reducible rfl
          simp only [Act.put, List.setIfInBounds_toArray, List.set_cons_zero, List.set_cons_succ, List.getElem_toArray, List.getElem_cons_zero, List.getElem_cons_succ]
          refine wpAnyE_take (i := 6) (v := ?_) rfl (by kernel_rfl) (by kernel_rfl) (by kernel_rfl) (by kernel_rfl) (fun _ _ _ h => h) (Or.inl ⟨by rfl, ?_⟩) hSS ?_
          rotate_left
          · intro w hSw
            obtain ⟨t0, t1, t2⟩ := hSw
            go_simp
            all_goals with_reducible rfl
          simp only [Act.put, List.setIfInBounds_toArray, List.set_cons_zero, List.set_cons_succ, List.getElem_toArray, List.getElem_cons_zero, List.getElem_cons_succ]
          refine wpAnyE_take (i := 7) (v := ?_) rfl (by kernel_rfl) (by kernel_rfl) (by kernel_rfl) (by kernel_rfl) (fun _ _ _ h => h) (Or.inl ⟨by rfl, ?_⟩) hSS ?_
          rotate_left
          · intro w hSw
            obtain ⟨t0, t1, t2⟩ := hSw
            go_simp
            all_goals with_reducible rfl
          simp only [Act.put, List.setIfInBounds_toArray, List.set_cons_zero, List.set_cons_succ, List.getElem_toArray, List.getElem_cons_zero, List.getElem_cons_succ]
          refine wpAnyE_take (i := 8) (v := ?_) rfl (by kernel_rfl) (by kernel_rfl) (by kernel_rfl) (by kernel_rfl) (fun _ _ _ h => h) (Or.inl ⟨by rfl, ?_⟩) hSS ?_
          rotate_left
          · intro w hSw
            obtain ⟨t0, t1, t2⟩ := hSw
            go_simp
            all_goals with_reducible rfl
          simp only [Act.put, List.setIfInBounds_toArray, List.set_cons_zero, List.set_cons_succ, List.getElem_toArray, List.getElem_cons_zero, List.getElem_cons_succ]
          refine wpAnyE_take (i := 9) (v := ?_) rfl (by kernel_rfl) (by kernel_rfl) (by kernel_rfl) (by kernel_rfl) (fun _ _ _ h => h) (Or.inl ⟨by rfl, ?_⟩) hSS ?_
          rotate_left
          · intro w hSw
            obtain ⟨t0, t1, t2⟩ := hSw
            go_simp
            all_goals with_reducible rfl
          simp only [Act.put, List.setIfInBounds_toArray, List.set_cons_zero, List.set_cons_succ, List.getElem_toArray, List.getElem_cons_zero, List.getElem_cons_succ]
          refine wpAnyE_take (i := 10) (v := ?_) rfl (by kernel_rfl) (by kernel_rfl) (by kernel_rfl) (by kernel_rfl) (fun _ _ _ h => h) (Or.inl ⟨by rfl, ?_⟩) hSS ?_
          rotate_left
          · intro w hSw
            obtain ⟨t0, t1, t2⟩ := hSw
            go_simp
            all_goals with_reducible rfl
          simp only [Act.put, List.setIfInBounds_toArray, List.set_cons_zero, List.set_cons_succ, List.getElem_toArray, List.getElem_cons_zero, List.getElem_cons_succ]
          refine wpAnyE_take (i := 11) (v := ?_) rfl (by kernel_rfl) (by kernel_rfl) (by kernel_rfl) (by kernel_rfl) (fun _ _ _ h => h) (Or.inl ⟨by rfl, ?_⟩) hSS ?_
          rotate_left
          · intro w hSw
            obtain ⟨t0, t1, t2⟩ := hSw
            go_simp
            all_goals with_reducible rfl
          simp only [Act.put, List.setIfInBounds_toArray, List.set_cons_zero, List.set_cons_succ, List.getElem_toArray, List.getElem_cons_zero, List.getElem_cons_succ]
          refine wpAnyE_take (i := 12) (v := ?_) rfl (by kernel_rfl) (by kernel_rfl) (by kernel_rfl) (by kernel_rfl) (fun _ _ _ h => h) (Or.inl ⟨by rfl, ?_⟩) hSS ?_
          rotate_left
          · intro w hSw
            obtain ⟨t0, t1, t2⟩ := hSw
            go_simp
            all_goals with_reducible rfl
          simp only [Act.put, List.setIfInBounds_toArray, List.set_cons_zero, List.set_cons_succ, List.getElem_toArray, List.getElem_cons_zero, List.getElem_cons_succ]
          clear hSS
          refine wpAnyE_one (i := 13) (by kernel_rfl) rfl ?_
          change wpList _ _ (Exit.then _ _) [_] _ _
          try simp only [List.setIfInBounds_toArray, List.set_cons_zero, List.set_cons_succ, List.getElem_toArray, List.getElem_cons_zero, List.getElem_cons_succ]
          go_wp2_with fail
          refine ⟨by kernel_rfl, ?_⟩
          obtain ⟨W5, hW5⟩ : ∃ W5, W4.setCell ⟨gx, k, none⟩ (.int .u8 (y : Int)) = W5 := ⟨_, rfl⟩
          have HQ5 : Hid (Bp W5 base K (.slice (some ⟨g1, 0, none⟩) L.length cap) vw L (midC L i (k + 1) m l)) := by
            rw [← hW5]; exact HQ4.out.store HSP.out HX.out rfl HML.out hkl HY.out
          have HL5 : Hid (Below base W W5 ∧ base ≤ W5.heap.size ∧ wo.heap.size ≤ W5.heap.size) := by
            have hb := ((HQ4.out.own i _ HX.out).2.lt gx rfl).1
            rw [← hW5]; exact ⟨HL4.out.1.setCell hb _, by simpa using HL4.out.2.1, by simpa using HL4.out.2.2⟩
          have HM6 : Hid (W5.ownsRow wo.heap.size 5 1 (.slice (some ⟨g5, 0, none⟩) l.length c5) l.length (bC m)) := by
            rw [← hW5]
            exact ownsRow_same HM4.out (fun g hg => Below.heap_setCell W4 ⟨gx, k, none⟩ _ g (by
              have h1 := (ownsRow_obs HM4.out g hg).1; have h2 := HSEP.out.1; show g ≠ gx; omega))
          rw [hW5]
          clear hW5 qz4 qf4 HQ4 HL4 HM4
          go_wp2_with fail
          go_roundw
          case rel => exact ⟨k + 1, by go_num, by omega, HQ5.out, HL5.out, HM6.out⟩
          case measure => simp [intOf]; omega
        · obtain rfl : k = l.length := by omega
          have HQ5 : Hid (Bp wr base K (.slice (some ⟨g1, 0, none⟩) L.length cap) vw L (atC L (i + 1))) := HQ.out.to (fun j x hx => by
            unfold midC
            by_cases hji : j = i
            · subst hji
              rw [HX.out] at hx
              obtain rfl := Option.some.inj hx
              rw [if_pos rfl, atC_lt HX.out (Nat.lt_succ_self _), List.drop_length, List.append_nil, List.take_of_length_le (by rw [HML.out]; exact Nat.le_refl _)]
              exact HME.out
            · rw [if_neg hji]
              by_cases hlt' : j < i
              · rw [atC_lt hx (by omega), atC_lt hx hlt']
              · rw [atC_ge hx (by omega), atC_ge hx hlt'])
          clear HQ HM5
          go_wp2_with fail
          go_roundw
          case rel => exact ⟨i + 1, by go_num, by omega, HQ5.out, HL.out.1, HL.out.2.1⟩
          case measure => simp [intOf]; omega
    · obtain rfl : i = L.length := by omega
      go_wp2_with fail
      go_end0
      exact ⟨rfl, HP.out, HBL.out.1⟩
end Go.Proofs.Ytpfiaepoibablaa
