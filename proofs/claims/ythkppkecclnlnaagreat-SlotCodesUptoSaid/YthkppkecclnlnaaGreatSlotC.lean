/- Walks: Encode, Decode. -/
import Derived.Test.YthkppkecclnlnaaGreatSlotB
import Derived.Test.YthkppkecclnlnaaGreatFloat
import Derived.Test.YthkppkecclnlnaaGreatEqB
import Derived.Deep.CutRange
namespace Go.Proofs.YthkppkecclnlnaaGreat
set_option linter.unusedVariables false
set_option linter.unusedSimpArgs false
open Go.RowKit

/-- A new row of 64 bytes. -/
def NewB (w W : World) (v : Value) (l : List Nat) : Prop := ∃ g, v = .slice (some ⟨g, 0, none⟩) 64 64 ∧ w.heap.size ≤ g ∧ W.heap[g]? = some (.cells (bC l).toArray 57 (0, 0))
def encOk (a b c s : Int) : Prop := mayR a b c ∧ 1 ≤ s ∧ s ≤ 1099511627776
instance (a b c s : Int) : Decidable (encOk a b c s) := by unfold encOk; infer_instance
def rcN (a b c s : Int) : Rc := ⟨a.toNat, b.toNat, c.toNat, s.toNat⟩
theorem rcN_may {a b c s : Int} (h : encOk a b c s) : (rcN a b c s).may ∧ keptV (rcN a b c s) = .agg #[.int .i64 a, .int .i64 b, .int .i64 c, .int .i64 s] := by
  obtain ⟨⟨h1, h2, h3, h4, h5, h6⟩, h7, h8⟩ := h
  refine ⟨⟨by show 1 ≤ a.toNat; omega, by show a.toNat ≤ _; omega, by show b.toNat ≤ _; omega, by show c.toNat ≤ _; omega, by show 1 ≤ s.toNat; omega, by show s.toNat ≤ _; omega⟩, ?_⟩
  unfold keptV rcN
  simp only
  rw [Int.toNat_of_nonneg (by omega), Int.toNat_of_nonneg (by omega), Int.toNat_of_nonneg (by omega), Int.toNat_of_nonneg (by omega)]
theorem box3 (w : World) (x y z : Value) (t : TypeId) : (w.alloc (.cells #[x, y, z] t)).heap[w.heap.size]? = some (.cells #[x, y, z] t (0, 0)) := blk_new w _
set_option maxRecDepth 100000 in
set_option maxHeartbeats 1000000 in
theorem encode_ok (a b c s : Int) (h : encOk a b c s) (w : World) : Calls Tryz.prog 5 #[recV a b c, .int .i64 s] w fun e w' =>
    ∃ v, e = .returned (.tuple #[v, .int .i64 0]) ∧ NewB w w' v (encL (rcN a b c s)) ∧ Below w.heap.size w w' := by
  have HM := Lib.hid (fun w => mayBe_any a b c w)
  have HS := Lib.hid (fun w => isSeq_any s w)
  have hb0 : Below w.heap.size w (w.alloc (.cells #[.int .i64 a, .int .i64 b, .int .i64 c] 23)) := (Below.refl _ w).alloc (Nat.le_refl _) _
  have k0 := box3 w (.int .i64 a) (.int .i64 b) (.int .i64 c) 23
  unfold recV at HM ⊢
  obtain ⟨hm, hk⟩ := rcN_may h
  have HB := Lib.hid (fun w => bytes_any _ hm w)
  rw [hk] at HB
  rw [decide_eq_true h.1] at HM
  rw [decide_eq_true h.2] at HS
  have hll : (bC (encL (rcN a b c s))).length = 64 := by rw [bC_len, encL_len]
  generalize encL (rcN a b c s) = l at *
  have HL := Lib.hid hll
  clear h hm hk hll
  go_enter Tryz.func5, Tryz.ntmps5
  go_wp2_with fail
  refine (HM.out _).mono ?_
  rintro e w1 ⟨rfl, hB1⟩
  have hb1 := below_then hb0 hB1
  have k1 := blk_below' hB1 k0
  go_wp2_with fail
  refine (HS.out _).mono ?_
  rintro e w2 ⟨rfl, hB2⟩
  have hb2 := below_then hb1 hB2
  have k2 := blk_below' hB2 k1
  have c0 := (blk_cell k2 0).trans rfl
  have c1 := (blk_cell k2 1).trans rfl
  have c2 := (blk_cell k2 2).trans rfl
  simp at c0 c1 c2
  clear k0 hb0 hB1 hb1 k1 k2 hB2
  go_wp2_with fail
  refine (HB.out _).mono ?_
  rintro e w3 ⟨rfl, hB3⟩
  have hb3 := below_then hb2 hB3
  go_wp2_with (refine wpList_store_mid rfl _ _ _ rfl w3.heap.size 0 (bC l).toArray rfl rfl (there_blk (blk_new w3 _) 0 _ (by simp [HL.out])) (slot_info.trans (by simp [HL.out])) (all_oneCell_toArray (bC_one _)) ?_; generalize hW3 : World.setCells (World.alloc w3 _) _ _ _ = W3; have n3 : W3.heap[w3.heap.size]? = some (.cells (bC l).toArray 57 (0, 0)) ∧ Below w3.heap.size w3 W3 := (by rw [← hW3]; exact new_row w3 _ _ (bC l) (by rw [HL.out]; rfl)); clear hW3)
  go_ret2
  exact ⟨_, rfl, ⟨_, rfl, hb3.size, n3.1⟩, below_then hb3 n3.2⟩
set_option maxRecDepth 100000 in
set_option maxHeartbeats 1000000 in
theorem encode_no (a b c s : Int) (h : ¬ encOk a b c s) (w : World) : Calls Tryz.prog 5 #[recV a b c, .int .i64 s] w fun e w' =>
    e = .returned (.tuple #[.slice none 0 0, .int .i64 1]) ∧ Below w.heap.size w w' := by
  have HM := Lib.hid (fun w => mayBe_any a b c w)
  have HS := Lib.hid (fun w => isSeq_any s w)
  have hb0 : Below w.heap.size w (w.alloc (.cells #[.int .i64 a, .int .i64 b, .int .i64 c] 23)) := (Below.refl _ w).alloc (Nat.le_refl _) _
  unfold recV at HM ⊢
  by_cases h1 : mayR a b c
  · have h2 : ¬ (1 ≤ s ∧ s ≤ 1099511627776) := fun h2 => h ⟨h1, h2⟩
    rw [decide_eq_true h1] at HM
    rw [decide_eq_false h2] at HS
    clear h h1 h2
    go_enter Tryz.func5, Tryz.ntmps5
    go_wp2_with fail
    refine (HM.out _).mono ?_
    rintro e w1 ⟨rfl, hB1⟩
    have hb1 := below_then hb0 hB1
    go_wp2_with fail
    refine (HS.out _).mono ?_
    rintro e w2 ⟨rfl, hB2⟩
    have hb2 := below_then hb1 hB2
    go_wp2_with fail
    go_ret2
    exact ⟨rfl, hb2⟩
  · rw [decide_eq_false h1] at HM
    clear h h1
    go_enter Tryz.func5, Tryz.ntmps5
    go_wp2_with fail
    refine (HM.out _).mono ?_
    rintro e w1 ⟨rfl, hB1⟩
    have hb1 := below_then hb0 hB1
    go_wp2_with fail
    go_ret2
    exact ⟨rfl, hb1⟩
theorem decode_size (a : Option Addr) (n cp : Nat) (h : n ≠ 64) (w : World) : Calls Tryz.prog 8 #[.slice a n cp] w fun e w' =>
    e = .returned (.tuple #[recV 0 0 0, .int .i64 0, .int .i64 102]) ∧ Below w.heap.size w w' := by
  have hne : ((n : Int) != 64) = true := by simp; omega
  unfold recV
  clear h
  go_enter Tryz.func8, Tryz.ntmps8
  go_wp2_with fail
  exact bodyPost_ret (v := .tuple #[.agg #[.int .i64 0, .int .i64 0, .int .i64 0], .int .i64 0, .int .i64 102]) (by simp [results, Tryz.results8, go_sem]) rfl ⟨rfl, (Below.refl _ w).alloc (Nat.le_refl _) _⟩
/-- What Decode answers. -/
def decA (o : Option Rc) : Value := match o with | some r => .tuple #[recV r.life r.round r.tag, .int .i64 (r.seq : Int), .int .i64 0] | none => .tuple #[recV 0 0 0, .int .i64 0, .int .i64 70]
/-- What is known while a slot's bytes are read. -/
structure TK (w : World) (p : Addr) (l : List Nat) (W : World) : Prop where
  bytes : CellsAt W p l
  low : Below w.heap.size w W
  out : W.heap[w.heap.size]? = some (.cells #[.int .i64 0, .int .i64 0, .int .i64 0] 23 (0, 0))
theorem TK.below {w W W' : World} {p : Addr} {l : List Nat} (h : TK w p l W) (hb : Below W.heap.size W W') : TK w p l W' := ⟨h.bytes.below hb, below_then h.low hb, blk_below' hb h.out⟩
theorem CellsAt.part {W : World} {p : Addr} {l : List Nat} (h : CellsAt W p l) (o n : Nat) : CellsAt W (p.add o) ((l.drop o).take n) := by
  intro j x hx
  rw [List.getElem?_take] at hx
  split at hx
  · rw [List.getElem?_drop] at hx
    obtain ⟨b, h1, h2⟩ := h _ _ hx
    cases h1
    exact ⟨_, rfl, by rw [Addr.add_add]; exact h2⟩
  · cases hx
theorem TK.take {w W : World} {g q : Nat} {l : List Nat} (h : TK w ⟨g, q, none⟩ l W) (hl : l.length = 64) (hlt : ∀ c ∈ l, c < 256) (o n cp : Nat) (hn : o + n ≤ 64) :
    Calls Tryz.prog 23 #[.slice (some ⟨g, q + o, none⟩) n cp] W fun e w' => e = .returned (.int .i64 (takeF 0 ((l.drop o).take n) : Nat)) ∧ Below W.heap.size W w' := by
  have h1 := h.bytes.part o n
  rw [Addr.add_mid] at h1
  exact take_any _ n cp _ W (by rw [List.length_take, List.length_drop]; omega) (by omega) (fun c hc => hlt c (List.mem_of_mem_drop (List.mem_of_mem_take hc))) h1
/-- The record that was read, beside. -/
structure KS (w : World) (p : Addr) (l : List Nat) (g : Nat) (W : World) : Prop where
  tk : TK w p l W
  kept : W.heap[g]? = some (.cells #[.int .i64 ((rcOf l).life : Int), .int .i64 ((rcOf l).round : Int), .int .i64 ((rcOf l).tag : Int), .int .i64 ((rcOf l).seq : Int)] 59 (0, 0))
  far : w.heap.size < g
theorem KS.below {w W W' : World} {p : Addr} {l : List Nat} {g : Nat} (h : KS w p l g W) (hb : Below W.heap.size W W') : KS w p l g W' := ⟨h.tk.below hb, blk_below' hb h.kept, h.far⟩
theorem KS.new {w W : World} {p : Addr} {l : List Nat} {g : Nat} (h : TK w p l W) (hg : W.heap[g]? = some (.cells #[.int .i64 0, .int .i64 0, .int .i64 0, .int .i64 0] 59 (0, 0))) (hgw : w.heap.size < g) (hp : p.block ≠ g) :
    KS w p l g ((((W.setCell ⟨g, 0, none⟩ (.int .i64 ((rcOf l).life : Int))).setCell ⟨g, 1, none⟩ (.int .i64 ((rcOf l).round : Int))).setCell ⟨g, 2, none⟩ (.int .i64 ((rcOf l).tag : Int))).setCell ⟨g, 3, none⟩ (.int .i64 ((rcOf l).seq : Int))) := by
  have hgr : W.grownBy ((((W.setCell ⟨g, 0, none⟩ (.int .i64 ((rcOf l).life : Int))).setCell ⟨g, 1, none⟩ (.int .i64 ((rcOf l).round : Int))).setCell ⟨g, 2, none⟩ (.int .i64 ((rcOf l).tag : Int))).setCell ⟨g, 3, none⟩ (.int .i64 ((rcOf l).seq : Int))) (some g) :=
    but_set (but_set (but_set (but_set (but_refl _ _) (blk_lt hg) _ _) (blk_lt hg) _ _) (blk_lt hg) _ _) (blk_lt hg) _ _
  refine ⟨⟨h.bytes.but hgr hp, h.low.grown hgr h.low.size (fun j hj => by cases hj; omega), blk_grown hgr h.out (by simp; omega)⟩, ?_, hgw⟩
  exact blk_store (blk_store (blk_store (blk_store hg 0 _) 1 _) 2 _) 3 _
theorem TK.new' {w W : World} {g q : Nat} {l : List Nat} {b : Nat} (h : TK w ⟨g, q, none⟩ l W) (hg : W.heap[b]? = some (.cells #[.int .i64 0, .int .i64 0, .int .i64 0, .int .i64 0] 59 (0, 0))) (hgw : w.heap.size < b) (hp : g ≠ b) :
    KS w ⟨g, q, none⟩ l b ((((W.setCell ⟨b, 0, none⟩ (.int .i64 ((rcOf l).life : Int))).setCell ⟨b, 1, none⟩ (.int .i64 ((rcOf l).round : Int))).setCell ⟨b, 2, none⟩ (.int .i64 ((rcOf l).tag : Int))).setCell ⟨b, 3, none⟩ (.int .i64 ((rcOf l).seq : Int))) := KS.new h hg hgw hp
/-- The same, by the record. -/
structure KG (b : Nat) (r : Rc) (w : World) (p : Addr) (l : List Nat) (W : World) : Prop where
  kept : W.heap[b]? = some (.cells #[.int .i64 (r.life : Int), .int .i64 (r.round : Int), .int .i64 (r.tag : Int), .int .i64 (r.seq : Int)] 59 (0, 0))
  tk : TK w p l W
theorem KG.below {w W W' : World} {p : Addr} {l : List Nat} {b : Nat} {r : Rc} (h : KG b r w p l W) (hb : Below W.heap.size W W') : KG b r w p l W' := ⟨blk_below' hb h.kept, h.tk.below hb⟩
theorem KG.cells {w W : World} {p : Addr} {l : List Nat} {b : Nat} {r : Rc} (h : KG b r w p l W) :
    W.cell? ⟨b, 0, none⟩ = some (.int .i64 (r.life : Int)) ∧ W.cell? ⟨b, 1, none⟩ = some (.int .i64 (r.round : Int)) ∧ W.cell? ⟨b, 2, none⟩ = some (.int .i64 (r.tag : Int)) ∧ W.cell? ⟨b, 3, none⟩ = some (.int .i64 (r.seq : Int)) :=
  ⟨(blk_cell h.kept 0).trans rfl, (blk_cell h.kept 1).trans rfl, (blk_cell h.kept 2).trans rfl, (blk_cell h.kept 3).trans rfl⟩
theorem run_arrayAt64 (g q cp : Nat) (w : World) : (Instr.arrayAt 57 (.slice (some ⟨g, q, none⟩) 64 cp)).run Tryz.prog w = .ok (.pointer (some ⟨g, q, none⟩)) w := by
  simp [Instr.arrayAt, run_underlying Tryz.underlying57, go_sem]
theorem CellsAt.range {W : World} {g q : Nat} {l : List Nat} (h : CellsAt W ⟨g, q, none⟩ l) : W.rangeAt g q (bC l) := by
  intro j v hv
  rw [bC_get] at hv
  cases hx : l[j]? with
  | none => rw [hx] at hv; cases hv
  | some x =>
    rw [hx] at hv
    cases hv
    obtain ⟨b, h1, h2⟩ := h j x hx
    cases h1
    rwa [Addr.add_mid] at h2
set_option maxRecDepth 100000 in
set_option maxHeartbeats 2000000 in
theorem decode_any (g q : Nat) (cp : Nat) (l : List Nat) (hl : l.length = 64) (hlt : ∀ c ∈ l, c < 256) (hcp : 64 ≤ cp) (w : World) (hc : CellsAt w ⟨g, q, none⟩ l) (hgw : g < w.heap.size) : Calls Tryz.prog 8 #[.slice (some ⟨g, q, none⟩) 64 cp] w fun e w' =>
    e = .returned (decA (decL l)) ∧ Below w.heap.size w w' := by
  have hk : TK w ⟨g, q, none⟩ l (w.alloc (.cells #[.int .i64 0, .int .i64 0, .int .i64 0] 23)) := ⟨hc.below ((Below.refl _ w).alloc (Nat.le_refl _) _), (Below.refl _ w).alloc (Nat.le_refl _) _, box3 w _ _ _ _⟩
  have q1 : (16 : Int) ≤ (cp : Int) := by omega
  have q2 : (21 : Int) ≤ (cp : Int) := by omega
  have q3 : (47 : Int) ≤ (cp : Int) := by omega
  have q4 : (12 : Int) ≤ (cp : Int) := by omega
  have q5 : ¬ cp = 12 := by omega
  have q6 : ¬ cp = 16 := by omega
  have q7 : ¬ cp = 44 := by omega
  have q8 : ¬ cp = 4 := by omega
  go_enter Tryz.func8, Tryz.ntmps8
  go_wp2_with fail
  generalize World.alloc w _ = W1 at *
  clear hc
  go_cut [5] from 10 to 23 (fun v5 wx => ∃ b, v5 = .pointer (some ⟨b, 0, none⟩) ∧ KS w ⟨g, q, none⟩ l b wx)
  case first =>
    refine wp_region_early (fun _ => True) (fun _ => false) (by kernel_rfl) ?_
    have hk2 : TK w ⟨g, q, none⟩ l W1.drew := ⟨hk.bytes, hk.low.drew, hk.out⟩
    clear hk
    generalize W1.drew = W2 at *
    have hSS : True := trivial
    simp only [List.size_toArray, List.length_cons, List.length_nil, Nat.reduceAdd, Array.replicate_succ, Array.replicate_zero, List.push_toArray, List.nil_append, List.cons_append]
    refine wpAnyE_take (i := 0) (v := ?_) rfl (by kernel_rfl) (by kernel_rfl) (by kernel_rfl) (by kernel_rfl) (fun _ _ _ h => h) (Or.inl ⟨by rfl, ?_⟩) hSS ?_
    rotate_left
    · intro w hSw
      (try have kc0 := hSw.1.cell); (try have kc1 := hSw.2.cell)
      go_simp
      all_goals with_reducible rfl
    simp only [Act.put, List.setIfInBounds_toArray, List.set_cons_zero, List.set_cons_succ, List.getElem_toArray, List.getElem_cons_zero, List.getElem_cons_succ]
    refine wpAnyE_take (i := 1) (v := ?_) rfl (by kernel_rfl) (by kernel_rfl) (by kernel_rfl) (by kernel_rfl) (fun _ _ _ h => h) (Or.inl ⟨by rfl, ?_⟩) hSS ?_
    rotate_left
    · intro w hSw
      (try have kc0 := hSw.1.cell); (try have kc1 := hSw.2.cell)
      go_simp
      all_goals with_reducible rfl
    simp only [Act.put, List.setIfInBounds_toArray, List.set_cons_zero, List.set_cons_succ, List.getElem_toArray, List.getElem_cons_zero, List.getElem_cons_succ]
    refine wpAnyE_take (i := 3) (v := ?_) rfl (by kernel_rfl) (by kernel_rfl) (by kernel_rfl) (by kernel_rfl) (fun _ _ _ h => h) (Or.inl ⟨by rfl, ?_⟩) hSS ?_
    rotate_left
    · intro w hSw
      (try have kc0 := hSw.1.cell); (try have kc1 := hSw.2.cell)
      go_simp
      all_goals with_reducible rfl
    simp only [Act.put, List.setIfInBounds_toArray, List.set_cons_zero, List.set_cons_succ, List.getElem_toArray, List.getElem_cons_zero, List.getElem_cons_succ]
    refine wpAnyE_take (i := 4) (v := ?_) rfl (by kernel_rfl) (by kernel_rfl) (by kernel_rfl) (by kernel_rfl) (fun _ _ _ h => h) (Or.inl ⟨by rfl, ?_⟩) hSS ?_
    rotate_left
    · intro w hSw
      (try have kc0 := hSw.1.cell); (try have kc1 := hSw.2.cell)
      go_simp
      all_goals with_reducible rfl
    simp only [Act.put, List.setIfInBounds_toArray, List.set_cons_zero, List.set_cons_succ, List.getElem_toArray, List.getElem_cons_zero, List.getElem_cons_succ]
    refine wpAnyE_take (i := 6) (v := ?_) rfl (by kernel_rfl) (by kernel_rfl) (by kernel_rfl) (by kernel_rfl) (fun _ _ _ h => h) (Or.inl ⟨by rfl, ?_⟩) hSS ?_
    rotate_left
    · intro w hSw
      (try have kc0 := hSw.1.cell); (try have kc1 := hSw.2.cell)
      go_simp
      all_goals with_reducible rfl
    simp only [Act.put, List.setIfInBounds_toArray, List.set_cons_zero, List.set_cons_succ, List.getElem_toArray, List.getElem_cons_zero, List.getElem_cons_succ]
    refine wpAnyE_take (i := 7) (v := ?_) rfl (by kernel_rfl) (by kernel_rfl) (by kernel_rfl) (by kernel_rfl) (fun _ _ _ h => h) (Or.inl ⟨by rfl, ?_⟩) hSS ?_
    rotate_left
    · intro w hSw
      (try have kc0 := hSw.1.cell); (try have kc1 := hSw.2.cell)
      go_simp
      all_goals with_reducible rfl
    simp only [Act.put, List.setIfInBounds_toArray, List.set_cons_zero, List.set_cons_succ, List.getElem_toArray, List.getElem_cons_zero, List.getElem_cons_succ]
    refine wpAnyE_take (i := 10) (v := ?_) rfl (by kernel_rfl) (by kernel_rfl) (by kernel_rfl) (by kernel_rfl) (fun _ _ _ h => h) (Or.inl ⟨by rfl, ?_⟩) hSS ?_
    rotate_left
    · intro w hSw
      (try have kc0 := hSw.1.cell); (try have kc1 := hSw.2.cell)
      go_simp
      all_goals with_reducible rfl
    simp only [Act.put, List.setIfInBounds_toArray, List.set_cons_zero, List.set_cons_succ, List.getElem_toArray, List.getElem_cons_zero, List.getElem_cons_succ]
    refine wpAnyE_take (i := 11) (v := ?_) rfl (by kernel_rfl) (by kernel_rfl) (by kernel_rfl) (by kernel_rfl) (fun _ _ _ h => h) (Or.inl ⟨by rfl, ?_⟩) hSS ?_
    rotate_left
    · intro w hSw
      (try have kc0 := hSw.1.cell); (try have kc1 := hSw.2.cell)
      go_simp
      all_goals with_reducible rfl
    simp only [Act.put, List.setIfInBounds_toArray, List.set_cons_zero, List.set_cons_succ, List.getElem_toArray, List.getElem_cons_zero, List.getElem_cons_succ]
    refine wpAnyE_two (i := 2) (j := 14) (by kernel_rfl) rfl rfl ?_ ?_
    · skip
      change wpList _ _ (Exit.then _ _) [_] _ _
      try simp only [List.setIfInBounds_toArray, List.set_cons_zero, List.set_cons_succ, List.getElem_toArray, List.getElem_cons_zero, List.getElem_cons_succ]
      go_wp2_with (go_at_call 23; refine ((hk2).take hl hlt 12 4 _ (by decide)).mono ?_; rintro e w3 ⟨rfl, hB3⟩)
      have hk3 := (hk2).below hB3
      refine ⟨fun _ => trivial, ?_⟩
      try simp only [List.setIfInBounds_toArray, List.set_cons_zero, List.set_cons_succ, List.getElem_toArray, List.getElem_cons_zero, List.getElem_cons_succ]
      refine wpAnyE_two (i := 5) (j := 14) (by kernel_rfl) rfl rfl ?_ ?_
      · skip
        change wpList _ _ (Exit.then _ _) [_] _ _
        try simp only [List.setIfInBounds_toArray, List.set_cons_zero, List.set_cons_succ, List.getElem_toArray, List.getElem_cons_zero, List.getElem_cons_succ]
        go_wp2_with (go_at_call 23; refine ((hk3).take hl hlt 16 5 _ (by decide)).mono ?_; rintro e w4 ⟨rfl, hB4⟩)
        have hk4 := (hk3).below hB4
        refine ⟨fun _ => trivial, ?_⟩
        try simp only [List.setIfInBounds_toArray, List.set_cons_zero, List.set_cons_succ, List.getElem_toArray, List.getElem_cons_zero, List.getElem_cons_succ]
        refine wpAnyE_two (i := 8) (j := 14) (by kernel_rfl) rfl rfl ?_ ?_
        · skip
          change wpList _ _ (Exit.then _ _) [_] _ _
          try simp only [List.setIfInBounds_toArray, List.set_cons_zero, List.set_cons_succ, List.getElem_toArray, List.getElem_cons_zero, List.getElem_cons_succ]
          go_wp2_with (go_at_call 23; refine ((hk4).take hl hlt 44 3 _ (by decide)).mono ?_; rintro e w5 ⟨rfl, hB5⟩)
          have hk5 := (hk4).below hB5
          refine ⟨fun _ => trivial, ?_⟩
          try simp only [List.setIfInBounds_toArray, List.set_cons_zero, List.set_cons_succ, List.getElem_toArray, List.getElem_cons_zero, List.getElem_cons_succ]
          refine wpAnyE_take (i := 9) (v := ?_) rfl (by kernel_rfl) (by kernel_rfl) (by kernel_rfl) (by kernel_rfl) (fun _ _ _ h => h) (Or.inl ⟨by rfl, ?_⟩) hSS ?_
          rotate_left
          · intro w hSw
            (try have kc0 := hSw.1.cell); (try have kc1 := hSw.2.cell)
            go_simp
            all_goals with_reducible rfl
          simp only [Act.put, List.setIfInBounds_toArray, List.set_cons_zero, List.set_cons_succ, List.getElem_toArray, List.getElem_cons_zero, List.getElem_cons_succ]
          refine wpAnyE_two (i := 12) (j := 14) (by kernel_rfl) rfl rfl ?_ ?_
          · skip
            change wpList _ _ (Exit.then _ _) [_] _ _
            try simp only [List.setIfInBounds_toArray, List.set_cons_zero, List.set_cons_succ, List.getElem_toArray, List.getElem_cons_zero, List.getElem_cons_succ]
            go_wp2_with (go_at_call 23; refine ((hk5).take hl hlt 4 8 _ (by decide)).mono ?_; rintro e w6 ⟨rfl, hB6⟩)
            have hk6 := (hk5).below hB6
            refine ⟨fun _ => trivial, ?_⟩
            try simp only [List.setIfInBounds_toArray, List.set_cons_zero, List.set_cons_succ, List.getElem_toArray, List.getElem_cons_zero, List.getElem_cons_succ]
            refine wpAnyE_take (i := 13) (v := ?_) rfl (by kernel_rfl) (by kernel_rfl) (by kernel_rfl) (by kernel_rfl) (fun _ _ _ h => h) (Or.inl ⟨by rfl, ?_⟩) hSS ?_
            rotate_left
            · intro w hSw
              (try have kc0 := hSw.1.cell); (try have kc1 := hSw.2.cell)
              go_simp
              all_goals with_reducible rfl
            simp only [Act.put, List.setIfInBounds_toArray, List.set_cons_zero, List.set_cons_succ, List.getElem_toArray, List.getElem_cons_zero, List.getElem_cons_succ]
            refine wpAnyE_one (i := 14) (by kernel_rfl) rfl ?_
            change wpList _ _ (Exit.then _ _) [_] _ _
            try simp only [List.setIfInBounds_toArray, List.set_cons_zero, List.set_cons_succ, List.getElem_toArray, List.getElem_cons_zero, List.getElem_cons_succ]
            go_wp2_with fail
            refine ⟨fun _ => trivial, ?_⟩
            try simp only [List.setIfInBounds_toArray, List.set_cons_zero, List.set_cons_succ, List.getElem_toArray, List.getElem_cons_zero, List.getElem_cons_succ]
            have hz := blk_new w6 (.cells #[.int .i64 0, .int .i64 0, .int .i64 0, .int .i64 0] 59)
            have hf : w.heap.size < (w6).heap.size := blk_lt (hk6).out
            have hk7 := (hk6).below ((Below.refl _ w6).alloc (Nat.le_refl _) (.cells #[.int .i64 0, .int .i64 0, .int .i64 0, .int .i64 0] 59))
            generalize World.alloc w6 _ = WA at *
            refine wpAnyE_one (i := 15) (by kernel_rfl) rfl ?_
            change wpList _ _ (Exit.then _ _) [_] _ _
            try simp only [List.setIfInBounds_toArray, List.set_cons_zero, List.set_cons_succ, List.getElem_toArray, List.getElem_cons_zero, List.getElem_cons_succ]
            have hfin := (hk7).new' hz hf (show g ≠ (w6.heap.size) by omega)
            have y0 := (blk_cell hz 0).trans rfl
            have y1 := (blk_cell hz 1).trans rfl
            have y2 := (blk_cell hz 2).trans rfl
            have y3 := (blk_cell hz 3).trans rfl
            simp at y0 y1 y2 y3
            have t0 := blk_free hz 0
            have t1 := blk_free hz 1
            have t2 := blk_free hz 2
            have t3 := blk_free hz 3
            have HFIN := Lib.hid hfin
            clear hfin hz
            go_wp2_with fail
            refine ⟨fun _ => trivial, wpAnyE_end (by kernel_rfl) ?_⟩
            go_wp2_with fail
            go_meet
            exact ⟨_, rfl, HFIN.out⟩
          · skip
            change wpList _ _ (Exit.then _ _) [_] _ _
            try simp only [List.setIfInBounds_toArray, List.set_cons_zero, List.set_cons_succ, List.getElem_toArray, List.getElem_cons_zero, List.getElem_cons_succ]
            go_wp2_with fail
            refine ⟨fun _ => trivial, ?_⟩
            try simp only [List.setIfInBounds_toArray, List.set_cons_zero, List.set_cons_succ, List.getElem_toArray, List.getElem_cons_zero, List.getElem_cons_succ]
            have hz := blk_new w5 (.cells #[.int .i64 0, .int .i64 0, .int .i64 0, .int .i64 0] 59)
            have hf : w.heap.size < (w5).heap.size := blk_lt (hk5).out
            have hk6 := (hk5).below ((Below.refl _ w5).alloc (Nat.le_refl _) (.cells #[.int .i64 0, .int .i64 0, .int .i64 0, .int .i64 0] 59))
            generalize World.alloc w5 _ = WA at *
            refine wpAnyE_one (i := 12) (by kernel_rfl) rfl ?_
            change wpList _ _ (Exit.then _ _) [_] _ _
            try simp only [List.setIfInBounds_toArray, List.set_cons_zero, List.set_cons_succ, List.getElem_toArray, List.getElem_cons_zero, List.getElem_cons_succ]
            go_wp2_with (go_at_call 23; refine ((hk6).take hl hlt 4 8 _ (by decide)).mono ?_; rintro e w6 ⟨rfl, hB6⟩)
            have hk7 := (hk6).below hB6
            refine ⟨fun _ => trivial, ?_⟩
            try simp only [List.setIfInBounds_toArray, List.set_cons_zero, List.set_cons_succ, List.getElem_toArray, List.getElem_cons_zero, List.getElem_cons_succ]
            have hz := blk_below' hB6 hz
            refine wpAnyE_take (i := 13) (v := ?_) rfl (by kernel_rfl) (by kernel_rfl) (by kernel_rfl) (by kernel_rfl) (fun _ _ _ h => h) (Or.inl ⟨by rfl, ?_⟩) hSS ?_
            rotate_left
            · intro w hSw
              (try have kc0 := hSw.1.cell); (try have kc1 := hSw.2.cell)
              go_simp
              all_goals with_reducible rfl
            simp only [Act.put, List.setIfInBounds_toArray, List.set_cons_zero, List.set_cons_succ, List.getElem_toArray, List.getElem_cons_zero, List.getElem_cons_succ]
            refine wpAnyE_one (i := 15) (by kernel_rfl) rfl ?_
            change wpList _ _ (Exit.then _ _) [_] _ _
            try simp only [List.setIfInBounds_toArray, List.set_cons_zero, List.set_cons_succ, List.getElem_toArray, List.getElem_cons_zero, List.getElem_cons_succ]
            have hfin := (hk7).new' hz hf (show g ≠ (w5.heap.size) by omega)
            have y0 := (blk_cell hz 0).trans rfl
            have y1 := (blk_cell hz 1).trans rfl
            have y2 := (blk_cell hz 2).trans rfl
            have y3 := (blk_cell hz 3).trans rfl
            simp at y0 y1 y2 y3
            have t0 := blk_free hz 0
            have t1 := blk_free hz 1
            have t2 := blk_free hz 2
            have t3 := blk_free hz 3
            have HFIN := Lib.hid hfin
            clear hfin hz
            go_wp2_with fail
            refine ⟨fun _ => trivial, wpAnyE_end (by kernel_rfl) ?_⟩
            go_wp2_with fail
            go_meet
            exact ⟨_, rfl, HFIN.out⟩
        · skip
          change wpList _ _ (Exit.then _ _) [_] _ _
          try simp only [List.setIfInBounds_toArray, List.set_cons_zero, List.set_cons_succ, List.getElem_toArray, List.getElem_cons_zero, List.getElem_cons_succ]
          go_wp2_with fail
          refine ⟨fun _ => trivial, ?_⟩
          try simp only [List.setIfInBounds_toArray, List.set_cons_zero, List.set_cons_succ, List.getElem_toArray, List.getElem_cons_zero, List.getElem_cons_succ]
          have hz := blk_new w4 (.cells #[.int .i64 0, .int .i64 0, .int .i64 0, .int .i64 0] 59)
          have hf : w.heap.size < (w4).heap.size := blk_lt (hk4).out
          have hk5 := (hk4).below ((Below.refl _ w4).alloc (Nat.le_refl _) (.cells #[.int .i64 0, .int .i64 0, .int .i64 0, .int .i64 0] 59))
          generalize World.alloc w4 _ = WA at *
          refine wpAnyE_one (i := 8) (by kernel_rfl) rfl ?_
          change wpList _ _ (Exit.then _ _) [_] _ _
          try simp only [List.setIfInBounds_toArray, List.set_cons_zero, List.set_cons_succ, List.getElem_toArray, List.getElem_cons_zero, List.getElem_cons_succ]
          go_wp2_with (go_at_call 23; refine ((hk5).take hl hlt 44 3 _ (by decide)).mono ?_; rintro e w5 ⟨rfl, hB5⟩)
          have hk6 := (hk5).below hB5
          refine ⟨fun _ => trivial, ?_⟩
          try simp only [List.setIfInBounds_toArray, List.set_cons_zero, List.set_cons_succ, List.getElem_toArray, List.getElem_cons_zero, List.getElem_cons_succ]
          have hz := blk_below' hB5 hz
          refine wpAnyE_take (i := 9) (v := ?_) rfl (by kernel_rfl) (by kernel_rfl) (by kernel_rfl) (by kernel_rfl) (fun _ _ _ h => h) (Or.inl ⟨by rfl, ?_⟩) hSS ?_
          rotate_left
          · intro w hSw
            (try have kc0 := hSw.1.cell); (try have kc1 := hSw.2.cell)
            go_simp
            all_goals with_reducible rfl
          simp only [Act.put, List.setIfInBounds_toArray, List.set_cons_zero, List.set_cons_succ, List.getElem_toArray, List.getElem_cons_zero, List.getElem_cons_succ]
          refine wpAnyE_one (i := 12) (by kernel_rfl) rfl ?_
          change wpList _ _ (Exit.then _ _) [_] _ _
          try simp only [List.setIfInBounds_toArray, List.set_cons_zero, List.set_cons_succ, List.getElem_toArray, List.getElem_cons_zero, List.getElem_cons_succ]
          go_wp2_with (go_at_call 23; refine ((hk6).take hl hlt 4 8 _ (by decide)).mono ?_; rintro e w6 ⟨rfl, hB6⟩)
          have hk7 := (hk6).below hB6
          refine ⟨fun _ => trivial, ?_⟩
          try simp only [List.setIfInBounds_toArray, List.set_cons_zero, List.set_cons_succ, List.getElem_toArray, List.getElem_cons_zero, List.getElem_cons_succ]
          have hz := blk_below' hB6 hz
          refine wpAnyE_take (i := 13) (v := ?_) rfl (by kernel_rfl) (by kernel_rfl) (by kernel_rfl) (by kernel_rfl) (fun _ _ _ h => h) (Or.inl ⟨by rfl, ?_⟩) hSS ?_
          rotate_left
          · intro w hSw
            (try have kc0 := hSw.1.cell); (try have kc1 := hSw.2.cell)
            go_simp
            all_goals with_reducible rfl
          simp only [Act.put, List.setIfInBounds_toArray, List.set_cons_zero, List.set_cons_succ, List.getElem_toArray, List.getElem_cons_zero, List.getElem_cons_succ]
          refine wpAnyE_one (i := 15) (by kernel_rfl) rfl ?_
          change wpList _ _ (Exit.then _ _) [_] _ _
          try simp only [List.setIfInBounds_toArray, List.set_cons_zero, List.set_cons_succ, List.getElem_toArray, List.getElem_cons_zero, List.getElem_cons_succ]
          have hfin := (hk7).new' hz hf (show g ≠ (w4.heap.size) by omega)
          have y0 := (blk_cell hz 0).trans rfl
          have y1 := (blk_cell hz 1).trans rfl
          have y2 := (blk_cell hz 2).trans rfl
          have y3 := (blk_cell hz 3).trans rfl
          simp at y0 y1 y2 y3
          have t0 := blk_free hz 0
          have t1 := blk_free hz 1
          have t2 := blk_free hz 2
          have t3 := blk_free hz 3
          have HFIN := Lib.hid hfin
          clear hfin hz
          go_wp2_with fail
          refine ⟨fun _ => trivial, wpAnyE_end (by kernel_rfl) ?_⟩
          go_wp2_with fail
          go_meet
          exact ⟨_, rfl, HFIN.out⟩
      · skip
        change wpList _ _ (Exit.then _ _) [_] _ _
        try simp only [List.setIfInBounds_toArray, List.set_cons_zero, List.set_cons_succ, List.getElem_toArray, List.getElem_cons_zero, List.getElem_cons_succ]
        go_wp2_with fail
        refine ⟨fun _ => trivial, ?_⟩
        try simp only [List.setIfInBounds_toArray, List.set_cons_zero, List.set_cons_succ, List.getElem_toArray, List.getElem_cons_zero, List.getElem_cons_succ]
        have hz := blk_new w3 (.cells #[.int .i64 0, .int .i64 0, .int .i64 0, .int .i64 0] 59)
        have hf : w.heap.size < (w3).heap.size := blk_lt (hk3).out
        have hk4 := (hk3).below ((Below.refl _ w3).alloc (Nat.le_refl _) (.cells #[.int .i64 0, .int .i64 0, .int .i64 0, .int .i64 0] 59))
        generalize World.alloc w3 _ = WA at *
        refine wpAnyE_one (i := 5) (by kernel_rfl) rfl ?_
        change wpList _ _ (Exit.then _ _) [_] _ _
        try simp only [List.setIfInBounds_toArray, List.set_cons_zero, List.set_cons_succ, List.getElem_toArray, List.getElem_cons_zero, List.getElem_cons_succ]
        go_wp2_with (go_at_call 23; refine ((hk4).take hl hlt 16 5 _ (by decide)).mono ?_; rintro e w4 ⟨rfl, hB4⟩)
        have hk5 := (hk4).below hB4
        refine ⟨fun _ => trivial, ?_⟩
        try simp only [List.setIfInBounds_toArray, List.set_cons_zero, List.set_cons_succ, List.getElem_toArray, List.getElem_cons_zero, List.getElem_cons_succ]
        have hz := blk_below' hB4 hz
        refine wpAnyE_one (i := 8) (by kernel_rfl) rfl ?_
        change wpList _ _ (Exit.then _ _) [_] _ _
        try simp only [List.setIfInBounds_toArray, List.set_cons_zero, List.set_cons_succ, List.getElem_toArray, List.getElem_cons_zero, List.getElem_cons_succ]
        go_wp2_with (go_at_call 23; refine ((hk5).take hl hlt 44 3 _ (by decide)).mono ?_; rintro e w5 ⟨rfl, hB5⟩)
        have hk6 := (hk5).below hB5
        refine ⟨fun _ => trivial, ?_⟩
        try simp only [List.setIfInBounds_toArray, List.set_cons_zero, List.set_cons_succ, List.getElem_toArray, List.getElem_cons_zero, List.getElem_cons_succ]
        have hz := blk_below' hB5 hz
        refine wpAnyE_take (i := 9) (v := ?_) rfl (by kernel_rfl) (by kernel_rfl) (by kernel_rfl) (by kernel_rfl) (fun _ _ _ h => h) (Or.inl ⟨by rfl, ?_⟩) hSS ?_
        rotate_left
        · intro w hSw
          (try have kc0 := hSw.1.cell); (try have kc1 := hSw.2.cell)
          go_simp
          all_goals with_reducible rfl
        simp only [Act.put, List.setIfInBounds_toArray, List.set_cons_zero, List.set_cons_succ, List.getElem_toArray, List.getElem_cons_zero, List.getElem_cons_succ]
        refine wpAnyE_one (i := 12) (by kernel_rfl) rfl ?_
        change wpList _ _ (Exit.then _ _) [_] _ _
        try simp only [List.setIfInBounds_toArray, List.set_cons_zero, List.set_cons_succ, List.getElem_toArray, List.getElem_cons_zero, List.getElem_cons_succ]
        go_wp2_with (go_at_call 23; refine ((hk6).take hl hlt 4 8 _ (by decide)).mono ?_; rintro e w6 ⟨rfl, hB6⟩)
        have hk7 := (hk6).below hB6
        refine ⟨fun _ => trivial, ?_⟩
        try simp only [List.setIfInBounds_toArray, List.set_cons_zero, List.set_cons_succ, List.getElem_toArray, List.getElem_cons_zero, List.getElem_cons_succ]
        have hz := blk_below' hB6 hz
        refine wpAnyE_take (i := 13) (v := ?_) rfl (by kernel_rfl) (by kernel_rfl) (by kernel_rfl) (by kernel_rfl) (fun _ _ _ h => h) (Or.inl ⟨by rfl, ?_⟩) hSS ?_
        rotate_left
        · intro w hSw
          (try have kc0 := hSw.1.cell); (try have kc1 := hSw.2.cell)
          go_simp
          all_goals with_reducible rfl
        simp only [Act.put, List.setIfInBounds_toArray, List.set_cons_zero, List.set_cons_succ, List.getElem_toArray, List.getElem_cons_zero, List.getElem_cons_succ]
        refine wpAnyE_one (i := 15) (by kernel_rfl) rfl ?_
        change wpList _ _ (Exit.then _ _) [_] _ _
        try simp only [List.setIfInBounds_toArray, List.set_cons_zero, List.set_cons_succ, List.getElem_toArray, List.getElem_cons_zero, List.getElem_cons_succ]
        have hfin := (hk7).new' hz hf (show g ≠ (w3.heap.size) by omega)
        have y0 := (blk_cell hz 0).trans rfl
        have y1 := (blk_cell hz 1).trans rfl
        have y2 := (blk_cell hz 2).trans rfl
        have y3 := (blk_cell hz 3).trans rfl
        simp at y0 y1 y2 y3
        have t0 := blk_free hz 0
        have t1 := blk_free hz 1
        have t2 := blk_free hz 2
        have t3 := blk_free hz 3
        have HFIN := Lib.hid hfin
        clear hfin hz
        go_wp2_with fail
        refine ⟨fun _ => trivial, wpAnyE_end (by kernel_rfl) ?_⟩
        go_wp2_with fail
        go_meet
        exact ⟨_, rfl, HFIN.out⟩
    · skip
      change wpList _ _ (Exit.then _ _) [_] _ _
      try simp only [List.setIfInBounds_toArray, List.set_cons_zero, List.set_cons_succ, List.getElem_toArray, List.getElem_cons_zero, List.getElem_cons_succ]
      go_wp2_with fail
      refine ⟨fun _ => trivial, ?_⟩
      try simp only [List.setIfInBounds_toArray, List.set_cons_zero, List.set_cons_succ, List.getElem_toArray, List.getElem_cons_zero, List.getElem_cons_succ]
      have hz := blk_new W2 (.cells #[.int .i64 0, .int .i64 0, .int .i64 0, .int .i64 0] 59)
      have hf : w.heap.size < (W2).heap.size := blk_lt (hk2).out
      have hk3 := (hk2).below ((Below.refl _ W2).alloc (Nat.le_refl _) (.cells #[.int .i64 0, .int .i64 0, .int .i64 0, .int .i64 0] 59))
      generalize World.alloc W2 _ = WA at *
      refine wpAnyE_one (i := 2) (by kernel_rfl) rfl ?_
      change wpList _ _ (Exit.then _ _) [_] _ _
      try simp only [List.setIfInBounds_toArray, List.set_cons_zero, List.set_cons_succ, List.getElem_toArray, List.getElem_cons_zero, List.getElem_cons_succ]
      go_wp2_with (go_at_call 23; refine ((hk3).take hl hlt 12 4 _ (by decide)).mono ?_; rintro e w3 ⟨rfl, hB3⟩)
      have hk4 := (hk3).below hB3
      refine ⟨fun _ => trivial, ?_⟩
      try simp only [List.setIfInBounds_toArray, List.set_cons_zero, List.set_cons_succ, List.getElem_toArray, List.getElem_cons_zero, List.getElem_cons_succ]
      have hz := blk_below' hB3 hz
      refine wpAnyE_one (i := 5) (by kernel_rfl) rfl ?_
      change wpList _ _ (Exit.then _ _) [_] _ _
      try simp only [List.setIfInBounds_toArray, List.set_cons_zero, List.set_cons_succ, List.getElem_toArray, List.getElem_cons_zero, List.getElem_cons_succ]
      go_wp2_with (go_at_call 23; refine ((hk4).take hl hlt 16 5 _ (by decide)).mono ?_; rintro e w4 ⟨rfl, hB4⟩)
      have hk5 := (hk4).below hB4
      refine ⟨fun _ => trivial, ?_⟩
      try simp only [List.setIfInBounds_toArray, List.set_cons_zero, List.set_cons_succ, List.getElem_toArray, List.getElem_cons_zero, List.getElem_cons_succ]
      have hz := blk_below' hB4 hz
      refine wpAnyE_one (i := 8) (by kernel_rfl) rfl ?_
      change wpList _ _ (Exit.then _ _) [_] _ _
      try simp only [List.setIfInBounds_toArray, List.set_cons_zero, List.set_cons_succ, List.getElem_toArray, List.getElem_cons_zero, List.getElem_cons_succ]
      go_wp2_with (go_at_call 23; refine ((hk5).take hl hlt 44 3 _ (by decide)).mono ?_; rintro e w5 ⟨rfl, hB5⟩)
      have hk6 := (hk5).below hB5
      refine ⟨fun _ => trivial, ?_⟩
      try simp only [List.setIfInBounds_toArray, List.set_cons_zero, List.set_cons_succ, List.getElem_toArray, List.getElem_cons_zero, List.getElem_cons_succ]
      have hz := blk_below' hB5 hz
      refine wpAnyE_take (i := 9) (v := ?_) rfl (by kernel_rfl) (by kernel_rfl) (by kernel_rfl) (by kernel_rfl) (fun _ _ _ h => h) (Or.inl ⟨by rfl, ?_⟩) hSS ?_
      rotate_left
      · intro w hSw
        (try have kc0 := hSw.1.cell); (try have kc1 := hSw.2.cell)
        go_simp
        all_goals with_reducible rfl
      simp only [Act.put, List.setIfInBounds_toArray, List.set_cons_zero, List.set_cons_succ, List.getElem_toArray, List.getElem_cons_zero, List.getElem_cons_succ]
      refine wpAnyE_one (i := 12) (by kernel_rfl) rfl ?_
      change wpList _ _ (Exit.then _ _) [_] _ _
      try simp only [List.setIfInBounds_toArray, List.set_cons_zero, List.set_cons_succ, List.getElem_toArray, List.getElem_cons_zero, List.getElem_cons_succ]
      go_wp2_with (go_at_call 23; refine ((hk6).take hl hlt 4 8 _ (by decide)).mono ?_; rintro e w6 ⟨rfl, hB6⟩)
      have hk7 := (hk6).below hB6
      refine ⟨fun _ => trivial, ?_⟩
      try simp only [List.setIfInBounds_toArray, List.set_cons_zero, List.set_cons_succ, List.getElem_toArray, List.getElem_cons_zero, List.getElem_cons_succ]
      have hz := blk_below' hB6 hz
      refine wpAnyE_take (i := 13) (v := ?_) rfl (by kernel_rfl) (by kernel_rfl) (by kernel_rfl) (by kernel_rfl) (fun _ _ _ h => h) (Or.inl ⟨by rfl, ?_⟩) hSS ?_
      rotate_left
      · intro w hSw
        (try have kc0 := hSw.1.cell); (try have kc1 := hSw.2.cell)
        go_simp
        all_goals with_reducible rfl
      simp only [Act.put, List.setIfInBounds_toArray, List.set_cons_zero, List.set_cons_succ, List.getElem_toArray, List.getElem_cons_zero, List.getElem_cons_succ]
      refine wpAnyE_one (i := 15) (by kernel_rfl) rfl ?_
      change wpList _ _ (Exit.then _ _) [_] _ _
      try simp only [List.setIfInBounds_toArray, List.set_cons_zero, List.set_cons_succ, List.getElem_toArray, List.getElem_cons_zero, List.getElem_cons_succ]
      have hfin := (hk7).new' hz hf (show g ≠ (W2.heap.size) by omega)
      have y0 := (blk_cell hz 0).trans rfl
      have y1 := (blk_cell hz 1).trans rfl
      have y2 := (blk_cell hz 2).trans rfl
      have y3 := (blk_cell hz 3).trans rfl
      simp at y0 y1 y2 y3
      have t0 := blk_free hz 0
      have t1 := blk_free hz 1
      have t2 := blk_free hz 2
      have t3 := blk_free hz 3
      have HFIN := Lib.hid hfin
      clear hfin hz
      go_wp2_with fail
      refine ⟨fun _ => trivial, wpAnyE_end (by kernel_rfl) ?_⟩
      go_wp2_with fail
      go_meet
      exact ⟨_, rfl, HFIN.out⟩
  case rest =>
    obtain ⟨b, rfl, hK⟩ := hcut
    have harr : ∀ w, (Instr.arrayAt 57 (.slice (some ⟨g, q, none⟩) 64 cp)).run Tryz.prog w = .ok (.pointer (some ⟨g, q, none⟩)) w := fun w => run_arrayAt64 g q cp w
    have hfin : ∀ W, KS w ⟨g, q, none⟩ l b W → Below w.heap.size w W := fun W h => h.tk.low
    obtain ⟨r, hr⟩ : ∃ r, rcOf l = r := ⟨_, rfl⟩
    have HM := Lib.hid (fun w => mayBe_any (r.life : Int) (r.round : Int) (r.tag : Int) w)
    have HS := Lib.hid (fun w => isSeq_any (r.seq : Int) w)
    unfold recV at HM
    have hKk := hK.kept
    rw [hr] at hKk
    clear hk hgw q1 q2 q3 q4 q5 q6 q7 q8
    have hSS : KG b r w ⟨g, q, none⟩ l wc := ⟨hKk, hK.tk⟩
    have hfar := hK.far
    clear hKk hK
    by_cases h1 : mayR (r.life : Int) (r.round : Int) (r.tag : Int)
    · by_cases h2 : (1 : Int) ≤ (r.seq : Int) ∧ (r.seq : Int) ≤ 1099511627776
      · have hmay : r.may := by obtain ⟨a1, a2, a3, a4, a5, a6⟩ := h1; exact ⟨by omega, by omega, by omega, by omega, by omega, by omega⟩
        rw [decide_eq_true h1] at HM
        rw [decide_eq_true h2] at HS
        have HB := Lib.hid (fun w => bytes_any r hmay w)
        unfold keptV at HB
        have hcmp := eq_bytes (encL r) l (encL_len r) hl (encL_lt r) hlt
        by_cases he : encL r = l
        · have hd : decL l = some r := by unfold decL; rw [hr, if_pos ⟨hmay, he⟩]
          have HD := Lib.hid hd
          clear hd
          rw [he, decide_eq_true rfl] at hcmp
          rw [he] at HB
          go_wp2_with fail
          refine wp_region_early (KG b r w ⟨g, q, none⟩ l) (fun _ => false) (by kernel_rfl) ?_
          have hSS : KG b r w ⟨g, q, none⟩ l wc.drew := ⟨hSS.kept, hSS.tk.bytes, hSS.tk.low.drew, hSS.tk.out⟩
          generalize wc.drew = W4 at *
          simp only [List.size_toArray, List.length_cons, List.length_nil, Nat.reduceAdd, Array.replicate_succ, Array.replicate_zero, List.push_toArray, List.nil_append, List.cons_append]
          refine wpAnyE_take (i := 0) (v := ?_) rfl (by kernel_rfl) (by kernel_rfl) (by kernel_rfl) (by kernel_rfl) (fun _ _ _ h => h) (Or.inl ⟨by rfl, ?_⟩) hSS ?_
          rotate_left
          · intro w hSw
            obtain ⟨kc0, kc1, kc2, kc3⟩ := hSw.cells
            go_simp
            all_goals with_reducible rfl
          simp only [Act.put, List.setIfInBounds_toArray, List.set_cons_zero, List.set_cons_succ, List.getElem_toArray, List.getElem_cons_zero, List.getElem_cons_succ]
          refine wpAnyE_take (i := 1) (v := ?_) rfl (by kernel_rfl) (by kernel_rfl) (by kernel_rfl) (by kernel_rfl) (fun _ _ _ h => h) (Or.inl ⟨by rfl, ?_⟩) hSS ?_
          rotate_left
          · intro w hSw
            obtain ⟨kc0, kc1, kc2, kc3⟩ := hSw.cells
            go_simp
            all_goals with_reducible rfl
          simp only [Act.put, List.setIfInBounds_toArray, List.set_cons_zero, List.set_cons_succ, List.getElem_toArray, List.getElem_cons_zero, List.getElem_cons_succ]
          refine wpAnyE_one (i := 2) (by kernel_rfl) rfl ?_
          change wpList _ _ (Exit.then _ _) [_] _ _
          try simp only [List.setIfInBounds_toArray, List.set_cons_zero, List.set_cons_succ, List.getElem_toArray, List.getElem_cons_zero, List.getElem_cons_succ]
          go_wp2_with (go_at_call 18; refine (HM.out _).mono ?_; rintro e w4 ⟨rfl, hB4⟩)
          have hSS := hSS.below hB4
          refine ⟨fun _ => hSS, ?_⟩
          try simp only [List.setIfInBounds_toArray, List.set_cons_zero, List.set_cons_succ, List.getElem_toArray, List.getElem_cons_zero, List.getElem_cons_succ]
          refine wpAnyE_take (i := 3) (v := ?_) rfl (by kernel_rfl) (by kernel_rfl) (by kernel_rfl) (by kernel_rfl) (fun _ _ _ h => h) (Or.inl ⟨by rfl, ?_⟩) hSS ?_
          rotate_left
          · intro w hSw
            (try have kc0 := hSw.1.cell); (try have kc1 := hSw.2.cell)
            go_simp
            all_goals with_reducible rfl
          simp only [Act.put, List.setIfInBounds_toArray, List.set_cons_zero, List.set_cons_succ, List.getElem_toArray, List.getElem_cons_zero, List.getElem_cons_succ]
          refine wpAnyE_take (i := 4) (v := ?_) rfl (by kernel_rfl) (by kernel_rfl) (by kernel_rfl) (by kernel_rfl) (fun _ _ _ h => h) (Or.inl ⟨by rfl, ?_⟩) hSS ?_
          rotate_left
          · intro w hSw
            (try have kc0 := hSw.1.cell); (try have kc1 := hSw.2.cell)
            go_simp
            all_goals with_reducible rfl
          simp only [Act.put, List.setIfInBounds_toArray, List.set_cons_zero, List.set_cons_succ, List.getElem_toArray, List.getElem_cons_zero, List.getElem_cons_succ]
          refine wpAnyE_take (i := 5) (v := ?_) rfl (by kernel_rfl) (by kernel_rfl) (by kernel_rfl) (by kernel_rfl) (fun _ _ _ h => h) (Or.inl ⟨by rfl, ?_⟩) hSS ?_
          rotate_left
          · intro w hSw
            obtain ⟨kc0, kc1, kc2, kc3⟩ := hSw.cells
            go_simp
            all_goals with_reducible rfl
          simp only [Act.put, List.setIfInBounds_toArray, List.set_cons_zero, List.set_cons_succ, List.getElem_toArray, List.getElem_cons_zero, List.getElem_cons_succ]
          refine wpAnyE_take (i := 6) (v := ?_) rfl (by kernel_rfl) (by kernel_rfl) (by kernel_rfl) (by kernel_rfl) (fun _ _ _ h => h) (Or.inl ⟨by rfl, ?_⟩) hSS ?_
          rotate_left
          · intro w hSw
            obtain ⟨kc0, kc1, kc2, kc3⟩ := hSw.cells
            go_simp
            all_goals with_reducible rfl
          simp only [Act.put, List.setIfInBounds_toArray, List.set_cons_zero, List.set_cons_succ, List.getElem_toArray, List.getElem_cons_zero, List.getElem_cons_succ]
          refine wpAnyE_one (i := 7) (by kernel_rfl) rfl ?_
          change wpList _ _ (Exit.then _ _) [_] _ _
          try simp only [List.setIfInBounds_toArray, List.set_cons_zero, List.set_cons_succ, List.getElem_toArray, List.getElem_cons_zero, List.getElem_cons_succ]
          go_wp2_with (go_at_call 19; refine (HS.out _).mono ?_; rintro e w5 ⟨rfl, hB5⟩)
          have hSS := hSS.below hB5
          refine ⟨fun _ => hSS, ?_⟩
          try simp only [List.setIfInBounds_toArray, List.set_cons_zero, List.set_cons_succ, List.getElem_toArray, List.getElem_cons_zero, List.getElem_cons_succ]
          refine wpAnyE_take (i := 8) (v := ?_) rfl (by kernel_rfl) (by kernel_rfl) (by kernel_rfl) (by kernel_rfl) (fun _ _ _ h => h) (Or.inl ⟨by rfl, ?_⟩) hSS ?_
          rotate_left
          · intro w hSw
            (try have kc0 := hSw.1.cell); (try have kc1 := hSw.2.cell)
            go_simp
            all_goals with_reducible rfl
          simp only [Act.put, List.setIfInBounds_toArray, List.set_cons_zero, List.set_cons_succ, List.getElem_toArray, List.getElem_cons_zero, List.getElem_cons_succ]
          refine wpAnyE_take (i := 9) (v := ?_) rfl (by kernel_rfl) (by kernel_rfl) (by kernel_rfl) (by kernel_rfl) (fun _ _ _ h => h) (Or.inl ⟨by rfl, ?_⟩) hSS ?_
          rotate_left
          · intro w hSw
            (try have kc0 := hSw.1.cell); (try have kc1 := hSw.2.cell)
            go_simp
            all_goals with_reducible rfl
          simp only [Act.put, List.setIfInBounds_toArray, List.set_cons_zero, List.set_cons_succ, List.getElem_toArray, List.getElem_cons_zero, List.getElem_cons_succ]
          refine wpAnyE_take (i := 10) (v := ?_) rfl (by kernel_rfl) (by kernel_rfl) (by kernel_rfl) (by kernel_rfl) (fun _ _ _ h => h) (Or.inl ⟨by rfl, ?_⟩) hSS ?_
          rotate_left
          · intro w hSw
            (try have kc0 := hSw.1.cell); (try have kc1 := hSw.2.cell)
            go_simp
            all_goals with_reducible rfl
          simp only [Act.put, List.setIfInBounds_toArray, List.set_cons_zero, List.set_cons_succ, List.getElem_toArray, List.getElem_cons_zero, List.getElem_cons_succ]
          refine wpAnyE_take (i := 11) (v := ?_) rfl (by kernel_rfl) (by kernel_rfl) (by kernel_rfl) (by kernel_rfl) (fun _ _ _ h => h) (Or.inl ⟨by rfl, ?_⟩) hSS ?_
          rotate_left
          · intro w hSw
            obtain ⟨kc0, kc1, kc2, kc3⟩ := hSw.cells
            go_simp
            all_goals with_reducible rfl
          simp only [Act.put, List.setIfInBounds_toArray, List.set_cons_zero, List.set_cons_succ, List.getElem_toArray, List.getElem_cons_zero, List.getElem_cons_succ]
          refine wpAnyE_take (i := 13) (v := ?_) rfl (by kernel_rfl) (by kernel_rfl) (by kernel_rfl) (by kernel_rfl) (fun _ _ _ h => h) (Or.inl ⟨by rfl, ?_⟩) hSS ?_
          rotate_left
          · intro w hSw
            (try have kc0 := hSw.1.cell); (try have kc1 := hSw.2.cell)
            go_simp
            all_goals with_reducible rfl
          simp only [Act.put, List.setIfInBounds_toArray, List.set_cons_zero, List.set_cons_succ, List.getElem_toArray, List.getElem_cons_zero, List.getElem_cons_succ]
          refine wpAnyE_take (i := 14) (v := ?_) rfl (by kernel_rfl) (by kernel_rfl) (by kernel_rfl) (by kernel_rfl) (fun _ _ _ h => h) (Or.inl ⟨by rfl, ?_⟩) hSS ?_
          rotate_left
          · intro w hSw
            (try have kc0 := hSw.1.cell); (try have kc1 := hSw.2.cell)
            go_simp
            all_goals with_reducible rfl
          simp only [Act.put, List.setIfInBounds_toArray, List.set_cons_zero, List.set_cons_succ, List.getElem_toArray, List.getElem_cons_zero, List.getElem_cons_succ]
          refine wpAnyE_take (i := 15) (v := .agg (bC l).toArray) rfl (by kernel_rfl) (by kernel_rfl) (by kernel_rfl) (by kernel_rfl) (fun _ _ _ h => h) (yieldsIf_load_mid rfl _ _ rfl g q rfl (bC l) _ (fun W h => h.tk.bytes.range) Tryz.underlying57 rfl (slot_info.trans (by rw [bC_len, hl]))) hSS ?_
          simp only [Act.put, List.setIfInBounds_toArray, List.set_cons_zero, List.set_cons_succ, List.getElem_toArray, List.getElem_cons_zero, List.getElem_cons_succ]
          refine wpAnyE_one (i := 12) (by kernel_rfl) rfl ?_
          change wpList _ _ (Exit.then _ _) [_] _ _
          try simp only [List.setIfInBounds_toArray, List.set_cons_zero, List.set_cons_succ, List.getElem_toArray, List.getElem_cons_zero, List.getElem_cons_succ]
          go_wp2_with (go_at_call 20; refine (HB.out _).mono ?_; rintro e w6 ⟨rfl, hB6⟩)
          have hSS := hSS.below hB6
          refine ⟨fun _ => hSS, ?_⟩
          try simp only [List.setIfInBounds_toArray, List.set_cons_zero, List.set_cons_succ, List.getElem_toArray, List.getElem_cons_zero, List.getElem_cons_succ]
          refine wpAnyE_take (i := 16) (v := ?_) rfl (by kernel_rfl) (by kernel_rfl) (by kernel_rfl) (by kernel_rfl) (fun _ _ _ h => h) (Or.inl ⟨by rfl, ?_⟩) hSS ?_
          rotate_left
          · intro w hSw
            (try have kc0 := hSw.1.cell); (try have kc1 := hSw.2.cell)
            go_simp
            all_goals with_reducible rfl
          simp only [Act.put, List.setIfInBounds_toArray, List.set_cons_zero, List.set_cons_succ, List.getElem_toArray, List.getElem_cons_zero, List.getElem_cons_succ]
          refine wpAnyE_take (i := 17) (v := ?_) rfl (by kernel_rfl) (by kernel_rfl) (by kernel_rfl) (by kernel_rfl) (fun _ _ _ h => h) (Or.inl ⟨by rfl, ?_⟩) hSS ?_
          rotate_left
          · intro w hSw
            (try have kc0 := hSw.1.cell); (try have kc1 := hSw.2.cell)
            go_simp
            all_goals with_reducible rfl
          simp only [Act.put, List.setIfInBounds_toArray, List.set_cons_zero, List.set_cons_succ, List.getElem_toArray, List.getElem_cons_zero, List.getElem_cons_succ]
          refine wpAnyE_end (by kernel_rfl) ?_
          have HK := Lib.hid hSS
          have z0 := (blk_cell hSS.tk.out 0).trans rfl
          have z1 := (blk_cell hSS.tk.out 1).trans rfl
          have z2 := (blk_cell hSS.tk.out 2).trans rfl
          simp at z0 z1 z2
          have zf0 := blk_free hSS.tk.out 0
          have zf1 := blk_free hSS.tk.out 1
          have zf2 := blk_free hSS.tk.out 2
          obtain ⟨kc0, kc1, kc2, kc3⟩ := hSS.cells
          clear hSS
          have hne : ¬ b = w.heap.size := by omega
          have hne2 : ¬ w.heap.size = b := by omega
          go_wp2_with fail
          go_region
          all_goals (go_wp2_with fail)
          all_goals generalize hWF : World.setCell (World.setCell (World.setCell _ _ _) _ _) _ _ = WF
          all_goals skip
          have hfb : WF.heap[w.heap.size]? = some (.cells #[.int .i64 ((r.life : Int)), .int .i64 ((r.round : Int)), .int .i64 ((r.tag : Int))] 23 (0, 0)) := by
            rw [← hWF]; exact blk_store (blk_store (blk_store HK.out.tk.out 0 _) 1 _) 2 _
          have hfl : Below w.heap.size w WF := by
            rw [← hWF]; exact ((HK.out.tk.low.setCell (Nat.le_refl _) _).setCell (Nat.le_refl _) _).setCell (Nat.le_refl _) _
          have y0 := (blk_cell hfb 0).trans rfl
          have y1 := (blk_cell hfb 1).trans rfl
          have y2 := (blk_cell hfb 2).trans rfl
          simp at y0 y1 y2
          exact bodyPost_ret (v := .tuple #[.agg #[.int .i64 ((r.life : Int)), .int .i64 ((r.round : Int)), .int .i64 ((r.tag : Int))], .int .i64 ((r.seq : Int)), .int .i64 0]) (by simp [results, Tryz.results8, go_sem, y0, y1, y2]) rfl ⟨by rw [HD.out]; rfl, hfl.drew⟩
        · have hd : decL l = none := by unfold decL; rw [hr, if_neg (fun h => he h.2)]
          have HD := Lib.hid hd
          clear hd
          rw [decide_eq_false he] at hcmp
          go_wp2_with fail
          refine wp_region_early (KG b r w ⟨g, q, none⟩ l) (fun _ => false) (by kernel_rfl) ?_
          have hSS : KG b r w ⟨g, q, none⟩ l wc.drew := ⟨hSS.kept, hSS.tk.bytes, hSS.tk.low.drew, hSS.tk.out⟩
          generalize wc.drew = W4 at *
          simp only [List.size_toArray, List.length_cons, List.length_nil, Nat.reduceAdd, Array.replicate_succ, Array.replicate_zero, List.push_toArray, List.nil_append, List.cons_append]
          refine wpAnyE_take (i := 0) (v := ?_) rfl (by kernel_rfl) (by kernel_rfl) (by kernel_rfl) (by kernel_rfl) (fun _ _ _ h => h) (Or.inl ⟨by rfl, ?_⟩) hSS ?_
          rotate_left
          · intro w hSw
            obtain ⟨kc0, kc1, kc2, kc3⟩ := hSw.cells
            go_simp
            all_goals with_reducible rfl
          simp only [Act.put, List.setIfInBounds_toArray, List.set_cons_zero, List.set_cons_succ, List.getElem_toArray, List.getElem_cons_zero, List.getElem_cons_succ]
          refine wpAnyE_take (i := 1) (v := ?_) rfl (by kernel_rfl) (by kernel_rfl) (by kernel_rfl) (by kernel_rfl) (fun _ _ _ h => h) (Or.inl ⟨by rfl, ?_⟩) hSS ?_
          rotate_left
          · intro w hSw
            obtain ⟨kc0, kc1, kc2, kc3⟩ := hSw.cells
            go_simp
            all_goals with_reducible rfl
          simp only [Act.put, List.setIfInBounds_toArray, List.set_cons_zero, List.set_cons_succ, List.getElem_toArray, List.getElem_cons_zero, List.getElem_cons_succ]
          refine wpAnyE_one (i := 2) (by kernel_rfl) rfl ?_
          change wpList _ _ (Exit.then _ _) [_] _ _
          try simp only [List.setIfInBounds_toArray, List.set_cons_zero, List.set_cons_succ, List.getElem_toArray, List.getElem_cons_zero, List.getElem_cons_succ]
          go_wp2_with (go_at_call 18; refine (HM.out _).mono ?_; rintro e w4 ⟨rfl, hB4⟩)
          have hSS := hSS.below hB4
          refine ⟨fun _ => hSS, ?_⟩
          try simp only [List.setIfInBounds_toArray, List.set_cons_zero, List.set_cons_succ, List.getElem_toArray, List.getElem_cons_zero, List.getElem_cons_succ]
          refine wpAnyE_take (i := 3) (v := ?_) rfl (by kernel_rfl) (by kernel_rfl) (by kernel_rfl) (by kernel_rfl) (fun _ _ _ h => h) (Or.inl ⟨by rfl, ?_⟩) hSS ?_
          rotate_left
          · intro w hSw
            (try have kc0 := hSw.1.cell); (try have kc1 := hSw.2.cell)
            go_simp
            all_goals with_reducible rfl
          simp only [Act.put, List.setIfInBounds_toArray, List.set_cons_zero, List.set_cons_succ, List.getElem_toArray, List.getElem_cons_zero, List.getElem_cons_succ]
          refine wpAnyE_take (i := 4) (v := ?_) rfl (by kernel_rfl) (by kernel_rfl) (by kernel_rfl) (by kernel_rfl) (fun _ _ _ h => h) (Or.inl ⟨by rfl, ?_⟩) hSS ?_
          rotate_left
          · intro w hSw
            (try have kc0 := hSw.1.cell); (try have kc1 := hSw.2.cell)
            go_simp
            all_goals with_reducible rfl
          simp only [Act.put, List.setIfInBounds_toArray, List.set_cons_zero, List.set_cons_succ, List.getElem_toArray, List.getElem_cons_zero, List.getElem_cons_succ]
          refine wpAnyE_take (i := 5) (v := ?_) rfl (by kernel_rfl) (by kernel_rfl) (by kernel_rfl) (by kernel_rfl) (fun _ _ _ h => h) (Or.inl ⟨by rfl, ?_⟩) hSS ?_
          rotate_left
          · intro w hSw
            obtain ⟨kc0, kc1, kc2, kc3⟩ := hSw.cells
            go_simp
            all_goals with_reducible rfl
          simp only [Act.put, List.setIfInBounds_toArray, List.set_cons_zero, List.set_cons_succ, List.getElem_toArray, List.getElem_cons_zero, List.getElem_cons_succ]
          refine wpAnyE_take (i := 6) (v := ?_) rfl (by kernel_rfl) (by kernel_rfl) (by kernel_rfl) (by kernel_rfl) (fun _ _ _ h => h) (Or.inl ⟨by rfl, ?_⟩) hSS ?_
          rotate_left
          · intro w hSw
            obtain ⟨kc0, kc1, kc2, kc3⟩ := hSw.cells
            go_simp
            all_goals with_reducible rfl
          simp only [Act.put, List.setIfInBounds_toArray, List.set_cons_zero, List.set_cons_succ, List.getElem_toArray, List.getElem_cons_zero, List.getElem_cons_succ]
          refine wpAnyE_one (i := 7) (by kernel_rfl) rfl ?_
          change wpList _ _ (Exit.then _ _) [_] _ _
          try simp only [List.setIfInBounds_toArray, List.set_cons_zero, List.set_cons_succ, List.getElem_toArray, List.getElem_cons_zero, List.getElem_cons_succ]
          go_wp2_with (go_at_call 19; refine (HS.out _).mono ?_; rintro e w5 ⟨rfl, hB5⟩)
          have hSS := hSS.below hB5
          refine ⟨fun _ => hSS, ?_⟩
          try simp only [List.setIfInBounds_toArray, List.set_cons_zero, List.set_cons_succ, List.getElem_toArray, List.getElem_cons_zero, List.getElem_cons_succ]
          refine wpAnyE_take (i := 8) (v := ?_) rfl (by kernel_rfl) (by kernel_rfl) (by kernel_rfl) (by kernel_rfl) (fun _ _ _ h => h) (Or.inl ⟨by rfl, ?_⟩) hSS ?_
          rotate_left
          · intro w hSw
            (try have kc0 := hSw.1.cell); (try have kc1 := hSw.2.cell)
            go_simp
            all_goals with_reducible rfl
          simp only [Act.put, List.setIfInBounds_toArray, List.set_cons_zero, List.set_cons_succ, List.getElem_toArray, List.getElem_cons_zero, List.getElem_cons_succ]
          refine wpAnyE_take (i := 9) (v := ?_) rfl (by kernel_rfl) (by kernel_rfl) (by kernel_rfl) (by kernel_rfl) (fun _ _ _ h => h) (Or.inl ⟨by rfl, ?_⟩) hSS ?_
          rotate_left
          · intro w hSw
            (try have kc0 := hSw.1.cell); (try have kc1 := hSw.2.cell)
            go_simp
            all_goals with_reducible rfl
          simp only [Act.put, List.setIfInBounds_toArray, List.set_cons_zero, List.set_cons_succ, List.getElem_toArray, List.getElem_cons_zero, List.getElem_cons_succ]
          refine wpAnyE_take (i := 10) (v := ?_) rfl (by kernel_rfl) (by kernel_rfl) (by kernel_rfl) (by kernel_rfl) (fun _ _ _ h => h) (Or.inl ⟨by rfl, ?_⟩) hSS ?_
          rotate_left
          · intro w hSw
            (try have kc0 := hSw.1.cell); (try have kc1 := hSw.2.cell)
            go_simp
            all_goals with_reducible rfl
          simp only [Act.put, List.setIfInBounds_toArray, List.set_cons_zero, List.set_cons_succ, List.getElem_toArray, List.getElem_cons_zero, List.getElem_cons_succ]
          refine wpAnyE_take (i := 11) (v := ?_) rfl (by kernel_rfl) (by kernel_rfl) (by kernel_rfl) (by kernel_rfl) (fun _ _ _ h => h) (Or.inl ⟨by rfl, ?_⟩) hSS ?_
          rotate_left
          · intro w hSw
            obtain ⟨kc0, kc1, kc2, kc3⟩ := hSw.cells
            go_simp
            all_goals with_reducible rfl
          simp only [Act.put, List.setIfInBounds_toArray, List.set_cons_zero, List.set_cons_succ, List.getElem_toArray, List.getElem_cons_zero, List.getElem_cons_succ]
          refine wpAnyE_take (i := 13) (v := ?_) rfl (by kernel_rfl) (by kernel_rfl) (by kernel_rfl) (by kernel_rfl) (fun _ _ _ h => h) (Or.inl ⟨by rfl, ?_⟩) hSS ?_
          rotate_left
          · intro w hSw
            (try have kc0 := hSw.1.cell); (try have kc1 := hSw.2.cell)
            go_simp
            all_goals with_reducible rfl
          simp only [Act.put, List.setIfInBounds_toArray, List.set_cons_zero, List.set_cons_succ, List.getElem_toArray, List.getElem_cons_zero, List.getElem_cons_succ]
          refine wpAnyE_take (i := 14) (v := ?_) rfl (by kernel_rfl) (by kernel_rfl) (by kernel_rfl) (by kernel_rfl) (fun _ _ _ h => h) (Or.inl ⟨by rfl, ?_⟩) hSS ?_
          rotate_left
          · intro w hSw
            (try have kc0 := hSw.1.cell); (try have kc1 := hSw.2.cell)
            go_simp
            all_goals with_reducible rfl
          simp only [Act.put, List.setIfInBounds_toArray, List.set_cons_zero, List.set_cons_succ, List.getElem_toArray, List.getElem_cons_zero, List.getElem_cons_succ]
          refine wpAnyE_take (i := 15) (v := .agg (bC l).toArray) rfl (by kernel_rfl) (by kernel_rfl) (by kernel_rfl) (by kernel_rfl) (fun _ _ _ h => h) (yieldsIf_load_mid rfl _ _ rfl g q rfl (bC l) _ (fun W h => h.tk.bytes.range) Tryz.underlying57 rfl (slot_info.trans (by rw [bC_len, hl]))) hSS ?_
          simp only [Act.put, List.setIfInBounds_toArray, List.set_cons_zero, List.set_cons_succ, List.getElem_toArray, List.getElem_cons_zero, List.getElem_cons_succ]
          refine wpAnyE_one (i := 12) (by kernel_rfl) rfl ?_
          change wpList _ _ (Exit.then _ _) [_] _ _
          try simp only [List.setIfInBounds_toArray, List.set_cons_zero, List.set_cons_succ, List.getElem_toArray, List.getElem_cons_zero, List.getElem_cons_succ]
          go_wp2_with (go_at_call 20; refine (HB.out _).mono ?_; rintro e w6 ⟨rfl, hB6⟩)
          have hSS := hSS.below hB6
          refine ⟨fun _ => hSS, ?_⟩
          try simp only [List.setIfInBounds_toArray, List.set_cons_zero, List.set_cons_succ, List.getElem_toArray, List.getElem_cons_zero, List.getElem_cons_succ]
          refine wpAnyE_take (i := 16) (v := ?_) rfl (by kernel_rfl) (by kernel_rfl) (by kernel_rfl) (by kernel_rfl) (fun _ _ _ h => h) (Or.inl ⟨by rfl, ?_⟩) hSS ?_
          rotate_left
          · intro w hSw
            (try have kc0 := hSw.1.cell); (try have kc1 := hSw.2.cell)
            go_simp
            all_goals with_reducible rfl
          simp only [Act.put, List.setIfInBounds_toArray, List.set_cons_zero, List.set_cons_succ, List.getElem_toArray, List.getElem_cons_zero, List.getElem_cons_succ]
          refine wpAnyE_take (i := 17) (v := ?_) rfl (by kernel_rfl) (by kernel_rfl) (by kernel_rfl) (by kernel_rfl) (fun _ _ _ h => h) (Or.inl ⟨by rfl, ?_⟩) hSS ?_
          rotate_left
          · intro w hSw
            (try have kc0 := hSw.1.cell); (try have kc1 := hSw.2.cell)
            go_simp
            all_goals with_reducible rfl
          simp only [Act.put, List.setIfInBounds_toArray, List.set_cons_zero, List.set_cons_succ, List.getElem_toArray, List.getElem_cons_zero, List.getElem_cons_succ]
          refine wpAnyE_end (by kernel_rfl) ?_
          have HK := Lib.hid hSS
          have z0 := (blk_cell hSS.tk.out 0).trans rfl
          have z1 := (blk_cell hSS.tk.out 1).trans rfl
          have z2 := (blk_cell hSS.tk.out 2).trans rfl
          simp at z0 z1 z2
          have zf0 := blk_free hSS.tk.out 0
          have zf1 := blk_free hSS.tk.out 1
          have zf2 := blk_free hSS.tk.out 2
          clear hSS
          go_wp2_with fail
          generalize hWF : World.setCell (World.setCell (World.setCell _ _ _) _ _) _ _ = WF
          have hfb : WF.heap[w.heap.size]? = some (.cells #[.int .i64 (0), .int .i64 (0), .int .i64 (0)] 23 (0, 0)) := by
            rw [← hWF]; exact blk_store (blk_store (blk_store HK.out.tk.out 0 _) 1 _) 2 _
          have hfl : Below w.heap.size w WF := by
            rw [← hWF]; exact ((HK.out.tk.low.setCell (Nat.le_refl _) _).setCell (Nat.le_refl _) _).setCell (Nat.le_refl _) _
          have y0 := (blk_cell hfb 0).trans rfl
          have y1 := (blk_cell hfb 1).trans rfl
          have y2 := (blk_cell hfb 2).trans rfl
          simp at y0 y1 y2
          exact bodyPost_ret (v := .tuple #[.agg #[.int .i64 (0), .int .i64 (0), .int .i64 (0)], .int .i64 (0), .int .i64 70]) (by simp [results, Tryz.results8, go_sem, y0, y1, y2]) rfl ⟨by rw [HD.out]; rfl, hfl⟩
      · have hd : decL l = none := by
          unfold decL; rw [hr, if_neg]
          rintro ⟨⟨a1, a2, a3, a4, a5, a6⟩, _⟩
          exact h2 ⟨by omega, by omega⟩
        have HD := Lib.hid hd
        clear hd
        rw [decide_eq_true h1] at HM
        rw [decide_eq_false h2] at HS
        go_wp2_with fail
        refine wp_region_early (KG b r w ⟨g, q, none⟩ l) (fun _ => false) (by kernel_rfl) ?_
        have hSS : KG b r w ⟨g, q, none⟩ l wc.drew := ⟨hSS.kept, hSS.tk.bytes, hSS.tk.low.drew, hSS.tk.out⟩
        generalize wc.drew = W4 at *
        simp only [List.size_toArray, List.length_cons, List.length_nil, Nat.reduceAdd, Array.replicate_succ, Array.replicate_zero, List.push_toArray, List.nil_append, List.cons_append]
        refine wpAnyE_take (i := 0) (v := ?_) rfl (by kernel_rfl) (by kernel_rfl) (by kernel_rfl) (by kernel_rfl) (fun _ _ _ h => h) (Or.inl ⟨by rfl, ?_⟩) hSS ?_
        rotate_left
        · intro w hSw
          obtain ⟨kc0, kc1, kc2, kc3⟩ := hSw.cells
          go_simp
          all_goals with_reducible rfl
        simp only [Act.put, List.setIfInBounds_toArray, List.set_cons_zero, List.set_cons_succ, List.getElem_toArray, List.getElem_cons_zero, List.getElem_cons_succ]
        refine wpAnyE_take (i := 1) (v := ?_) rfl (by kernel_rfl) (by kernel_rfl) (by kernel_rfl) (by kernel_rfl) (fun _ _ _ h => h) (Or.inl ⟨by rfl, ?_⟩) hSS ?_
        rotate_left
        · intro w hSw
          obtain ⟨kc0, kc1, kc2, kc3⟩ := hSw.cells
          go_simp
          all_goals with_reducible rfl
        simp only [Act.put, List.setIfInBounds_toArray, List.set_cons_zero, List.set_cons_succ, List.getElem_toArray, List.getElem_cons_zero, List.getElem_cons_succ]
        refine wpAnyE_one (i := 2) (by kernel_rfl) rfl ?_
        change wpList _ _ (Exit.then _ _) [_] _ _
        try simp only [List.setIfInBounds_toArray, List.set_cons_zero, List.set_cons_succ, List.getElem_toArray, List.getElem_cons_zero, List.getElem_cons_succ]
        go_wp2_with (go_at_call 18; refine (HM.out _).mono ?_; rintro e w4 ⟨rfl, hB4⟩)
        have hSS := hSS.below hB4
        refine ⟨fun _ => hSS, ?_⟩
        try simp only [List.setIfInBounds_toArray, List.set_cons_zero, List.set_cons_succ, List.getElem_toArray, List.getElem_cons_zero, List.getElem_cons_succ]
        refine wpAnyE_take (i := 3) (v := ?_) rfl (by kernel_rfl) (by kernel_rfl) (by kernel_rfl) (by kernel_rfl) (fun _ _ _ h => h) (Or.inl ⟨by rfl, ?_⟩) hSS ?_
        rotate_left
        · intro w hSw
          (try have kc0 := hSw.1.cell); (try have kc1 := hSw.2.cell)
          go_simp
          all_goals with_reducible rfl
        simp only [Act.put, List.setIfInBounds_toArray, List.set_cons_zero, List.set_cons_succ, List.getElem_toArray, List.getElem_cons_zero, List.getElem_cons_succ]
        refine wpAnyE_take (i := 4) (v := ?_) rfl (by kernel_rfl) (by kernel_rfl) (by kernel_rfl) (by kernel_rfl) (fun _ _ _ h => h) (Or.inl ⟨by rfl, ?_⟩) hSS ?_
        rotate_left
        · intro w hSw
          (try have kc0 := hSw.1.cell); (try have kc1 := hSw.2.cell)
          go_simp
          all_goals with_reducible rfl
        simp only [Act.put, List.setIfInBounds_toArray, List.set_cons_zero, List.set_cons_succ, List.getElem_toArray, List.getElem_cons_zero, List.getElem_cons_succ]
        refine wpAnyE_take (i := 5) (v := ?_) rfl (by kernel_rfl) (by kernel_rfl) (by kernel_rfl) (by kernel_rfl) (fun _ _ _ h => h) (Or.inl ⟨by rfl, ?_⟩) hSS ?_
        rotate_left
        · intro w hSw
          obtain ⟨kc0, kc1, kc2, kc3⟩ := hSw.cells
          go_simp
          all_goals with_reducible rfl
        simp only [Act.put, List.setIfInBounds_toArray, List.set_cons_zero, List.set_cons_succ, List.getElem_toArray, List.getElem_cons_zero, List.getElem_cons_succ]
        refine wpAnyE_take (i := 6) (v := ?_) rfl (by kernel_rfl) (by kernel_rfl) (by kernel_rfl) (by kernel_rfl) (fun _ _ _ h => h) (Or.inl ⟨by rfl, ?_⟩) hSS ?_
        rotate_left
        · intro w hSw
          obtain ⟨kc0, kc1, kc2, kc3⟩ := hSw.cells
          go_simp
          all_goals with_reducible rfl
        simp only [Act.put, List.setIfInBounds_toArray, List.set_cons_zero, List.set_cons_succ, List.getElem_toArray, List.getElem_cons_zero, List.getElem_cons_succ]
        refine wpAnyE_one (i := 7) (by kernel_rfl) rfl ?_
        change wpList _ _ (Exit.then _ _) [_] _ _
        try simp only [List.setIfInBounds_toArray, List.set_cons_zero, List.set_cons_succ, List.getElem_toArray, List.getElem_cons_zero, List.getElem_cons_succ]
        go_wp2_with (go_at_call 19; refine (HS.out _).mono ?_; rintro e w5 ⟨rfl, hB5⟩)
        have hSS := hSS.below hB5
        refine ⟨fun _ => hSS, ?_⟩
        try simp only [List.setIfInBounds_toArray, List.set_cons_zero, List.set_cons_succ, List.getElem_toArray, List.getElem_cons_zero, List.getElem_cons_succ]
        refine wpAnyE_take (i := 8) (v := ?_) rfl (by kernel_rfl) (by kernel_rfl) (by kernel_rfl) (by kernel_rfl) (fun _ _ _ h => h) (Or.inl ⟨by rfl, ?_⟩) hSS ?_
        rotate_left
        · intro w hSw
          (try have kc0 := hSw.1.cell); (try have kc1 := hSw.2.cell)
          go_simp
          all_goals with_reducible rfl
        simp only [Act.put, List.setIfInBounds_toArray, List.set_cons_zero, List.set_cons_succ, List.getElem_toArray, List.getElem_cons_zero, List.getElem_cons_succ]
        refine wpAnyE_take (i := 9) (v := ?_) rfl (by kernel_rfl) (by kernel_rfl) (by kernel_rfl) (by kernel_rfl) (fun _ _ _ h => h) (Or.inl ⟨by rfl, ?_⟩) hSS ?_
        rotate_left
        · intro w hSw
          (try have kc0 := hSw.1.cell); (try have kc1 := hSw.2.cell)
          go_simp
          all_goals with_reducible rfl
        simp only [Act.put, List.setIfInBounds_toArray, List.set_cons_zero, List.set_cons_succ, List.getElem_toArray, List.getElem_cons_zero, List.getElem_cons_succ]
        refine wpAnyE_take (i := 10) (v := ?_) rfl (by kernel_rfl) (by kernel_rfl) (by kernel_rfl) (by kernel_rfl) (fun _ _ _ h => h) (Or.inl ⟨by rfl, ?_⟩) hSS ?_
        rotate_left
        · intro w hSw
          (try have kc0 := hSw.1.cell); (try have kc1 := hSw.2.cell)
          go_simp
          all_goals with_reducible rfl
        simp only [Act.put, List.setIfInBounds_toArray, List.set_cons_zero, List.set_cons_succ, List.getElem_toArray, List.getElem_cons_zero, List.getElem_cons_succ]
        refine wpAnyE_take (i := 11) (v := undef) rfl (by kernel_rfl) (by kernel_rfl) (by kernel_rfl) (by kernel_rfl) (fun _ _ _ h => h) (Or.inr ⟨by rfl, rfl⟩) hSS ?_
        simp only [Act.put, List.setIfInBounds_toArray, List.set_cons_zero, List.set_cons_succ, List.getElem_toArray, List.getElem_cons_zero, List.getElem_cons_succ]
        refine wpAnyE_take (i := 12) (v := undef) rfl (by kernel_rfl) (by kernel_rfl) (by kernel_rfl) (by kernel_rfl) (fun _ _ _ h => h) (Or.inr ⟨by rfl, rfl⟩) hSS ?_
        simp only [Act.put, List.setIfInBounds_toArray, List.set_cons_zero, List.set_cons_succ, List.getElem_toArray, List.getElem_cons_zero, List.getElem_cons_succ]
        refine wpAnyE_take (i := 13) (v := undef) rfl (by kernel_rfl) (by kernel_rfl) (by kernel_rfl) (by kernel_rfl) (fun _ _ _ h => h) (Or.inr ⟨by rfl, rfl⟩) hSS ?_
        simp only [Act.put, List.setIfInBounds_toArray, List.set_cons_zero, List.set_cons_succ, List.getElem_toArray, List.getElem_cons_zero, List.getElem_cons_succ]
        refine wpAnyE_take (i := 14) (v := undef) rfl (by kernel_rfl) (by kernel_rfl) (by kernel_rfl) (by kernel_rfl) (fun _ _ _ h => h) (Or.inr ⟨by rfl, rfl⟩) hSS ?_
        simp only [Act.put, List.setIfInBounds_toArray, List.set_cons_zero, List.set_cons_succ, List.getElem_toArray, List.getElem_cons_zero, List.getElem_cons_succ]
        refine wpAnyE_take (i := 15) (v := undef) rfl (by kernel_rfl) (by kernel_rfl) (by kernel_rfl) (by kernel_rfl) (fun _ _ _ h => h) (Or.inr ⟨by rfl, rfl⟩) hSS ?_
        simp only [Act.put, List.setIfInBounds_toArray, List.set_cons_zero, List.set_cons_succ, List.getElem_toArray, List.getElem_cons_zero, List.getElem_cons_succ]
        refine wpAnyE_take (i := 16) (v := undef) rfl (by kernel_rfl) (by kernel_rfl) (by kernel_rfl) (by kernel_rfl) (fun _ _ _ h => h) (Or.inr ⟨by rfl, rfl⟩) hSS ?_
        simp only [Act.put, List.setIfInBounds_toArray, List.set_cons_zero, List.set_cons_succ, List.getElem_toArray, List.getElem_cons_zero, List.getElem_cons_succ]
        refine wpAnyE_take (i := 17) (v := ?_) rfl (by kernel_rfl) (by kernel_rfl) (by kernel_rfl) (by kernel_rfl) (fun _ _ _ h => h) (Or.inl ⟨by rfl, ?_⟩) hSS ?_
        rotate_left
        · intro w hSw
          (try have kc0 := hSw.1.cell); (try have kc1 := hSw.2.cell)
          go_simp
          all_goals with_reducible rfl
        simp only [Act.put, List.setIfInBounds_toArray, List.set_cons_zero, List.set_cons_succ, List.getElem_toArray, List.getElem_cons_zero, List.getElem_cons_succ]
        refine wpAnyE_end (by kernel_rfl) ?_
        have HK := Lib.hid hSS
        have z0 := (blk_cell hSS.tk.out 0).trans rfl
        have z1 := (blk_cell hSS.tk.out 1).trans rfl
        have z2 := (blk_cell hSS.tk.out 2).trans rfl
        simp at z0 z1 z2
        have zf0 := blk_free hSS.tk.out 0
        have zf1 := blk_free hSS.tk.out 1
        have zf2 := blk_free hSS.tk.out 2
        clear hSS
        go_wp2_with fail
        generalize hWF : World.setCell (World.setCell (World.setCell _ _ _) _ _) _ _ = WF
        have hfb : WF.heap[w.heap.size]? = some (.cells #[.int .i64 (0), .int .i64 (0), .int .i64 (0)] 23 (0, 0)) := by
          rw [← hWF]; exact blk_store (blk_store (blk_store HK.out.tk.out 0 _) 1 _) 2 _
        have hfl : Below w.heap.size w WF := by
          rw [← hWF]; exact ((HK.out.tk.low.setCell (Nat.le_refl _) _).setCell (Nat.le_refl _) _).setCell (Nat.le_refl _) _
        have y0 := (blk_cell hfb 0).trans rfl
        have y1 := (blk_cell hfb 1).trans rfl
        have y2 := (blk_cell hfb 2).trans rfl
        simp at y0 y1 y2
        exact bodyPost_ret (v := .tuple #[.agg #[.int .i64 (0), .int .i64 (0), .int .i64 (0)], .int .i64 (0), .int .i64 70]) (by simp [results, Tryz.results8, go_sem, y0, y1, y2]) rfl ⟨by rw [HD.out]; rfl, hfl⟩
    · have hd : decL l = none := by
        unfold decL; rw [hr, if_neg]
        rintro ⟨⟨a1, a2, a3, a4, a5, a6⟩, _⟩
        exact h1 ⟨by omega, by omega, by omega, by omega, by omega, by omega⟩
      have HD := Lib.hid hd
      clear hd
      rw [decide_eq_false h1] at HM
      go_wp2_with fail
      refine wp_region_early (KG b r w ⟨g, q, none⟩ l) (fun _ => false) (by kernel_rfl) ?_
      have hSS : KG b r w ⟨g, q, none⟩ l wc.drew := ⟨hSS.kept, hSS.tk.bytes, hSS.tk.low.drew, hSS.tk.out⟩
      generalize wc.drew = W4 at *
      simp only [List.size_toArray, List.length_cons, List.length_nil, Nat.reduceAdd, Array.replicate_succ, Array.replicate_zero, List.push_toArray, List.nil_append, List.cons_append]
      refine wpAnyE_take (i := 0) (v := ?_) rfl (by kernel_rfl) (by kernel_rfl) (by kernel_rfl) (by kernel_rfl) (fun _ _ _ h => h) (Or.inl ⟨by rfl, ?_⟩) hSS ?_
      rotate_left
      · intro w hSw
        obtain ⟨kc0, kc1, kc2, kc3⟩ := hSw.cells
        go_simp
        all_goals with_reducible rfl
      simp only [Act.put, List.setIfInBounds_toArray, List.set_cons_zero, List.set_cons_succ, List.getElem_toArray, List.getElem_cons_zero, List.getElem_cons_succ]
      refine wpAnyE_take (i := 1) (v := ?_) rfl (by kernel_rfl) (by kernel_rfl) (by kernel_rfl) (by kernel_rfl) (fun _ _ _ h => h) (Or.inl ⟨by rfl, ?_⟩) hSS ?_
      rotate_left
      · intro w hSw
        obtain ⟨kc0, kc1, kc2, kc3⟩ := hSw.cells
        go_simp
        all_goals with_reducible rfl
      simp only [Act.put, List.setIfInBounds_toArray, List.set_cons_zero, List.set_cons_succ, List.getElem_toArray, List.getElem_cons_zero, List.getElem_cons_succ]
      refine wpAnyE_one (i := 2) (by kernel_rfl) rfl ?_
      change wpList _ _ (Exit.then _ _) [_] _ _
      try simp only [List.setIfInBounds_toArray, List.set_cons_zero, List.set_cons_succ, List.getElem_toArray, List.getElem_cons_zero, List.getElem_cons_succ]
      go_wp2_with (go_at_call 18; refine (HM.out _).mono ?_; rintro e w4 ⟨rfl, hB4⟩)
      have hSS := hSS.below hB4
      refine ⟨fun _ => hSS, ?_⟩
      try simp only [List.setIfInBounds_toArray, List.set_cons_zero, List.set_cons_succ, List.getElem_toArray, List.getElem_cons_zero, List.getElem_cons_succ]
      refine wpAnyE_take (i := 3) (v := ?_) rfl (by kernel_rfl) (by kernel_rfl) (by kernel_rfl) (by kernel_rfl) (fun _ _ _ h => h) (Or.inl ⟨by rfl, ?_⟩) hSS ?_
      rotate_left
      · intro w hSw
        (try have kc0 := hSw.1.cell); (try have kc1 := hSw.2.cell)
        go_simp
        all_goals with_reducible rfl
      simp only [Act.put, List.setIfInBounds_toArray, List.set_cons_zero, List.set_cons_succ, List.getElem_toArray, List.getElem_cons_zero, List.getElem_cons_succ]
      refine wpAnyE_take (i := 4) (v := ?_) rfl (by kernel_rfl) (by kernel_rfl) (by kernel_rfl) (by kernel_rfl) (fun _ _ _ h => h) (Or.inl ⟨by rfl, ?_⟩) hSS ?_
      rotate_left
      · intro w hSw
        (try have kc0 := hSw.1.cell); (try have kc1 := hSw.2.cell)
        go_simp
        all_goals with_reducible rfl
      simp only [Act.put, List.setIfInBounds_toArray, List.set_cons_zero, List.set_cons_succ, List.getElem_toArray, List.getElem_cons_zero, List.getElem_cons_succ]
      refine wpAnyE_take (i := 5) (v := undef) rfl (by kernel_rfl) (by kernel_rfl) (by kernel_rfl) (by kernel_rfl) (fun _ _ _ h => h) (Or.inr ⟨by rfl, rfl⟩) hSS ?_
      simp only [Act.put, List.setIfInBounds_toArray, List.set_cons_zero, List.set_cons_succ, List.getElem_toArray, List.getElem_cons_zero, List.getElem_cons_succ]
      refine wpAnyE_take (i := 6) (v := undef) rfl (by kernel_rfl) (by kernel_rfl) (by kernel_rfl) (by kernel_rfl) (fun _ _ _ h => h) (Or.inr ⟨by rfl, rfl⟩) hSS ?_
      simp only [Act.put, List.setIfInBounds_toArray, List.set_cons_zero, List.set_cons_succ, List.getElem_toArray, List.getElem_cons_zero, List.getElem_cons_succ]
      refine wpAnyE_take (i := 7) (v := undef) rfl (by kernel_rfl) (by kernel_rfl) (by kernel_rfl) (by kernel_rfl) (fun _ _ _ h => h) (Or.inr ⟨by rfl, rfl⟩) hSS ?_
      simp only [Act.put, List.setIfInBounds_toArray, List.set_cons_zero, List.set_cons_succ, List.getElem_toArray, List.getElem_cons_zero, List.getElem_cons_succ]
      refine wpAnyE_take (i := 8) (v := undef) rfl (by kernel_rfl) (by kernel_rfl) (by kernel_rfl) (by kernel_rfl) (fun _ _ _ h => h) (Or.inr ⟨by rfl, rfl⟩) hSS ?_
      simp only [Act.put, List.setIfInBounds_toArray, List.set_cons_zero, List.set_cons_succ, List.getElem_toArray, List.getElem_cons_zero, List.getElem_cons_succ]
      refine wpAnyE_take (i := 9) (v := ?_) rfl (by kernel_rfl) (by kernel_rfl) (by kernel_rfl) (by kernel_rfl) (fun _ _ _ h => h) (Or.inl ⟨by rfl, ?_⟩) hSS ?_
      rotate_left
      · intro w hSw
        (try have kc0 := hSw.1.cell); (try have kc1 := hSw.2.cell)
        go_simp
        all_goals with_reducible rfl
      simp only [Act.put, List.setIfInBounds_toArray, List.set_cons_zero, List.set_cons_succ, List.getElem_toArray, List.getElem_cons_zero, List.getElem_cons_succ]
      refine wpAnyE_take (i := 10) (v := ?_) rfl (by kernel_rfl) (by kernel_rfl) (by kernel_rfl) (by kernel_rfl) (fun _ _ _ h => h) (Or.inl ⟨by rfl, ?_⟩) hSS ?_
      rotate_left
      · intro w hSw
        (try have kc0 := hSw.1.cell); (try have kc1 := hSw.2.cell)
        go_simp
        all_goals with_reducible rfl
      simp only [Act.put, List.setIfInBounds_toArray, List.set_cons_zero, List.set_cons_succ, List.getElem_toArray, List.getElem_cons_zero, List.getElem_cons_succ]
      refine wpAnyE_take (i := 11) (v := undef) rfl (by kernel_rfl) (by kernel_rfl) (by kernel_rfl) (by kernel_rfl) (fun _ _ _ h => h) (Or.inr ⟨by rfl, rfl⟩) hSS ?_
      simp only [Act.put, List.setIfInBounds_toArray, List.set_cons_zero, List.set_cons_succ, List.getElem_toArray, List.getElem_cons_zero, List.getElem_cons_succ]
      refine wpAnyE_take (i := 12) (v := undef) rfl (by kernel_rfl) (by kernel_rfl) (by kernel_rfl) (by kernel_rfl) (fun _ _ _ h => h) (Or.inr ⟨by rfl, rfl⟩) hSS ?_
      simp only [Act.put, List.setIfInBounds_toArray, List.set_cons_zero, List.set_cons_succ, List.getElem_toArray, List.getElem_cons_zero, List.getElem_cons_succ]
      refine wpAnyE_take (i := 13) (v := undef) rfl (by kernel_rfl) (by kernel_rfl) (by kernel_rfl) (by kernel_rfl) (fun _ _ _ h => h) (Or.inr ⟨by rfl, rfl⟩) hSS ?_
      simp only [Act.put, List.setIfInBounds_toArray, List.set_cons_zero, List.set_cons_succ, List.getElem_toArray, List.getElem_cons_zero, List.getElem_cons_succ]
      refine wpAnyE_take (i := 14) (v := undef) rfl (by kernel_rfl) (by kernel_rfl) (by kernel_rfl) (by kernel_rfl) (fun _ _ _ h => h) (Or.inr ⟨by rfl, rfl⟩) hSS ?_
      simp only [Act.put, List.setIfInBounds_toArray, List.set_cons_zero, List.set_cons_succ, List.getElem_toArray, List.getElem_cons_zero, List.getElem_cons_succ]
      refine wpAnyE_take (i := 15) (v := undef) rfl (by kernel_rfl) (by kernel_rfl) (by kernel_rfl) (by kernel_rfl) (fun _ _ _ h => h) (Or.inr ⟨by rfl, rfl⟩) hSS ?_
      simp only [Act.put, List.setIfInBounds_toArray, List.set_cons_zero, List.set_cons_succ, List.getElem_toArray, List.getElem_cons_zero, List.getElem_cons_succ]
      refine wpAnyE_take (i := 16) (v := undef) rfl (by kernel_rfl) (by kernel_rfl) (by kernel_rfl) (by kernel_rfl) (fun _ _ _ h => h) (Or.inr ⟨by rfl, rfl⟩) hSS ?_
      simp only [Act.put, List.setIfInBounds_toArray, List.set_cons_zero, List.set_cons_succ, List.getElem_toArray, List.getElem_cons_zero, List.getElem_cons_succ]
      refine wpAnyE_take (i := 17) (v := ?_) rfl (by kernel_rfl) (by kernel_rfl) (by kernel_rfl) (by kernel_rfl) (fun _ _ _ h => h) (Or.inl ⟨by rfl, ?_⟩) hSS ?_
      rotate_left
      · intro w hSw
        (try have kc0 := hSw.1.cell); (try have kc1 := hSw.2.cell)
        go_simp
        all_goals with_reducible rfl
      simp only [Act.put, List.setIfInBounds_toArray, List.set_cons_zero, List.set_cons_succ, List.getElem_toArray, List.getElem_cons_zero, List.getElem_cons_succ]
      refine wpAnyE_end (by kernel_rfl) ?_
      have HK := Lib.hid hSS
      have z0 := (blk_cell hSS.tk.out 0).trans rfl
      have z1 := (blk_cell hSS.tk.out 1).trans rfl
      have z2 := (blk_cell hSS.tk.out 2).trans rfl
      simp at z0 z1 z2
      have zf0 := blk_free hSS.tk.out 0
      have zf1 := blk_free hSS.tk.out 1
      have zf2 := blk_free hSS.tk.out 2
      clear hSS
      go_wp2_with fail
      generalize hWF : World.setCell (World.setCell (World.setCell _ _ _) _ _) _ _ = WF
      have hfb : WF.heap[w.heap.size]? = some (.cells #[.int .i64 (0), .int .i64 (0), .int .i64 (0)] 23 (0, 0)) := by
        rw [← hWF]; exact blk_store (blk_store (blk_store HK.out.tk.out 0 _) 1 _) 2 _
      have hfl : Below w.heap.size w WF := by
        rw [← hWF]; exact ((HK.out.tk.low.setCell (Nat.le_refl _) _).setCell (Nat.le_refl _) _).setCell (Nat.le_refl _) _
      have y0 := (blk_cell hfb 0).trans rfl
      have y1 := (blk_cell hfb 1).trans rfl
      have y2 := (blk_cell hfb 2).trans rfl
      simp at y0 y1 y2
      exact bodyPost_ret (v := .tuple #[.agg #[.int .i64 (0), .int .i64 (0), .int .i64 (0)], .int .i64 (0), .int .i64 70]) (by simp [results, Tryz.results8, go_sem, y0, y1, y2]) rfl ⟨by rw [HD.out]; rfl, hfl⟩
end Go.Proofs.YthkppkecclnlnaaGreat
