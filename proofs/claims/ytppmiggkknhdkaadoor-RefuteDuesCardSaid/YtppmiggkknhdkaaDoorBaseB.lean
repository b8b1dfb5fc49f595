/- Lemmas of this chapter, laid one behind the other. -/
import Derived.Test.YtppmiggkknhdkaaDoorBaseA
import Derived.DeepKeys
import Derived.Deep.CutRange
namespace Go.Proofs.YtppmiggkknhdkaaDoor
set_option linter.unusedVariables false
set_option linter.unusedSimpArgs false
open Go.RowKit

/-- Some bytes laid over others from a place on. -/
def putAt (l : List Nat) (o : Nat) (m : List Nat) : List Nat := l.take o ++ (m ++ l.drop (o + m.length))
theorem putAt_len {l m : List Nat} {o : Nat} (h : o + m.length ≤ l.length) : (putAt l o m).length = l.length := by
  unfold putAt; simp only [List.length_append, List.length_take, List.length_drop]; omega
theorem putAt_step (l m : List Nat) (o k v : Nat) (h : o + m.length ≤ l.length) (hk : m[k]? = some v) : (putAt l o (m.take k)).set (o + k) v = putAt l o (m.take (k + 1)) := by
  have hkl := (List.getElem?_eq_some_iff.1 hk).1
  have h1 : (m.take k).length = k := by rw [List.length_take]; omega
  have h2 : (m.take (k + 1)).length = k + 1 := by rw [List.length_take]; omega
  have h3 : (l.take o).length = o := by rw [List.length_take]; omega
  unfold putAt
  rw [h1, h2, List.set_append_right _ _ (by omega), h3, Nat.add_sub_cancel_left, List.set_append_right _ _ (by omega), h1, Nat.sub_self, List.take_add_one, hk]
  rw [List.drop_eq_getElem_cons (show o + k < l.length by omega), List.set_cons_zero, Option.toList_some, List.append_assoc, Nat.add_assoc]
  rfl
theorem bC_get (l : List Nat) (j : Nat) : (bC l)[j]? = (l[j]?).map fun x : Nat => Value.int .u8 (x : Int) := by unfold bC; rw [List.getElem?_map]
theorem bC_set (l : List Nat) (j v : Nat) : (bC l).set j (.int .u8 (v : Int)) = bC (l.set j v) := by unfold bC; rw [List.map_set]
theorem be_get {n x k : Nat} (h : k < n) : (be n x)[k]? = some (x / 256 ^ (n - 1 - k) % 256) := by
  unfold be; rw [List.getElem?_map, List.getElem?_range h]; rfl
set_option maxRecDepth 100000 in
theorem put_any (b o n cap x : Nat) (l : List Nat) (t : TypeId) (w : World) (h : w.heap[b]? = some (.cells (bC l).toArray t (0, 0))) (hn : o + n ≤ l.length) (hn8 : n ≤ 8) (hx : x < 4611686018427387904) :
    Calls Tryd.prog 80 #[.slice (some ⟨b, o, none⟩) n cap, .int .i64 (x : Int)] w fun e w' => e = .returned (.tuple #[]) ∧ w'.heap[b]? = some (.cells (bC (putAt l o (be n x))).toArray t (0, 0)) ∧ w.grownBy w' (some b) := by
  have hlt0 := blk_lt h
  have h0 : putAt l o ((be n x).take 0) = l := by unfold putAt; simp
  have HN := Lib.hid hn
  clear hn
  go_enter Tryd.func80, Tryd.ntmps80
  go_wp2_with fail
  go_loopw [7] (fun i wr => ∃ (k : Nat), i = .int .i64 k ∧ k ≤ n ∧ wr.heap[b]? = some (.cells (bC (putAt l o ((be n x).take k))).toArray t (0, 0)) ∧ w.grownBy wr (some b)) (fun i _ => n - (intOf i).toNat)
  case atStart => exact ⟨0, rfl, by omega, by rw [h0]; exact h, but_refl _ _⟩
  case round =>
    obtain ⟨k, rfl, hk, hB, hg⟩ := hrel
    clear h0
    by_cases hlt : k < n
    · have i1 : (k : Int) < (n : Int) := by omega
      have i2 : (0 : Int) ≤ (k : Int) := by omega
      have i3 : (k : Int).toNat = k := Int.toNat_natCast k
      have hv := be_get (x := x) hlt
      have hst := putAt_step l (be n x) o k _ (by rw [be_len]; exact HN.out) hv
      have HST := Lib.hid hst
      have hlen : (putAt l o ((be n x).take k)).length = l.length := putAt_len (by rw [List.length_take, be_len]; have := HN.out; omega)
      obtain ⟨y, hy⟩ : ∃ y, (putAt l o ((be n x).take k))[o + k]? = some y := ⟨_, List.getElem?_eq_getElem (by rw [hlen]; have := HN.out; omega)⟩
      have c0 : wr.cell? ⟨b, o + k, none⟩ = some (.int .u8 (y : Int)) := by rw [blk_cell hB, List.getElem?_toArray, bC_get, hy]; rfl
      have z0 := blk_free hB (o + k)
      clear hst hv hy hlen
      have e0 : (n : Int) - 1 - (k : Int) = ((n - 1 - k : Nat) : Int) := by omega
      go_wp2_with fail
      go_roundw
      case rel =>
        have hval : ((x : Int) / 2 ^ (8 * (n - 1 - k)) % 256) = ((x / 256 ^ (n - 1 - k) % 256 : Nat) : Int) := by
          rw [show (256 : Nat) ^ (n - 1 - k) = 2 ^ (8 * (n - 1 - k)) from by rw [Nat.pow_mul]]; push_cast; rfl
        rw [hval]
        refine ⟨k + 1, by go_num, by omega, ?_, but_set hg hlt0 _ _⟩
        have := blk_store hB (o + k) (.int .u8 ((x / 256 ^ (n - 1 - k) % 256 : Nat) : Int))
        rw [this, List.setIfInBounds_toArray, bC_set, HST.out]
      case measure => simp [intOf]; omega
    · obtain rfl : k = n := by omega
      have i1 : ¬ (k : Int) < (k : Int) := by omega
      rw [List.take_of_length_le (by rw [be_len]; exact Nat.le_refl _)] at hB
      go_wp2_with fail
      go_end0
      exact ⟨rfl, hB, hg⟩
theorem b1' (w : World) (a b : Obj) : ((w.alloc a).alloc b).heap[w.heap.size + 1]? = some b := by have := blk_new (w.alloc a) b; rwa [World.size_alloc] at this
theorem b2' (w : World) (a b c : Obj) : (((w.alloc a).alloc b).alloc c).heap[w.heap.size + 1 + 1]? = some c := by have := blk_new ((w.alloc a).alloc b) c; rwa [World.size_alloc, World.size_alloc] at this
theorem setCells_grown {b : Nat} (vs : List Value) : ∀ (o : Nat) (W W0 : World), W0.grownBy W (some b) → b < W0.heap.size → W0.grownBy (W.setCells b o vs) (some b) := by
  induction vs with
  | nil => intro o W W0 h _; exact h
  | cons v vs ih => intro o W W0 h hb; exact ih (o + 1) _ _ (but_set h hb _ _) hb
/-- 'copy(b, s)', s a text, into a block of bytes that is known whole. -/
theorem copy_text {P : Program} (w : World) (dT sT ty elem : TypeId) (b o dLen dCap : Nat) (s : ByteArray) (m l : List Nat) (t : TypeId)
    (hu : P.underlying dT = some (.slice elem)) (hs : (P.info? elem).map (·.size) = some 1) (hm : Lib.strCells s = bC m) (hn : m.length ≤ dLen)
    (hb : w.heap[b]? = some (.cells (bC l).toArray t (0, 0))) (ho : o + m.length ≤ l.length) :
    ∃ W', (Builtin.copy_ #[dT, sT] ty #[.slice (some ⟨b, o, none⟩) dLen dCap, .string s]).run P w = .ok (goInt s.size) W' ∧ W'.heap[b]? = some (.cells (bC (putAt l o m)).toArray t (0, 0)) ∧ w.grownBy W' (some b) := by
  have hL := Lib.strCells_length s
  have hml : m.length = s.size := by rw [← hL, hm, bC_len]
  have hth := there_blk hb o s.size (by simp [bC_len]; omega)
  have hst := run_storeCells_cells (P := P) b o (Lib.strCells s) 0 w (fun j hj => by
    rw [Nat.add_zero, blk_cell hb, List.getElem?_toArray, List.getElem?_eq_getElem (by rw [bC_len]; omega)]; rfl) (fun j _ => blk_free hb _) (Lib.strCells_oneCell s)
  have hq : min s.size dLen = s.size := by omega
  refine ⟨w.setCells b o (Lib.strCells s), ?_, ?_, ?_⟩
  · cases hq2 : P.info? elem with
    | none => simp [hq2] at hs
    | some i =>
      have hi : i.size = 1 := by simpa [hq2] using hs
      have hf := Lib.run_firstCells_string (P := P) w 1 s
      simp [Builtin.copy_, run_underlying hu, Builtin.lenOf, sizeOf, typeInfo, hq2, hi, hq, hf, hst]
  · rw [setCells_blk _ o w _ hb, hm]
    congr 2
    apply Array.ext_getElem?
    intro j
    rw [setAll_get, List.getElem?_toArray, List.getElem?_toArray, bC_len, bC_get, bC_get, bC_get]
    unfold putAt
    rw [List.getElem?_append, List.getElem?_append, List.length_take, List.getElem?_take, List.getElem?_drop]
    simp only [List.size_toArray, bC_len]
    have e : min o l.length = o := by omega
    rw [e]
    by_cases c1 : j < o
    · rw [if_neg (by omega), if_pos c1, if_pos c1]
    · by_cases c2 : j < o + m.length
      · rw [if_pos (by omega), if_neg c1, if_pos (by omega)]
      · rw [if_neg (by omega), if_neg c1, if_neg (by omega)]; congr 2; omega
  · exact setCells_grown _ o w _ (but_refl _ _) (blk_lt hb)
/-- The blocks of a slot's bytes while they are laid. -/
structure Bs (w : World) (r : Rc) (l : List Nat) (W : World) : Prop where
  box : W.heap[w.heap.size]? = some (.cells #[.int .i64 (r.life : Int), .int .i64 (r.round : Int), .int .i64 (r.tag : Int), .int .i64 (r.seq : Int)] 92 (0, 0))
  res : W.heap[w.heap.size + 1]? = some (.cells (bC (List.replicate 64 0)).toArray 126 (0, 0))
  b : W.heap[w.heap.size + 1 + 1]? = some (.cells (bC l).toArray 126 (0, 0))
  low : Below w.heap.size w W
  len : l.length = 64
theorem Bs.drew {w W : World} {r : Rc} {l : List Nat} (h : Bs w r l W) : Bs w r l W.drew := ⟨h.box, h.res, h.b, h.low.drew, h.len⟩
theorem Bs.put {w W W' : World} {r : Rc} {l m : List Nat} {o : Nat} (h : Bs w r l W) (hb : W'.heap[w.heap.size + 1 + 1]? = some (.cells (bC (putAt l o m)).toArray 126 (0, 0))) (hg : W.grownBy W' (some (w.heap.size + 1 + 1))) (hm : o + m.length ≤ 64) : Bs w r (putAt l o m) W' :=
  ⟨blk_grown hg h.box (by simp; omega), blk_grown hg h.res (by simp), hb, h.low.grown hg h.low.size (fun j hj => by cases hj; omega), (putAt_len (by rw [h.len]; exact hm)).trans h.len⟩
theorem Bs.cells {w W : World} {r : Rc} {l : List Nat} (h : Bs w r l W) :
    W.cell? ⟨w.heap.size, 0, none⟩ = some (.int .i64 (r.life : Int)) ∧ W.cell? ⟨w.heap.size, 1, none⟩ = some (.int .i64 (r.round : Int)) ∧ W.cell? ⟨w.heap.size, 2, none⟩ = some (.int .i64 (r.tag : Int)) ∧ W.cell? ⟨w.heap.size, 3, none⟩ = some (.int .i64 (r.seq : Int)) :=
  ⟨(blk_cell h.box 0).trans rfl, (blk_cell h.box 1).trans rfl, (blk_cell h.box 2).trans rfl, (blk_cell h.box 3).trans rfl⟩
theorem slot_info : (Tryd.prog.info? 126).map (·.size) = some 64 := by kernel_rfl
theorem enc_puts (r : Rc) : putAt (putAt (putAt (putAt (putAt (putAt (putAt (List.replicate 64 0) 0 [101, 97, 114, 49]) 4 (be 8 r.seq)) 12 (be 4 r.life)) 16 (be 5 r.round)) 32 [101, 97, 114, 50]) 36 (be 8 r.seq)) 44 (be 3 r.tag) = encL r := by
  rfl
set_option maxRecDepth 100000 in
theorem bytes_any (r : Rc) (h : r.may) (w : World) : Calls Tryd.prog 73 #[keptV r] w fun e w' => e = .returned (.agg (bC (encL r)).toArray) ∧ Below w.heap.size w w' := by
  unfold keptV
  have HM := Lib.hid h
  obtain ⟨m1, m2, m3, m4, m5, m6⟩ := h
  go_enter Tryd.func73, Tryd.ntmps73
  go_wp2_with fail
  generalize hW3 : World.alloc (World.alloc (World.alloc w _) _) _ = W3
  have B0 : Bs w r (List.replicate 64 0) W3 := by
    rw [← hW3]
    exact ⟨blk_old (blk_old (blk_new w _) _) _, blk_old (b1' w _ _) _, b2' w _ _ _, (((Below.refl _ w).alloc (Nat.le_refl _) _).alloc (by simp) _).alloc (by simp; omega) _, List.length_replicate⟩
  clear hW3
  obtain ⟨W4, hrun, hb4, hg4⟩ := copy_text (P := Tryd.prog) W3 110 9 3 5 (w.heap.size + 1 + 1) 0 64 64 ⟨#[101, 97, 114, 49]⟩ [101, 97, 114, 49] _ _ Tryd.underlying110 (by kernel_rfl) rfl (by decide) B0.b (by simp)
  have B4 := B0.put hb4 hg4 (by decide)
  rw [hrun]
  clear hrun hb4 hg4 B0
  go_wp2_with fail
  obtain ⟨c0, c1, c2, c3⟩ := B4.cells
  refine wp_region_still_tail 3 (by kernel_rfl) (by kernel_rfl) ?_
  simp only [List.take_succ_cons, List.take_zero, List.drop_succ_cons, List.drop_zero]
  repeat still_step
  try refine wpStill_nil ?_
  change wpList _ _ _ _ _ (World.drew _)
  have hd := B4.drew
  clear c0 c1 c2 c3
  go_wp2_with (go_at_call 80; refine (put_any (w.heap.size + 1 + 1) 4 8 _ r.seq _ 126 _ hd.b (by rw [hd.len]; decide) (by decide) (by omega)).mono ?_; rintro e w5 ⟨rfl, hb, hg⟩; have B5 := hd.put hb hg (by rw [be_len]; decide); clear hb hg hd B4)
  obtain ⟨c0, c1, c2, c3⟩ := B5.cells
  refine wp_region_still_tail 4 (by kernel_rfl) (by kernel_rfl) ?_
  simp only [List.take_succ_cons, List.take_zero, List.drop_succ_cons, List.drop_zero]
  repeat still_step
  try refine wpStill_nil ?_
  change wpList _ _ _ _ _ (World.drew _)
  have hd := B5.drew
  clear c0 c1 c2 c3
  go_wp2_with (go_at_call 80; refine (put_any (w.heap.size + 1 + 1) 12 4 _ r.life _ 126 _ hd.b (by rw [hd.len]; decide) (by decide) (by omega)).mono ?_; rintro e w6 ⟨rfl, hb, hg⟩; have B6 := hd.put hb hg (by rw [be_len]; decide); clear hb hg hd B5)
  obtain ⟨c0, c1, c2, c3⟩ := B6.cells
  refine wp_region_still_tail 4 (by kernel_rfl) (by kernel_rfl) ?_
  simp only [List.take_succ_cons, List.take_zero, List.drop_succ_cons, List.drop_zero]
  repeat still_step
  try refine wpStill_nil ?_
  change wpList _ _ _ _ _ (World.drew _)
  have hd := B6.drew
  clear c0 c1 c2 c3
  go_wp2_with (go_at_call 80; refine (put_any (w.heap.size + 1 + 1) 16 5 _ r.round _ 126 _ hd.b (by rw [hd.len]; decide) (by decide) (by omega)).mono ?_; rintro e w7 ⟨rfl, hb, hg⟩; have B7 := hd.put hb hg (by rw [be_len]; decide); clear hb hg hd B6)
  obtain ⟨W8, hrun, hb8, hg8⟩ := copy_text (P := Tryd.prog) w7 110 9 3 5 (w.heap.size + 1 + 1) 32 32 32 ⟨#[101, 97, 114, 50]⟩ [101, 97, 114, 50] _ _ Tryd.underlying110 (by kernel_rfl) rfl (by decide) B7.b (by rw [B7.len]; decide)
  have B8 := B7.put hb8 hg8 (by decide)
  rw [hrun]
  clear hrun hb8 hg8 B7
  go_wp2_with fail
  obtain ⟨c0, c1, c2, c3⟩ := B8.cells
  refine wp_region_still_tail 3 (by kernel_rfl) (by kernel_rfl) ?_
  simp only [List.take_succ_cons, List.take_zero, List.drop_succ_cons, List.drop_zero]
  repeat still_step
  try refine wpStill_nil ?_
  change wpList _ _ _ _ _ (World.drew _)
  have hd := B8.drew
  clear c0 c1 c2 c3
  go_wp2_with (go_at_call 80; refine (put_any (w.heap.size + 1 + 1) 36 8 _ r.seq _ 126 _ hd.b (by rw [hd.len]; decide) (by decide) (by omega)).mono ?_; rintro e w9 ⟨rfl, hb, hg⟩; have B9 := hd.put hb hg (by rw [be_len]; decide); clear hb hg hd B8)
  obtain ⟨c0, c1, c2, c3⟩ := B9.cells
  refine wp_region_still_tail 4 (by kernel_rfl) (by kernel_rfl) ?_
  simp only [List.take_succ_cons, List.take_zero, List.drop_succ_cons, List.drop_zero]
  repeat still_step
  try refine wpStill_nil ?_
  change wpList _ _ _ _ _ (World.drew _)
  have hd := B9.drew
  clear c0 c1 c2 c3
  go_wp2_with (first
    | (go_at_call 80; refine (put_any (w.heap.size + 1 + 1) 44 3 _ r.tag _ 126 _ hd.b (by rw [hd.len]; decide) (by decide) (by omega)).mono ?_; rintro e w10 ⟨rfl, hb, hg⟩; have B10 := hd.put hb hg (by rw [be_len]; decide); clear hb hg hd B9; rw [enc_puts] at B10; have hb10 := Lib.hid B10.b; have hr10 := Lib.hid B10.res)
    | (refine wpList_load_row rfl _ _ rfl (w.heap.size + 1 + 1) rfl _ (bC (encL r)).toArray _ _ hb10.out Tryd.underlying126 rfl (slot_info.trans (by simp [bC_len, encL_len])) ?_)
    | (refine wpList_store_mid rfl _ _ _ rfl (w.heap.size + 1) 0 (bC (encL r)).toArray rfl rfl (there_blk hr10.out 0 _ (by simp [bC_len, encL_len])) (slot_info.trans (by simp [bC_len, encL_len])) (all_oneCell_toArray (bC_one _)) ?_))
  have h3 := setCells_whole hr10.out (bC (encL r)).toArray (by simp [bC_len, encL_len])
  exact bodyPost_ret (v := .agg (bC (encL r)).toArray) (results_cell_row rfl _ _ (w.heap.size + 1) _ _ _ _ rfl h3 Tryd.underlying126 rfl (slot_info.trans (by simp [bC_len, encL_len]))) rfl ⟨rfl, setCells_below _ _ _ B10.low (by omega)⟩
end Go.Proofs.YtppmiggkknhdkaaDoor
namespace Go.Proofs.YtppmiggkknhdkaaDoor
set_option linter.unusedVariables false
open Go.RowKit

theorem mapM_all {α β : Type} (f : α → Option β) (g : α → β) : ∀ (is : List α), (∀ i ∈ is, f i = some (g i)) → is.mapM f = some (is.map g)
  | [], _ => by simp
  | i :: is, h => by
    rw [List.mapM_cons, h i (by simp), mapM_all f g is (fun j hj => h j (by simp [hj]))]
    rfl
theorem flat_ones {α β : Type} (h : α → β) : ∀ (is : List α), (is.map fun i => [h i]).flatten = is.map h
  | [] => rfl
  | i :: is => by rw [List.map_cons, List.flatten_cons, flat_ones h is]; rfl
theorem byte_wf {x : Nat} (h : x < 256) : (Lit.int .u8 (x : Int)).wf = true := by
  simp only [Lit.wf, Bool.and_eq_true, decide_eq_true_eq]
  have h4 : IntKind.u8.min = 0 := by decide
  have h5 : IntKind.u8.max = 255 := by decide
  omega
theorem lits64 (l : List Nat) (hl : l.length = 64) (hlt : ∀ c ∈ l, c < 256) : Tryd.prog.keyLits 2 126 (bC l) = some (l.map fun x : Nat => Lit.int .u8 (x : Int)) := by
  have hc : Tryd.prog.cellsOf 5 = 1 := by kernel_rfl
  have hc2 : Tryd.prog.cellsOf 126 = 64 := by kernel_rfl
  rw [show (2 : Nat) = 1 + 1 from rfl]
  unfold Program.keyLits
  rw [Tryd.underlying126]
  show (if (bC l).length = Tryd.prog.cellsOf 126 then _ else _) = _
  rw [if_pos (by rw [bC_len, hl, hc2]), hc]
  rw [mapM_all _ (fun i => [Lit.int .u8 ((l.getD i 0 : Nat) : Int)]) _ ?_]
  · rw [Option.map_some, flat_ones]
    refine congrArg some ?_
    apply List.ext_getElem?
    intro j
    by_cases hj : j < 64
    · rw [List.getElem?_map, List.getElem?_range hj, List.getElem?_map, List.getElem?_eq_getElem (show j < l.length by omega)]
      simp [List.getD_eq_getElem?_getD, show j < l.length by omega]
    · rw [List.getElem?_eq_none (by simp; omega), List.getElem?_eq_none (by simp; omega)]
  · intro i hi
    have hi : i < l.length := by rw [hl]; exact List.mem_range.1 hi
    rw [Nat.mul_one]
    have : ((bC l).drop i).take 1 = [Value.int .u8 ((l.getD i 0 : Nat) : Int)] := by
      rw [List.drop_eq_getElem_cons (show i < (bC l).length by rw [bC_len]; exact hi)]
      simp [bC, List.getD_eq_getElem?_getD, hi]
    rw [this]
    unfold Program.keyLits
    rw [Tryd.underlying5]
    show (if _ then _ else _) = _
    rw [if_pos ⟨rfl, byte_wf (by rw [List.getD_eq_getElem?_getD, List.getElem?_eq_getElem hi]; exact hlt _ (List.getElem_mem hi))⟩]
theorem eq_bytes (l m : List Nat) (hl : l.length = 64) (hm : m.length = 64) (h1 : ∀ c ∈ l, c < 256) (h2 : ∀ c ∈ m, c < 256) (w : World) :
    (Op.equalIn 10000 126 (.agg (bC l).toArray) (.agg (bC m).toArray)).run Tryd.prog w = .ok (decide (l = m)) w := by
  have formed : ∀ k : List Nat, k.length = 64 → (Value.agg (bC k).toArray).formed Tryd.prog 126 = true := by
    intro k hk
    have hc2 : Tryd.prog.cellsOf 126 = 64 := by kernel_rfl
    simp [Value.formed, Tryd.underlying126, hc2, bC_len, hk]
  obtain ⟨r, hr, hiff⟩ := run_equalIn_deep (P := Tryd.prog) 9998 2 126 (by kernel_rfl) w 2 2 (.agg (bC l).toArray) (.agg (bC m).toArray) _ _ (formed l hl) (formed m hm) (lits64 l hl h1) (lits64 m hm h2)
  have hr2 : (Op.equalIn 10000 126 (.agg (bC l).toArray) (.agg (bC m).toArray)).run Tryd.prog w = .ok r w := hr
  rw [hr2]
  clear hr hr2
  congr 1
  rw [Bool.eq_iff_iff, hiff, decide_eq_true_iff]
  constructor
  · intro h
    apply List.ext_getElem?
    intro j
    have := congrArg (fun k => k[j]?) h
    simp only [List.getElem?_map] at this
    cases h3 : l[j]? <;> cases h4 : m[j]? <;> simp [h3, h4] at this ⊢
    omega
  · rintro rfl; rfl
end Go.Proofs.YtppmiggkknhdkaaDoor
namespace Go.Proofs.YtppmiggkknhdkaaDoor
set_option linter.unusedVariables false
set_option linter.unusedSimpArgs false
open Go.RowKit

/-- A new row of 64 bytes. -/
def NewB (w W : World) (v : Value) (l : List Nat) : Prop := ∃ g, v = .slice (some ⟨g, 0, none⟩) 64 64 ∧ w.heap.size ≤ g ∧ W.heap[g]? = some (.cells (bC l).toArray 126 (0, 0))
def encOk (a b c s : Int) : Prop := mayR a b c ∧ 1 ≤ s ∧ s ≤ 1099511627776
instance (a b c s : Int) : Decidable (encOk a b c s) := by unfold encOk; infer_instance
def rcN (a b c s : Int) : Rc := ⟨a.toNat, b.toNat, c.toNat, s.toNat⟩
theorem rcN_may {a b c s : Int} (h : encOk a b c s) : (rcN a b c s).may ∧ keptV (rcN a b c s) = .agg #[.int .i64 a, .int .i64 b, .int .i64 c, .int .i64 s] := by
  obtain ⟨⟨h1, h2, h3, h4, h5, h6⟩, h7, h8⟩ := h
  refine ⟨⟨by show 1 ≤ a.toNat; omega, by show a.toNat ≤ _; omega, by show b.toNat ≤ _; omega, by show c.toNat ≤ _; omega, by show 1 ≤ s.toNat; omega, by show s.toNat ≤ _; omega⟩, ?_⟩
  unfold keptV rcN
  simp only
  rw [Int.toNat_of_nonneg (by omega), Int.toNat_of_nonneg (by omega), Int.toNat_of_nonneg (by omega), Int.toNat_of_nonneg (by omega)]
theorem box3 (w : World) (x y z : Value) (t : TypeId) : (w.alloc (.cells #[x, y, z] t)).heap[w.heap.size]? = some (.cells #[x, y, z] t (0, 0)) := blk_new w _
set_option maxRecDepth 100000 in
set_option maxHeartbeats 1000000 in
theorem encode_ok (a b c s : Int) (h : encOk a b c s) (w : World) : Calls Tryd.prog 66 #[recV a b c, .int .i64 s] w fun e w' =>
    ∃ v, e = .returned (.tuple #[v, .int .i64 0]) ∧ NewB w w' v (encL (rcN a b c s)) ∧ Below w.heap.size w w' := by
  have HM := Lib.hid (fun w => mayBe_any a b c w)
  have HS := Lib.hid (fun w => isSeq_any s w)
  have hb0 : Below w.heap.size w (w.alloc (.cells #[.int .i64 a, .int .i64 b, .int .i64 c] 48)) := (Below.refl _ w).alloc (Nat.le_refl _) _
  have k0 := box3 w (.int .i64 a) (.int .i64 b) (.int .i64 c) 48
  unfold recV at HM ⊢
  obtain ⟨hm, hk⟩ := rcN_may h
  have HB := Lib.hid (fun w => bytes_any _ hm w)
  rw [hk] at HB
  rw [decide_eq_true h.1] at HM
  rw [decide_eq_true h.2] at HS
  have hll : (bC (encL (rcN a b c s))).length = 64 := by rw [bC_len, encL_len]
  generalize encL (rcN a b c s) = l at *
  have HL := Lib.hid hll
  clear h hm hk hll
  go_enter Tryd.func66, Tryd.ntmps66
  go_wp2_with fail
  refine (HM.out _).mono ?_
  rintro e w1 ⟨rfl, hB1⟩
  have hb1 := below_then hb0 hB1
  have k1 := blk_below' hB1 k0
  go_wp2_with fail
  refine (HS.out _).mono ?_
  rintro e w2 ⟨rfl, hB2⟩
  have hb2 := below_then hb1 hB2
  have k2 := blk_below' hB2 k1
  have c0 := (blk_cell k2 0).trans rfl
  have c1 := (blk_cell k2 1).trans rfl
  have c2 := (blk_cell k2 2).trans rfl
  simp at c0 c1 c2
  clear k0 hb0 hB1 hb1 k1 k2 hB2
  go_wp2_with fail
  refine (HB.out _).mono ?_
  rintro e w3 ⟨rfl, hB3⟩
  have hb3 := below_then hb2 hB3
  go_wp2_with (refine wpList_store_mid rfl _ _ _ rfl w3.heap.size 0 (bC l).toArray rfl rfl (there_blk (blk_new w3 _) 0 _ (by simp [HL.out])) (slot_info.trans (by simp [HL.out])) (all_oneCell_toArray (bC_one _)) ?_; generalize hW3 : World.setCells (World.alloc w3 _) _ _ _ = W3; have n3 : W3.heap[w3.heap.size]? = some (.cells (bC l).toArray 126 (0, 0)) ∧ Below w3.heap.size w3 W3 := (by rw [← hW3]; exact new_row w3 _ _ (bC l) (by rw [HL.out]; rfl)); clear hW3)
  go_ret2
  exact ⟨_, rfl, ⟨_, rfl, hb3.size, n3.1⟩, below_then hb3 n3.2⟩
set_option maxRecDepth 100000 in
set_option maxHeartbeats 1000000 in
theorem encode_no (a b c s : Int) (h : ¬ encOk a b c s) (w : World) : Calls Tryd.prog 66 #[recV a b c, .int .i64 s] w fun e w' =>
    e = .returned (.tuple #[.slice none 0 0, .int .i64 1]) ∧ Below w.heap.size w w' := by
  have HM := Lib.hid (fun w => mayBe_any a b c w)
  have HS := Lib.hid (fun w => isSeq_any s w)
  have hb0 : Below w.heap.size w (w.alloc (.cells #[.int .i64 a, .int .i64 b, .int .i64 c] 48)) := (Below.refl _ w).alloc (Nat.le_refl _) _
  unfold recV at HM ⊢
  by_cases h1 : mayR a b c
  · have h2 : ¬ (1 ≤ s ∧ s ≤ 1099511627776) := fun h2 => h ⟨h1, h2⟩
    rw [decide_eq_true h1] at HM
    rw [decide_eq_false h2] at HS
    clear h h1 h2
    go_enter Tryd.func66, Tryd.ntmps66
    go_wp2_with fail
    refine (HM.out _).mono ?_
    rintro e w1 ⟨rfl, hB1⟩
    have hb1 := below_then hb0 hB1
    go_wp2_with fail
    refine (HS.out _).mono ?_
    rintro e w2 ⟨rfl, hB2⟩
    have hb2 := below_then hb1 hB2
    go_wp2_with fail
    go_ret2
    exact ⟨rfl, hb2⟩
  · rw [decide_eq_false h1] at HM
    clear h h1
    go_enter Tryd.func66, Tryd.ntmps66
    go_wp2_with fail
    refine (HM.out _).mono ?_
    rintro e w1 ⟨rfl, hB1⟩
    have hb1 := below_then hb0 hB1
    go_wp2_with fail
    go_ret2
    exact ⟨rfl, hb1⟩
theorem decode_size (a : Option Addr) (n cp : Nat) (h : n ≠ 64) (w : World) : Calls Tryd.prog 56 #[.slice a n cp] w fun e w' =>
    e = .returned (.tuple #[recV 0 0 0, .int .i64 0, .int .i64 102]) ∧ Below w.heap.size w w' := by
  have hne : ((n : Int) != 64) = true := by simp; omega
  unfold recV
  clear h
  go_enter Tryd.func56, Tryd.ntmps56
  go_wp2_with fail
  exact bodyPost_ret (v := .tuple #[.agg #[.int .i64 0, .int .i64 0, .int .i64 0], .int .i64 0, .int .i64 102]) (by simp [results, Tryd.results56, go_sem]) rfl ⟨rfl, (Below.refl _ w).alloc (Nat.le_refl _) _⟩
/-- What Decode answers. -/
def decA (o : Option Rc) : Value := match o with | some r => .tuple #[recV r.life r.round r.tag, .int .i64 (r.seq : Int), .int .i64 0] | none => .tuple #[recV 0 0 0, .int .i64 0, .int .i64 70]
/-- What is known while a slot's bytes are read. -/
structure TK (w : World) (p : Addr) (l : List Nat) (W : World) : Prop where
  bytes : CellsAt W p l
  low : Below w.heap.size w W
  out : W.heap[w.heap.size]? = some (.cells #[.int .i64 0, .int .i64 0, .int .i64 0] 48 (0, 0))
theorem TK.below {w W W' : World} {p : Addr} {l : List Nat} (h : TK w p l W) (hb : Below W.heap.size W W') : TK w p l W' := ⟨h.bytes.below hb, below_then h.low hb, blk_below' hb h.out⟩
theorem CellsAt.part {W : World} {p : Addr} {l : List Nat} (h : CellsAt W p l) (o n : Nat) : CellsAt W (p.add o) ((l.drop o).take n) := by
  intro j x hx
  rw [List.getElem?_take] at hx
  split at hx
  · rw [List.getElem?_drop] at hx
    obtain ⟨b, h1, h2⟩ := h _ _ hx
    cases h1
    exact ⟨_, rfl, by rw [Addr.add_add]; exact h2⟩
  · cases hx
theorem TK.take {w W : World} {g q : Nat} {l : List Nat} (h : TK w ⟨g, q, none⟩ l W) (hl : l.length = 64) (hlt : ∀ c ∈ l, c < 256) (o n cp : Nat) (hn : o + n ≤ 64) :
    Calls Tryd.prog 71 #[.slice (some ⟨g, q + o, none⟩) n cp] W fun e w' => e = .returned (.int .i64 (takeF 0 ((l.drop o).take n) : Nat)) ∧ Below W.heap.size W w' := by
  have h1 := h.bytes.part o n
  rw [Addr.add_mid] at h1
  exact take_any _ n cp _ W (by rw [List.length_take, List.length_drop]; omega) (by omega) (fun c hc => hlt c (List.mem_of_mem_drop (List.mem_of_mem_take hc))) h1
/-- The record that was read, beside. -/
structure KS (w : World) (p : Addr) (l : List Nat) (g : Nat) (W : World) : Prop where
  tk : TK w p l W
  kept : W.heap[g]? = some (.cells #[.int .i64 ((rcOf l).life : Int), .int .i64 ((rcOf l).round : Int), .int .i64 ((rcOf l).tag : Int), .int .i64 ((rcOf l).seq : Int)] 92 (0, 0))
  far : w.heap.size < g
theorem KS.below {w W W' : World} {p : Addr} {l : List Nat} {g : Nat} (h : KS w p l g W) (hb : Below W.heap.size W W') : KS w p l g W' := ⟨h.tk.below hb, blk_below' hb h.kept, h.far⟩
theorem KS.new {w W : World} {p : Addr} {l : List Nat} {g : Nat} (h : TK w p l W) (hg : W.heap[g]? = some (.cells #[.int .i64 0, .int .i64 0, .int .i64 0, .int .i64 0] 92 (0, 0))) (hgw : w.heap.size < g) (hp : p.block ≠ g) :
    KS w p l g ((((W.setCell ⟨g, 0, none⟩ (.int .i64 ((rcOf l).life : Int))).setCell ⟨g, 1, none⟩ (.int .i64 ((rcOf l).round : Int))).setCell ⟨g, 2, none⟩ (.int .i64 ((rcOf l).tag : Int))).setCell ⟨g, 3, none⟩ (.int .i64 ((rcOf l).seq : Int))) := by
  have hgr : W.grownBy ((((W.setCell ⟨g, 0, none⟩ (.int .i64 ((rcOf l).life : Int))).setCell ⟨g, 1, none⟩ (.int .i64 ((rcOf l).round : Int))).setCell ⟨g, 2, none⟩ (.int .i64 ((rcOf l).tag : Int))).setCell ⟨g, 3, none⟩ (.int .i64 ((rcOf l).seq : Int))) (some g) :=
    but_set (but_set (but_set (but_set (but_refl _ _) (blk_lt hg) _ _) (blk_lt hg) _ _) (blk_lt hg) _ _) (blk_lt hg) _ _
  refine ⟨⟨h.bytes.but hgr hp, h.low.grown hgr h.low.size (fun j hj => by cases hj; omega), blk_grown hgr h.out (by simp; omega)⟩, ?_, hgw⟩
  exact blk_store (blk_store (blk_store (blk_store hg 0 _) 1 _) 2 _) 3 _
theorem TK.new' {w W : World} {g q : Nat} {l : List Nat} {b : Nat} (h : TK w ⟨g, q, none⟩ l W) (hg : W.heap[b]? = some (.cells #[.int .i64 0, .int .i64 0, .int .i64 0, .int .i64 0] 92 (0, 0))) (hgw : w.heap.size < b) (hp : g ≠ b) :
    KS w ⟨g, q, none⟩ l b ((((W.setCell ⟨b, 0, none⟩ (.int .i64 ((rcOf l).life : Int))).setCell ⟨b, 1, none⟩ (.int .i64 ((rcOf l).round : Int))).setCell ⟨b, 2, none⟩ (.int .i64 ((rcOf l).tag : Int))).setCell ⟨b, 3, none⟩ (.int .i64 ((rcOf l).seq : Int))) := KS.new h hg hgw hp
/-- The same, by the record. -/
structure KG (b : Nat) (r : Rc) (w : World) (p : Addr) (l : List Nat) (W : World) : Prop where
  kept : W.heap[b]? = some (.cells #[.int .i64 (r.life : Int), .int .i64 (r.round : Int), .int .i64 (r.tag : Int), .int .i64 (r.seq : Int)] 92 (0, 0))
  tk : TK w p l W
theorem KG.below {w W W' : World} {p : Addr} {l : List Nat} {b : Nat} {r : Rc} (h : KG b r w p l W) (hb : Below W.heap.size W W') : KG b r w p l W' := ⟨blk_below' hb h.kept, h.tk.below hb⟩
theorem KG.cells {w W : World} {p : Addr} {l : List Nat} {b : Nat} {r : Rc} (h : KG b r w p l W) :
    W.cell? ⟨b, 0, none⟩ = some (.int .i64 (r.life : Int)) ∧ W.cell? ⟨b, 1, none⟩ = some (.int .i64 (r.round : Int)) ∧ W.cell? ⟨b, 2, none⟩ = some (.int .i64 (r.tag : Int)) ∧ W.cell? ⟨b, 3, none⟩ = some (.int .i64 (r.seq : Int)) :=
  ⟨(blk_cell h.kept 0).trans rfl, (blk_cell h.kept 1).trans rfl, (blk_cell h.kept 2).trans rfl, (blk_cell h.kept 3).trans rfl⟩
theorem run_arrayAt64 (g q cp : Nat) (w : World) : (Instr.arrayAt 126 (.slice (some ⟨g, q, none⟩) 64 cp)).run Tryd.prog w = .ok (.pointer (some ⟨g, q, none⟩)) w := by
  simp [Instr.arrayAt, run_underlying Tryd.underlying126, go_sem]
theorem CellsAt.range {W : World} {g q : Nat} {l : List Nat} (h : CellsAt W ⟨g, q, none⟩ l) : W.rangeAt g q (bC l) := by
  intro j v hv
  rw [bC_get] at hv
  cases hx : l[j]? with
  | none => rw [hx] at hv; cases hv
  | some x =>
    rw [hx] at hv
    cases hv
    obtain ⟨b, h1, h2⟩ := h j x hx
    cases h1
    rwa [Addr.add_mid] at h2
set_option maxRecDepth 100000 in
set_option maxHeartbeats 2000000 in
theorem decode_any (g q : Nat) (cp : Nat) (l : List Nat) (hl : l.length = 64) (hlt : ∀ c ∈ l, c < 256) (hcp : 64 ≤ cp) (w : World) (hc : CellsAt w ⟨g, q, none⟩ l) (hgw : g < w.heap.size) : Calls Tryd.prog 56 #[.slice (some ⟨g, q, none⟩) 64 cp] w fun e w' =>
    e = .returned (decA (decL l)) ∧ Below w.heap.size w w' := by
  have hk : TK w ⟨g, q, none⟩ l (w.alloc (.cells #[.int .i64 0, .int .i64 0, .int .i64 0] 48)) := ⟨hc.below ((Below.refl _ w).alloc (Nat.le_refl _) _), (Below.refl _ w).alloc (Nat.le_refl _) _, box3 w _ _ _ _⟩
  have q1 : (16 : Int) ≤ (cp : Int) := by omega
  have q2 : (21 : Int) ≤ (cp : Int) := by omega
  have q3 : (47 : Int) ≤ (cp : Int) := by omega
  have q4 : (12 : Int) ≤ (cp : Int) := by omega
  have q5 : ¬ cp = 12 := by omega
  have q6 : ¬ cp = 16 := by omega
  have q7 : ¬ cp = 44 := by omega
  have q8 : ¬ cp = 4 := by omega
  go_enter Tryd.func56, Tryd.ntmps56
  go_wp2_with fail
  generalize World.alloc w _ = W1 at *
  clear hc
  go_cut [5] from 10 to 23 (fun v5 wx => ∃ b, v5 = .pointer (some ⟨b, 0, none⟩) ∧ KS w ⟨g, q, none⟩ l b wx)
  case first =>
    refine wp_region_early (fun _ => True) (fun _ => false) (by kernel_rfl) ?_
    have hk2 : TK w ⟨g, q, none⟩ l W1.drew := ⟨hk.bytes, hk.low.drew, hk.out⟩
    clear hk
    generalize W1.drew = W2 at *
    have hSS : True := trivial
    simp only [List.size_toArray, List.length_cons, List.length_nil, Nat.reduceAdd, Array.replicate_succ, Array.replicate_zero, List.push_toArray, List.nil_append, List.cons_append]
    refine wpAnyE_take (i := 0) (v := ?_) rfl (by kernel_rfl) (by kernel_rfl) (by kernel_rfl) (by kernel_rfl) (fun _ _ _ h => h) (Or.inl ⟨by rfl, ?_⟩) hSS ?_
    rotate_left
    · intro w hSw
      (try have kc0 := hSw.1.cell); (try have kc1 := hSw.2.cell)
      go_simp
      all_goals with_reducible rfl
    simp only [Act.put, List.setIfInBounds_toArray, List.set_cons_zero, List.set_cons_succ, List.getElem_toArray, List.getElem_cons_zero, List.getElem_cons_succ]
    refine wpAnyE_take (i := 1) (v := ?_) rfl (by kernel_rfl) (by kernel_rfl) (by kernel_rfl) (by kernel_rfl) (fun _ _ _ h => h) (Or.inl ⟨by rfl, ?_⟩) hSS ?_
    rotate_left
    · intro w hSw
      (try have kc0 := hSw.1.cell); (try have kc1 := hSw.2.cell)
      go_simp
      all_goals with_reducible rfl
    simp only [Act.put, List.setIfInBounds_toArray, List.set_cons_zero, List.set_cons_succ, List.getElem_toArray, List.getElem_cons_zero, List.getElem_cons_succ]
    refine wpAnyE_take (i := 3) (v := ?_) rfl (by kernel_rfl) (by kernel_rfl) (by kernel_rfl) (by kernel_rfl) (fun _ _ _ h => h) (Or.inl ⟨by rfl, ?_⟩) hSS ?_
    rotate_left
    · intro w hSw
      (try have kc0 := hSw.1.cell); (try have kc1 := hSw.2.cell)
      go_simp
      all_goals with_reducible rfl
    simp only [Act.put, List.setIfInBounds_toArray, List.set_cons_zero, List.set_cons_succ, List.getElem_toArray, List.getElem_cons_zero, List.getElem_cons_succ]
    refine wpAnyE_take (i := 4) (v := ?_) rfl (by kernel_rfl) (by kernel_rfl) (by kernel_rfl) (by kernel_rfl) (fun _ _ _ h => h) (Or.inl ⟨by rfl, ?_⟩) hSS ?_
    rotate_left
    · intro w hSw
      (try have kc0 := hSw.1.cell); (try have kc1 := hSw.2.cell)
      go_simp
      all_goals with_reducible rfl
    simp only [Act.put, List.setIfInBounds_toArray, List.set_cons_zero, List.set_cons_succ, List.getElem_toArray, List.getElem_cons_zero, List.getElem_cons_succ]
    refine wpAnyE_take (i := 6) (v := ?_) rfl (by kernel_rfl) (by kernel_rfl) (by kernel_rfl) (by kernel_rfl) (fun _ _ _ h => h) (Or.inl ⟨by rfl, ?_⟩) hSS ?_
    rotate_left
    · intro w hSw
      (try have kc0 := hSw.1.cell); (try have kc1 := hSw.2.cell)
      go_simp
      all_goals with_reducible rfl
    simp only [Act.put, List.setIfInBounds_toArray, List.set_cons_zero, List.set_cons_succ, List.getElem_toArray, List.getElem_cons_zero, List.getElem_cons_succ]
    refine wpAnyE_take (i := 7) (v := ?_) rfl (by kernel_rfl) (by kernel_rfl) (by kernel_rfl) (by kernel_rfl) (fun _ _ _ h => h) (Or.inl ⟨by rfl, ?_⟩) hSS ?_
    rotate_left
    · intro w hSw
      (try have kc0 := hSw.1.cell); (try have kc1 := hSw.2.cell)
      go_simp
      all_goals with_reducible rfl
    simp only [Act.put, List.setIfInBounds_toArray, List.set_cons_zero, List.set_cons_succ, List.getElem_toArray, List.getElem_cons_zero, List.getElem_cons_succ]
    refine wpAnyE_take (i := 10) (v := ?_) rfl (by kernel_rfl) (by kernel_rfl) (by kernel_rfl) (by kernel_rfl) (fun _ _ _ h => h) (Or.inl ⟨by rfl, ?_⟩) hSS ?_
    rotate_left
    · intro w hSw
      (try have kc0 := hSw.1.cell); (try have kc1 := hSw.2.cell)
      go_simp
      all_goals with_reducible rfl
    simp only [Act.put, List.setIfInBounds_toArray, List.set_cons_zero, List.set_cons_succ, List.getElem_toArray, List.getElem_cons_zero, List.getElem_cons_succ]
    refine wpAnyE_take (i := 11) (v := ?_) rfl (by kernel_rfl) (by kernel_rfl) (by kernel_rfl) (by kernel_rfl) (fun _ _ _ h => h) (Or.inl ⟨by rfl, ?_⟩) hSS ?_
    rotate_left
    · intro w hSw
      (try have kc0 := hSw.1.cell); (try have kc1 := hSw.2.cell)
      go_simp
      all_goals with_reducible rfl
    simp only [Act.put, List.setIfInBounds_toArray, List.set_cons_zero, List.set_cons_succ, List.getElem_toArray, List.getElem_cons_zero, List.getElem_cons_succ]
    refine wpAnyE_two (i := 2) (j := 14) (by kernel_rfl) rfl rfl ?_ ?_
    · skip
      change wpList _ _ (Exit.then _ _) [_] _ _
      try simp only [List.setIfInBounds_toArray, List.set_cons_zero, List.set_cons_succ, List.getElem_toArray, List.getElem_cons_zero, List.getElem_cons_succ]
      go_wp2_with (go_at_call 71; refine ((hk2).take hl hlt 12 4 _ (by decide)).mono ?_; rintro e w3 ⟨rfl, hB3⟩)
      have hk3 := (hk2).below hB3
      refine ⟨fun _ => trivial, ?_⟩
      try simp only [List.setIfInBounds_toArray, List.set_cons_zero, List.set_cons_succ, List.getElem_toArray, List.getElem_cons_zero, List.getElem_cons_succ]
      refine wpAnyE_two (i := 5) (j := 14) (by kernel_rfl) rfl rfl ?_ ?_
      · skip
        change wpList _ _ (Exit.then _ _) [_] _ _
        try simp only [List.setIfInBounds_toArray, List.set_cons_zero, List.set_cons_succ, List.getElem_toArray, List.getElem_cons_zero, List.getElem_cons_succ]
        go_wp2_with (go_at_call 71; refine ((hk3).take hl hlt 16 5 _ (by decide)).mono ?_; rintro e w4 ⟨rfl, hB4⟩)
        have hk4 := (hk3).below hB4
        refine ⟨fun _ => trivial, ?_⟩
        try simp only [List.setIfInBounds_toArray, List.set_cons_zero, List.set_cons_succ, List.getElem_toArray, List.getElem_cons_zero, List.getElem_cons_succ]
        refine wpAnyE_two (i := 8) (j := 14) (by kernel_rfl) rfl rfl ?_ ?_
        · skip
          change wpList _ _ (Exit.then _ _) [_] _ _
          try simp only [List.setIfInBounds_toArray, List.set_cons_zero, List.set_cons_succ, List.getElem_toArray, List.getElem_cons_zero, List.getElem_cons_succ]
          go_wp2_with (go_at_call 71; refine ((hk4).take hl hlt 44 3 _ (by decide)).mono ?_; rintro e w5 ⟨rfl, hB5⟩)
          have hk5 := (hk4).below hB5
          refine ⟨fun _ => trivial, ?_⟩
          try simp only [List.setIfInBounds_toArray, List.set_cons_zero, List.set_cons_succ, List.getElem_toArray, List.getElem_cons_zero, List.getElem_cons_succ]
          refine wpAnyE_take (i := 9) (v := ?_) rfl (by kernel_rfl) (by kernel_rfl) (by kernel_rfl) (by kernel_rfl) (fun _ _ _ h => h) (Or.inl ⟨by rfl, ?_⟩) hSS ?_
          rotate_left
          · intro w hSw
            (try have kc0 := hSw.1.cell); (try have kc1 := hSw.2.cell)
            go_simp
            all_goals with_reducible rfl
          simp only [Act.put, List.setIfInBounds_toArray, List.set_cons_zero, List.set_cons_succ, List.getElem_toArray, List.getElem_cons_zero, List.getElem_cons_succ]
          refine wpAnyE_two (i := 12) (j := 14) (by kernel_rfl) rfl rfl ?_ ?_
          · skip
            change wpList _ _ (Exit.then _ _) [_] _ _
            try simp only [List.setIfInBounds_toArray, List.set_cons_zero, List.set_cons_succ, List.getElem_toArray, List.getElem_cons_zero, List.getElem_cons_succ]
            go_wp2_with (go_at_call 71; refine ((hk5).take hl hlt 4 8 _ (by decide)).mono ?_; rintro e w6 ⟨rfl, hB6⟩)
            have hk6 := (hk5).below hB6
            refine ⟨fun _ => trivial, ?_⟩
            try simp only [List.setIfInBounds_toArray, List.set_cons_zero, List.set_cons_succ, List.getElem_toArray, List.getElem_cons_zero, List.getElem_cons_succ]
            refine wpAnyE_take (i := 13) (v := ?_) rfl (by kernel_rfl) (by kernel_rfl) (by kernel_rfl) (by kernel_rfl) (fun _ _ _ h => h) (Or.inl ⟨by rfl, ?_⟩) hSS ?_
            rotate_left
            · intro w hSw
              (try have kc0 := hSw.1.cell); (try have kc1 := hSw.2.cell)
              go_simp
              all_goals with_reducible rfl
            simp only [Act.put, List.setIfInBounds_toArray, List.set_cons_zero, List.set_cons_succ, List.getElem_toArray, List.getElem_cons_zero, List.getElem_cons_succ]
            refine wpAnyE_one (i := 14) (by kernel_rfl) rfl ?_
            change wpList _ _ (Exit.then _ _) [_] _ _
            try simp only [List.setIfInBounds_toArray, List.set_cons_zero, List.set_cons_succ, List.getElem_toArray, List.getElem_cons_zero, List.getElem_cons_succ]
            go_wp2_with fail
            refine ⟨fun _ => trivial, ?_⟩
            try simp only [List.setIfInBounds_toArray, List.set_cons_zero, List.set_cons_succ, List.getElem_toArray, List.getElem_cons_zero, List.getElem_cons_succ]
            have hz := blk_new w6 (.cells #[.int .i64 0, .int .i64 0, .int .i64 0, .int .i64 0] 92)
            have hf : w.heap.size < (w6).heap.size := blk_lt (hk6).out
            have hk7 := (hk6).below ((Below.refl _ w6).alloc (Nat.le_refl _) (.cells #[.int .i64 0, .int .i64 0, .int .i64 0, .int .i64 0] 92))
            generalize World.alloc w6 _ = WA at *
            refine wpAnyE_one (i := 15) (by kernel_rfl) rfl ?_
            change wpList _ _ (Exit.then _ _) [_] _ _
            try simp only [List.setIfInBounds_toArray, List.set_cons_zero, List.set_cons_succ, List.getElem_toArray, List.getElem_cons_zero, List.getElem_cons_succ]
            have hfin := (hk7).new' hz hf (show g ≠ (w6.heap.size) by omega)
            have y0 := (blk_cell hz 0).trans rfl
            have y1 := (blk_cell hz 1).trans rfl
            have y2 := (blk_cell hz 2).trans rfl
            have y3 := (blk_cell hz 3).trans rfl
            simp at y0 y1 y2 y3
            have t0 := blk_free hz 0
            have t1 := blk_free hz 1
            have t2 := blk_free hz 2
            have t3 := blk_free hz 3
            have HFIN := Lib.hid hfin
            clear hfin hz
            go_wp2_with fail
            refine ⟨fun _ => trivial, wpAnyE_end (by kernel_rfl) ?_⟩
            go_wp2_with fail
            go_meet
            exact ⟨_, rfl, HFIN.out⟩
          · skip
            change wpList _ _ (Exit.then _ _) [_] _ _
            try simp only [List.setIfInBounds_toArray, List.set_cons_zero, List.set_cons_succ, List.getElem_toArray, List.getElem_cons_zero, List.getElem_cons_succ]
            go_wp2_with fail
            refine ⟨fun _ => trivial, ?_⟩
            try simp only [List.setIfInBounds_toArray, List.set_cons_zero, List.set_cons_succ, List.getElem_toArray, List.getElem_cons_zero, List.getElem_cons_succ]
            have hz := blk_new w5 (.cells #[.int .i64 0, .int .i64 0, .int .i64 0, .int .i64 0] 92)
            have hf : w.heap.size < (w5).heap.size := blk_lt (hk5).out
            have hk6 := (hk5).below ((Below.refl _ w5).alloc (Nat.le_refl _) (.cells #[.int .i64 0, .int .i64 0, .int .i64 0, .int .i64 0] 92))
            generalize World.alloc w5 _ = WA at *
            refine wpAnyE_one (i := 12) (by kernel_rfl) rfl ?_
            change wpList _ _ (Exit.then _ _) [_] _ _
            try simp only [List.setIfInBounds_toArray, List.set_cons_zero, List.set_cons_succ, List.getElem_toArray, List.getElem_cons_zero, List.getElem_cons_succ]
            go_wp2_with (go_at_call 71; refine ((hk6).take hl hlt 4 8 _ (by decide)).mono ?_; rintro e w6 ⟨rfl, hB6⟩)
            have hk7 := (hk6).below hB6
            refine ⟨fun _ => trivial, ?_⟩
            try simp only [List.setIfInBounds_toArray, List.set_cons_zero, List.set_cons_succ, List.getElem_toArray, List.getElem_cons_zero, List.getElem_cons_succ]
            have hz := blk_below' hB6 hz
            refine wpAnyE_take (i := 13) (v := ?_) rfl (by kernel_rfl) (by kernel_rfl) (by kernel_rfl) (by kernel_rfl) (fun _ _ _ h => h) (Or.inl ⟨by rfl, ?_⟩) hSS ?_
            rotate_left
            · intro w hSw
              (try have kc0 := hSw.1.cell); (try have kc1 := hSw.2.cell)
              go_simp
              all_goals with_reducible rfl
            simp only [Act.put, List.setIfInBounds_toArray, List.set_cons_zero, List.set_cons_succ, List.getElem_toArray, List.getElem_cons_zero, List.getElem_cons_succ]
            refine wpAnyE_one (i := 15) (by kernel_rfl) rfl ?_
            change wpList _ _ (Exit.then _ _) [_] _ _
            try simp only [List.setIfInBounds_toArray, List.set_cons_zero, List.set_cons_succ, List.getElem_toArray, List.getElem_cons_zero, List.getElem_cons_succ]
            have hfin := (hk7).new' hz hf (show g ≠ (w5.heap.size) by omega)
            have y0 := (blk_cell hz 0).trans rfl
            have y1 := (blk_cell hz 1).trans rfl
            have y2 := (blk_cell hz 2).trans rfl
            have y3 := (blk_cell hz 3).trans rfl
            simp at y0 y1 y2 y3
            have t0 := blk_free hz 0
            have t1 := blk_free hz 1
            have t2 := blk_free hz 2
            have t3 := blk_free hz 3
            have HFIN := Lib.hid hfin
            clear hfin hz
            go_wp2_with fail
            refine ⟨fun _ => trivial, wpAnyE_end (by kernel_rfl) ?_⟩
            go_wp2_with fail
            go_meet
            exact ⟨_, rfl, HFIN.out⟩
        · skip
          change wpList _ _ (Exit.then _ _) [_] _ _
          try simp only [List.setIfInBounds_toArray, List.set_cons_zero, List.set_cons_succ, List.getElem_toArray, List.getElem_cons_zero, List.getElem_cons_succ]
          go_wp2_with fail
          refine ⟨fun _ => trivial, ?_⟩
          try simp only [List.setIfInBounds_toArray, List.set_cons_zero, List.set_cons_succ, List.getElem_toArray, List.getElem_cons_zero, List.getElem_cons_succ]
          have hz := blk_new w4 (.cells #[.int .i64 0, .int .i64 0, .int .i64 0, .int .i64 0] 92)
          have hf : w.heap.size < (w4).heap.size := blk_lt (hk4).out
          have hk5 := (hk4).below ((Below.refl _ w4).alloc (Nat.le_refl _) (.cells #[.int .i64 0, .int .i64 0, .int .i64 0, .int .i64 0] 92))
          generalize World.alloc w4 _ = WA at *
          refine wpAnyE_one (i := 8) (by kernel_rfl) rfl ?_
          change wpList _ _ (Exit.then _ _) [_] _ _
          try simp only [List.setIfInBounds_toArray, List.set_cons_zero, List.set_cons_succ, List.getElem_toArray, List.getElem_cons_zero, List.getElem_cons_succ]
          go_wp2_with (go_at_call 71; refine ((hk5).take hl hlt 44 3 _ (by decide)).mono ?_; rintro e w5 ⟨rfl, hB5⟩)
          have hk6 := (hk5).below hB5
          refine ⟨fun _ => trivial, ?_⟩
          try simp only [List.setIfInBounds_toArray, List.set_cons_zero, List.set_cons_succ, List.getElem_toArray, List.getElem_cons_zero, List.getElem_cons_succ]
          have hz := blk_below' hB5 hz
          refine wpAnyE_take (i := 9) (v := ?_) rfl (by kernel_rfl) (by kernel_rfl) (by kernel_rfl) (by kernel_rfl) (fun _ _ _ h => h) (Or.inl ⟨by rfl, ?_⟩) hSS ?_
          rotate_left
          · intro w hSw
            (try have kc0 := hSw.1.cell); (try have kc1 := hSw.2.cell)
            go_simp
            all_goals with_reducible rfl
          simp only [Act.put, List.setIfInBounds_toArray, List.set_cons_zero, List.set_cons_succ, List.getElem_toArray, List.getElem_cons_zero, List.getElem_cons_succ]
          refine wpAnyE_one (i := 12) (by kernel_rfl) rfl ?_
          change wpList _ _ (Exit.then _ _) [_] _ _
          try simp only [List.setIfInBounds_toArray, List.set_cons_zero, List.set_cons_succ, List.getElem_toArray, List.getElem_cons_zero, List.getElem_cons_succ]
          go_wp2_with (go_at_call 71; refine ((hk6).take hl hlt 4 8 _ (by decide)).mono ?_; rintro e w6 ⟨rfl, hB6⟩)
          have hk7 := (hk6).below hB6
          refine ⟨fun _ => trivial, ?_⟩
          try simp only [List.setIfInBounds_toArray, List.set_cons_zero, List.set_cons_succ, List.getElem_toArray, List.getElem_cons_zero, List.getElem_cons_succ]
          have hz := blk_below' hB6 hz
          refine wpAnyE_take (i := 13) (v := ?_) rfl (by kernel_rfl) (by kernel_rfl) (by kernel_rfl) (by kernel_rfl) (fun _ _ _ h => h) (Or.inl ⟨by rfl, ?_⟩) hSS ?_
          rotate_left
          · intro w hSw
            (try have kc0 := hSw.1.cell); (try have kc1 := hSw.2.cell)
            go_simp
            all_goals with_reducible rfl
          simp only [Act.put, List.setIfInBounds_toArray, List.set_cons_zero, List.set_cons_succ, List.getElem_toArray, List.getElem_cons_zero, List.getElem_cons_succ]
          refine wpAnyE_one (i := 15) (by kernel_rfl) rfl ?_
          change wpList _ _ (Exit.then _ _) [_] _ _
          try simp only [List.setIfInBounds_toArray, List.set_cons_zero, List.set_cons_succ, List.getElem_toArray, List.getElem_cons_zero, List.getElem_cons_succ]
          have hfin := (hk7).new' hz hf (show g ≠ (w4.heap.size) by omega)
          have y0 := (blk_cell hz 0).trans rfl
          have y1 := (blk_cell hz 1).trans rfl
          have y2 := (blk_cell hz 2).trans rfl
          have y3 := (blk_cell hz 3).trans rfl
          simp at y0 y1 y2 y3
          have t0 := blk_free hz 0
          have t1 := blk_free hz 1
          have t2 := blk_free hz 2
          have t3 := blk_free hz 3
          have HFIN := Lib.hid hfin
          clear hfin hz
          go_wp2_with fail
          refine ⟨fun _ => trivial, wpAnyE_end (by kernel_rfl) ?_⟩
          go_wp2_with fail
          go_meet
          exact ⟨_, rfl, HFIN.out⟩
      · skip
        change wpList _ _ (Exit.then _ _) [_] _ _
        try simp only [List.setIfInBounds_toArray, List.set_cons_zero, List.set_cons_succ, List.getElem_toArray, List.getElem_cons_zero, List.getElem_cons_succ]
        go_wp2_with fail
        refine ⟨fun _ => trivial, ?_⟩
        try simp only [List.setIfInBounds_toArray, List.set_cons_zero, List.set_cons_succ, List.getElem_toArray, List.getElem_cons_zero, List.getElem_cons_succ]
        have hz := blk_new w3 (.cells #[.int .i64 0, .int .i64 0, .int .i64 0, .int .i64 0] 92)
        have hf : w.heap.size < (w3).heap.size := blk_lt (hk3).out
        have hk4 := (hk3).below ((Below.refl _ w3).alloc (Nat.le_refl _) (.cells #[.int .i64 0, .int .i64 0, .int .i64 0, .int .i64 0] 92))
        generalize World.alloc w3 _ = WA at *
        refine wpAnyE_one (i := 5) (by kernel_rfl) rfl ?_
        change wpList _ _ (Exit.then _ _) [_] _ _
        try simp only [List.setIfInBounds_toArray, List.set_cons_zero, List.set_cons_succ, List.getElem_toArray, List.getElem_cons_zero, List.getElem_cons_succ]
        go_wp2_with (go_at_call 71; refine ((hk4).take hl hlt 16 5 _ (by decide)).mono ?_; rintro e w4 ⟨rfl, hB4⟩)
        have hk5 := (hk4).below hB4
        refine ⟨fun _ => trivial, ?_⟩
        try simp only [List.setIfInBounds_toArray, List.set_cons_zero, List.set_cons_succ, List.getElem_toArray, List.getElem_cons_zero, List.getElem_cons_succ]
        have hz := blk_below' hB4 hz
        refine wpAnyE_one (i := 8) (by kernel_rfl) rfl ?_
        change wpList _ _ (Exit.then _ _) [_] _ _
        try simp only [List.setIfInBounds_toArray, List.set_cons_zero, List.set_cons_succ, List.getElem_toArray, List.getElem_cons_zero, List.getElem_cons_succ]
        go_wp2_with (go_at_call 71; refine ((hk5).take hl hlt 44 3 _ (by decide)).mono ?_; rintro e w5 ⟨rfl, hB5⟩)
        have hk6 := (hk5).below hB5
        refine ⟨fun _ => trivial, ?_⟩
        try simp only [List.setIfInBounds_toArray, List.set_cons_zero, List.set_cons_succ, List.getElem_toArray, List.getElem_cons_zero, List.getElem_cons_succ]
        have hz := blk_below' hB5 hz
        refine wpAnyE_take (i := 9) (v := ?_) rfl (by kernel_rfl) (by kernel_rfl) (by kernel_rfl) (by kernel_rfl) (fun _ _ _ h => h) (Or.inl ⟨by rfl, ?_⟩) hSS ?_
        rotate_left
        · intro w hSw
          (try have kc0 := hSw.1.cell); (try have kc1 := hSw.2.cell)
          go_simp
          all_goals with_reducible rfl
        simp only [Act.put, List.setIfInBounds_toArray, List.set_cons_zero, List.set_cons_succ, List.getElem_toArray, List.getElem_cons_zero, List.getElem_cons_succ]
        refine wpAnyE_one (i := 12) (by kernel_rfl) rfl ?_
        change wpList _ _ (Exit.then _ _) [_] _ _
        try simp only [List.setIfInBounds_toArray, List.set_cons_zero, List.set_cons_succ, List.getElem_toArray, List.getElem_cons_zero, List.getElem_cons_succ]
        go_wp2_with (go_at_call 71; refine ((hk6).take hl hlt 4 8 _ (by decide)).mono ?_; rintro e w6 ⟨rfl, hB6⟩)
        have hk7 := (hk6).below hB6
        refine ⟨fun _ => trivial, ?_⟩
        try simp only [List.setIfInBounds_toArray, List.set_cons_zero, List.set_cons_succ, List.getElem_toArray, List.getElem_cons_zero, List.getElem_cons_succ]
        have hz := blk_below' hB6 hz
        refine wpAnyE_take (i := 13) (v := ?_) rfl (by kernel_rfl) (by kernel_rfl) (by kernel_rfl) (by kernel_rfl) (fun _ _ _ h => h) (Or.inl ⟨by rfl, ?_⟩) hSS ?_
        rotate_left
        · intro w hSw
          (try have kc0 := hSw.1.cell); (try have kc1 := hSw.2.cell)
          go_simp
          all_goals with_reducible rfl
        simp only [Act.put, List.setIfInBounds_toArray, List.set_cons_zero, List.set_cons_succ, List.getElem_toArray, List.getElem_cons_zero, List.getElem_cons_succ]
        refine wpAnyE_one (i := 15) (by kernel_rfl) rfl ?_
        change wpList _ _ (Exit.then _ _) [_] _ _
        try simp only [List.setIfInBounds_toArray, List.set_cons_zero, List.set_cons_succ, List.getElem_toArray, List.getElem_cons_zero, List.getElem_cons_succ]
        have hfin := (hk7).new' hz hf (show g ≠ (w3.heap.size) by omega)
        have y0 := (blk_cell hz 0).trans rfl
        have y1 := (blk_cell hz 1).trans rfl
        have y2 := (blk_cell hz 2).trans rfl
        have y3 := (blk_cell hz 3).trans rfl
        simp at y0 y1 y2 y3
        have t0 := blk_free hz 0
        have t1 := blk_free hz 1
        have t2 := blk_free hz 2
        have t3 := blk_free hz 3
        have HFIN := Lib.hid hfin
        clear hfin hz
        go_wp2_with fail
        refine ⟨fun _ => trivial, wpAnyE_end (by kernel_rfl) ?_⟩
        go_wp2_with fail
        go_meet
        exact ⟨_, rfl, HFIN.out⟩
    · skip
      change wpList _ _ (Exit.then _ _) [_] _ _
      try simp only [List.setIfInBounds_toArray, List.set_cons_zero, List.set_cons_succ, List.getElem_toArray, List.getElem_cons_zero, List.getElem_cons_succ]
      go_wp2_with fail
      refine ⟨fun _ => trivial, ?_⟩
      try simp only [List.setIfInBounds_toArray, List.set_cons_zero, List.set_cons_succ, List.getElem_toArray, List.getElem_cons_zero, List.getElem_cons_succ]
      have hz := blk_new W2 (.cells #[.int .i64 0, .int .i64 0, .int .i64 0, .int .i64 0] 92)
      have hf : w.heap.size < (W2).heap.size := blk_lt (hk2).out
      have hk3 := (hk2).below ((Below.refl _ W2).alloc (Nat.le_refl _) (.cells #[.int .i64 0, .int .i64 0, .int .i64 0, .int .i64 0] 92))
      generalize World.alloc W2 _ = WA at *
      refine wpAnyE_one (i := 2) (by kernel_rfl) rfl ?_
      change wpList _ _ (Exit.then _ _) [_] _ _
      try simp only [List.setIfInBounds_toArray, List.set_cons_zero, List.set_cons_succ, List.getElem_toArray, List.getElem_cons_zero, List.getElem_cons_succ]
      go_wp2_with (go_at_call 71; refine ((hk3).take hl hlt 12 4 _ (by decide)).mono ?_; rintro e w3 ⟨rfl, hB3⟩)
      have hk4 := (hk3).below hB3
      refine ⟨fun _ => trivial, ?_⟩
      try simp only [List.setIfInBounds_toArray, List.set_cons_zero, List.set_cons_succ, List.getElem_toArray, List.getElem_cons_zero, List.getElem_cons_succ]
      have hz := blk_below' hB3 hz
      refine wpAnyE_one (i := 5) (by kernel_rfl) rfl ?_
      change wpList _ _ (Exit.then _ _) [_] _ _
      try simp only [List.setIfInBounds_toArray, List.set_cons_zero, List.set_cons_succ, List.getElem_toArray, List.getElem_cons_zero, List.getElem_cons_succ]
      go_wp2_with (go_at_call 71; refine ((hk4).take hl hlt 16 5 _ (by decide)).mono ?_; rintro e w4 ⟨rfl, hB4⟩)
      have hk5 := (hk4).below hB4
      refine ⟨fun _ => trivial, ?_⟩
      try simp only [List.setIfInBounds_toArray, List.set_cons_zero, List.set_cons_succ, List.getElem_toArray, List.getElem_cons_zero, List.getElem_cons_succ]
      have hz := blk_below' hB4 hz
      refine wpAnyE_one (i := 8) (by kernel_rfl) rfl ?_
      change wpList _ _ (Exit.then _ _) [_] _ _
      try simp only [List.setIfInBounds_toArray, List.set_cons_zero, List.set_cons_succ, List.getElem_toArray, List.getElem_cons_zero, List.getElem_cons_succ]
      go_wp2_with (go_at_call 71; refine ((hk5).take hl hlt 44 3 _ (by decide)).mono ?_; rintro e w5 ⟨rfl, hB5⟩)
      have hk6 := (hk5).below hB5
      refine ⟨fun _ => trivial, ?_⟩
      try simp only [List.setIfInBounds_toArray, List.set_cons_zero, List.set_cons_succ, List.getElem_toArray, List.getElem_cons_zero, List.getElem_cons_succ]
      have hz := blk_below' hB5 hz
      refine wpAnyE_take (i := 9) (v := ?_) rfl (by kernel_rfl) (by kernel_rfl) (by kernel_rfl) (by kernel_rfl) (fun _ _ _ h => h) (Or.inl ⟨by rfl, ?_⟩) hSS ?_
      rotate_left
      · intro w hSw
        (try have kc0 := hSw.1.cell); (try have kc1 := hSw.2.cell)
        go_simp
        all_goals with_reducible rfl
      simp only [Act.put, List.setIfInBounds_toArray, List.set_cons_zero, List.set_cons_succ, List.getElem_toArray, List.getElem_cons_zero, List.getElem_cons_succ]
      refine wpAnyE_one (i := 12) (by kernel_rfl) rfl ?_
      change wpList _ _ (Exit.then _ _) [_] _ _
      try simp only [List.setIfInBounds_toArray, List.set_cons_zero, List.set_cons_succ, List.getElem_toArray, List.getElem_cons_zero, List.getElem_cons_succ]
      go_wp2_with (go_at_call 71; refine ((hk6).take hl hlt 4 8 _ (by decide)).mono ?_; rintro e w6 ⟨rfl, hB6⟩)
      have hk7 := (hk6).below hB6
      refine ⟨fun _ => trivial, ?_⟩
      try simp only [List.setIfInBounds_toArray, List.set_cons_zero, List.set_cons_succ, List.getElem_toArray, List.getElem_cons_zero, List.getElem_cons_succ]
      have hz := blk_below' hB6 hz
      refine wpAnyE_take (i := 13) (v := ?_) rfl (by kernel_rfl) (by kernel_rfl) (by kernel_rfl) (by kernel_rfl) (fun _ _ _ h => h) (Or.inl ⟨by rfl, ?_⟩) hSS ?_
      rotate_left
      · intro w hSw
        (try have kc0 := hSw.1.cell); (try have kc1 := hSw.2.cell)
        go_simp
        all_goals with_reducible rfl
      simp only [Act.put, List.setIfInBounds_toArray, List.set_cons_zero, List.set_cons_succ, List.getElem_toArray, List.getElem_cons_zero, List.getElem_cons_succ]
      refine wpAnyE_one (i := 15) (by kernel_rfl) rfl ?_
      change wpList _ _ (Exit.then _ _) [_] _ _
      try simp only [List.setIfInBounds_toArray, List.set_cons_zero, List.set_cons_succ, List.getElem_toArray, List.getElem_cons_zero, List.getElem_cons_succ]
      have hfin := (hk7).new' hz hf (show g ≠ (W2.heap.size) by omega)
      have y0 := (blk_cell hz 0).trans rfl
      have y1 := (blk_cell hz 1).trans rfl
      have y2 := (blk_cell hz 2).trans rfl
      have y3 := (blk_cell hz 3).trans rfl
      simp at y0 y1 y2 y3
      have t0 := blk_free hz 0
      have t1 := blk_free hz 1
      have t2 := blk_free hz 2
      have t3 := blk_free hz 3
      have HFIN := Lib.hid hfin
      clear hfin hz
      go_wp2_with fail
      refine ⟨fun _ => trivial, wpAnyE_end (by kernel_rfl) ?_⟩
      go_wp2_with fail
      go_meet
      exact ⟨_, rfl, HFIN.out⟩
  case rest =>
    obtain ⟨b, rfl, hK⟩ := hcut
    have harr : ∀ w, (Instr.arrayAt 126 (.slice (some ⟨g, q, none⟩) 64 cp)).run Tryd.prog w = .ok (.pointer (some ⟨g, q, none⟩)) w := fun w => run_arrayAt64 g q cp w
    have hfin : ∀ W, KS w ⟨g, q, none⟩ l b W → Below w.heap.size w W := fun W h => h.tk.low
    obtain ⟨r, hr⟩ : ∃ r, rcOf l = r := ⟨_, rfl⟩
    have HM := Lib.hid (fun w => mayBe_any (r.life : Int) (r.round : Int) (r.tag : Int) w)
    have HS := Lib.hid (fun w => isSeq_any (r.seq : Int) w)
    unfold recV at HM
    have hKk := hK.kept
    rw [hr] at hKk
    clear hk hgw q1 q2 q3 q4 q5 q6 q7 q8
    have hSS : KG b r w ⟨g, q, none⟩ l wc := ⟨hKk, hK.tk⟩
    have hfar := hK.far
    clear hKk hK
    by_cases h1 : mayR (r.life : Int) (r.round : Int) (r.tag : Int)
    · by_cases h2 : (1 : Int) ≤ (r.seq : Int) ∧ (r.seq : Int) ≤ 1099511627776
      · have hmay : r.may := by obtain ⟨a1, a2, a3, a4, a5, a6⟩ := h1; exact ⟨by omega, by omega, by omega, by omega, by omega, by omega⟩
        rw [decide_eq_true h1] at HM
        rw [decide_eq_true h2] at HS
        have HB := Lib.hid (fun w => bytes_any r hmay w)
        unfold keptV at HB
        have hcmp := eq_bytes (encL r) l (encL_len r) hl (encL_lt r) hlt
        by_cases he : encL r = l
        · have hd : decL l = some r := by unfold decL; rw [hr, if_pos ⟨hmay, he⟩]
          have HD := Lib.hid hd
          clear hd
          rw [he, decide_eq_true rfl] at hcmp
          rw [he] at HB
          go_wp2_with fail
          refine wp_region_early (KG b r w ⟨g, q, none⟩ l) (fun _ => false) (by kernel_rfl) ?_
          have hSS : KG b r w ⟨g, q, none⟩ l wc.drew := ⟨hSS.kept, hSS.tk.bytes, hSS.tk.low.drew, hSS.tk.out⟩
          generalize wc.drew = W4 at *
          simp only [List.size_toArray, List.length_cons, List.length_nil, Nat.reduceAdd, Array.replicate_succ, Array.replicate_zero, List.push_toArray, List.nil_append, List.cons_append]
          refine wpAnyE_take (i := 0) (v := ?_) rfl (by kernel_rfl) (by kernel_rfl) (by kernel_rfl) (by kernel_rfl) (fun _ _ _ h => h) (Or.inl ⟨by rfl, ?_⟩) hSS ?_
          rotate_left
          · intro w hSw
            obtain ⟨kc0, kc1, kc2, kc3⟩ := hSw.cells
            go_simp
            all_goals with_reducible rfl
          simp only [Act.put, List.setIfInBounds_toArray, List.set_cons_zero, List.set_cons_succ, List.getElem_toArray, List.getElem_cons_zero, List.getElem_cons_succ]
          refine wpAnyE_take (i := 1) (v := ?_) rfl (by kernel_rfl) (by kernel_rfl) (by kernel_rfl) (by kernel_rfl) (fun _ _ _ h => h) (Or.inl ⟨by rfl, ?_⟩) hSS ?_
          rotate_left
          · intro w hSw
            obtain ⟨kc0, kc1, kc2, kc3⟩ := hSw.cells
            go_simp
            all_goals with_reducible rfl
          simp only [Act.put, List.setIfInBounds_toArray, List.set_cons_zero, List.set_cons_succ, List.getElem_toArray, List.getElem_cons_zero, List.getElem_cons_succ]
          refine wpAnyE_one (i := 2) (by kernel_rfl) rfl ?_
          change wpList _ _ (Exit.then _ _) [_] _ _
          try simp only [List.setIfInBounds_toArray, List.set_cons_zero, List.set_cons_succ, List.getElem_toArray, List.getElem_cons_zero, List.getElem_cons_succ]
          go_wp2_with (go_at_call 65; refine (HM.out _).mono ?_; rintro e w4 ⟨rfl, hB4⟩)
          have hSS := hSS.below hB4
          refine ⟨fun _ => hSS, ?_⟩
          try simp only [List.setIfInBounds_toArray, List.set_cons_zero, List.set_cons_succ, List.getElem_toArray, List.getElem_cons_zero, List.getElem_cons_succ]
          refine wpAnyE_take (i := 3) (v := ?_) rfl (by kernel_rfl) (by kernel_rfl) (by kernel_rfl) (by kernel_rfl) (fun _ _ _ h => h) (Or.inl ⟨by rfl, ?_⟩) hSS ?_
          rotate_left
          · intro w hSw
            (try have kc0 := hSw.1.cell); (try have kc1 := hSw.2.cell)
            go_simp
            all_goals with_reducible rfl
          simp only [Act.put, List.setIfInBounds_toArray, List.set_cons_zero, List.set_cons_succ, List.getElem_toArray, List.getElem_cons_zero, List.getElem_cons_succ]
          refine wpAnyE_take (i := 4) (v := ?_) rfl (by kernel_rfl) (by kernel_rfl) (by kernel_rfl) (by kernel_rfl) (fun _ _ _ h => h) (Or.inl ⟨by rfl, ?_⟩) hSS ?_
          rotate_left
          · intro w hSw
            (try have kc0 := hSw.1.cell); (try have kc1 := hSw.2.cell)
            go_simp
            all_goals with_reducible rfl
          simp only [Act.put, List.setIfInBounds_toArray, List.set_cons_zero, List.set_cons_succ, List.getElem_toArray, List.getElem_cons_zero, List.getElem_cons_succ]
          refine wpAnyE_take (i := 5) (v := ?_) rfl (by kernel_rfl) (by kernel_rfl) (by kernel_rfl) (by kernel_rfl) (fun _ _ _ h => h) (Or.inl ⟨by rfl, ?_⟩) hSS ?_
          rotate_left
          · intro w hSw
            obtain ⟨kc0, kc1, kc2, kc3⟩ := hSw.cells
            go_simp
            all_goals with_reducible rfl
          simp only [Act.put, List.setIfInBounds_toArray, List.set_cons_zero, List.set_cons_succ, List.getElem_toArray, List.getElem_cons_zero, List.getElem_cons_succ]
          refine wpAnyE_take (i := 6) (v := ?_) rfl (by kernel_rfl) (by kernel_rfl) (by kernel_rfl) (by kernel_rfl) (fun _ _ _ h => h) (Or.inl ⟨by rfl, ?_⟩) hSS ?_
          rotate_left
          · intro w hSw
            obtain ⟨kc0, kc1, kc2, kc3⟩ := hSw.cells
            go_simp
            all_goals with_reducible rfl
          simp only [Act.put, List.setIfInBounds_toArray, List.set_cons_zero, List.set_cons_succ, List.getElem_toArray, List.getElem_cons_zero, List.getElem_cons_succ]
          refine wpAnyE_one (i := 7) (by kernel_rfl) rfl ?_
          change wpList _ _ (Exit.then _ _) [_] _ _
          try simp only [List.setIfInBounds_toArray, List.set_cons_zero, List.set_cons_succ, List.getElem_toArray, List.getElem_cons_zero, List.getElem_cons_succ]
          go_wp2_with (go_at_call 72; refine (HS.out _).mono ?_; rintro e w5 ⟨rfl, hB5⟩)
          have hSS := hSS.below hB5
          refine ⟨fun _ => hSS, ?_⟩
          try simp only [List.setIfInBounds_toArray, List.set_cons_zero, List.set_cons_succ, List.getElem_toArray, List.getElem_cons_zero, List.getElem_cons_succ]
          refine wpAnyE_take (i := 8) (v := ?_) rfl (by kernel_rfl) (by kernel_rfl) (by kernel_rfl) (by kernel_rfl) (fun _ _ _ h => h) (Or.inl ⟨by rfl, ?_⟩) hSS ?_
          rotate_left
          · intro w hSw
            (try have kc0 := hSw.1.cell); (try have kc1 := hSw.2.cell)
            go_simp
            all_goals with_reducible rfl
          simp only [Act.put, List.setIfInBounds_toArray, List.set_cons_zero, List.set_cons_succ, List.getElem_toArray, List.getElem_cons_zero, List.getElem_cons_succ]
          refine wpAnyE_take (i := 9) (v := ?_) rfl (by kernel_rfl) (by kernel_rfl) (by kernel_rfl) (by kernel_rfl) (fun _ _ _ h => h) (Or.inl ⟨by rfl, ?_⟩) hSS ?_
          rotate_left
          · intro w hSw
            (try have kc0 := hSw.1.cell); (try have kc1 := hSw.2.cell)
            go_simp
            all_goals with_reducible rfl
          simp only [Act.put, List.setIfInBounds_toArray, List.set_cons_zero, List.set_cons_succ, List.getElem_toArray, List.getElem_cons_zero, List.getElem_cons_succ]
          refine wpAnyE_take (i := 10) (v := ?_) rfl (by kernel_rfl) (by kernel_rfl) (by kernel_rfl) (by kernel_rfl) (fun _ _ _ h => h) (Or.inl ⟨by rfl, ?_⟩) hSS ?_
          rotate_left
          · intro w hSw
            (try have kc0 := hSw.1.cell); (try have kc1 := hSw.2.cell)
            go_simp
            all_goals with_reducible rfl
          simp only [Act.put, List.setIfInBounds_toArray, List.set_cons_zero, List.set_cons_succ, List.getElem_toArray, List.getElem_cons_zero, List.getElem_cons_succ]
          refine wpAnyE_take (i := 11) (v := ?_) rfl (by kernel_rfl) (by kernel_rfl) (by kernel_rfl) (by kernel_rfl) (fun _ _ _ h => h) (Or.inl ⟨by rfl, ?_⟩) hSS ?_
          rotate_left
          · intro w hSw
            obtain ⟨kc0, kc1, kc2, kc3⟩ := hSw.cells
            go_simp
            all_goals with_reducible rfl
          simp only [Act.put, List.setIfInBounds_toArray, List.set_cons_zero, List.set_cons_succ, List.getElem_toArray, List.getElem_cons_zero, List.getElem_cons_succ]
          refine wpAnyE_take (i := 13) (v := ?_) rfl (by kernel_rfl) (by kernel_rfl) (by kernel_rfl) (by kernel_rfl) (fun _ _ _ h => h) (Or.inl ⟨by rfl, ?_⟩) hSS ?_
          rotate_left
          · intro w hSw
            (try have kc0 := hSw.1.cell); (try have kc1 := hSw.2.cell)
            go_simp
            all_goals with_reducible rfl
          simp only [Act.put, List.setIfInBounds_toArray, List.set_cons_zero, List.set_cons_succ, List.getElem_toArray, List.getElem_cons_zero, List.getElem_cons_succ]
          refine wpAnyE_take (i := 14) (v := ?_) rfl (by kernel_rfl) (by kernel_rfl) (by kernel_rfl) (by kernel_rfl) (fun _ _ _ h => h) (Or.inl ⟨by rfl, ?_⟩) hSS ?_
          rotate_left
          · intro w hSw
            (try have kc0 := hSw.1.cell); (try have kc1 := hSw.2.cell)
            go_simp
            all_goals with_reducible rfl
          simp only [Act.put, List.setIfInBounds_toArray, List.set_cons_zero, List.set_cons_succ, List.getElem_toArray, List.getElem_cons_zero, List.getElem_cons_succ]
          refine wpAnyE_take (i := 15) (v := .agg (bC l).toArray) rfl (by kernel_rfl) (by kernel_rfl) (by kernel_rfl) (by kernel_rfl) (fun _ _ _ h => h) (yieldsIf_load_mid rfl _ _ rfl g q rfl (bC l) _ (fun W h => h.tk.bytes.range) Tryd.underlying126 rfl (slot_info.trans (by rw [bC_len, hl]))) hSS ?_
          simp only [Act.put, List.setIfInBounds_toArray, List.set_cons_zero, List.set_cons_succ, List.getElem_toArray, List.getElem_cons_zero, List.getElem_cons_succ]
          refine wpAnyE_one (i := 12) (by kernel_rfl) rfl ?_
          change wpList _ _ (Exit.then _ _) [_] _ _
          try simp only [List.setIfInBounds_toArray, List.set_cons_zero, List.set_cons_succ, List.getElem_toArray, List.getElem_cons_zero, List.getElem_cons_succ]
          go_wp2_with (go_at_call 73; refine (HB.out _).mono ?_; rintro e w6 ⟨rfl, hB6⟩)
          have hSS := hSS.below hB6
          refine ⟨fun _ => hSS, ?_⟩
          try simp only [List.setIfInBounds_toArray, List.set_cons_zero, List.set_cons_succ, List.getElem_toArray, List.getElem_cons_zero, List.getElem_cons_succ]
          refine wpAnyE_take (i := 16) (v := ?_) rfl (by kernel_rfl) (by kernel_rfl) (by kernel_rfl) (by kernel_rfl) (fun _ _ _ h => h) (Or.inl ⟨by rfl, ?_⟩) hSS ?_
          rotate_left
          · intro w hSw
            (try have kc0 := hSw.1.cell); (try have kc1 := hSw.2.cell)
            go_simp
            all_goals with_reducible rfl
          simp only [Act.put, List.setIfInBounds_toArray, List.set_cons_zero, List.set_cons_succ, List.getElem_toArray, List.getElem_cons_zero, List.getElem_cons_succ]
          refine wpAnyE_take (i := 17) (v := ?_) rfl (by kernel_rfl) (by kernel_rfl) (by kernel_rfl) (by kernel_rfl) (fun _ _ _ h => h) (Or.inl ⟨by rfl, ?_⟩) hSS ?_
          rotate_left
          · intro w hSw
            (try have kc0 := hSw.1.cell); (try have kc1 := hSw.2.cell)
            go_simp
            all_goals with_reducible rfl
          simp only [Act.put, List.setIfInBounds_toArray, List.set_cons_zero, List.set_cons_succ, List.getElem_toArray, List.getElem_cons_zero, List.getElem_cons_succ]
          refine wpAnyE_end (by kernel_rfl) ?_
          have HK := Lib.hid hSS
          have z0 := (blk_cell hSS.tk.out 0).trans rfl
          have z1 := (blk_cell hSS.tk.out 1).trans rfl
          have z2 := (blk_cell hSS.tk.out 2).trans rfl
          simp at z0 z1 z2
          have zf0 := blk_free hSS.tk.out 0
          have zf1 := blk_free hSS.tk.out 1
          have zf2 := blk_free hSS.tk.out 2
          obtain ⟨kc0, kc1, kc2, kc3⟩ := hSS.cells
          clear hSS
          have hne : ¬ b = w.heap.size := by omega
          have hne2 : ¬ w.heap.size = b := by omega
          go_wp2_with fail
          go_region
          all_goals (go_wp2_with fail)
          all_goals generalize hWF : World.setCell (World.setCell (World.setCell _ _ _) _ _) _ _ = WF
          all_goals skip
          have hfb : WF.heap[w.heap.size]? = some (.cells #[.int .i64 ((r.life : Int)), .int .i64 ((r.round : Int)), .int .i64 ((r.tag : Int))] 48 (0, 0)) := by
            rw [← hWF]; exact blk_store (blk_store (blk_store HK.out.tk.out 0 _) 1 _) 2 _
          have hfl : Below w.heap.size w WF := by
            rw [← hWF]; exact ((HK.out.tk.low.setCell (Nat.le_refl _) _).setCell (Nat.le_refl _) _).setCell (Nat.le_refl _) _
          have y0 := (blk_cell hfb 0).trans rfl
          have y1 := (blk_cell hfb 1).trans rfl
          have y2 := (blk_cell hfb 2).trans rfl
          simp at y0 y1 y2
          exact bodyPost_ret (v := .tuple #[.agg #[.int .i64 ((r.life : Int)), .int .i64 ((r.round : Int)), .int .i64 ((r.tag : Int))], .int .i64 ((r.seq : Int)), .int .i64 0]) (by simp [results, Tryd.results56, go_sem, y0, y1, y2]) rfl ⟨by rw [HD.out]; rfl, hfl.drew⟩
        · have hd : decL l = none := by unfold decL; rw [hr, if_neg (fun h => he h.2)]
          have HD := Lib.hid hd
          clear hd
          rw [decide_eq_false he] at hcmp
          go_wp2_with fail
          refine wp_region_early (KG b r w ⟨g, q, none⟩ l) (fun _ => false) (by kernel_rfl) ?_
          have hSS : KG b r w ⟨g, q, none⟩ l wc.drew := ⟨hSS.kept, hSS.tk.bytes, hSS.tk.low.drew, hSS.tk.out⟩
          generalize wc.drew = W4 at *
          simp only [List.size_toArray, List.length_cons, List.length_nil, Nat.reduceAdd, Array.replicate_succ, Array.replicate_zero, List.push_toArray, List.nil_append, List.cons_append]
          refine wpAnyE_take (i := 0) (v := ?_) rfl (by kernel_rfl) (by kernel_rfl) (by kernel_rfl) (by kernel_rfl) (fun _ _ _ h => h) (Or.inl ⟨by rfl, ?_⟩) hSS ?_
          rotate_left
          · intro w hSw
            obtain ⟨kc0, kc1, kc2, kc3⟩ := hSw.cells
            go_simp
            all_goals with_reducible rfl
          simp only [Act.put, List.setIfInBounds_toArray, List.set_cons_zero, List.set_cons_succ, List.getElem_toArray, List.getElem_cons_zero, List.getElem_cons_succ]
          refine wpAnyE_take (i := 1) (v := ?_) rfl (by kernel_rfl) (by kernel_rfl) (by kernel_rfl) (by kernel_rfl) (fun _ _ _ h => h) (Or.inl ⟨by rfl, ?_⟩) hSS ?_
          rotate_left
          · intro w hSw
            obtain ⟨kc0, kc1, kc2, kc3⟩ := hSw.cells
            go_simp
            all_goals with_reducible rfl
          simp only [Act.put, List.setIfInBounds_toArray, List.set_cons_zero, List.set_cons_succ, List.getElem_toArray, List.getElem_cons_zero, List.getElem_cons_succ]
          refine wpAnyE_one (i := 2) (by kernel_rfl) rfl ?_
          change wpList _ _ (Exit.then _ _) [_] _ _
          try simp only [List.setIfInBounds_toArray, List.set_cons_zero, List.set_cons_succ, List.getElem_toArray, List.getElem_cons_zero, List.getElem_cons_succ]
          go_wp2_with (go_at_call 65; refine (HM.out _).mono ?_; rintro e w4 ⟨rfl, hB4⟩)
          have hSS := hSS.below hB4
          refine ⟨fun _ => hSS, ?_⟩
          try simp only [List.setIfInBounds_toArray, List.set_cons_zero, List.set_cons_succ, List.getElem_toArray, List.getElem_cons_zero, List.getElem_cons_succ]
          refine wpAnyE_take (i := 3) (v := ?_) rfl (by kernel_rfl) (by kernel_rfl) (by kernel_rfl) (by kernel_rfl) (fun _ _ _ h => h) (Or.inl ⟨by rfl, ?_⟩) hSS ?_
          rotate_left
          · intro w hSw
            (try have kc0 := hSw.1.cell); (try have kc1 := hSw.2.cell)
            go_simp
            all_goals with_reducible rfl
          simp only [Act.put, List.setIfInBounds_toArray, List.set_cons_zero, List.set_cons_succ, List.getElem_toArray, List.getElem_cons_zero, List.getElem_cons_succ]
          refine wpAnyE_take (i := 4) (v := ?_) rfl (by kernel_rfl) (by kernel_rfl) (by kernel_rfl) (by kernel_rfl) (fun _ _ _ h => h) (Or.inl ⟨by rfl, ?_⟩) hSS ?_
          rotate_left
          · intro w hSw
            (try have kc0 := hSw.1.cell); (try have kc1 := hSw.2.cell)
            go_simp
            all_goals with_reducible rfl
          simp only [Act.put, List.setIfInBounds_toArray, List.set_cons_zero, List.set_cons_succ, List.getElem_toArray, List.getElem_cons_zero, List.getElem_cons_succ]
          refine wpAnyE_take (i := 5) (v := ?_) rfl (by kernel_rfl) (by kernel_rfl) (by kernel_rfl) (by kernel_rfl) (fun _ _ _ h => h) (Or.inl ⟨by rfl, ?_⟩) hSS ?_
          rotate_left
          · intro w hSw
            obtain ⟨kc0, kc1, kc2, kc3⟩ := hSw.cells
            go_simp
            all_goals with_reducible rfl
          simp only [Act.put, List.setIfInBounds_toArray, List.set_cons_zero, List.set_cons_succ, List.getElem_toArray, List.getElem_cons_zero, List.getElem_cons_succ]
          refine wpAnyE_take (i := 6) (v := ?_) rfl (by kernel_rfl) (by kernel_rfl) (by kernel_rfl) (by kernel_rfl) (fun _ _ _ h => h) (Or.inl ⟨by rfl, ?_⟩) hSS ?_
          rotate_left
          · intro w hSw
            obtain ⟨kc0, kc1, kc2, kc3⟩ := hSw.cells
            go_simp
            all_goals with_reducible rfl
          simp only [Act.put, List.setIfInBounds_toArray, List.set_cons_zero, List.set_cons_succ, List.getElem_toArray, List.getElem_cons_zero, List.getElem_cons_succ]
          refine wpAnyE_one (i := 7) (by kernel_rfl) rfl ?_
          change wpList _ _ (Exit.then _ _) [_] _ _
          try simp only [List.setIfInBounds_toArray, List.set_cons_zero, List.set_cons_succ, List.getElem_toArray, List.getElem_cons_zero, List.getElem_cons_succ]
          go_wp2_with (go_at_call 72; refine (HS.out _).mono ?_; rintro e w5 ⟨rfl, hB5⟩)
          have hSS := hSS.below hB5
          refine ⟨fun _ => hSS, ?_⟩
          try simp only [List.setIfInBounds_toArray, List.set_cons_zero, List.set_cons_succ, List.getElem_toArray, List.getElem_cons_zero, List.getElem_cons_succ]
          refine wpAnyE_take (i := 8) (v := ?_) rfl (by kernel_rfl) (by kernel_rfl) (by kernel_rfl) (by kernel_rfl) (fun _ _ _ h => h) (Or.inl ⟨by rfl, ?_⟩) hSS ?_
          rotate_left
          · intro w hSw
            (try have kc0 := hSw.1.cell); (try have kc1 := hSw.2.cell)
            go_simp
            all_goals with_reducible rfl
          simp only [Act.put, List.setIfInBounds_toArray, List.set_cons_zero, List.set_cons_succ, List.getElem_toArray, List.getElem_cons_zero, List.getElem_cons_succ]
          refine wpAnyE_take (i := 9) (v := ?_) rfl (by kernel_rfl) (by kernel_rfl) (by kernel_rfl) (by kernel_rfl) (fun _ _ _ h => h) (Or.inl ⟨by rfl, ?_⟩) hSS ?_
          rotate_left
          · intro w hSw
            (try have kc0 := hSw.1.cell); (try have kc1 := hSw.2.cell)
            go_simp
            all_goals with_reducible rfl
          simp only [Act.put, List.setIfInBounds_toArray, List.set_cons_zero, List.set_cons_succ, List.getElem_toArray, List.getElem_cons_zero, List.getElem_cons_succ]
          refine wpAnyE_take (i := 10) (v := ?_) rfl (by kernel_rfl) (by kernel_rfl) (by kernel_rfl) (by kernel_rfl) (fun _ _ _ h => h) (Or.inl ⟨by rfl, ?_⟩) hSS ?_
          rotate_left
          · intro w hSw
            (try have kc0 := hSw.1.cell); (try have kc1 := hSw.2.cell)
            go_simp
            all_goals with_reducible rfl
          simp only [Act.put, List.setIfInBounds_toArray, List.set_cons_zero, List.set_cons_succ, List.getElem_toArray, List.getElem_cons_zero, List.getElem_cons_succ]
          refine wpAnyE_take (i := 11) (v := ?_) rfl (by kernel_rfl) (by kernel_rfl) (by kernel_rfl) (by kernel_rfl) (fun _ _ _ h => h) (Or.inl ⟨by rfl, ?_⟩) hSS ?_
          rotate_left
          · intro w hSw
            obtain ⟨kc0, kc1, kc2, kc3⟩ := hSw.cells
            go_simp
            all_goals with_reducible rfl
          simp only [Act.put, List.setIfInBounds_toArray, List.set_cons_zero, List.set_cons_succ, List.getElem_toArray, List.getElem_cons_zero, List.getElem_cons_succ]
          refine wpAnyE_take (i := 13) (v := ?_) rfl (by kernel_rfl) (by kernel_rfl) (by kernel_rfl) (by kernel_rfl) (fun _ _ _ h => h) (Or.inl ⟨by rfl, ?_⟩) hSS ?_
          rotate_left
          · intro w hSw
            (try have kc0 := hSw.1.cell); (try have kc1 := hSw.2.cell)
            go_simp
            all_goals with_reducible rfl
          simp only [Act.put, List.setIfInBounds_toArray, List.set_cons_zero, List.set_cons_succ, List.getElem_toArray, List.getElem_cons_zero, List.getElem_cons_succ]
          refine wpAnyE_take (i := 14) (v := ?_) rfl (by kernel_rfl) (by kernel_rfl) (by kernel_rfl) (by kernel_rfl) (fun _ _ _ h => h) (Or.inl ⟨by rfl, ?_⟩) hSS ?_
          rotate_left
          · intro w hSw
            (try have kc0 := hSw.1.cell); (try have kc1 := hSw.2.cell)
            go_simp
            all_goals with_reducible rfl
          simp only [Act.put, List.setIfInBounds_toArray, List.set_cons_zero, List.set_cons_succ, List.getElem_toArray, List.getElem_cons_zero, List.getElem_cons_succ]
          refine wpAnyE_take (i := 15) (v := .agg (bC l).toArray) rfl (by kernel_rfl) (by kernel_rfl) (by kernel_rfl) (by kernel_rfl) (fun _ _ _ h => h) (yieldsIf_load_mid rfl _ _ rfl g q rfl (bC l) _ (fun W h => h.tk.bytes.range) Tryd.underlying126 rfl (slot_info.trans (by rw [bC_len, hl]))) hSS ?_
          simp only [Act.put, List.setIfInBounds_toArray, List.set_cons_zero, List.set_cons_succ, List.getElem_toArray, List.getElem_cons_zero, List.getElem_cons_succ]
          refine wpAnyE_one (i := 12) (by kernel_rfl) rfl ?_
          change wpList _ _ (Exit.then _ _) [_] _ _
          try simp only [List.setIfInBounds_toArray, List.set_cons_zero, List.set_cons_succ, List.getElem_toArray, List.getElem_cons_zero, List.getElem_cons_succ]
          go_wp2_with (go_at_call 73; refine (HB.out _).mono ?_; rintro e w6 ⟨rfl, hB6⟩)
          have hSS := hSS.below hB6
          refine ⟨fun _ => hSS, ?_⟩
          try simp only [List.setIfInBounds_toArray, List.set_cons_zero, List.set_cons_succ, List.getElem_toArray, List.getElem_cons_zero, List.getElem_cons_succ]
          refine wpAnyE_take (i := 16) (v := ?_) rfl (by kernel_rfl) (by kernel_rfl) (by kernel_rfl) (by kernel_rfl) (fun _ _ _ h => h) (Or.inl ⟨by rfl, ?_⟩) hSS ?_
          rotate_left
          · intro w hSw
            (try have kc0 := hSw.1.cell); (try have kc1 := hSw.2.cell)
            go_simp
            all_goals with_reducible rfl
          simp only [Act.put, List.setIfInBounds_toArray, List.set_cons_zero, List.set_cons_succ, List.getElem_toArray, List.getElem_cons_zero, List.getElem_cons_succ]
          refine wpAnyE_take (i := 17) (v := ?_) rfl (by kernel_rfl) (by kernel_rfl) (by kernel_rfl) (by kernel_rfl) (fun _ _ _ h => h) (Or.inl ⟨by rfl, ?_⟩) hSS ?_
          rotate_left
          · intro w hSw
            (try have kc0 := hSw.1.cell); (try have kc1 := hSw.2.cell)
            go_simp
            all_goals with_reducible rfl
          simp only [Act.put, List.setIfInBounds_toArray, List.set_cons_zero, List.set_cons_succ, List.getElem_toArray, List.getElem_cons_zero, List.getElem_cons_succ]
          refine wpAnyE_end (by kernel_rfl) ?_
          have HK := Lib.hid hSS
          have z0 := (blk_cell hSS.tk.out 0).trans rfl
          have z1 := (blk_cell hSS.tk.out 1).trans rfl
          have z2 := (blk_cell hSS.tk.out 2).trans rfl
          simp at z0 z1 z2
          have zf0 := blk_free hSS.tk.out 0
          have zf1 := blk_free hSS.tk.out 1
          have zf2 := blk_free hSS.tk.out 2
          clear hSS
          go_wp2_with fail
          generalize hWF : World.setCell (World.setCell (World.setCell _ _ _) _ _) _ _ = WF
          have hfb : WF.heap[w.heap.size]? = some (.cells #[.int .i64 (0), .int .i64 (0), .int .i64 (0)] 48 (0, 0)) := by
            rw [← hWF]; exact blk_store (blk_store (blk_store HK.out.tk.out 0 _) 1 _) 2 _
          have hfl : Below w.heap.size w WF := by
            rw [← hWF]; exact ((HK.out.tk.low.setCell (Nat.le_refl _) _).setCell (Nat.le_refl _) _).setCell (Nat.le_refl _) _
          have y0 := (blk_cell hfb 0).trans rfl
          have y1 := (blk_cell hfb 1).trans rfl
          have y2 := (blk_cell hfb 2).trans rfl
          simp at y0 y1 y2
          exact bodyPost_ret (v := .tuple #[.agg #[.int .i64 (0), .int .i64 (0), .int .i64 (0)], .int .i64 (0), .int .i64 70]) (by simp [results, Tryd.results56, go_sem, y0, y1, y2]) rfl ⟨by rw [HD.out]; rfl, hfl⟩
      · have hd : decL l = none := by
          unfold decL; rw [hr, if_neg]
          rintro ⟨⟨a1, a2, a3, a4, a5, a6⟩, _⟩
          exact h2 ⟨by omega, by omega⟩
        have HD := Lib.hid hd
        clear hd
        rw [decide_eq_true h1] at HM
        rw [decide_eq_false h2] at HS
        go_wp2_with fail
        refine wp_region_early (KG b r w ⟨g, q, none⟩ l) (fun _ => false) (by kernel_rfl) ?_
        have hSS : KG b r w ⟨g, q, none⟩ l wc.drew := ⟨hSS.kept, hSS.tk.bytes, hSS.tk.low.drew, hSS.tk.out⟩
        generalize wc.drew = W4 at *
        simp only [List.size_toArray, List.length_cons, List.length_nil, Nat.reduceAdd, Array.replicate_succ, Array.replicate_zero, List.push_toArray, List.nil_append, List.cons_append]
        refine wpAnyE_take (i := 0) (v := ?_) rfl (by kernel_rfl) (by kernel_rfl) (by kernel_rfl) (by kernel_rfl) (fun _ _ _ h => h) (Or.inl ⟨by rfl, ?_⟩) hSS ?_
        rotate_left
        · intro w hSw
          obtain ⟨kc0, kc1, kc2, kc3⟩ := hSw.cells
          go_simp
          all_goals with_reducible rfl
        simp only [Act.put, List.setIfInBounds_toArray, List.set_cons_zero, List.set_cons_succ, List.getElem_toArray, List.getElem_cons_zero, List.getElem_cons_succ]
        refine wpAnyE_take (i := 1) (v := ?_) rfl (by kernel_rfl) (by kernel_rfl) (by kernel_rfl) (by kernel_rfl) (fun _ _ _ h => h) (Or.inl ⟨by rfl, ?_⟩) hSS ?_
        rotate_left
        · intro w hSw
          obtain ⟨kc0, kc1, kc2, kc3⟩ := hSw.cells
          go_simp
          all_goals with_reducible rfl
        simp only [Act.put, List.setIfInBounds_toArray, List.set_cons_zero, List.set_cons_succ, List.getElem_toArray, List.getElem_cons_zero, List.getElem_cons_succ]
        refine wpAnyE_one (i := 2) (by kernel_rfl) rfl ?_
        change wpList _ _ (Exit.then _ _) [_] _ _
        try simp only [List.setIfInBounds_toArray, List.set_cons_zero, List.set_cons_succ, List.getElem_toArray, List.getElem_cons_zero, List.getElem_cons_succ]
        go_wp2_with (go_at_call 65; refine (HM.out _).mono ?_; rintro e w4 ⟨rfl, hB4⟩)
        have hSS := hSS.below hB4
        refine ⟨fun _ => hSS, ?_⟩
        try simp only [List.setIfInBounds_toArray, List.set_cons_zero, List.set_cons_succ, List.getElem_toArray, List.getElem_cons_zero, List.getElem_cons_succ]
        refine wpAnyE_take (i := 3) (v := ?_) rfl (by kernel_rfl) (by kernel_rfl) (by kernel_rfl) (by kernel_rfl) (fun _ _ _ h => h) (Or.inl ⟨by rfl, ?_⟩) hSS ?_
        rotate_left
        · intro w hSw
          (try have kc0 := hSw.1.cell); (try have kc1 := hSw.2.cell)
          go_simp
          all_goals with_reducible rfl
        simp only [Act.put, List.setIfInBounds_toArray, List.set_cons_zero, List.set_cons_succ, List.getElem_toArray, List.getElem_cons_zero, List.getElem_cons_succ]
        refine wpAnyE_take (i := 4) (v := ?_) rfl (by kernel_rfl) (by kernel_rfl) (by kernel_rfl) (by kernel_rfl) (fun _ _ _ h => h) (Or.inl ⟨by rfl, ?_⟩) hSS ?_
        rotate_left
        · intro w hSw
          (try have kc0 := hSw.1.cell); (try have kc1 := hSw.2.cell)
          go_simp
          all_goals with_reducible rfl
        simp only [Act.put, List.setIfInBounds_toArray, List.set_cons_zero, List.set_cons_succ, List.getElem_toArray, List.getElem_cons_zero, List.getElem_cons_succ]
        refine wpAnyE_take (i := 5) (v := ?_) rfl (by kernel_rfl) (by kernel_rfl) (by kernel_rfl) (by kernel_rfl) (fun _ _ _ h => h) (Or.inl ⟨by rfl, ?_⟩) hSS ?_
        rotate_left
        · intro w hSw
          obtain ⟨kc0, kc1, kc2, kc3⟩ := hSw.cells
          go_simp
          all_goals with_reducible rfl
        simp only [Act.put, List.setIfInBounds_toArray, List.set_cons_zero, List.set_cons_succ, List.getElem_toArray, List.getElem_cons_zero, List.getElem_cons_succ]
        refine wpAnyE_take (i := 6) (v := ?_) rfl (by kernel_rfl) (by kernel_rfl) (by kernel_rfl) (by kernel_rfl) (fun _ _ _ h => h) (Or.inl ⟨by rfl, ?_⟩) hSS ?_
        rotate_left
        · intro w hSw
          obtain ⟨kc0, kc1, kc2, kc3⟩ := hSw.cells
          go_simp
          all_goals with_reducible rfl
        simp only [Act.put, List.setIfInBounds_toArray, List.set_cons_zero, List.set_cons_succ, List.getElem_toArray, List.getElem_cons_zero, List.getElem_cons_succ]
        refine wpAnyE_one (i := 7) (by kernel_rfl) rfl ?_
        change wpList _ _ (Exit.then _ _) [_] _ _
        try simp only [List.setIfInBounds_toArray, List.set_cons_zero, List.set_cons_succ, List.getElem_toArray, List.getElem_cons_zero, List.getElem_cons_succ]
        go_wp2_with (go_at_call 72; refine (HS.out _).mono ?_; rintro e w5 ⟨rfl, hB5⟩)
        have hSS := hSS.below hB5
        refine ⟨fun _ => hSS, ?_⟩
        try simp only [List.setIfInBounds_toArray, List.set_cons_zero, List.set_cons_succ, List.getElem_toArray, List.getElem_cons_zero, List.getElem_cons_succ]
        refine wpAnyE_take (i := 8) (v := ?_) rfl (by kernel_rfl) (by kernel_rfl) (by kernel_rfl) (by kernel_rfl) (fun _ _ _ h => h) (Or.inl ⟨by rfl, ?_⟩) hSS ?_
        rotate_left
        · intro w hSw
          (try have kc0 := hSw.1.cell); (try have kc1 := hSw.2.cell)
          go_simp
          all_goals with_reducible rfl
        simp only [Act.put, List.setIfInBounds_toArray, List.set_cons_zero, List.set_cons_succ, List.getElem_toArray, List.getElem_cons_zero, List.getElem_cons_succ]
        refine wpAnyE_take (i := 9) (v := ?_) rfl (by kernel_rfl) (by kernel_rfl) (by kernel_rfl) (by kernel_rfl) (fun _ _ _ h => h) (Or.inl ⟨by rfl, ?_⟩) hSS ?_
        rotate_left
        · intro w hSw
          (try have kc0 := hSw.1.cell); (try have kc1 := hSw.2.cell)
          go_simp
          all_goals with_reducible rfl
        simp only [Act.put, List.setIfInBounds_toArray, List.set_cons_zero, List.set_cons_succ, List.getElem_toArray, List.getElem_cons_zero, List.getElem_cons_succ]
        refine wpAnyE_take (i := 10) (v := ?_) rfl (by kernel_rfl) (by kernel_rfl) (by kernel_rfl) (by kernel_rfl) (fun _ _ _ h => h) (Or.inl ⟨by rfl, ?_⟩) hSS ?_
        rotate_left
        · intro w hSw
          (try have kc0 := hSw.1.cell); (try have kc1 := hSw.2.cell)
          go_simp
          all_goals with_reducible rfl
        simp only [Act.put, List.setIfInBounds_toArray, List.set_cons_zero, List.set_cons_succ, List.getElem_toArray, List.getElem_cons_zero, List.getElem_cons_succ]
        refine wpAnyE_take (i := 11) (v := undef) rfl (by kernel_rfl) (by kernel_rfl) (by kernel_rfl) (by kernel_rfl) (fun _ _ _ h => h) (Or.inr ⟨by rfl, rfl⟩) hSS ?_
        simp only [Act.put, List.setIfInBounds_toArray, List.set_cons_zero, List.set_cons_succ, List.getElem_toArray, List.getElem_cons_zero, List.getElem_cons_succ]
        refine wpAnyE_take (i := 12) (v := undef) rfl (by kernel_rfl) (by kernel_rfl) (by kernel_rfl) (by kernel_rfl) (fun _ _ _ h => h) (Or.inr ⟨by rfl, rfl⟩) hSS ?_
        simp only [Act.put, List.setIfInBounds_toArray, List.set_cons_zero, List.set_cons_succ, List.getElem_toArray, List.getElem_cons_zero, List.getElem_cons_succ]
        refine wpAnyE_take (i := 13) (v := undef) rfl (by kernel_rfl) (by kernel_rfl) (by kernel_rfl) (by kernel_rfl) (fun _ _ _ h => h) (Or.inr ⟨by rfl, rfl⟩) hSS ?_
        simp only [Act.put, List.setIfInBounds_toArray, List.set_cons_zero, List.set_cons_succ, List.getElem_toArray, List.getElem_cons_zero, List.getElem_cons_succ]
        refine wpAnyE_take (i := 14) (v := undef) rfl (by kernel_rfl) (by kernel_rfl) (by kernel_rfl) (by kernel_rfl) (fun _ _ _ h => h) (Or.inr ⟨by rfl, rfl⟩) hSS ?_
        simp only [Act.put, List.setIfInBounds_toArray, List.set_cons_zero, List.set_cons_succ, List.getElem_toArray, List.getElem_cons_zero, List.getElem_cons_succ]
        refine wpAnyE_take (i := 15) (v := undef) rfl (by kernel_rfl) (by kernel_rfl) (by kernel_rfl) (by kernel_rfl) (fun _ _ _ h => h) (Or.inr ⟨by rfl, rfl⟩) hSS ?_
        simp only [Act.put, List.setIfInBounds_toArray, List.set_cons_zero, List.set_cons_succ, List.getElem_toArray, List.getElem_cons_zero, List.getElem_cons_succ]
        refine wpAnyE_take (i := 16) (v := undef) rfl (by kernel_rfl) (by kernel_rfl) (by kernel_rfl) (by kernel_rfl) (fun _ _ _ h => h) (Or.inr ⟨by rfl, rfl⟩) hSS ?_
        simp only [Act.put, List.setIfInBounds_toArray, List.set_cons_zero, List.set_cons_succ, List.getElem_toArray, List.getElem_cons_zero, List.getElem_cons_succ]
        refine wpAnyE_take (i := 17) (v := ?_) rfl (by kernel_rfl) (by kernel_rfl) (by kernel_rfl) (by kernel_rfl) (fun _ _ _ h => h) (Or.inl ⟨by rfl, ?_⟩) hSS ?_
        rotate_left
        · intro w hSw
          (try have kc0 := hSw.1.cell); (try have kc1 := hSw.2.cell)
          go_simp
          all_goals with_reducible rfl
        simp only [Act.put, List.setIfInBounds_toArray, List.set_cons_zero, List.set_cons_succ, List.getElem_toArray, List.getElem_cons_zero, List.getElem_cons_succ]
        refine wpAnyE_end (by kernel_rfl) ?_
        have HK := Lib.hid hSS
        have z0 := (blk_cell hSS.tk.out 0).trans rfl
        have z1 := (blk_cell hSS.tk.out 1).trans rfl
        have z2 := (blk_cell hSS.tk.out 2).trans rfl
        simp at z0 z1 z2
        have zf0 := blk_free hSS.tk.out 0
        have zf1 := blk_free hSS.tk.out 1
        have zf2 := blk_free hSS.tk.out 2
        clear hSS
        go_wp2_with fail
        generalize hWF : World.setCell (World.setCell (World.setCell _ _ _) _ _) _ _ = WF
        have hfb : WF.heap[w.heap.size]? = some (.cells #[.int .i64 (0), .int .i64 (0), .int .i64 (0)] 48 (0, 0)) := by
          rw [← hWF]; exact blk_store (blk_store (blk_store HK.out.tk.out 0 _) 1 _) 2 _
        have hfl : Below w.heap.size w WF := by
          rw [← hWF]; exact ((HK.out.tk.low.setCell (Nat.le_refl _) _).setCell (Nat.le_refl _) _).setCell (Nat.le_refl _) _
        have y0 := (blk_cell hfb 0).trans rfl
        have y1 := (blk_cell hfb 1).trans rfl
        have y2 := (blk_cell hfb 2).trans rfl
        simp at y0 y1 y2
        exact bodyPost_ret (v := .tuple #[.agg #[.int .i64 (0), .int .i64 (0), .int .i64 (0)], .int .i64 (0), .int .i64 70]) (by simp [results, Tryd.results56, go_sem, y0, y1, y2]) rfl ⟨by rw [HD.out]; rfl, hfl⟩
    · have hd : decL l = none := by
        unfold decL; rw [hr, if_neg]
        rintro ⟨⟨a1, a2, a3, a4, a5, a6⟩, _⟩
        exact h1 ⟨by omega, by omega, by omega, by omega, by omega, by omega⟩
      have HD := Lib.hid hd
      clear hd
      rw [decide_eq_false h1] at HM
      go_wp2_with fail
      refine wp_region_early (KG b r w ⟨g, q, none⟩ l) (fun _ => false) (by kernel_rfl) ?_
      have hSS : KG b r w ⟨g, q, none⟩ l wc.drew := ⟨hSS.kept, hSS.tk.bytes, hSS.tk.low.drew, hSS.tk.out⟩
      generalize wc.drew = W4 at *
      simp only [List.size_toArray, List.length_cons, List.length_nil, Nat.reduceAdd, Array.replicate_succ, Array.replicate_zero, List.push_toArray, List.nil_append, List.cons_append]
      refine wpAnyE_take (i := 0) (v := ?_) rfl (by kernel_rfl) (by kernel_rfl) (by kernel_rfl) (by kernel_rfl) (fun _ _ _ h => h) (Or.inl ⟨by rfl, ?_⟩) hSS ?_
      rotate_left
      · intro w hSw
        obtain ⟨kc0, kc1, kc2, kc3⟩ := hSw.cells
        go_simp
        all_goals with_reducible rfl
      simp only [Act.put, List.setIfInBounds_toArray, List.set_cons_zero, List.set_cons_succ, List.getElem_toArray, List.getElem_cons_zero, List.getElem_cons_succ]
      refine wpAnyE_take (i := 1) (v := ?_) rfl (by kernel_rfl) (by kernel_rfl) (by kernel_rfl) (by kernel_rfl) (fun _ _ _ h => h) (Or.inl ⟨by rfl, ?_⟩) hSS ?_
      rotate_left
      · intro w hSw
        obtain ⟨kc0, kc1, kc2, kc3⟩ := hSw.cells
        go_simp
        all_goals with_reducible rfl
      simp only [Act.put, List.setIfInBounds_toArray, List.set_cons_zero, List.set_cons_succ, List.getElem_toArray, List.getElem_cons_zero, List.getElem_cons_succ]
      refine wpAnyE_one (i := 2) (by kernel_rfl) rfl ?_
      change wpList _ _ (Exit.then _ _) [_] _ _
      try simp only [List.setIfInBounds_toArray, List.set_cons_zero, List.set_cons_succ, List.getElem_toArray, List.getElem_cons_zero, List.getElem_cons_succ]
      go_wp2_with (go_at_call 65; refine (HM.out _).mono ?_; rintro e w4 ⟨rfl, hB4⟩)
      have hSS := hSS.below hB4
      refine ⟨fun _ => hSS, ?_⟩
      try simp only [List.setIfInBounds_toArray, List.set_cons_zero, List.set_cons_succ, List.getElem_toArray, List.getElem_cons_zero, List.getElem_cons_succ]
      refine wpAnyE_take (i := 3) (v := ?_) rfl (by kernel_rfl) (by kernel_rfl) (by kernel_rfl) (by kernel_rfl) (fun _ _ _ h => h) (Or.inl ⟨by rfl, ?_⟩) hSS ?_
      rotate_left
      · intro w hSw
        (try have kc0 := hSw.1.cell); (try have kc1 := hSw.2.cell)
        go_simp
        all_goals with_reducible rfl
      simp only [Act.put, List.setIfInBounds_toArray, List.set_cons_zero, List.set_cons_succ, List.getElem_toArray, List.getElem_cons_zero, List.getElem_cons_succ]
      refine wpAnyE_take (i := 4) (v := ?_) rfl (by kernel_rfl) (by kernel_rfl) (by kernel_rfl) (by kernel_rfl) (fun _ _ _ h => h) (Or.inl ⟨by rfl, ?_⟩) hSS ?_
      rotate_left
      · intro w hSw
        (try have kc0 := hSw.1.cell); (try have kc1 := hSw.2.cell)
        go_simp
        all_goals with_reducible rfl
      simp only [Act.put, List.setIfInBounds_toArray, List.set_cons_zero, List.set_cons_succ, List.getElem_toArray, List.getElem_cons_zero, List.getElem_cons_succ]
      refine wpAnyE_take (i := 5) (v := undef) rfl (by kernel_rfl) (by kernel_rfl) (by kernel_rfl) (by kernel_rfl) (fun _ _ _ h => h) (Or.inr ⟨by rfl, rfl⟩) hSS ?_
      simp only [Act.put, List.setIfInBounds_toArray, List.set_cons_zero, List.set_cons_succ, List.getElem_toArray, List.getElem_cons_zero, List.getElem_cons_succ]
      refine wpAnyE_take (i := 6) (v := undef) rfl (by kernel_rfl) (by kernel_rfl) (by kernel_rfl) (by kernel_rfl) (fun _ _ _ h => h) (Or.inr ⟨by rfl, rfl⟩) hSS ?_
      simp only [Act.put, List.setIfInBounds_toArray, List.set_cons_zero, List.set_cons_succ, List.getElem_toArray, List.getElem_cons_zero, List.getElem_cons_succ]
      refine wpAnyE_take (i := 7) (v := undef) rfl (by kernel_rfl) (by kernel_rfl) (by kernel_rfl) (by kernel_rfl) (fun _ _ _ h => h) (Or.inr ⟨by rfl, rfl⟩) hSS ?_
      simp only [Act.put, List.setIfInBounds_toArray, List.set_cons_zero, List.set_cons_succ, List.getElem_toArray, List.getElem_cons_zero, List.getElem_cons_succ]
      refine wpAnyE_take (i := 8) (v := undef) rfl (by kernel_rfl) (by kernel_rfl) (by kernel_rfl) (by kernel_rfl) (fun _ _ _ h => h) (Or.inr ⟨by rfl, rfl⟩) hSS ?_
      simp only [Act.put, List.setIfInBounds_toArray, List.set_cons_zero, List.set_cons_succ, List.getElem_toArray, List.getElem_cons_zero, List.getElem_cons_succ]
      refine wpAnyE_take (i := 9) (v := ?_) rfl (by kernel_rfl) (by kernel_rfl) (by kernel_rfl) (by kernel_rfl) (fun _ _ _ h => h) (Or.inl ⟨by rfl, ?_⟩) hSS ?_
      rotate_left
      · intro w hSw
        (try have kc0 := hSw.1.cell); (try have kc1 := hSw.2.cell)
        go_simp
        all_goals with_reducible rfl
      simp only [Act.put, List.setIfInBounds_toArray, List.set_cons_zero, List.set_cons_succ, List.getElem_toArray, List.getElem_cons_zero, List.getElem_cons_succ]
      refine wpAnyE_take (i := 10) (v := ?_) rfl (by kernel_rfl) (by kernel_rfl) (by kernel_rfl) (by kernel_rfl) (fun _ _ _ h => h) (Or.inl ⟨by rfl, ?_⟩) hSS ?_
      rotate_left
      · intro w hSw
        (try have kc0 := hSw.1.cell); (try have kc1 := hSw.2.cell)
        go_simp
        all_goals with_reducible rfl
      simp only [Act.put, List.setIfInBounds_toArray, List.set_cons_zero, List.set_cons_succ, List.getElem_toArray, List.getElem_cons_zero, List.getElem_cons_succ]
      refine wpAnyE_take (i := 11) (v := undef) rfl (by kernel_rfl) (by kernel_rfl) (by kernel_rfl) (by kernel_rfl) (fun _ _ _ h => h) (Or.inr ⟨by rfl, rfl⟩) hSS ?_
      simp only [Act.put, List.setIfInBounds_toArray, List.set_cons_zero, List.set_cons_succ, List.getElem_toArray, List.getElem_cons_zero, List.getElem_cons_succ]
      refine wpAnyE_take (i := 12) (v := undef) rfl (by kernel_rfl) (by kernel_rfl) (by kernel_rfl) (by kernel_rfl) (fun _ _ _ h => h) (Or.inr ⟨by rfl, rfl⟩) hSS ?_
      simp only [Act.put, List.setIfInBounds_toArray, List.set_cons_zero, List.set_cons_succ, List.getElem_toArray, List.getElem_cons_zero, List.getElem_cons_succ]
      refine wpAnyE_take (i := 13) (v := undef) rfl (by kernel_rfl) (by kernel_rfl) (by kernel_rfl) (by kernel_rfl) (fun _ _ _ h => h) (Or.inr ⟨by rfl, rfl⟩) hSS ?_
      simp only [Act.put, List.setIfInBounds_toArray, List.set_cons_zero, List.set_cons_succ, List.getElem_toArray, List.getElem_cons_zero, List.getElem_cons_succ]
      refine wpAnyE_take (i := 14) (v := undef) rfl (by kernel_rfl) (by kernel_rfl) (by kernel_rfl) (by kernel_rfl) (fun _ _ _ h => h) (Or.inr ⟨by rfl, rfl⟩) hSS ?_
      simp only [Act.put, List.setIfInBounds_toArray, List.set_cons_zero, List.set_cons_succ, List.getElem_toArray, List.getElem_cons_zero, List.getElem_cons_succ]
      refine wpAnyE_take (i := 15) (v := undef) rfl (by kernel_rfl) (by kernel_rfl) (by kernel_rfl) (by kernel_rfl) (fun _ _ _ h => h) (Or.inr ⟨by rfl, rfl⟩) hSS ?_
      simp only [Act.put, List.setIfInBounds_toArray, List.set_cons_zero, List.set_cons_succ, List.getElem_toArray, List.getElem_cons_zero, List.getElem_cons_succ]
      refine wpAnyE_take (i := 16) (v := undef) rfl (by kernel_rfl) (by kernel_rfl) (by kernel_rfl) (by kernel_rfl) (fun _ _ _ h => h) (Or.inr ⟨by rfl, rfl⟩) hSS ?_
      simp only [Act.put, List.setIfInBounds_toArray, List.set_cons_zero, List.set_cons_succ, List.getElem_toArray, List.getElem_cons_zero, List.getElem_cons_succ]
      refine wpAnyE_take (i := 17) (v := ?_) rfl (by kernel_rfl) (by kernel_rfl) (by kernel_rfl) (by kernel_rfl) (fun _ _ _ h => h) (Or.inl ⟨by rfl, ?_⟩) hSS ?_
      rotate_left
      · intro w hSw
        (try have kc0 := hSw.1.cell); (try have kc1 := hSw.2.cell)
        go_simp
        all_goals with_reducible rfl
      simp only [Act.put, List.setIfInBounds_toArray, List.set_cons_zero, List.set_cons_succ, List.getElem_toArray, List.getElem_cons_zero, List.getElem_cons_succ]
      refine wpAnyE_end (by kernel_rfl) ?_
      have HK := Lib.hid hSS
      have z0 := (blk_cell hSS.tk.out 0).trans rfl
      have z1 := (blk_cell hSS.tk.out 1).trans rfl
      have z2 := (blk_cell hSS.tk.out 2).trans rfl
      simp at z0 z1 z2
      have zf0 := blk_free hSS.tk.out 0
      have zf1 := blk_free hSS.tk.out 1
      have zf2 := blk_free hSS.tk.out 2
      clear hSS
      go_wp2_with fail
      generalize hWF : World.setCell (World.setCell (World.setCell _ _ _) _ _) _ _ = WF
      have hfb : WF.heap[w.heap.size]? = some (.cells #[.int .i64 (0), .int .i64 (0), .int .i64 (0)] 48 (0, 0)) := by
        rw [← hWF]; exact blk_store (blk_store (blk_store HK.out.tk.out 0 _) 1 _) 2 _
      have hfl : Below w.heap.size w WF := by
        rw [← hWF]; exact ((HK.out.tk.low.setCell (Nat.le_refl _) _).setCell (Nat.le_refl _) _).setCell (Nat.le_refl _) _
      have y0 := (blk_cell hfb 0).trans rfl
      have y1 := (blk_cell hfb 1).trans rfl
      have y2 := (blk_cell hfb 2).trans rfl
      simp at y0 y1 y2
      exact bodyPost_ret (v := .tuple #[.agg #[.int .i64 (0), .int .i64 (0), .int .i64 (0)], .int .i64 (0), .int .i64 70]) (by simp [results, Tryd.results56, go_sem, y0, y1, y2]) rfl ⟨by rw [HD.out]; rfl, hfl⟩
end Go.Proofs.YtppmiggkknhdkaaDoor
namespace Go.Proofs.YtppmiggkknhdkaaDoor
set_option linter.unusedVariables false
set_option linter.unusedSimpArgs false
open Go.RowKit

def bestK (bs : List Nat) : Nat → Rc × Int
  | 0 => (Rc.zero, -1)
  | k + 1 => pick (bestK bs k) k (decL (slotB bs k))
theorem bestK_two (bs : List Nat) : bestK bs 2 = bestL bs := rfl
def keptC (r : Rc) : Array Value := #[.int .i64 (r.life : Int), .int .i64 (r.round : Int), .int .i64 (r.tag : Int), .int .i64 (r.seq : Int)]
structure LdI (w : World) (b : Nat) (d : Dk) (r : Rc) (W : World) : Prop where
  disk : DkAt W b d
  res : W.heap[w.heap.size]? = some (.cells #[.int .i64 0, .int .i64 0, .int .i64 0, .int .i64 0] 92 (0, 0))
  best : W.heap[w.heap.size + 1]? = some (.cells #[.int .i64 (r.life : Int), .int .i64 (r.round : Int), .int .i64 (r.tag : Int), .int .i64 (r.seq : Int)] 92 (0, 0))
  low : Below w.heap.size w W
theorem LdI.below {w W W' : World} {b : Nat} {d : Dk} {r : Rc} (h : LdI w b d r W) (hb : Below W.heap.size W W') : LdI w b d r W' := ⟨h.disk.below hb, blk_below' hb h.res, blk_below' hb h.best, below_then h.low hb⟩
theorem LdI.put {w W : World} {b : Nat} {d : Dk} {r : Rc} (h : LdI w b d r W) (hb : b < w.heap.size) (q : Rc) :
    LdI w b d q ((((W.setCell ⟨w.heap.size + 1, 0, none⟩ (.int .i64 (q.life : Int))).setCell ⟨w.heap.size + 1, 1, none⟩ (.int .i64 (q.round : Int))).setCell ⟨w.heap.size + 1, 2, none⟩ (.int .i64 (q.tag : Int))).setCell ⟨w.heap.size + 1, 3, none⟩ (.int .i64 (q.seq : Int))) := by
  have hlt := blk_lt h.best
  have hgr : W.grownBy ((((W.setCell ⟨w.heap.size + 1, 0, none⟩ (.int .i64 (q.life : Int))).setCell ⟨w.heap.size + 1, 1, none⟩ (.int .i64 (q.round : Int))).setCell ⟨w.heap.size + 1, 2, none⟩ (.int .i64 (q.tag : Int))).setCell ⟨w.heap.size + 1, 3, none⟩ (.int .i64 (q.seq : Int))) (some (w.heap.size + 1)) :=
    but_set (but_set (but_set (but_set (but_refl _ _) hlt _ _) hlt _ _) hlt _ _) hlt _ _
  exact ⟨h.disk.but hgr (by omega), blk_grown hgr h.res (by simp), blk_store (blk_store (blk_store (blk_store h.best 0 _) 1 _) 2 _) 3 _, h.low.grown hgr h.low.size (fun j hj => by cases hj; omega)⟩
theorem slotB_get {bs : List Nat} (h : bs.length = 256) {k : Nat} (hk : k < 4) : (slotB bs k).length = 64 := by
  unfold slotB; rw [List.length_append, rowS_len h (by omega), rowS_len h (by omega)]
theorem rowS_lt {bs : List Nat} (h : ∀ c ∈ bs, c < 256) (s : Nat) : ∀ c ∈ rowS bs s, c < 256 := fun c hc => h c (List.mem_of_mem_drop (List.mem_of_mem_take hc))
theorem slotB_lt {bs : List Nat} (h : ∀ c ∈ bs, c < 256) (k : Nat) : ∀ c ∈ slotB bs k, c < 256 := by
  intro c hc
  rcases List.mem_append.1 hc with hc | hc
  · exact rowS_lt h _ c hc
  · exact rowS_lt h _ c hc
theorem blk4 {W : World} {b : Nat} {x y z s : Value} {t : TypeId} (h : W.heap[b]? = some (.cells #[x, y, z, s] t (0, 0))) :
    W.cell? ⟨b, 0, none⟩ = some x ∧ W.cell? ⟨b, 1, none⟩ = some y ∧ W.cell? ⟨b, 2, none⟩ = some z ∧ W.cell? ⟨b, 3, none⟩ = some s ∧ W.frozen? ⟨b, 0, none⟩ = false ∧ W.frozen? ⟨b, 1, none⟩ = false ∧ W.frozen? ⟨b, 2, none⟩ = false ∧ W.frozen? ⟨b, 3, none⟩ = false :=
  ⟨(blk_cell h 0).trans rfl, (blk_cell h 1).trans rfl, (blk_cell h 2).trans rfl, (blk_cell h 3).trans rfl, blk_free h 0, blk_free h 1, blk_free h 2, blk_free h 3⟩
theorem blk3 {W : World} {b : Nat} {x y z : Value} {t : TypeId} (h : W.heap[b]? = some (.cells #[x, y, z] t (0, 0))) :
    W.cell? ⟨b, 0, none⟩ = some x ∧ W.cell? ⟨b, 1, none⟩ = some y ∧ W.cell? ⟨b, 2, none⟩ = some z ∧ W.frozen? ⟨b, 0, none⟩ = false ∧ W.frozen? ⟨b, 1, none⟩ = false ∧ W.frozen? ⟨b, 2, none⟩ = false :=
  ⟨(blk_cell h 0).trans rfl, (blk_cell h 1).trans rfl, (blk_cell h 2).trans rfl, blk_free h 0, blk_free h 1, blk_free h 2⟩
def ldA (d : Dk) : Value := if d.off then .tuple #[keptV Rc.zero, .int .i64 (-1), .int .i64 100] else .tuple #[keptV (bestL d.bs).1, .int .i64 (bestL d.bs).2, .int .i64 0]
theorem ld_end {w W : World} {d : Dk} {a : Act} {x y z s i c : Int} (hd : a.defers = []) (h2 : a.tmps[2]?.getD undef = .pointer (some ⟨w.heap.size, 0, none⟩)) (h3 : a.tmps[3]?.getD undef = .int .i64 i) (h4 : a.tmps[4]?.getD undef = .int .i64 c)
    (hb : W.heap[w.heap.size]? = some (.cells #[.int .i64 x, .int .i64 y, .int .i64 z, .int .i64 s] 92 (0, 0))) (hl : Below w.heap.size w W)
    (he : .tuple #[.agg #[.int .i64 x, .int .i64 y, .int .i64 z, .int .i64 s], .int .i64 i, .int .i64 c] = ldA d) :
    bodyPost Tryd.prog Tryd.f36 (fun e w' => e = .returned (ldA d) ∧ Below w.heap.size w w') Exit.ret a W := by
  obtain ⟨y0, y1, y2, y3, _⟩ := blk4 hb
  refine bodyPost_ret (v := .tuple #[.agg #[.int .i64 x, .int .i64 y, .int .i64 z, .int .i64 s], .int .i64 i, .int .i64 c]) ?_ hd ⟨by rw [he], hl⟩
  simp [results, Tryd.results36, go_sem, h2, h3, h4, y0, y1, y2, y3]
set_option maxRecDepth 100000 in
set_option maxHeartbeats 2000000 in
theorem ld_any (b : Nat) (d : Dk) (w : World) (h : DkAt w b d) (hlt : ∀ c ∈ d.bs, c < 256) :
    Calls Tryd.prog 36 #[.pointer (some ⟨b, 0, none⟩)] w fun e w' => e = .returned (ldA d) ∧ Below w.heap.size w w' := by
  obtain ⟨i0, hi, hz0, hz1, hz2⟩ := info_parts Tryd.infoByte
  have hI : LdI w b d Rc.zero ((w.alloc (.cells #[.int .i64 0, .int .i64 0, .int .i64 0, .int .i64 0] 92)).alloc (.cells #[.int .i64 0, .int .i64 0, .int .i64 0, .int .i64 0] 92)) :=
    ⟨(h.below ((Below.refl _ w).alloc (Nat.le_refl _) _)).below ((Below.refl _ _).alloc (Nat.le_refl _) _), blk_old (blk_new w _) _, b1' w _ _, ((Below.refl _ w).alloc (Nat.le_refl _) _).alloc (by simp) _⟩
  have HLT := Lib.hid hlt
  have HLEN := Lib.hid h.2
  have HBW := Lib.hid h.lt
  clear h hlt
  go_enter Tryd.func36, Tryd.ntmps36
  go_wp2_with fail
  go_loopw [6, 14] (fun av i wr => ∃ (k : Nat), i = .int .i64 k ∧ k ≤ 2 ∧ av = .int .i64 (bestK d.bs k).2 ∧ LdI w b d (bestK d.bs k).1 wr ∧ (k = 0 ∨ d.off = false)) (fun _ i _ => 2 - (intOf i).toNat)
  case atStart => exact ⟨0, rfl, by omega, rfl, hI, .inl rfl⟩
  case round =>
    obtain ⟨k, rfl, hk, rfl, hI, hoff⟩ := hrel
    by_cases hlt : k < 2
    · have i1 : (k : Int) < 2 := by omega
      have i2 : (0 : Int) ≤ (k : Int) := by omega
      have i3 : (k : Int).toNat = k := Int.toNat_natCast k
      go_wp2_with fail
      refine (read_any b d (2 * (k : Int)) wr hI.disk).mono ?_
      rintro e w1 ⟨v1, rfl, hno, hv1, hB1⟩
      have hI1 := hI.below hB1
      by_cases ho : d.off = true
      · have hm : mayV d (2 * (k : Int)) = 100 := by unfold mayV; rw [ho]; rfl
        have hvn := hno (by rw [hm]; decide)
        subst hvn
        rw [hm]
        obtain rfl : k = 0 := by rcases hoff with h | h; exact h; rw [ho] at h; cases h
        obtain ⟨z0, z1, z2, z3, f0, f1, f2, f3⟩ := blk4 hI1.res
        go_wp2_with fail
        generalize hWF : World.setCell (World.setCell (World.setCell (World.setCell _ _ _) _ _) _ _) _ _ = WF
        refine ld_end (x := 0) (y := 0) (z := 0) (s := 0) (i := -1) (c := 100) rfl rfl rfl rfl ?_ ?_ ?_
        · rw [← hWF]; exact blk_store (blk_store (blk_store (blk_store hI1.res 0 _) 1 _) 2 _) 3 _
        · rw [← hWF]; exact (((hI1.low.setCell (Nat.le_refl _) _).setCell (Nat.le_refl _) _).setCell (Nat.le_refl _) _).setCell (Nat.le_refl _) _
        · unfold ldA; rw [if_pos ho]; rfl
      · have ho : d.off = false := by simpa using ho
        have hm : mayV d (2 * (k : Int)) = 0 := by unfold mayV; rw [ho, if_neg (by decide), if_neg (by omega)]
        have hm2 : mayV d (2 * (k : Int) + 1) = 0 := by unfold mayV; rw [ho, if_neg (by decide), if_neg (by omega)]
        have hr1 := hv1 hm
        rw [hm]
        rw [show (2 * (k : Int)).toNat = 2 * k from by omega] at hr1
        have hr1 : w1.ownsRow wr.heap.size 5 1 v1 32 (bC (rowS d.bs (2 * k))) := hr1
        clear hno hv1 hm
        go_wp2_with fail
        refine (read_any b d (2 * (k : Int) + 1) w1 hI1.disk).mono ?_
        rintro e w2 ⟨v2, rfl, _, hv2, hB2⟩
        have hI2 := hI1.below hB2
        have hr2 := hv2 hm2
        rw [hm2]
        rw [show (2 * (k : Int) + 1).toNat = 2 * k + 1 from by omega] at hr2
        have hr2 : w2.ownsRow w1.heap.size 5 1 v2 32 (bC (rowS d.bs (2 * k + 1))) := hr2
        have hr1 := ownsRow_below hr1 hB2
        obtain ⟨g2, c2, rfl, hg21, hg22⟩ := ownsRow_pos hr2 (by omega)
        have hp2 := row_all hr2 (rowS_len HLEN.out (show 2 * k + 1 < 8 by omega))
        have hsz1 := hB1.size
        have hsz2 := hB2.size
        clear hv2 hm2
        go_wp2_with (at_builtin; refine wpList_append_own _ rfl _ _ 110 rfl wr.heap.size 5 i0 (.int .u8 0) 1 1 Tryd.underlying110 hi hz0 hz1 hz2 rfl (by decide) _ _ _ rfl hr1 ⟨g2, 0, none⟩ 32 c2 (bC (rowS d.bs (2 * k + 1))) rfl ?a1 ?a2 ?a3 ?a4 ?a5 ?a6 ?_)
        case a1 => rw [bC_len, rowS_len HLEN.out (by omega)]
        case a2 => intro j u hu; rw [bC_get] at hu; obtain ⟨x, hx, rfl⟩ := Option.map_eq_some_iff.1 hu; obtain ⟨q, h1, h2⟩ := hp2 j x hx; cases h1; exact h2
        case a3 => exact bC_one _
        case a4 => unfold maxLen; omega
        case a5 => omega
        case a6 => omega
        intro v3 w3 hown3 hg3 hv3
        have hb3 : Below wr.heap.size wr w3 := (below_then hB1 hB2).grown hg3 (by omega) (fun j hj => (hr1.lt _ hj).1)
        have hI3 := hI.below hb3
        have hown4 : w3.ownsRow wr.heap.size 5 1 v3 64 (bC (slotB d.bs k)) := by
          have : bC (slotB d.bs k) = bC (rowS d.bs (2 * k)) ++ bC (rowS d.bs (2 * k + 1)) := by unfold slotB bC; rw [List.map_append]
          rw [this]; exact hown3
        obtain ⟨g3, c3, rfl, hg31, hg32⟩ := ownsRow_pos hown4 (by omega)
        have hp3 := row_all hown4 (slotB_get HLEN.out (show k < 4 by omega))
        have hcp3 := row_cap hown4
        have HDE := Lib.hid (decode_any g3 0 c3 (slotB d.bs k) (slotB_get HLEN.out (by omega)) (slotB_lt HLT.out k) hcp3 w3 hp3 hg32)
        clear hown3 hown4 hg3 hp2 hr1 hr2 hI1 hI2 hI hp3
        cases hd : decL (slotB d.bs k) with
        | none =>
          rw [hd] at HDE
          unfold decA recV at HDE
          have hbk : bestK d.bs (k + 1) = bestK d.bs k := by show pick _ _ _ = _; rw [hd]; rfl
          have HBK := Lib.hid hbk
          clear hd hbk
          go_wp2_with (go_at_call 56; refine HDE.out.mono ?_; rintro e w4 ⟨rfl, hB4⟩)
          go_roundw
          case rel =>
            refine ⟨k + 1, by go_num, by omega, by rw [HBK.out], ?_, .inr ho⟩
            rw [HBK.out]
            exact (hI3.below hB4).below ((Below.refl _ _).alloc (Nat.le_refl _) _)
          case measure => simp [intOf]; omega
        | some r =>
          rw [hd] at HDE
          unfold decA recV at HDE
          obtain ⟨y0, y1, y2, y3, f0, f1, f2, f3⟩ := blk4 hI3.best
          by_cases hgt : (bestK d.bs k).1.seq < r.seq
          · have hgi : ((bestK d.bs k).1.seq : Int) < (r.seq : Int) := by omega
            have hbk : bestK d.bs (k + 1) = (r, (k : Int)) := by show pick _ _ _ = _; rw [hd]; unfold pick; simp only; rw [if_pos hgt]
            have HBK := Lib.hid hbk
            clear hd hbk hgt y0 y1 y2 y3 f0 f1 f2 f3
            go_wp2_with (go_at_call 56; refine HDE.out.mono ?_; rintro e w4 ⟨rfl, hB4⟩; obtain ⟨y0, y1, y2, y3, f0, f1, f2, f3⟩ := blk4 (hI3.below hB4).best; have hs4 := blk_lt (hI3.below hB4).best)
            have hI4 := hI3.below hB4
            go_roundw
            case rel =>
              refine ⟨k + 1, by go_num, by omega, by rw [HBK.out], ?_, .inr ho⟩
              rw [HBK.out]
              exact (hI4.put HBW.out r).below ((Below.refl _ _).alloc (Nat.le_refl _) _)
            case measure => simp [intOf]; omega
          · have hgi : ¬ ((bestK d.bs k).1.seq : Int) < (r.seq : Int) := by omega
            have hbk : bestK d.bs (k + 1) = bestK d.bs k := by show pick _ _ _ = _; rw [hd]; unfold pick; simp only; rw [if_neg hgt]
            have HBK := Lib.hid hbk
            clear hd hbk hgt y0 y1 y2 y3 f0 f1 f2 f3
            go_wp2_with (go_at_call 56; refine HDE.out.mono ?_; rintro e w4 ⟨rfl, hB4⟩; obtain ⟨y0, y1, y2, y3, f0, f1, f2, f3⟩ := blk4 (hI3.below hB4).best; have hs4 := blk_lt (hI3.below hB4).best)
            go_roundw
            case rel =>
              refine ⟨k + 1, by go_num, by omega, by rw [HBK.out], ?_, .inr ho⟩
              rw [HBK.out]
              exact (hI3.below hB4).below ((Below.refl _ _).alloc (Nat.le_refl _) _)
            case measure => simp [intOf]; omega
    · obtain rfl : k = 2 := by omega
      rw [bestK_two] at hI ⊢
      obtain ⟨z0, z1, z2, z3, f0, f1, f2, f3⟩ := blk4 hI.res
      obtain ⟨y0, y1, y2, y3, _⟩ := blk4 hI.best
      have hoff : d.off = false := by rcases hoff with h | h; cases h; exact h
      go_wp2_with fail
      generalize hWF : World.setCell (World.setCell (World.setCell (World.setCell _ _ _) _ _) _ _) _ _ = WF
      refine ld_end (x := ((bestL d.bs).1.life : Int)) (y := ((bestL d.bs).1.round : Int)) (z := ((bestL d.bs).1.tag : Int)) (s := ((bestL d.bs).1.seq : Int)) (i := (bestL d.bs).2) (c := 0) rfl rfl rfl rfl ?_ ?_ ?_
      · rw [← hWF]; exact blk_store (blk_store (blk_store (blk_store hI.res 0 _) 1 _) 2 _) 3 _
      · rw [← hWF]; exact (((hI.low.setCell (Nat.le_refl _) _).setCell (Nat.le_refl _) _).setCell (Nat.le_refl _) _).setCell (Nat.le_refl _) _
      · unfold ldA; rw [if_neg (by rw [hoff]; decide)]; rfl
end Go.Proofs.YtppmiggkknhdkaaDoor
namespace Go.Proofs.YtppmiggkknhdkaaDoor
set_option linter.unusedVariables false
set_option linter.unusedSimpArgs false
open Go.RowKit

def loadA (d : Dk) : Value := if d.off then .tuple #[recV 0 0 0, .int .i64 0, .int .i64 100] else if (bestL d.bs).2 < 0 then .tuple #[recV 0 0 0, .int .i64 0, .int .i64 40] else .tuple #[recV (bestL d.bs).1.life (bestL d.bs).1.round (bestL d.bs).1.tag, .int .i64 (bestL d.bs).1.seq, .int .i64 0]
theorem load_end {w W : World} {A : Value} {a : Act} {x y z i c : Int} (hd : a.defers = []) (h2 : a.tmps[2]?.getD undef = .pointer (some ⟨w.heap.size, 0, none⟩)) (h3 : a.tmps[3]?.getD undef = .int .i64 i) (h4 : a.tmps[4]?.getD undef = .int .i64 c)
    (hb : W.heap[w.heap.size]? = some (.cells #[.int .i64 x, .int .i64 y, .int .i64 z] 48 (0, 0))) (hl : Below w.heap.size w W)
    (he : .tuple #[.agg #[.int .i64 x, .int .i64 y, .int .i64 z], .int .i64 i, .int .i64 c] = A) :
    bodyPost Tryd.prog Tryd.f19 (fun e w' => e = .returned A ∧ Below w.heap.size w w') Exit.ret a W := by
  obtain ⟨y0, y1, y2, _⟩ := blk3 hb
  refine bodyPost_ret (v := .tuple #[.agg #[.int .i64 x, .int .i64 y, .int .i64 z], .int .i64 i, .int .i64 c]) ?_ hd ⟨by rw [he], hl⟩
  simp [results, Tryd.results19, go_sem, h2, h3, h4, y0, y1, y2]
set_option maxRecDepth 100000 in
set_option maxHeartbeats 2000000 in
theorem load_any (b : Nat) (d : Dk) (w : World) (h : DkAt w b d) (hlt : ∀ c ∈ d.bs, c < 256) :
    Calls Tryd.prog 19 #[.pointer (some ⟨b, 0, none⟩)] w fun e w' => e = .returned (loadA d) ∧ Below w.heap.size w w' := by
  obtain ⟨A, hA⟩ : ∃ A, loadA d = A := ⟨_, rfl⟩
  rw [hA]
  have hb0 : Below w.heap.size w (w.alloc (.cells #[.int .i64 0, .int .i64 0, .int .i64 0] 48)) := (Below.refl _ w).alloc (Nat.le_refl _) _
  have HL := Lib.hid (ld_any b d _ (h.below hb0) hlt)
  have hr0 := box3 w (.int .i64 0) (.int .i64 0) (.int .i64 0) 48
  unfold loadA at hA
  have HA := Lib.hid hA
  unfold ldA keptV at HL
  clear hA h hlt
  cases ho : d.off with
  | true =>
    rw [ho] at HL HA
    simp only [if_true] at HL HA
    go_enter Tryd.func19, Tryd.ntmps19
    go_wp2_with (go_at_call 36; refine HL.out.mono ?_; rintro e w1 ⟨rfl, hB1⟩; have hr1 := blk_below' hB1 hr0; have hb1 := below_then hb0 hB1; have hr2 := blk_old hr1 (.cells #[.int .i64 (Rc.zero.life : Int), .int .i64 (Rc.zero.round : Int), .int .i64 (Rc.zero.tag : Int), .int .i64 (Rc.zero.seq : Int)] 92); have hb2 := hb1.alloc hb1.size (.cells #[.int .i64 (Rc.zero.life : Int), .int .i64 (Rc.zero.round : Int), .int .i64 (Rc.zero.tag : Int), .int .i64 (Rc.zero.seq : Int)] 92); obtain ⟨z0, z1, z2, f0, f1, f2⟩ := blk3 hr1; have hlt1 := blk_lt hr1)
    generalize hWF : World.alloc (World.setCell (World.setCell (World.setCell _ _ _) _ _) _ _) _ = WF
    refine load_end (x := 0) (y := 0) (z := 0) (i := 0) (c := 100) rfl rfl rfl rfl ?_ ?_ HA.out
    · rw [← hWF]; exact blk_old (blk_store (blk_store (blk_store hr1 0 _) 1 _) 2 _) _
    · rw [← hWF]; exact (((hb1.setCell (Nat.le_refl _) _).setCell (Nat.le_refl _) _).setCell (Nat.le_refl _) _).alloc (by simpa using hb1.size) _
  | false =>
    rw [ho] at HL HA
    simp only [Bool.false_eq_true, if_false] at HL HA
    generalize bestL d.bs = B at *
    obtain ⟨r, i⟩ := B
    simp only at HL HA
    by_cases hi : i < 0
    · rw [if_pos hi] at HA
      go_enter Tryd.func19, Tryd.ntmps19
      go_wp2_with (go_at_call 36; refine HL.out.mono ?_; rintro e w1 ⟨rfl, hB1⟩; have hr1 := blk_below' hB1 hr0; have hb1 := below_then hb0 hB1; have hr2 := blk_old hr1 (.cells #[.int .i64 (r.life : Int), .int .i64 (r.round : Int), .int .i64 (r.tag : Int), .int .i64 (r.seq : Int)] 92); have hb2 := hb1.alloc hb1.size (.cells #[.int .i64 (r.life : Int), .int .i64 (r.round : Int), .int .i64 (r.tag : Int), .int .i64 (r.seq : Int)] 92); obtain ⟨z0, z1, z2, f0, f1, f2⟩ := blk3 hr1; have hlt1 := blk_lt hr1)
      generalize hWF : World.alloc (World.setCell (World.setCell (World.setCell _ _ _) _ _) _ _) _ = WF
      refine load_end (x := 0) (y := 0) (z := 0) (i := 0) (c := 40) rfl rfl rfl rfl ?_ ?_ HA.out
      · rw [← hWF]; exact blk_old (blk_store (blk_store (blk_store hr1 0 _) 1 _) 2 _) _
      · rw [← hWF]; exact (((hb1.setCell (Nat.le_refl _) _).setCell (Nat.le_refl _) _).setCell (Nat.le_refl _) _).alloc (by simpa using hb1.size) _
    · rw [if_neg hi] at HA
      go_enter Tryd.func19, Tryd.ntmps19
      go_wp2_with (go_at_call 36; refine HL.out.mono ?_; rintro e w1 ⟨rfl, hB1⟩; have hr1 := blk_below' hB1 hr0; have hb1 := below_then hb0 hB1; have hr2 := blk_old hr1 (.cells #[.int .i64 (r.life : Int), .int .i64 (r.round : Int), .int .i64 (r.tag : Int), .int .i64 (r.seq : Int)] 92); have hb2 := hb1.alloc hb1.size (.cells #[.int .i64 (r.life : Int), .int .i64 (r.round : Int), .int .i64 (r.tag : Int), .int .i64 (r.seq : Int)] 92); obtain ⟨z0, z1, z2, f0, f1, f2⟩ := blk3 hr1; have hlt1 := blk_lt hr1)
      obtain ⟨W2, hW2⟩ : ∃ W2, w1.alloc (.cells #[.int .i64 (r.life : Int), .int .i64 (r.round : Int), .int .i64 (r.tag : Int), .int .i64 (r.seq : Int)] 92) = W2 := ⟨_, rfl⟩
      have hk2 := blk_new w1 (.cells #[.int .i64 (r.life : Int), .int .i64 (r.round : Int), .int .i64 (r.tag : Int), .int .i64 (r.seq : Int)] 92)
      rw [hW2] at hr2 hb2 hk2 ⊢
      obtain ⟨y0, y1, y2, y3, _⟩ := blk4 hk2
      obtain ⟨x0, x1, x2, g0, g1, g2⟩ := blk3 hr2
      have hne : ¬ w1.heap.size = w.heap.size := by omega
      have hne2 : ¬ w.heap.size = w1.heap.size := by omega
      clear hW2 z0 z1 z2 f0 f1 f2 hr1 hb1 hk2 hr0 hb0
      go_region
      all_goals (go_wp2_with fail)
      generalize hWF : World.setCell (World.setCell (World.setCell _ _ _) _ _) _ _ = WF
      refine load_end (x := (r.life : Int)) (y := (r.round : Int)) (z := (r.tag : Int)) (i := (r.seq : Int)) (c := 0) rfl rfl rfl rfl ?_ ?_ HA.out
      · rw [← hWF]; exact blk_store (blk_store (blk_store hr2 0 _) 1 _) 2 _
      · rw [← hWF]; exact (((hb2.setCell (Nat.le_refl _) _).setCell (Nat.le_refl _) _).setCell (Nat.le_refl _) _).drew
/-- The writes of a save, one behind the other. -/
def svK (d : Dk) (q0 : Nat) (l : List Nat) : Nat → Dk × Int
  | 0 => (d, 0)
  | k + 1 => if (svK d q0 l k).2 = 0 then wrV (svK d q0 l k).1 ((2 * q0 + k : Nat) : Int) ((l.drop (k * 32)).take 32) else svK d q0 l k
theorem wrV_fuse (d : Dk) (s : Int) (l : List Nat) : (wrV d s l).1.fuse ≤ d.fuse ∧ (wrV d s l).1.writes ≤ d.writes + 1 := by
  unfold wrV
  split <;> (try split) <;> (try split) <;> (try split) <;> first | exact ⟨Nat.le_refl _, Nat.le_succ _⟩ | exact ⟨Nat.le_refl _, Nat.le_refl _⟩ | exact ⟨Nat.sub_le _ _, Nat.le_refl _⟩
theorem svK_size (d : Dk) (q0 : Nat) (l : List Nat) : ∀ k, (svK d q0 l k).1.fuse ≤ d.fuse ∧ (svK d q0 l k).1.writes ≤ d.writes + k
  | 0 => ⟨Nat.le_refl _, Nat.le_refl _⟩
  | k + 1 => by
    have h := svK_size d q0 l k
    unfold svK
    split
    · have h2 := wrV_fuse (svK d q0 l k).1 ((2 * q0 + k : Nat) : Int) ((l.drop (k * 32)).take 32)
      omega
    · omega
theorem svK_stop {d : Dk} {q0 : Nat} {l : List Nat} {k : Nat} (hk : k < 2) (h : (svK d q0 l (k + 1)).2 ≠ 0) : svK d q0 l 2 = svK d q0 l (k + 1) := by
  match k, hk with
  | 0, _ => show (if (svK d q0 l 1).2 = 0 then _ else svK d q0 l 1) = _; rw [if_neg h]
  | 1, _ => rfl
theorem svK_next {d : Dk} {q0 : Nat} {l : List Nat} {k : Nat} (h : (svK d q0 l k).2 = 0) : svK d q0 l (k + 1) = wrV (svK d q0 l k).1 ((2 * q0 + k : Nat) : Int) ((l.drop (k * 32)).take 32) := if_pos h
/-- What Save does behind its questions. -/
def svT (d : Dk) (a b c : Int) : Dk × Int := svK d (toL d.bs) (nxL d.bs a b c) 2
def saveW (d : Dk) (a b c : Int) : Dk × Int :=
  if mayR a b c then
    if d.off then (d, 100)
    else if 1099511627776 ≤ (bestL d.bs).1.seq then (d, 120)
    else svT d a b c
  else (d, 1)
theorem pick_seq (b : Rc × Int) (i : Int) (o : Option Rc) (h : b.1.seq ≤ 1099511627776) (ho : ∀ r, o = some r → r.seq ≤ 1099511627776) : (pick b i o).1.seq ≤ 1099511627776 := by
  cases o with
  | none => exact h
  | some r =>
    unfold pick
    simp only
    split
    · exact ho r rfl
    · exact h
theorem bestL_seq {bs : List Nat} {r : Rc} {i : Int} (h : bestL bs = (r, i)) : r.seq ≤ 1099511627776 := by
  have hd : ∀ l r, decL l = some r → r.seq ≤ 1099511627776 := fun l r h => (decL_some h).1.2.2.2.2.2
  have := pick_seq (pick (Rc.zero, -1) 0 (decL (slotB bs 0))) 1 (decL (slotB bs 1)) (pick_seq _ _ _ (by decide) (hd _)) (hd _)
  unfold bestL at h
  rw [h] at this
  exact this
theorem cells_blk {W : World} {g : Nat} {l : List Nat} {t : TypeId} (h : W.heap[g]? = some (.cells (bC l).toArray t (0, 0))) : CellsAt W ⟨g, 0, none⟩ l := by
  intro j x hx
  refine ⟨_, rfl, ?_⟩
  rw [Addr.add_mid, Nat.zero_add, blk_cell h, List.getElem?_toArray, bC_get, hx]; rfl
theorem CellsAt.bytes {W : World} {g q n c b : Nat} {l m : List Nat} (h : CellsAt W ⟨g, 0, none⟩ l) (hm : m = (l.drop q).take n) (hn : m.length = n) (hne : g ≠ b) : Bytes W b (.slice (some ⟨g, q, none⟩) n c) m := by
  have h1 := h.part q n
  rw [Addr.add_mid, Nat.zero_add] at h1
  refine ⟨some ⟨g, q, none⟩, c, by rw [hn], fun j x hx => ?_⟩
  rw [hm] at hx
  obtain ⟨p, h2, h3⟩ := h1 j x hx
  cases h2
  exact ⟨_, rfl, hne, h3⟩
set_option maxRecDepth 100000 in
set_option maxHeartbeats 2000000 in
theorem save_any (b : Nat) (d : Dk) (x y z : Int) (w : World) (h : DkAt w b d) (hlt : ∀ c ∈ d.bs, c < 256) (hw : d.writes ≤ 4611686018427387903) (hfu : d.fuse ≤ 9223372036854775807) :
    Calls Tryd.prog 54 #[.pointer (some ⟨b, 0, none⟩), recV x y z] w fun e w' => e = .returned (.int .i64 (saveW d x y z).2) ∧ DkAt w' b (saveW d x y z).1 ∧ w.grownBy w' (some b) := by
  obtain ⟨D, hD⟩ : ∃ D, saveW d x y z = D := ⟨_, rfl⟩
  rw [hD]
  unfold saveW at hD
  have HD := Lib.hid hD
  clear hD
  have HM := Lib.hid (fun w => mayBe_any x y z w)
  have hb0 : Below w.heap.size w (w.alloc (.cells #[.int .i64 x, .int .i64 y, .int .i64 z] 48)) := (Below.refl _ w).alloc (Nat.le_refl _) _
  have hr0 := box3 w (.int .i64 x) (.int .i64 y) (.int .i64 z) 48
  have hlt0 := h.lt
  have hd0 := h.below hb0
  unfold recV at HM ⊢
  have HSZ := Lib.hid (And.intro hw hfu)
  clear hw hfu
  by_cases hm : mayR x y z
  · rw [if_pos hm] at HD
    rw [decide_eq_true hm] at HM
    have HMR := Lib.hid hm
    clear hm
    go_enter Tryd.func54, Tryd.ntmps54
    go_wp2_with fail
    refine (HM.out _).mono ?_
    rintro e w1 ⟨rfl, hB1⟩
    have hr1 := blk_below' hB1 hr0
    have hd1 := hd0.below hB1
    have hb1 := below_then hb0 hB1
    clear hr0 hd0 hb0 hB1
    have HL := Lib.hid (ld_any b d w1 hd1 hlt)
    unfold ldA keptV at HL
    cases ho : d.off with
    | true =>
      rw [ho] at HL HD
      simp only [if_true] at HL HD
      go_wp2_with (go_at_call 36; refine HL.out.mono ?_; rintro e w2 ⟨rfl, hB2⟩)
      go_ret
      have hd2 := hd1.below hB2
      have hb2 := below_then hb1 hB2
      have hD := HD.out
      subst hD
      exact ⟨rfl, hd2.below ((Below.refl _ _).alloc (Nat.le_refl _) _), but_below (hb2.alloc hb2.size _) _⟩
    | false =>
      rw [ho] at HL HD
      simp only [Bool.false_eq_true, if_false] at HL HD
      obtain ⟨B, hB⟩ : ∃ B, bestL d.bs = B := ⟨_, rfl⟩
      rw [hB] at HL HD
      obtain ⟨r, at0⟩ := B
      simp only at HL HD
      by_cases hq : 1099511627776 ≤ r.seq
      · rw [if_pos hq] at HD
        have hno : ¬ encOk x y z ((r.seq : Int) + 1) := fun h => by have := h.2.2; omega
        have HE := Lib.hid (fun w => encode_no x y z ((r.seq : Int) + 1) hno w)
        unfold recV at HE
        have hsq := bestL_seq hB
        have hwr : IntKind.i64.wrap ((r.seq : Int) + 1) = (r.seq : Int) + 1 := by rw [IntKind.wrap_i64]; omega
        clear hno
        go_wp2_with (first
          | (go_at_call 36; refine HL.out.mono ?_; rintro e w2 ⟨rfl, hB2⟩; have hr2 := blk_below' hB2 hr1; obtain ⟨z0, z1, z2, _⟩ := blk3 hr2; have hs2 := blk_lt hr2; have hd2 := hd1.below hB2; have hb2 := below_then hb1 hB2)
          | (go_at_call 66; refine (HE.out _).mono ?_; rintro e w3 ⟨rfl, hB3⟩))
        go_ret
        have hD := HD.out
        subst hD
        have hal : Below w2.heap.size w2 (w2.alloc (.cells #[.int .i64 (r.life : Int), .int .i64 (r.round : Int), .int .i64 (r.tag : Int), .int .i64 (r.seq : Int)] 92)) := (Below.refl _ _).alloc (Nat.le_refl _) _
        exact ⟨rfl, (hd2.below hal).below hB3, but_below (below_then (below_then hb2 hal) hB3) _⟩
      · rw [if_neg hq] at HD
        have hok : encOk x y z ((r.seq : Int) + 1) := ⟨HMR.out, by omega, by omega⟩
        have HE := Lib.hid (fun w => encode_ok x y z ((r.seq : Int) + 1) hok w)
        unfold recV at HE
        have hL : encL (rcN x y z ((r.seq : Int) + 1)) = nxL d.bs x y z := by unfold nxL rcN; rw [hB]; congr 1
        rw [hL] at HE
        have hll : (nxL d.bs x y z).length = 64 := encL_len _
        have HT := Lib.hid (show svT d x y z = svK d (if at0 = 0 then 1 else 0) (nxL d.bs x y z) 2 by unfold svT toL; rw [hB])
        rw [HT.out] at HD
        have HLL := Lib.hid hll
        have hsq : r.seq < 1099511627776 := by omega
        have hwr : IntKind.i64.wrap ((r.seq : Int) + 1) = (r.seq : Int) + 1 := by rw [IntKind.wrap_i64]; omega
        generalize nxL d.bs x y z = L at *
        clear hok hq hL hll
        go_wp2_with (first
          | (go_at_call 36; refine HL.out.mono ?_; rintro e w2 ⟨rfl, hB2⟩; have hr2 := blk_below' hB2 hr1; obtain ⟨z0, z1, z2, _⟩ := blk3 hr2; have hs2 := blk_lt hr2; have hd2 := hd1.below hB2; have hb2 := below_then hb1 hB2))
        refine (HE.out _).mono ?_
        rintro e w3 ⟨v3, rfl, ⟨g, rfl, hg1, hg2⟩, hB3⟩
        have hal : Below w2.heap.size w2 (w2.alloc (.cells #[.int .i64 (r.life : Int), .int .i64 (r.round : Int), .int .i64 (r.tag : Int), .int .i64 (r.seq : Int)] 92)) := (Below.refl _ _).alloc (Nat.le_refl _) _
        have hd3 := (hd2.below hal).below hB3
        have hb3 := below_then (below_then hb2 hal) hB3
        have hgb : ¬ g = b := by have := hd2.lt; have := hal.size; omega
        have hgs : w.heap.size ≤ g := by have := hb2.size; have := hal.size; omega
        have hc3 : CellsAt w3 ⟨g, 0, none⟩ L := cells_blk hg2
        clear hr1 hd1 hb1 HL hB2 hr2 z0 z1 z2 hs2 hd2 hb2 hal hB3 hg2 HE HM HT hg1
        by_cases hat : at0 = 0
        · rw [if_pos hat] at HD
          have hat2 : (at0 == 0) = true := by simpa using hat
          go_wp2_with fail
          go_loopw [36] (fun i wr => ∃ (k : Nat), i = .int .i64 k ∧ k ≤ 2 ∧ Hid ((svK d 1 L k).2 = 0) ∧ DkAt wr b (svK d 1 L k).1 ∧ w.grownBy wr (some b) ∧ CellsAt wr ⟨g, 0, none⟩ L) (fun i _ => 2 - (intOf i).toNat)
          case atStart => exact ⟨0, rfl, by omega, rfl, hd3, but_below hb3 _, hc3⟩
          case round =>
            obtain ⟨k, rfl, hk, h0, hdk, hgk, hck⟩ := hrel
            by_cases hlt : k < 2
            · have i1 : (k : Int) < 2 := by omega
              have i2 : (0 : Int) ≤ (k : Int) := by omega
              have i3 : (k : Int).toNat = k := Int.toNat_natCast k
              have e1 : ((k : Int) + 1) * 32 ≤ 64 := by omega
              have e2 : (0 : Int) ≤ ((k : Int) + 1) * 32 := by omega
              have e3 : (0 : Int) ≤ (k : Int) * 32 := by omega
              have e4 : (k : Int) * 32 ≤ ((k : Int) + 1) * 32 := by omega
              have e5 : (k + 1) * 32 - k * 32 = 32 := by omega
              have e6 : ¬ (k + 1) * 32 = k * 32 := by omega
              have hlen : ((L.drop (k * 32)).take 32).length = 32 := by have := HLL.out; rw [List.length_take, List.length_drop]; omega
              have hnx := svK_next (d := d) (q0 := 1) (l := L) h0.out
              have hs : ((2 * 1 + k : Nat) : Int) = 2 + (k : Int) := by omega
              rw [hs] at hnx
              have hsz := svK_size d 1 L k
              have hst := svK_stop (d := d) (q0 := 1) (l := L) hlt
              have HST := Lib.hid hst
              rw [hnx] at HST
              have HNX := Lib.hid hnx
              have HSV := Lib.hid hsz
              have HLN := Lib.hid hlen
              clear hnx hsz hst hlen hs
              go_wp2_with fail
              refine (write_any b (svK d 1 L k).1 (2 + (k : Int)) _ ((L.drop (k * 32)).take 32) wr hdk (hck.bytes rfl HLN.out hgb) (by rw [HLN.out]; decide) (by have := HSV.out.2; have := HSZ.out.1; omega) (by have := HSV.out.1; have := HSZ.out.2; omega)).mono ?_
              rintro e w5 ⟨rfl, hd5, hg5⟩
              have hg6 := but_then hgk hg5
              have hc5 := hck.but hg5 hgb
              obtain ⟨F, hF⟩ : ∃ F, wrV (svK d 1 L k).1 (2 + (k : Int)) ((L.drop (k * 32)).take 32) = F := ⟨_, rfl⟩
              rw [hF] at hd5 HNX HST ⊢
              clear hdk hgk hck hg5
              obtain ⟨d5, er⟩ := F
              simp only at hd5 HST ⊢
              by_cases her : er = 0
              · subst her
                go_wp2_with fail
                go_roundw
                case rel => exact ⟨k + 1, by go_num, by omega, by show _ = _; rw [HNX.out], by rw [HNX.out]; exact hd5, hg6, hc5⟩
                case measure => simp [intOf]; omega
              · have hne : (er != 0) = true := by simpa using her
                have hfin := HST.out her
                have hD := HD.out
                have HFI := Lib.hid (hD.symm.trans hfin)
                clear her hfin hD
                go_wp2_with fail
                go_ret
                rw [HFI.out]
                exact ⟨rfl, hd5, hg6⟩
            · obtain rfl : k = 2 := by omega
              have hD := HD.out
              have h1 := h0.out
              rw [hD] at h1 hdk
              have HFI := Lib.hid h1
              clear h1 h0 hD
              go_wp2_with fail
              go_ret
              exact ⟨by rw [HFI.out]; rfl, hdk, hgk⟩
        · rw [if_neg hat] at HD
          have hat2 : (at0 == 0) = false := by simpa using hat
          go_wp2_with fail
          go_loopw [36] (fun i wr => ∃ (k : Nat), i = .int .i64 k ∧ k ≤ 2 ∧ Hid ((svK d 0 L k).2 = 0) ∧ DkAt wr b (svK d 0 L k).1 ∧ w.grownBy wr (some b) ∧ CellsAt wr ⟨g, 0, none⟩ L) (fun i _ => 2 - (intOf i).toNat)
          case atStart => exact ⟨0, rfl, by omega, rfl, hd3, but_below hb3 _, hc3⟩
          case round =>
            obtain ⟨k, rfl, hk, h0, hdk, hgk, hck⟩ := hrel
            by_cases hlt : k < 2
            · have i1 : (k : Int) < 2 := by omega
              have i2 : (0 : Int) ≤ (k : Int) := by omega
              have i3 : (k : Int).toNat = k := Int.toNat_natCast k
              have e1 : ((k : Int) + 1) * 32 ≤ 64 := by omega
              have e2 : (0 : Int) ≤ ((k : Int) + 1) * 32 := by omega
              have e3 : (0 : Int) ≤ (k : Int) * 32 := by omega
              have e4 : (k : Int) * 32 ≤ ((k : Int) + 1) * 32 := by omega
              have e5 : (k + 1) * 32 - k * 32 = 32 := by omega
              have e6 : ¬ (k + 1) * 32 = k * 32 := by omega
              have hlen : ((L.drop (k * 32)).take 32).length = 32 := by have := HLL.out; rw [List.length_take, List.length_drop]; omega
              have hnx := svK_next (d := d) (q0 := 0) (l := L) h0.out
              have hs : ((2 * 0 + k : Nat) : Int) = (k : Int) := by omega
              rw [hs] at hnx
              have hsz := svK_size d 0 L k
              have hst := svK_stop (d := d) (q0 := 0) (l := L) hlt
              have HST := Lib.hid hst
              rw [hnx] at HST
              have HNX := Lib.hid hnx
              have HSV := Lib.hid hsz
              have HLN := Lib.hid hlen
              clear hnx hsz hst hlen hs
              go_wp2_with fail
              refine (write_any b (svK d 0 L k).1 ((k : Int)) _ ((L.drop (k * 32)).take 32) wr hdk (hck.bytes rfl HLN.out hgb) (by rw [HLN.out]; decide) (by have := HSV.out.2; have := HSZ.out.1; omega) (by have := HSV.out.1; have := HSZ.out.2; omega)).mono ?_
              rintro e w5 ⟨rfl, hd5, hg5⟩
              have hg6 := but_then hgk hg5
              have hc5 := hck.but hg5 hgb
              obtain ⟨F, hF⟩ : ∃ F, wrV (svK d 0 L k).1 ((k : Int)) ((L.drop (k * 32)).take 32) = F := ⟨_, rfl⟩
              rw [hF] at hd5 HNX HST ⊢
              clear hdk hgk hck hg5
              obtain ⟨d5, er⟩ := F
              simp only at hd5 HST ⊢
              by_cases her : er = 0
              · subst her
                go_wp2_with fail
                go_roundw
                case rel => exact ⟨k + 1, by go_num, by omega, by show _ = _; rw [HNX.out], by rw [HNX.out]; exact hd5, hg6, hc5⟩
                case measure => simp [intOf]; omega
              · have hne : (er != 0) = true := by simpa using her
                have hfin := HST.out her
                have hD := HD.out
                have HFI := Lib.hid (hD.symm.trans hfin)
                clear her hfin hD
                go_wp2_with fail
                go_ret
                rw [HFI.out]
                exact ⟨rfl, hd5, hg6⟩
            · obtain rfl : k = 2 := by omega
              have hD := HD.out
              have h1 := h0.out
              rw [hD] at h1 hdk
              have HFI := Lib.hid h1
              clear h1 h0 hD
              go_wp2_with fail
              go_ret
              exact ⟨by rw [HFI.out]; rfl, hdk, hgk⟩
  · rw [if_neg hm] at HD
    rw [decide_eq_false hm] at HM
    clear hm
    have hD := HD.out
    subst hD
    go_enter Tryd.func54, Tryd.ntmps54
    go_wp2_with fail
    refine (HM.out _).mono ?_
    rintro e w1 ⟨rfl, hB1⟩
    have hd1 := hd0.below hB1
    have hb1 := below_then hb0 hB1
    go_wp2_with fail
    go_ret
    exact ⟨rfl, hd1, but_below hb1 _⟩
end Go.Proofs.YtppmiggkknhdkaaDoor
namespace Go.Proofs.YtppmiggkknhdkaaDoor
set_option linter.unusedVariables false

def zer : List Nat := List.replicate 32 0
/-- A slot that does not count beside the number n. -/
def SlO (bs : List Nat) (o n : Nat) : Prop :=
  (rowS bs (2 * o) = zer ∨ ∃ s : Rc, s.may ∧ rowS bs (2 * o) = hA s) ∧ (rowS bs (2 * o + 1) = zer ∨ ∃ s : Rc, s.may ∧ s.seq < n ∧ rowS bs (2 * o + 1) = hB s)
def SlC (bs : List Nat) (a : Nat) (cur : Rc) : Prop := cur.may ∧ rowS bs (2 * a) = hA cur ∧ rowS bs (2 * a + 1) = hB cur
/-- What a disk holds: nothing that counts, or a record in a slot. -/
def SlSt (bs : List Nat) : Option (Rc × Nat) → Prop
  | none => SlO bs 0 0 ∧ SlO bs 1 0
  | some (cur, a) => a < 2 ∧ SlC bs a cur ∧ SlO bs (1 - a) cur.seq
def stB : Option (Rc × Nat) → Rc × Int
  | none => (Rc.zero, -1)
  | some (cur, a) => (cur, (a : Int))
def stTo : Option (Rc × Nat) → Nat
  | none => 0
  | some (_, a) => 1 - a
def stSeq : Option (Rc × Nat) → Nat
  | none => 0
  | some (cur, _) => cur.seq
theorem SlO.dec {bs : List Nat} {o n : Nat} (h : SlO bs o n) : decL (slotB bs o) = none ∨ ∃ s, decL (slotB bs o) = some s ∧ s.seq < n := by
  unfold slotB
  obtain ⟨h1 | ⟨s, hs, h1⟩, h2 | ⟨t, ht, hn, h2⟩⟩ := h
  · left; rw [h1, h2]; exact blank_half _ (by decide)
  · left; rw [h1, h2]; exact blank_half _ (hB_len t)
  · left; rw [h1, h2]; exact half_blank s
  · rw [h1, h2]
    by_cases he : s.seq = t.seq
    · right
      refine ⟨⟨s.life, s.round, t.tag, s.seq⟩, ?_, by show s.seq < n; omega⟩
      rw [halves_same he]
      obtain ⟨a1, a2, a3, a4, a5, a6⟩ := hs
      obtain ⟨b1, b2, b3, b4, b5, b6⟩ := ht
      exact decL_enc ⟨a1, a2, a3, b4, a5, a6⟩
    · left; exact halves_other hs ht he
theorem SlC.dec {bs : List Nat} {a : Nat} {cur : Rc} (h : SlC bs a cur) : decL (slotB bs a) = some cur := by
  unfold slotB; rw [h.2.1, h.2.2]; exact decL_one h.1
theorem SlO.mono {bs : List Nat} {o n m : Nat} (h : SlO bs o n) (hm : n ≤ m) : SlO bs o m := ⟨h.1, h.2.imp id fun ⟨s, h1, h2, h3⟩ => ⟨s, h1, by omega, h3⟩⟩
theorem SlC.old {bs : List Nat} {a n : Nat} {cur : Rc} (h : SlC bs a cur) (hn : cur.seq < n) : SlO bs a n := ⟨.inr ⟨cur, h.1, h.2.1⟩, .inr ⟨cur, h.1, hn, h.2.2⟩⟩
theorem SlSt.best {bs : List Nat} {st : Option (Rc × Nat)} (h : SlSt bs st) : bestL bs = stB st := by
  unfold bestL
  cases st with
  | none =>
    have h0 : decL (slotB bs 0) = none := by rcases h.1.dec with h | ⟨s, _, h⟩; exact h; omega
    have h1 : decL (slotB bs 1) = none := by rcases h.2.dec with h | ⟨s, _, h⟩; exact h; omega
    rw [h0, h1]; rfl
  | some p =>
    obtain ⟨cur, a⟩ := p
    obtain ⟨ha, hc, ho⟩ := h
    have hcd := hc.dec
    have hpos := hc.1.2.2.2.2.1
    have hod := ho.dec
    obtain rfl | rfl : a = 0 ∨ a = 1 := by omega
    · rw [hcd]
      have e : pick (Rc.zero, -1) 0 (some cur) = (cur, 0) := by unfold pick; simp only; rw [if_pos (by show 0 < cur.seq; omega)]
      rw [e]
      rcases hod with h | ⟨s, h, hs⟩
      · rw [show (1 : Nat) - 0 = 1 from rfl] at h; rw [h]; rfl
      · rw [show (1 : Nat) - 0 = 1 from rfl] at h; rw [h]; unfold pick; simp only; rw [if_neg (by omega)]; rfl
    · rw [hcd]
      rcases hod with h | ⟨s, h, hs⟩
      · rw [show (1 : Nat) - 1 = 0 from rfl] at h; rw [h]
        unfold pick; simp only; rw [if_pos (by show 0 < cur.seq; omega)]; rfl
      · rw [show (1 : Nat) - 1 = 0 from rfl] at h; rw [h]
        unfold pick; simp only
        have : (if Rc.zero.seq < s.seq then (s, (0 : Int)) else (Rc.zero, -1)).1.seq < cur.seq := by
          split
          · exact hs
          · show 0 < cur.seq; omega
        rw [if_pos this]; rfl
theorem SlSt.to {bs : List Nat} {st : Option (Rc × Nat)} (h : SlSt bs st) : toL bs = stTo st ∧ (bestL bs).1.seq = stSeq st := by
  unfold toL
  rw [h.best]
  cases st with
  | none => exact ⟨rfl, rfl⟩
  | some p =>
    obtain ⟨cur, a⟩ := p
    have ha := h.1
    refine ⟨?_, rfl⟩
    show (if (a : Int) = 0 then 1 else 0) = 1 - a
    split <;> omega
theorem SlSt.toLt {bs : List Nat} {st : Option (Rc × Nat)} (h : SlSt bs st) : stTo st < 2 := by
  cases st with
  | none => decide
  | some p => show 1 - p.2 < 2; omega
/-- A write with power. -/
theorem wr_on {d : Dk} {s : Nat} {l : List Nat} (ho : d.off = false) (hs : s < 8) (hl : l.length = 32) :
    (d.fused = true ∧ d.fuse = 0 ∧ wrV d (s : Int) l = ({ d with off := true, fused := false }, 100)) ∨
    ((d.fused = true → 0 < d.fuse) ∧ wrV d (s : Int) l = (⟨putS d.bs s l, d.off, d.fused, if d.fused then d.fuse - 1 else d.fuse, d.writes + 1⟩, 0)) := by
  have hm : mayV d (s : Int) = 0 := by unfold mayV; rw [ho, if_neg (by decide), if_neg (by omega)]
  unfold wrV
  rw [if_pos hm, if_pos hl, Int.toNat_natCast]
  cases hf : d.fused with
  | true =>
    by_cases h0 : d.fuse = 0
    · left; rw [if_pos rfl, if_pos h0]; exact ⟨rfl, h0, rfl⟩
    · right; rw [if_pos rfl, if_neg h0]; exact ⟨fun _ => by omega, by simp⟩
  | false => right; rw [if_neg (by decide)]; exact ⟨fun h => absurd h (by decide), by simp⟩
theorem svT_two {d : Dk} {x y z : Int} : svT d x y z = if (wrV d ((2 * toL d.bs : Nat) : Int) ((nxL d.bs x y z).take 32)).2 = 0 then wrV (wrV d ((2 * toL d.bs : Nat) : Int) ((nxL d.bs x y z).take 32)).1 ((2 * toL d.bs + 1 : Nat) : Int) ((nxL d.bs x y z).drop 32) else wrV d ((2 * toL d.bs : Nat) : Int) ((nxL d.bs x y z).take 32) := by
  have e2 : ((nxL d.bs x y z).drop (1 * 32)).take 32 = (nxL d.bs x y z).drop 32 := by
    rw [List.take_of_length_le]
    unfold nxL; rw [List.length_drop, encL_len]; decide
  have h1 : svK d (toL d.bs) (nxL d.bs x y z) 1 = wrV d ((2 * toL d.bs : Nat) : Int) ((nxL d.bs x y z).take 32) := by
    exact if_pos rfl
  unfold svT
  show (if (svK d (toL d.bs) (nxL d.bs x y z) 1).2 = 0 then wrV (svK d (toL d.bs) (nxL d.bs x y z) 1).1 ((2 * toL d.bs + 1 : Nat) : Int) (((nxL d.bs x y z).drop (1 * 32)).take 32) else _) = _
  rw [h1, e2]
structure Saved (d D : Dk) (st : Option (Rc × Nat)) (new : Rc) : Prop where
  slots : SlSt D.bs (some (new, stTo st))
  writes : D.writes = d.writes + 2
  on : D.off = false
  fused : D.fused = d.fused
  fz : d.fused = true → 2 ≤ d.fuse ∧ D.fuse = d.fuse - 2
  un : d.fused = false → D.fuse = d.fuse
  out : ∀ j, j < 64 * stTo st ∨ 64 * stTo st + 64 ≤ j → D.bs[j]? = d.bs[j]?
  len : D.bs.length = 256
structure Failed (d D : Dk) (st : Option (Rc × Nat)) : Prop where
  slots : SlSt D.bs st
  fused : d.fused = true
  fz : d.fuse < 2
  off : D.off = true
  gone : D.fused = false
  writes : D.writes = d.writes + d.fuse
  fuse : D.fuse = 0
  len : D.bs.length = 256
theorem SlO.putA {bs : List Nat} {o n : Nat} {s : Rc} (h : SlO bs o n) (hb : bs.length = 256) (ho : o < 2) (hs : s.may) : SlO (putS bs (2 * o) (hA s)) o n := by
  unfold SlO
  rw [rowS_put hb (by omega) (by omega) (hA_len s), rowS_put hb (by omega) (by omega) (hA_len s), if_pos rfl, if_neg (by omega)]
  exact ⟨.inr ⟨s, hs, rfl⟩, h.2⟩
theorem rows_same {bs l : List Nat} {k o : Nat} (hb : bs.length = 256) (hk : k < 8) (ho : o < 4) (hl : l.length = 32) (h : 2 * o ≠ k ∧ 2 * o + 1 ≠ k) : rowS (putS bs k l) (2 * o) = rowS bs (2 * o) ∧ rowS (putS bs k l) (2 * o + 1) = rowS bs (2 * o + 1) := by
  rw [rowS_put hb hk (by omega) hl, rowS_put hb hk (by omega) hl, if_neg h.1, if_neg h.2]
  exact ⟨rfl, rfl⟩
theorem SlSt.half {bs : List Nat} {st : Option (Rc × Nat)} {s : Rc} (h : SlSt bs st) (hb : bs.length = 256) (hs : s.may) : SlSt (putS bs (2 * stTo st) (hA s)) st := by
  cases st with
  | none =>
    obtain ⟨h0, h1⟩ := h
    refine ⟨h0.putA hb (by decide) hs, ?_⟩
    have := rows_same (o := 1) hb (show 2 * stTo none < 8 by decide) (by decide) (hA_len s) (by decide)
    unfold SlO
    rw [this.1, this.2]; exact h1
  | some p =>
    obtain ⟨cur, a⟩ := p
    obtain ⟨ha, hc, ho⟩ := h
    refine ⟨ha, ?_, ho.putA hb (by omega) hs⟩
    have := rows_same (o := a) hb (show 2 * (1 - a) < 8 by omega) (by omega) (hA_len s) (by omega)
    exact ⟨hc.1, by show rowS (putS bs (2 * (1 - a)) (hA s)) _ = _; rw [this.1]; exact hc.2.1, by show rowS (putS bs (2 * (1 - a)) (hA s)) _ = _; rw [this.2]; exact hc.2.2⟩
theorem SlSt.full {bs : List Nat} {st : Option (Rc × Nat)} {s : Rc} (h : SlSt bs st) (hb : bs.length = 256) (hs : s.may) (hn : s.seq = stSeq st + 1) : SlSt (putS (putS bs (2 * stTo st) (hA s)) (2 * stTo st + 1) (hB s)) (some (s, stTo st)) := by
  have hb1 : (putS bs (2 * stTo st) (hA s)).length = 256 := putS_len hb (by have := h.toLt; omega) (hA_len s)
  have ht := h.toLt
  refine ⟨ht, ⟨hs, ?_, ?_⟩, ?_⟩
  · rw [rowS_put hb1 (by omega) (by omega) (hB_len s), if_neg (by omega), rowS_put hb (by omega) (by omega) (hA_len s), if_pos rfl]
  · rw [rowS_put hb1 (by omega) (by omega) (hB_len s), if_pos rfl]
  · have e2 := rows_same (o := 1 - stTo st) hb1 (show 2 * stTo st + 1 < 8 by omega) (by omega) (hB_len s) (by omega)
    have e1 := rows_same (o := 1 - stTo st) hb (show 2 * stTo st < 8 by omega) (by omega) (hA_len s) (by omega)
    unfold SlO
    rw [e2.1, e2.2, e1.1, e1.2]
    cases st with
    | none => exact h.2.mono (Nat.zero_le _)
    | some p =>
      obtain ⟨cur, a⟩ := p
      have ha := h.1
      have : 1 - stTo (some (cur, a)) = a := by show 1 - (1 - a) = a; omega
      rw [this]
      exact h.2.1.old (by rw [hn]; show cur.seq < cur.seq + 1; omega)
theorem save_law {d : Dk} {st : Option (Rc × Nat)} {x y z : Int} (hs : SlSt d.bs st) (hb : d.bs.length = 256) (ho : d.off = false) (hm : mayR x y z) (hq : stSeq st < 1099511627776) :
    ((saveW d x y z).2 = 0 ∧ Saved d (saveW d x y z).1 st ⟨x.toNat, y.toNat, z.toNat, stSeq st + 1⟩) ∨ ((saveW d x y z).2 = 100 ∧ Failed d (saveW d x y z).1 st) := by
  obtain ⟨e1, e2⟩ := hs.to
  obtain ⟨m1, m2, m3, m4, m5, m6⟩ := hm
  have hmay : Rc.may ⟨x.toNat, y.toNat, z.toNat, stSeq st + 1⟩ := ⟨by show 1 ≤ x.toNat; omega, by show x.toNat ≤ _; omega, by show y.toNat ≤ _; omega, by show z.toNat ≤ _; omega, by show 1 ≤ _ + 1; omega, by show _ + 1 ≤ _; omega⟩
  have hL : nxL d.bs x y z = encL ⟨x.toNat, y.toNat, z.toNat, stSeq st + 1⟩ := by unfold nxL; rw [e2]
  have hsw : saveW d x y z = svT d x y z := by
    unfold saveW
    rw [if_pos ⟨m1, m2, m3, m4, m5, m6⟩, ho, if_neg (by decide), e2, if_neg (by omega)]
  rw [hsw, svT_two, e1, hL]
  show ((if (wrV d _ (hA _)).2 = 0 then wrV (wrV d _ (hA _)).1 _ (hB _) else wrV d _ (hA _)).2 = 0 ∧ _) ∨ _
  generalize hnew : (⟨x.toNat, y.toNat, z.toNat, stSeq st + 1⟩ : Rc) = new at *
  have hseq : new.seq = stSeq st + 1 := by rw [← hnew]
  have ht := hs.toLt
  show ((if (wrV d ((2 * stTo st : Nat) : Int) (hA new)).2 = 0 then wrV (wrV d ((2 * stTo st : Nat) : Int) (hA new)).1 ((2 * stTo st + 1 : Nat) : Int) (hB new) else wrV d ((2 * stTo st : Nat) : Int) (hA new)).2 = 0 ∧ Saved d (if (wrV d ((2 * stTo st : Nat) : Int) (hA new)).2 = 0 then wrV (wrV d ((2 * stTo st : Nat) : Int) (hA new)).1 ((2 * stTo st + 1 : Nat) : Int) (hB new) else wrV d ((2 * stTo st : Nat) : Int) (hA new)).1 st new) ∨
    ((if (wrV d ((2 * stTo st : Nat) : Int) (hA new)).2 = 0 then wrV (wrV d ((2 * stTo st : Nat) : Int) (hA new)).1 ((2 * stTo st + 1 : Nat) : Int) (hB new) else wrV d ((2 * stTo st : Nat) : Int) (hA new)).2 = 100 ∧ Failed d (if (wrV d ((2 * stTo st : Nat) : Int) (hA new)).2 = 0 then wrV (wrV d ((2 * stTo st : Nat) : Int) (hA new)).1 ((2 * stTo st + 1 : Nat) : Int) (hB new) else wrV d ((2 * stTo st : Nat) : Int) (hA new)).1 st)
  rcases wr_on ho (show 2 * stTo st < 8 by omega) (hA_len new) with ⟨f1, f2, f3⟩ | ⟨f1, f3⟩
  · rw [f3, if_neg (show ¬ (100 : Int) = 0 by decide)]
    exact .inr ⟨rfl, ⟨hs, f1, by omega, rfl, rfl, by rw [f2]; rfl, f2, hb⟩⟩
  · rw [f3, if_pos rfl]
    have hb1 : (putS d.bs (2 * stTo st) (hA new)).length = 256 := putS_len hb (by omega) (hA_len new)
    rcases wr_on (d := ⟨putS d.bs (2 * stTo st) (hA new), d.off, d.fused, if d.fused then d.fuse - 1 else d.fuse, d.writes + 1⟩) ho (show 2 * stTo st + 1 < 8 by omega) (hB_len new) with ⟨g1, g2, g3⟩ | ⟨g1, g3⟩
    · rw [g3]
      simp only at g1 g2
      have f1 := f1 g1
      rw [g1, if_pos rfl] at g2
      exact .inr ⟨rfl, ⟨hs.half hb hmay, g1, by omega, rfl, rfl, by show d.writes + 1 = d.writes + d.fuse; omega, by show (if d.fused then d.fuse - 1 else d.fuse) = 0; rw [g1, if_pos rfl]; exact g2, hb1⟩⟩
    · rw [g3]
      refine .inl ⟨rfl, ⟨hs.full hb hmay hseq, rfl, ho, rfl, fun h => ?_, fun h => ?_, fun j hj => ?_, putS_len hb1 (by omega) (hB_len new)⟩⟩
      · have := f1 h
        have h2 := g1 h
        simp only at h2
        rw [h, if_pos rfl] at h2
        refine ⟨by omega, ?_⟩
        show (if d.fused then (if d.fused then d.fuse - 1 else d.fuse) - 1 else _) = _
        rw [h, if_pos rfl, if_pos rfl]; omega
      · show (if d.fused then _ else (if d.fused then _ else d.fuse)) = d.fuse
        rw [h, if_neg (by decide), if_neg (by decide)]
      · show (putS (putS d.bs (2 * stTo st) (hA new)) (2 * stTo st + 1) (hB new))[j]? = _
        rw [putS_get hb1 (by omega) (hB_len new), putS_get hb (by omega) (hA_len new)]
        by_cases c : j < 64 * stTo st
        · rw [if_pos (by omega), if_pos (by omega)]
        · rw [if_neg (by omega), if_neg (by omega), if_neg (by omega), if_neg (by omega)]
/- What can never go wrong. -/
theorem saveW_arg {d : Dk} {x y z : Int} (h : ¬ mayR x y z) : saveW d x y z = (d, 1) := if_neg h
theorem saveW_off {d : Dk} {x y z : Int} (h : mayR x y z) (ho : d.off = true) : saveW d x y z = (d, 100) := by unfold saveW; rw [if_pos h, ho, if_pos rfl]
theorem slSt_new : SlSt Dk.new.bs none := ⟨⟨.inl (by decide), .inl (by decide)⟩, ⟨.inl (by decide), .inl (by decide)⟩⟩
theorem putS_lt {bs l : List Nat} (h : ∀ c ∈ bs, c < 256) (hl : ∀ c ∈ l, c < 256) (k : Nat) : ∀ c ∈ putS bs k l, c < 256 := by
  intro c hc
  unfold putS at hc
  rcases List.mem_append.1 hc with hc | hc
  · exact h c (List.mem_of_mem_take hc)
  · rcases List.mem_append.1 hc with hc | hc
    · exact hl c hc
    · exact h c (List.mem_of_mem_drop hc)
theorem wrV_lt {d : Dk} (h : ∀ c ∈ d.bs, c < 256) {l : List Nat} (hl : ∀ c ∈ l, c < 256) (s : Int) : ∀ c ∈ (wrV d s l).1.bs, c < 256 := by
  unfold wrV
  split
  · split
    · split
      · split
        · exact h
        · exact putS_lt h hl _
      · exact putS_lt h hl _
    · exact h
  · exact h
theorem svK_lt {d : Dk} (h : ∀ c ∈ d.bs, c < 256) {l : List Nat} (hl : ∀ c ∈ l, c < 256) (q : Nat) : ∀ k, ∀ c ∈ (svK d q l k).1.bs, c < 256
  | 0 => h
  | k + 1 => by
    unfold svK
    split
    · exact wrV_lt (svK_lt h hl q k) (fun c hc => hl c (List.mem_of_mem_drop (List.mem_of_mem_take hc))) _
    · exact svK_lt h hl q k
theorem saveW_lt {d : Dk} (h : ∀ c ∈ d.bs, c < 256) (x y z : Int) : ∀ c ∈ (saveW d x y z).1.bs, c < 256 := by
  unfold saveW svT
  split
  · split
    · exact h
    · split
      · exact h
      · exact svK_lt h (encL_lt _) _ _
  · exact h
end Go.Proofs.YtppmiggkknhdkaaDoor
namespace Go.Proofs.YtppmiggkknhdkaaDoor
set_option linter.unusedVariables false
set_option linter.unusedSimpArgs false
open Go.RowKit

theorem loadA_none {d : Dk} (h : SlSt d.bs none) (ho : d.off = false) : loadA d = .tuple #[recV 0 0 0, .int .i64 0, .int .i64 40] := by
  unfold loadA; rw [ho, if_neg (by decide), h.best, if_pos (by decide)]
theorem loadA_some {d : Dk} {r : Rc} {a : Nat} (h : SlSt d.bs (some (r, a))) (ho : d.off = false) : loadA d = .tuple #[recV r.life r.round r.tag, .int .i64 r.seq, .int .i64 0] := by
  unfold loadA; rw [ho, if_neg (by decide), h.best, if_neg (by show ¬ (a : Int) < 0; omega)]; rfl
theorem loadA_off {d : Dk} (ho : d.off = true) : loadA d = .tuple #[recV 0 0 0, .int .i64 0, .int .i64 100] := by
  unfold loadA; rw [ho, if_pos rfl]
end Go.Proofs.YtppmiggkknhdkaaDoor
namespace Go.Proofs.YtppmiggkknhdkaaDoor
set_option linter.unusedVariables false
open Go.RowKit

/-- All but two blocks are as they were. -/
structure Ch2 (w w' : World) (b c : Nat) : Prop where
  os : w'.os = w.os
  tape : w'.tape = w.tape
  output : w'.output = w.output
  size : w.heap.size ≤ w'.heap.size
  block : ∀ k, k < w.heap.size → k ≠ b → k ≠ c → w'.heap[k]? = w.heap[k]?
theorem Ch2.refl (w : World) (b c : Nat) : Ch2 w w b c := ⟨rfl, rfl, rfl, Nat.le_refl _, fun _ _ _ _ => rfl⟩
theorem Ch2.then {w x y : World} {b c : Nat} (h : Ch2 w x b c) (k : Ch2 x y b c) : Ch2 w y b c :=
  ⟨k.os.trans h.os, k.tape.trans h.tape, k.output.trans h.output, Nat.le_trans h.size k.size, fun j hj h1 h2 => (k.block j (Nat.lt_of_lt_of_le hj h.size) h1 h2).trans (h.block j hj h1 h2)⟩
theorem Ch2.below {w x : World} (h : Below w.heap.size w x) (b c : Nat) : Ch2 w x b c := ⟨h.os, h.tape, h.output, h.size, fun k hk _ _ => h.block k hk⟩
theorem Ch2.one {w x : World} {b : Nat} (h : w.grownBy x (some b)) (c : Nat) : Ch2 w x b c := by
  obtain ⟨h1, h2, h3, h4, h5⟩ := h
  exact ⟨h1, h2, h3, h4, fun k hk e _ => h5 k hk (by simpa using e)⟩
theorem Ch2.two {w x : World} {c : Nat} (h : w.grownBy x (some c)) (b : Nat) : Ch2 w x b c := by
  obtain ⟨h1, h2, h3, h4, h5⟩ := h
  exact ⟨h1, h2, h3, h4, fun k hk _ e => h5 k hk (by simpa using e)⟩
theorem Ch2.drew {w x : World} {b c : Nat} (h : Ch2 w x b c) : Ch2 w x.drew b c := ⟨h.os, h.tape, h.output, h.size, h.block⟩
theorem Ch2.blk {w x : World} {b c k : Nat} {o : Obj} (h : Ch2 w x b c) (hk : w.heap[k]? = some o) (h1 : k ≠ b) (h2 : k ≠ c) : x.heap[k]? = some o := (h.block k (blk_lt hk) h1 h2).trans hk
theorem Below.chg {B : Nat} {a w x : World} {b c : Nat} (h : Below B a w) (hc : Ch2 w x b c) (hB : B ≤ w.heap.size) (h1 : B ≤ b) (h2 : B ≤ c) : Below B a x := by
  refine ⟨hc.os.trans h.os, hc.tape.trans h.tape, hc.output.trans h.output, Nat.le_trans h.size hc.size, fun k hk => ?_⟩
  rw [hc.block k (Nat.lt_of_lt_of_le hk hB) (by omega) (by omega)]
  exact h.block k hk
/-- A new block beside, of which nobody else knows. -/
theorem Ch2.of_new {w x : World} {b c : Nat} (h : Ch2 w x b c) (hb : w.heap.size ≤ b) : w.grownBy x (some c) :=
  ⟨h.os, h.tape, h.output, h.size, fun k hk hne => h.block k hk (by omega) (by simpa using hne)⟩
/-- A life: what is durable, and what has been handed out. -/
structure Bt where
  life : Nat
  kround : Nat
  ktag : Nat
  round : Nat
  tag : Nat
def btC (B : Bt) (dk : Option Addr) : Array Value := #[.int .i64 (B.life : Int), .int .i64 (B.kround : Int), .int .i64 (B.ktag : Int), .int .i64 (B.round : Int), .int .i64 (B.tag : Int), .pointer dk]
def BtB (W : World) (b : Nat) (B : Bt) (dk : Option Addr) : Prop :=
  W.heap[b]? = some (.cells #[.int .i64 (B.life : Int), .int .i64 (B.kround : Int), .int .i64 (B.ktag : Int), .int .i64 (B.round : Int), .int .i64 (B.tag : Int), .pointer dk] 87 (0, 0))
theorem BtB.cells {W : World} {b : Nat} {B : Bt} {dk : Option Addr} (h : BtB W b B dk) :
    (W.cell? ⟨b, 0, none⟩ = some (.int .i64 (B.life : Int)) ∧ W.cell? ⟨b, 1, none⟩ = some (.int .i64 (B.kround : Int)) ∧ W.cell? ⟨b, 2, none⟩ = some (.int .i64 (B.ktag : Int)) ∧ W.cell? ⟨b, 3, none⟩ = some (.int .i64 (B.round : Int)) ∧ W.cell? ⟨b, 4, none⟩ = some (.int .i64 (B.tag : Int)) ∧ W.cell? ⟨b, 5, none⟩ = some (.pointer dk)) ∧
    (W.frozen? ⟨b, 0, none⟩ = false ∧ W.frozen? ⟨b, 1, none⟩ = false ∧ W.frozen? ⟨b, 2, none⟩ = false ∧ W.frozen? ⟨b, 3, none⟩ = false ∧ W.frozen? ⟨b, 4, none⟩ = false) :=
  ⟨⟨(blk_cell h 0).trans rfl, (blk_cell h 1).trans rfl, (blk_cell h 2).trans rfl, (blk_cell h 3).trans rfl, (blk_cell h 4).trans rfl, (blk_cell h 5).trans rfl⟩, blk_free h 0, blk_free h 1, blk_free h 2, blk_free h 3, blk_free h 4⟩
theorem BtB.below {W W' : World} {b : Nat} {B : Bt} {dk : Option Addr} (h : BtB W b B dk) (hb : Below W.heap.size W W') : BtB W' b B dk := blk_below' hb h
/-- A boot and its disk. -/
structure BtAt (W : World) (b c : Nat) (B : Bt) (d : Dk) : Prop where
  boot : BtB W b B (some ⟨c, 0, none⟩)
  disk : DkAt W c d
  ne : b ≠ c
theorem BtAt.below {W W' : World} {b c : Nat} {B : Bt} {d : Dk} (h : BtAt W b c B d) (hb : Below W.heap.size W W') : BtAt W' b c B d := ⟨h.boot.below hb, h.disk.below hb, h.ne⟩
theorem BtAt.turn {W W' : World} {b c : Nat} {B : Bt} {d d' : Dk} (h : BtAt W b c B d) (hg : W.grownBy W' (some c)) (hd : DkAt W' c d') : BtAt W' b c B d' := ⟨blk_grown hg h.boot (by simpa using h.ne), hd, h.ne⟩
theorem BtAt.setRound {W : World} {b c : Nat} {B : Bt} {d : Dk} (h : BtAt W b c B d) (x : Nat) : BtAt (W.setCell ⟨b, 3, none⟩ (.int .i64 (x : Int))) b c { B with round := x } d :=
  ⟨blk_store h.boot 3 _, ⟨blk_set h.disk.1 _ _ (Ne.symm h.ne), h.disk.2⟩, h.ne⟩
theorem BtAt.setTag {W : World} {b c : Nat} {B : Bt} {d : Dk} (h : BtAt W b c B d) (x : Nat) : BtAt (W.setCell ⟨b, 4, none⟩ (.int .i64 (x : Int))) b c { B with tag := x } d :=
  ⟨blk_store h.boot 4 _, ⟨blk_set h.disk.1 _ _ (Ne.symm h.ne), h.disk.2⟩, h.ne⟩
theorem BtAt.setRec {W : World} {b c : Nat} {B : Bt} {d : Dk} (h : BtAt W b c B d) (x y z : Nat) :
    BtAt (((W.setCell ⟨b, 0, none⟩ (.int .i64 (x : Int))).setCell ⟨b, 1, none⟩ (.int .i64 (y : Int))).setCell ⟨b, 2, none⟩ (.int .i64 (z : Int))) b c { B with life := x, kround := y, ktag := z } d :=
  ⟨blk_store (blk_store (blk_store h.boot 0 _) 1 _) 2 _, ⟨blk_set (blk_set (blk_set h.disk.1 _ _ (Ne.symm h.ne)) _ _ (Ne.symm h.ne)) _ _ (Ne.symm h.ne), h.disk.2⟩, h.ne⟩
end Go.Proofs.YtppmiggkknhdkaaDoor
namespace Go.Proofs.YtppmiggkknhdkaaDoor
set_option linter.unusedVariables false
set_option linter.unusedSimpArgs false
open Go.RowKit

theorem b1 (w : World) (a b : Obj) : ((w.alloc a).alloc b).heap[w.heap.size + 1]? = some b := by have := blk_new (w.alloc a) b; rwa [World.size_alloc] at this
theorem b2 (w : World) (a b c : Obj) : (((w.alloc a).alloc b).alloc c).heap[w.heap.size + 1 + 1]? = some c := by have := blk_new ((w.alloc a).alloc b) c; rwa [World.size_alloc, World.size_alloc] at this

/-- The words, the first k of them met with the mask's. -/
def mixC (x y k : Nat) : Array Value := #[.int .u32 (sw (if 0 < k then x &&& y else x) 0 : Nat), .int .u32 (sw (if 1 < k then x &&& y else x) 1 : Nat), .int .u32 (sw (if 2 < k then x &&& y else x) 2 : Nat), .int .u32 (sw (if 3 < k then x &&& y else x) 3 : Nat)]
theorem mixC_get (x y k : Nat) (hk : k < 4) : (mixC x y k)[k]? = some (.int .u32 (sw x k : Nat)) := by
  match k, hk with
  | 0, _ => rfl
  | 1, _ => rfl
  | 2, _ => rfl
  | 3, _ => rfl
theorem mixC_set (x y k : Nat) (hk : k < 4) : (mixC x y k).setIfInBounds k (.int .u32 (sw x k &&& sw y k : Nat)) = mixC x y (k + 1) := by
  rw [← sw_and]
  match k, hk with
  | 0, _ => rfl
  | 1, _ => rfl
  | 2, _ => rfl
  | 3, _ => rfl

theorem and1_any (a b : Nat) (ha : a < 4294967296) (hb : b < 4294967296) (w : World) :
    Calls Tryd.prog 76 #[.int .u32 a, .int .u32 b] w fun e w' => e = .returned (.int .u32 (a &&& b : Nat)) ∧ w' = w := by
  have h := bits_and_u32 a b ha hb
  go_enter Tryd.func76, Tryd.ntmps76
  go_wp2
  go_ret
  exact ⟨rfl, rfl⟩
set_option maxRecDepth 100000 in
set_option maxHeartbeats 1000000 in
theorem each1_any (x y : Nat) (w : World) :
    Calls Tryd.prog 74 #[setV x, setV y, .func (.func 76) #[] #[]] w fun e w' => e = .returned (setV (x &&& y)) ∧ Below w.heap.size w w' := by
  unfold setV setC
  go_enter Tryd.func74, Tryd.ntmps74
  go_wp2_with fail
  go_loopw [8] (fun i wr => ∃ k : Nat, i = .int .i64 k ∧ k ≤ 4 ∧ wr.heap[w.heap.size]? = some (.cells (mixC x y k) 59 (0, 0)) ∧ wr.heap[w.heap.size + 1]? = some (.cells (setC y) 59 (0, 0)) ∧
      wr.heap[w.heap.size + 1 + 1]? = some (.cells #[.int .u32 0, .int .u32 0, .int .u32 0, .int .u32 0] 59 (0, 0)) ∧ Below w.heap.size w wr) (fun i _ => 4 - (intOf i).toNat)
  case atStart =>
    refine ⟨0, rfl, by omega, blk_old (blk_old (blk_new w _) _) _, blk_old (b1 w _ _) _, b2 w _ _ _, (((Below.refl _ w).alloc (Nat.le_refl _) _).alloc (by simp) _).alloc (by simp; omega) _⟩
  case round =>
    obtain ⟨k, rfl, hk, b0, b1, b2, hb⟩ := hrel
    by_cases hlt : k < 4
    · have c0 : wr.cell? ⟨w.heap.size, k, none⟩ = some (.int .u32 (sw x k : Nat)) := (blk_cell b0 k).trans (mixC_get x y k hlt)
      have c1 : wr.cell? ⟨w.heap.size + 1, k, none⟩ = some (.int .u32 (sw y k : Nat)) := (blk_cell b1 k).trans (setC_get y k hlt)
      have f0 := blk_free b0 k
      have hk4 : (k : Int) < 4 := by omega
      go_wp2_with fail
      refine wp_region_still_tail 10 (by kernel_rfl) (by kernel_rfl) ?_
      simp only [List.take_succ_cons, List.take_zero, List.drop_succ_cons, List.drop_zero]
      repeat (first | still_call (and1_any _ _ (sw_lt x k) (sw_lt y k) _) | still_step)
      try refine wpStill_nil ?_
      change wpList _ _ _ _ _ wr.drew
      go_wp2
      go_roundw
      case rel =>
        refine ⟨k + 1, by go_num, by omega, ?_, blk_set (blk_drewN b1 1) _ _ (by simp <;> omega), blk_set (blk_drewN b2 1) _ _ (by simp <;> omega), (below_drewN hb 1).setCell (by simp) _⟩
        have := blk_store (blk_drewN b0 1) k (.int .u32 (sw x k &&& sw y k : Nat))
        rwa [mixC_set x y k hlt] at this
      case measure => simp [intOf]; omega
    · obtain rfl : k = 4 := by omega
      have c0 := fun i => blk_cell b0 i
      simp only [mixC] at c0
      have q0 := c0 0
      have q1 := c0 1
      have q2 := c0 2
      have q3 := c0 3
      have d0 := blk_cell b2 0
      have d1 := blk_cell b2 1
      have d2 := blk_cell b2 2
      have d3 := blk_cell b2 3
      have f0 := blk_free b2 0
      have f1 := blk_free b2 1
      have f2 := blk_free b2 2
      have f3 := blk_free b2 3
      simp at q0 q1 q2 q3 d0 d1 d2 d3
      clear c0
      go_wp2
      refine bodyPost_ret (v := setV (x &&& y)) ?_ rfl ⟨rfl, ?_⟩
      · unfold setV setC
        simp [results, Tryd.results74, go_sem, d0, d1, d2, d3]
      · exact (((hb.setCell (by simp; omega) _).setCell (by simp; omega) _).setCell (by simp; omega) _).setCell (by simp; omega) _

/-- The mask's words, the first k of them laid. -/
def upC (n k : Nat) : Array Value := #[.int .u32 (if 0 < k then sw (2 ^ n - 1) 0 else 0 : Nat), .int .u32 (if 1 < k then sw (2 ^ n - 1) 1 else 0 : Nat), .int .u32 (if 2 < k then sw (2 ^ n - 1) 2 else 0 : Nat), .int .u32 (if 3 < k then sw (2 ^ n - 1) 3 else 0 : Nat)]
theorem upC_set (n k : Nat) (hk : k < 4) : (upC n k).setIfInBounds k (.int .u32 (sw (2 ^ n - 1) k : Nat)) = upC n (k + 1) := by
  match k, hk with
  | 0, _ => rfl
  | 1, _ => rfl
  | 2, _ => rfl
  | 3, _ => rfl
theorem up_word (n k : Nat) : ((2 ^ (if (32 : Int) < if (n : Int) - (k : Int) * 32 < 0 then 0 else (n : Int) - (k : Int) * 32 then 32 else if (n : Int) - (k : Int) * 32 < 0 then 0 else (n : Int) - (k : Int) * 32).toNat - 1) % 4294967296 : Int) = ((sw (2 ^ n - 1) k : Nat) : Int) := by
  have h : (if (32 : Int) < if (n : Int) - (k : Int) * 32 < 0 then 0 else (n : Int) - (k : Int) * 32 then 32 else if (n : Int) - (k : Int) * 32 < 0 then 0 else (n : Int) - (k : Int) * 32).toNat = min (n - 32 * k) 32 := by
    split <;> split at * <;> omega
  rw [h, sw_mask]
  have h1 : 2 ^ (min (n - 32 * k) 32) ≤ 2 ^ 32 := Nat.pow_le_pow_right (by decide) (by omega)
  have h2 : 0 < 2 ^ (min (n - 32 * k) 32) := Nat.pow_pos (by decide)
  generalize min (n - 32 * k) 32 = m at *
  have h3 : (2 : Int) ^ m = ((2 ^ m : Nat) : Int) := by push_cast; rfl
  rw [h3]
  generalize 2 ^ m = q at *
  omega
theorem upC_get (n k : Nat) (hk : k < 4) : ∃ v : Nat, (upC n k)[k]? = some (.int .u32 v) := by
  match k, hk with
  | 0, _ => exact ⟨_, rfl⟩
  | 1, _ => exact ⟨_, rfl⟩
  | 2, _ => exact ⟨_, rfl⟩
  | 3, _ => exact ⟨_, rfl⟩

set_option maxRecDepth 100000 in
set_option maxHeartbeats 1000000 in
theorem upTo_any (n : Nat) (hn : n ≤ 100) (w : World) :
    Calls Tryd.prog 75 #[.int .i64 n] w fun e w' => e = .returned (setV (2 ^ n - 1)) ∧ Below w.heap.size w w' := by
  go_enter Tryd.func75, Tryd.ntmps75
  go_wp2_with fail
  go_loopw [6] (fun i wr => ∃ k : Nat, i = .int .i64 k ∧ k ≤ 4 ∧ wr.heap[w.heap.size + 1]? = some (.cells (upC n k) 59 (0, 0)) ∧
      wr.heap[w.heap.size]? = some (.cells #[.int .u32 0, .int .u32 0, .int .u32 0, .int .u32 0] 59 (0, 0)) ∧ Below w.heap.size w wr) (fun i _ => 4 - (intOf i).toNat)
  case atStart =>
    refine ⟨0, rfl, by omega, b1 w _ _, blk_old (blk_new w _) _, ((Below.refl _ w).alloc (Nat.le_refl _) _).alloc (by simp) _⟩
  case round =>
    obtain ⟨k, rfl, hk, b0, b2, hb⟩ := hrel
    by_cases hlt : k < 4
    · obtain ⟨v0, hv0⟩ := upC_get n k hlt
      have c0 : wr.cell? ⟨w.heap.size + 1, k, none⟩ = some (.int .u32 v0) := (blk_cell b0 k).trans hv0
      have f0 := blk_free b0 k
      have hk4 : (k : Int) < 4 := by omega
      have HV := Lib.hid hv0
      clear hv0
      go_wp2_with fail
      rw [up_word]
      refine ⟨⟨k + 1, by go_num, by omega, ?_, blk_set b2 _ _ (by simp), hb.setCell (by simp) _⟩, by simp [intOf]; omega⟩
      have := blk_store b0 k (.int .u32 (sw (2 ^ n - 1) k : Nat))
      rwa [upC_set n k hlt] at this
    · obtain rfl : k = 4 := by omega
      have c0 := fun i => blk_cell b0 i
      simp only [upC] at c0
      have q0 := c0 0
      have q1 := c0 1
      have q2 := c0 2
      have q3 := c0 3
      have d0 := blk_cell b2 0
      have d1 := blk_cell b2 1
      have d2 := blk_cell b2 2
      have d3 := blk_cell b2 3
      have f0 := blk_free b2 0
      have f1 := blk_free b2 1
      have f2 := blk_free b2 2
      have f3 := blk_free b2 3
      simp only [List.getElem?_toArray, List.getElem?_cons_zero, List.getElem?_cons_succ, show (0 : Nat) < 4 from by decide, show (1 : Nat) < 4 from by decide, show (2 : Nat) < 4 from by decide, show (3 : Nat) < 4 from by decide, if_true] at q0 q1 q2 q3 d0 d1 d2 d3
      clear c0
      go_wp2
      refine bodyPost_ret (v := setV (2 ^ n - 1)) ?_ rfl ⟨rfl, ?_⟩
      · unfold setV setC
        simp [results, Tryd.results75, go_sem, d0, d1, d2, d3]
      · exact (((hb.setCell (by simp) _).setCell (by simp) _).setCell (by simp) _).setCell (by simp) _

theorem set_cells {W : World} {b x : Nat} {T : TypeId} (h : W.heap[b]? = some (.cells (setC x) T (0, 0))) :
    W.cell? ⟨b, 0, none⟩ = some (.int .u32 (sw x 0 : Nat)) ∧ W.cell? ⟨b, 1, none⟩ = some (.int .u32 (sw x 1 : Nat)) ∧ W.cell? ⟨b, 2, none⟩ = some (.int .u32 (sw x 2 : Nat)) ∧ W.cell? ⟨b, 3, none⟩ = some (.int .u32 (sw x 3 : Nat)) ∧
    W.frozen? ⟨b, 0, none⟩ = false ∧ W.frozen? ⟨b, 1, none⟩ = false ∧ W.frozen? ⟨b, 2, none⟩ = false ∧ W.frozen? ⟨b, 3, none⟩ = false :=
  ⟨(blk_cell h 0).trans (setC_get x 0 (by decide)), (blk_cell h 1).trans (setC_get x 1 (by decide)), (blk_cell h 2).trans (setC_get x 2 (by decide)), (blk_cell h 3).trans (setC_get x 3 (by decide)), blk_free h 0, blk_free h 1, blk_free h 2, blk_free h 3⟩
theorem setC_zero : (#[.int .u32 0, .int .u32 0, .int .u32 0, .int .u32 0] : Array Value) = setC 0 := by kernel_rfl

set_option maxRecDepth 100000 in
set_option maxHeartbeats 1000000 in
theorem clean_any (x : Nat) (w : World) :
    Calls Tryd.prog 57 #[setV x] w fun e w' => e = .returned (setV (x % 2 ^ 100)) ∧ Below w.heap.size w w' := by
  have HU := Lib.hid (fun w => upTo_any 100 (by decide) w)
  have HE := Lib.hid (fun w => each1_any x (2 ^ 100 - 1) w)
  rw [clean_mod] at HE
  generalize x % 2 ^ 100 = y at *
  generalize (2 ^ 100 - 1 : Nat) = M at *
  unfold setV
  unfold setV at HU HE
  have b0 : ((w.alloc (.cells (setC x) 59)).alloc (.cells (setC 0) 59)).heap[w.heap.size]? = some (.cells (setC x) 59 (0, 0)) := blk_old (blk_new w _) _
  have z0 : ((w.alloc (.cells (setC x) 59)).alloc (.cells (setC 0) 59)).heap[w.heap.size + 1]? = some (.cells (setC 0) 59 (0, 0)) := b1 w _ _
  have hB : Below w.heap.size w ((w.alloc (.cells (setC x) 59)).alloc (.cells (setC 0) 59)) := ((Below.refl _ w).alloc (Nat.le_refl _) _).alloc (by simp) _
  go_enter Tryd.func57, Tryd.ntmps57
  go_wp2_with fail
  rw [setC_zero]
  obtain ⟨W, hW⟩ : ∃ W, ((w.alloc (.cells (setC x) 59)).alloc (.cells (setC 0) 59)) = W := ⟨_, rfl⟩
  rw [hW] at b0 z0 hB ⊢
  clear hW
  refine wp_region_early (fun W' => W'.heap[w.heap.size]? = some (.cells (setC x) 59 (0, 0))) (fun j => j == 2 || j == 3) (by kernel_rfl) ?_
  have d0 : W.drew.heap[w.heap.size]? = some (.cells (setC x) 59 (0, 0)) := b0
  have dz : W.drew.heap[w.heap.size + 1]? = some (.cells (setC 0) 59 (0, 0)) := z0
  have dB : Below w.heap.size w W.drew := hB.drew
  clear b0 z0 hB
  generalize W.drew = W2 at *
  simp only [List.size_toArray, List.length_cons, List.length_nil, Nat.reduceAdd, Array.replicate_succ, Array.replicate_zero, List.push_toArray, List.nil_append, List.cons_append]
  refine wpAnyE_take (i := 0) (v := ?_) rfl (by kernel_rfl) (by kernel_rfl) (by kernel_rfl) (by kernel_rfl) (fun _ _ _ h => h) (Or.inl ⟨by rfl, ?_⟩) d0 ?_
  rotate_left
  · intro w hSw
    obtain ⟨q0, q1, q2, q3, _⟩ := set_cells hSw
    go_simp
    all_goals with_reducible rfl
  simp only [Act.put, List.setIfInBounds_toArray, List.set_cons_zero, List.set_cons_succ, List.getElem_toArray, List.getElem_cons_zero, List.getElem_cons_succ]
  refine wpAnyE_tail 1 rfl (by kernel_rfl) ?_
  simp only [List.drop_succ_cons, List.drop_zero]
  change wpList _ _ (Exit.then _ _) [_] _ _
  go_wp2_with (go_at_call 75; refine (HU.out _).mono ?_; rintro e w3 ⟨rfl, hB3⟩)
  refine ⟨fun _ => blk_below' hB3 d0, wpListE_late _ _ _ _ (fun j hj => by rcases j with _ | _ | j <;> first | rfl | exact absurd hj (by simp only [List.length_cons, List.length_nil]; omega)) ?_⟩
  go_wp2_with (go_at_call 74; refine (HE.out _).mono ?_; rintro e w4 ⟨rfl, hB4⟩; obtain ⟨e0, e1, e2, e3, g0, g1, g2, g3⟩ := set_cells (blk_below' hB4 (blk_below' hB3 dz)))
  have hb := (below_then (below_then dB hB3) hB4)
  unfold setC
  go_wp2
  refine bodyPost_ret (v := .agg (setC y)) ?_ rfl ⟨rfl, (((hb.setCell (by simp) _).setCell (by simp) _).setCell (by simp) _).setCell (by simp) _⟩
  unfold setC
  simp [results, Tryd.results57, go_sem, e0, e1, e2, e3]

theorem or_word (a m : Nat) (x : Nat) : bits .or .u32 ((sw a x : Nat) : Int) (IntKind.u32.wrap (2 ^ (m % 32))) = ((sw a x ||| 2 ^ (m % 32) : Nat) : Int) := by
  have h1 : 2 ^ (m % 32) < 2 ^ 32 := Nat.pow_lt_pow_right (by decide) (by omega)
  have h2 : IntKind.u32.wrap (2 ^ (m % 32)) = ((2 ^ (m % 32) : Nat) : Int) := by
    rw [show (2 : Int) ^ (m % 32) = ((2 ^ (m % 32) : Nat) : Int) from by push_cast; rfl, IntKind.wrap_u32]
    generalize 2 ^ (m % 32) = q at *
    omega
  rw [h2, bits_or_u32 _ _ (sw_lt a x) (by omega)]
theorem withC_set (y i : Nat) (hi : i < 128) : (setC y).setIfInBounds (i / 32) (.int .u32 (sw y (i / 32) ||| 2 ^ (i % 32) : Nat)) = setC (y ||| 2 ^ i) := by
  unfold setC
  rw [sw_with, sw_with, sw_with, sw_with]
  have h : i / 32 = 0 ∨ i / 32 = 1 ∨ i / 32 = 2 ∨ i / 32 = 3 := by omega
  rcases h with h | h | h | h <;> rw [h] <;> rfl

set_option maxRecDepth 100000 in
set_option maxHeartbeats 1000000 in
theorem with_no (x : Nat) (i : Int) (h : ¬ (0 ≤ i ∧ i < 100)) (w : World) :
    Calls Tryd.prog 39 #[setV x, .int .i64 i] w fun e w' => e = .returned (.tuple #[setV 0, .int .i64 30]) ∧ Below w.heap.size w w' := by
  have H := Lib.hid (fun w => isId_no i h w)
  clear h
  unfold setV setC
  go_enter Tryd.func39, Tryd.ntmps39
  go_wp2_with (go_at_call 45; refine (H.out _).mono ?_; rintro e w1 ⟨rfl, rfl⟩)
  exact bodyPost_ret (v := .tuple #[.agg (setC 0), .int .i64 30]) (by rw [← setC_zero]; simp [results, Tryd.results39, go_sem]) rfl ⟨rfl, ((Below.refl _ w).alloc (Nat.le_refl _) _).alloc (by simp) _⟩
set_option maxRecDepth 100000 in
set_option maxHeartbeats 1000000 in
theorem with_yes (x i : Nat) (h : i < 100) (w : World) :
    Calls Tryd.prog 39 #[setV x, .int .i64 i] w fun e w' => e = .returned (.tuple #[setV (x % 2 ^ 100 ||| 2 ^ i), .int .i64 0]) ∧ Below w.heap.size w w' := by
  have H := Lib.hid (fun w => isId_yes i (by omega) (by omega) w)
  have HC := Lib.hid (fun w => clean_any x w)
  generalize x % 2 ^ 100 = y at *
  generalize hy2 : y ||| 2 ^ i = y2
  have HY2 := Lib.hid hy2
  clear hy2
  unfold setV at HC ⊢
  have b0 : ((w.alloc (.cells (setC x) 59)).alloc (.cells (setC 0) 59)).heap[w.heap.size]? = some (.cells (setC x) 59 (0, 0)) := blk_old (blk_new w _) _
  have z0 : ((w.alloc (.cells (setC x) 59)).alloc (.cells (setC 0) 59)).heap[w.heap.size + 1]? = some (.cells (setC 0) 59 (0, 0)) := b1 w _ _
  have hB : Below w.heap.size w ((w.alloc (.cells (setC x) 59)).alloc (.cells (setC 0) 59)) := ((Below.refl _ w).alloc (Nat.le_refl _) _).alloc (by simp) _
  go_enter Tryd.func39, Tryd.ntmps39
  go_wp2_with fail
  refine (H.out _).mono ?_
  rintro e w1 ⟨rfl, rfl⟩
  rw [setC_zero]
  obtain ⟨W, hW⟩ : ∃ W, ((w.alloc (.cells (setC x) 59)).alloc (.cells (setC 0) 59)) = W := ⟨_, rfl⟩
  rw [hW] at b0 z0 hB ⊢
  clear hW
  obtain ⟨q0, q1, q2, q3, _⟩ := set_cells b0
  go_wp2_with fail
  refine (HC.out _).mono ?_
  rintro e w3 ⟨rfl, hB3⟩
  have b3 := blk_below' hB3 b0
  have z3 := blk_below' hB3 z0
  have hb3 := below_then hB hB3
  clear b0 z0 hB hB3 q0 q1 q2 q3
  obtain ⟨q0, q1, q2, q3, f0, f1, f2, f3⟩ := set_cells b3
  have b4 := blk_store (blk_store (blk_store (blk_store b3 0 (.int .u32 (sw y 0 : Nat))) 1 (.int .u32 (sw y 1 : Nat))) 2 (.int .u32 (sw y 2 : Nat))) 3 (.int .u32 (sw y 3 : Nat))
  have z4 := blk_set (blk_set (blk_set (blk_set z3 ⟨w.heap.size, 0, none⟩ (.int .u32 (sw y 0 : Nat)) (by simp)) ⟨w.heap.size, 1, none⟩ (.int .u32 (sw y 1 : Nat)) (by simp)) ⟨w.heap.size, 2, none⟩ (.int .u32 (sw y 2 : Nat)) (by simp)) ⟨w.heap.size, 3, none⟩ (.int .u32 (sw y 3 : Nat)) (by simp)
  have hb4 := (((hb3.setCell (p := ⟨w.heap.size, 0, none⟩) (by simp) (.int .u32 (sw y 0 : Nat))).setCell (p := ⟨w.heap.size, 1, none⟩) (by simp) (.int .u32 (sw y 1 : Nat))).setCell (p := ⟨w.heap.size, 2, none⟩) (by simp) (.int .u32 (sw y 2 : Nat))).setCell (p := ⟨w.heap.size, 3, none⟩) (by simp) (.int .u32 (sw y 3 : Nat))
  unfold setC
  go_wp2_with fail
  generalize (((w3.setCell _ _).setCell _ _).setCell _ _).setCell _ _ = W5 at b4 z4 hb4 ⊢
  have b5 : W5.heap[w.heap.size]? = some (.cells (setC y) 59 (0, 0)) := by simpa [setC] using b4
  clear b4 b3 z3 hb3 q0 q1 q2 q3 f0 f1 f2 f3
  have c0 : W5.cell? ⟨w.heap.size, i / 32, none⟩ = some (.int .u32 (sw y (i / 32) : Nat)) := (blk_cell b5 (i / 32)).trans (setC_get y _ (by omega))
  have f0 := blk_free b5 (i / 32)
  have i1 : (i : Int) < 100 := by omega
  have i2 : IntKind.i64.wrap ((i : Int) / 32) = (i : Int) / 32 := IntWalk.i64_in _ (by omega)
  have i3 : (i : Int) / 32 < 4 := by omega
  have i4 : (0 : Int) ≤ (i : Int) / 32 := by omega
  have i8 : ((i : Int) / 32).toNat = i / 32 := by omega
  have i5 : (i : Int).tmod 32 = (i : Int) % 32 := Int.tmod_eq_emod_of_nonneg (by omega)
  have i6 : IntKind.i64.wrap ((i : Int) % 32) = (i : Int) % 32 := IntWalk.i64_in _ (by omega)
  have i7 : (0 : Int) ≤ (i : Int) % 32 := by omega
  have i9 : ((i : Int) % 32).toNat = i % 32 := by omega
  refine wp_region_still_tail 9 (by kernel_rfl) (by kernel_rfl) ?_
  simp only [List.take_succ_cons, List.take_zero, List.drop_succ_cons, List.drop_zero]
  repeat still_step
  try refine wpStill_nil ?_
  change wpList _ _ _ _ _ W5.drew
  rw [or_word]
  have b6 : W5.drew.heap[w.heap.size]? = some (.cells (setC y) 59 (0, 0)) := b5
  have z6 : W5.drew.heap[w.heap.size + 1]? = some (.cells (setC 0) 59 (0, 0)) := z4
  have hb6 : Below w.heap.size w W5.drew := hb4.drew
  generalize W5.drew = W6 at b6 z6 hb6 ⊢
  have c6 : W6.cell? ⟨w.heap.size, i / 32, none⟩ = some (.int .u32 (sw y (i / 32) : Nat)) := (blk_cell b6 (i / 32)).trans (setC_get y _ (by omega))
  have f6 := blk_free b6 (i / 32)
  clear b5 z4 hb4 c0 f0 i1 i2 i3 i4 i5 i6 i7 i8 i9
  have b7 := blk_store b6 (i / 32) (.int .u32 (sw y (i / 32) ||| 2 ^ (i % 32) : Nat))
  rw [withC_set y i (by omega), HY2.out] at b7
  have z7 := blk_set z6 ⟨w.heap.size, i / 32, none⟩ (.int .u32 (sw y (i / 32) ||| 2 ^ (i % 32) : Nat)) (by simp)
  have hb7 := hb6.setCell (p := ⟨w.heap.size, i / 32, none⟩) (by simp) (.int .u32 (sw y (i / 32) ||| 2 ^ (i % 32) : Nat))
  obtain ⟨r0, r1, r2, r3, _⟩ := set_cells b7
  obtain ⟨s0, s1, s2, s3, g0, g1, g2, g3⟩ := set_cells z7
  go_wp2
  refine bodyPost_ret (v := .tuple #[.agg (setC y2), .int .i64 0]) ?_ rfl ⟨rfl, (((hb7.setCell (by simp) _).setCell (by simp) _).setCell (by simp) _).setCell (by simp) _⟩
  unfold setC
  simp [results, Tryd.results39, go_sem, s0, s1, s2, s3]
end Go.Proofs.YtppmiggkknhdkaaDoor
namespace Go.Proofs.YtppmiggkknhdkaaDoor
set_option linter.unusedVariables false
set_option linter.unusedSimpArgs false
open Go.RowKit

structure McS (w : World) (B g cp : Nat) (R : List Nat) (o t k : Int) (bx cx x : Nat) (W : World) : Prop where
  box : W.heap[w.heap.size]? = some (.cells #[.int .i64 o, .int .i64 t, .int .i64 k] 24 (0, 0))
  book : Tb W B g cp R
  bxc : W.heap[bx]? = some (.cells #[.pointer (some ⟨B, 0, none⟩)] 22 (0, 0))
  cxc : W.heap[cx]? = some (.cells (setC x) 59 (0, 0))
  chg : Ch2 w W g cx
  ne : bx ≠ g ∧ bx ≠ cx ∧ cx ≠ g ∧ cx ≠ B ∧ g < w.heap.size ∧ cx < w.heap.size
theorem McS.below {w W X : World} {B g cp : Nat} {R : List Nat} {o t k : Int} {bx cx x : Nat} (h : McS w B g cp R o t k bx cx x W) (hb : Below W.heap.size W X) : McS w B g cp R o t k bx cx x X :=
  ⟨blk_below' hb h.box, h.book.below hb, blk_below' hb h.bxc, blk_below' hb h.cxc, h.chg.then (Ch2.below hb _ _), h.ne⟩
theorem McS.drew {w W : World} {B g cp : Nat} {R : List Nat} {o t k : Int} {bx cx x : Nat} (h : McS w B g cp R o t k bx cx x W) : McS w B g cp R o t k bx cx x W.drew := h.below ((Below.refl _ W).drew)
theorem McS.take {w W X : World} {B g cp : Nat} {R R' : List Nat} {o t k : Int} {bx cx x : Nat} (h : McS w B g cp R o t k bx cx x W) (hg : W.grownBy X (some g)) (hT : Tb X B g cp R') : McS w B g cp R' o t k bx cx x X :=
  ⟨blk_grown hg h.box (by have := h.ne; simp; omega), hT, blk_grown hg h.bxc (by have := h.ne; simp; omega), blk_grown hg h.cxc (by have := h.ne; simp; omega), h.chg.then (Ch2.one hg _), h.ne⟩
theorem McS.put {w W X : World} {B g cp : Nat} {R : List Nat} {o t k : Int} {bx cx x y : Nat} (h : McS w B g cp R o t k bx cx x W) (hg : W.grownBy X (some cx)) (hy : X.heap[cx]? = some (.cells (setC y) 59 (0, 0))) : McS w B g cp R o t k bx cx y X :=
  ⟨blk_grown hg h.box (by have := h.ne; simp; omega), h.book.other hg (by have := h.ne; omega) (by have := h.ne; omega), blk_grown hg h.bxc (by have := h.ne; simp; omega), hy, h.chg.then (Ch2.two hg _), h.ne⟩
def Mc8 (p : Nat) (o t k : Int) (bx B cx x : Nat) (W : World) : Prop := Bx3 p o t k W ∧ W.cell? ⟨bx, 0, none⟩ = some (.pointer (some ⟨B, 0, none⟩)) ∧ (W.cell? ⟨cx, 0, none⟩ = some (.int .u32 (sw x 0 : Nat)) ∧ W.cell? ⟨cx, 1, none⟩ = some (.int .u32 (sw x 1 : Nat)) ∧ W.cell? ⟨cx, 2, none⟩ = some (.int .u32 (sw x 2 : Nat)) ∧ W.cell? ⟨cx, 3, none⟩ = some (.int .u32 (sw x 3 : Nat)))
theorem McS.c8 {w W : World} {B g cp : Nat} {R : List Nat} {o t k : Int} {bx cx x : Nat} (h : McS w B g cp R o t k bx cx x W) : Mc8 w.heap.size o t k bx B cx x W := by
  obtain ⟨q0, q1, q2, q3, _⟩ := set_cells h.cxc
  exact ⟨⟨blk_cell h.box 0, blk_cell h.box 1, blk_cell h.box 2⟩, blk_cell h.bxc 0, q0, q1, q2, q3⟩
set_option maxRecDepth 100000 in
set_option maxHeartbeats 1000000 in
theorem merge1_any {w : World} {B g cp : Nat} {R : List Nat} (i r bx cx x : Nat) (h : Tb w B g cp R) (hbx : w.heap[bx]? = some (.cells #[.pointer (some ⟨B, 0, none⟩)] 22 (0, 0))) (hcx : w.heap[cx]? = some (.cells (setC x) 59 (0, 0)))
    (hne : bx ≠ g ∧ bx ≠ cx ∧ cx ≠ g ∧ cx ≠ B) (hi : i < R.length) (hr : r ≤ 2097153) :
    Calls Tryd.prog 38 #[nV (i : Int) (tgN r : Nat) (kdN r : Nat), .pointer (some ⟨bx, 0, none⟩), .pointer (some ⟨cx, 0, none⟩)] w fun e w' => e = .returned (.tuple #[]) ∧ Tb w' B g cp (tkR R i r) ∧ (∃ y, w'.heap[cx]? = some (.cells (setC y) 59 (0, 0))) ∧ Ch2 w w' g cx := by
  have HS := Lib.hid (show McS w B g cp R (i : Int) (tgN r : Nat) (kdN r : Nat) bx cx x (w.alloc (.cells #[.int .i64 (i : Int), .int .i64 (tgN r : Nat), .int .i64 (kdN r : Nat)] 24)) from
    ⟨blk_new w _, h.below ((Below.refl _ _).alloc (Nat.le_refl _) _), blk_old hbx _, blk_old hcx _, Ch2.below ((Below.refl _ _).alloc (Nat.le_refl _) _) _ _, hne.1, hne.2.1, hne.2.2.1, hne.2.2.2, h.lt.2, blk_lt hcx⟩)
  have HT : Hid (∀ W, Tb W B g cp R → Calls Tryd.prog 10 #[.pointer (some ⟨B, 0, none⟩), nV (i : Int) (tgN r : Nat) (kdN r : Nat)] W fun e w' => e = .returned (.tuple #[.bool (decide (R.getD i 0 < r)), .int .i64 0]) ∧ Tb w' B g cp (tkR R i r) ∧ W.grownBy w' (some g)) := Lib.hid fun W hW => take_yes hW i r hi hr
  have HW := Lib.hid (fun w => with_yes x i (by have := h.n; omega) w)
  generalize x % 2 ^ 100 ||| 2 ^ i = y at HW
  have HNE := Lib.hid hne
  unfold nV at HT ⊢
  unfold setV setC at HW
  cases hlt : decide (R.getD i 0 < r) with
  | false =>
    rw [hlt] at HT
    clear h hbx hcx hne hi hr hlt HW
    go_enter Tryd.func38, Tryd.ntmps38
    obtain ⟨⟨k0, k1, k2⟩, k3, _⟩ := HS.out.c8
    go_upto_region 1 with fail
    generalize World.alloc w _ = W at *
    go_wp2_with (go_at_call 10; refine (HT.out _ HS.out.book).mono ?_; rintro e w1 ⟨rfl, hT1, hg1⟩; have HS := Lib.hid (HS.out.take hg1 hT1); clear hT1 hg1; obtain ⟨⟨k0, k1, k2⟩, k3, q0, q1, q2, q3⟩ := HS.out.c8)
    go_end0
    exact ⟨rfl, HS.out.book, ⟨_, HS.out.cxc⟩, HS.out.chg⟩
  | true =>
    rw [hlt] at HT
    clear h hbx hcx hne hi hr hlt
    go_enter Tryd.func38, Tryd.ntmps38
    obtain ⟨⟨k0, k1, k2⟩, k3, _⟩ := HS.out.c8
    go_upto_region 1 with fail
    generalize World.alloc w _ = W at *
    go_wp2_with (go_at_call 10; refine (HT.out _ HS.out.book).mono ?_; rintro e w1 ⟨rfl, hT1, hg1⟩; have HS := Lib.hid (HS.out.take hg1 hT1); clear hT1 hg1; obtain ⟨⟨k0, k1, k2⟩, k3, q0, q1, q2, q3⟩ := HS.out.c8)
    refine (HW.out _).mono ?_
    rintro e w3 ⟨rfl, hB⟩
    have HS := Lib.hid (HS.out.below hB)
    clear hB k0 k1 k2 k3 q0 q1 q2 q3
    obtain ⟨_, _, q0, q1, q2, q3⟩ := HS.out.c8
    obtain ⟨_, _, _, _, f0, f1, f2, f3⟩ := set_cells HS.out.cxc
    have hcl := blk_lt HS.out.cxc
    have hg := Lib.hid (but_set (but_set (but_set (but_set (but_refl w3 (some cx)) hcl 0 (.int .u32 (sw y 0 : Nat))) hcl 1 (.int .u32 (sw y 1 : Nat))) hcl 2 (.int .u32 (sw y 2 : Nat))) hcl 3 (.int .u32 (sw y 3 : Nat)))
    have hs := Lib.hid (blk_store (blk_store (blk_store (blk_store HS.out.cxc 0 (.int .u32 (sw y 0 : Nat))) 1 (.int .u32 (sw y 1 : Nat))) 2 (.int .u32 (sw y 2 : Nat))) 3 (.int .u32 (sw y 3 : Nat)))
    clear hcl
    go_wp2_with fail
    go_end0
    have HS2 := HS.out.put (y := y) hg.out (by have := hs.out; simpa [setC] using this)
    exact ⟨rfl, HS2.book, ⟨y, HS2.cxc⟩, HS2.chg⟩
end Go.Proofs.YtppmiggkknhdkaaDoor
