/- Walks: put, bytes (the slot's). -/
import Derived.Test.YthkppkecclnlnaaGreatSlotA
import Derived.Test.YthkppkecclnlnaaGreatMid
namespace Go.Proofs.YthkppkecclnlnaaGreat
set_option linter.unusedVariables false
set_option linter.unusedSimpArgs false
open Go.RowKit

/-- Some bytes laid over others from a place on. -/
def putAt (l : List Nat) (o : Nat) (m : List Nat) : List Nat := l.take o ++ (m ++ l.drop (o + m.length))
theorem putAt_len {l m : List Nat} {o : Nat} (h : o + m.length ≤ l.length) : (putAt l o m).length = l.length := by
  unfold putAt; simp only [List.length_append, List.length_take, List.length_drop]; omega
theorem putAt_step (l m : List Nat) (o k v : Nat) (h : o + m.length ≤ l.length) (hk : m[k]? = some v) : (putAt l o (m.take k)).set (o + k) v = putAt l o (m.take (k + 1)) := by
  have hkl := (List.getElem?_eq_some_iff.1 hk).1
  have h1 : (m.take k).length = k := by rw [List.length_take]; omega
  have h2 : (m.take (k + 1)).length = k + 1 := by rw [List.length_take]; omega
  have h3 : (l.take o).length = o := by rw [List.length_take]; omega
  unfold putAt
  rw [h1, h2, List.set_append_right _ _ (by omega), h3, Nat.add_sub_cancel_left, List.set_append_right _ _ (by omega), h1, Nat.sub_self, List.take_add_one, hk]
  rw [List.drop_eq_getElem_cons (show o + k < l.length by omega), List.set_cons_zero, Option.toList_some, List.append_assoc, Nat.add_assoc]
  rfl
theorem bC_get (l : List Nat) (j : Nat) : (bC l)[j]? = (l[j]?).map fun x : Nat => Value.int .u8 (x : Int) := by unfold bC; rw [List.getElem?_map]
theorem bC_set (l : List Nat) (j v : Nat) : (bC l).set j (.int .u8 (v : Int)) = bC (l.set j v) := by unfold bC; rw [List.map_set]
theorem be_get {n x k : Nat} (h : k < n) : (be n x)[k]? = some (x / 256 ^ (n - 1 - k) % 256) := by
  unfold be; rw [List.getElem?_map, List.getElem?_range h]; rfl
set_option maxRecDepth 100000 in
theorem put_any (b o n cap x : Nat) (l : List Nat) (t : TypeId) (w : World) (h : w.heap[b]? = some (.cells (bC l).toArray t (0, 0))) (hn : o + n ≤ l.length) (hn8 : n ≤ 8) (hx : x < 4611686018427387904) :
    Calls Tryz.prog 75 #[.slice (some ⟨b, o, none⟩) n cap, .int .i64 (x : Int)] w fun e w' => e = .returned (.tuple #[]) ∧ w'.heap[b]? = some (.cells (bC (putAt l o (be n x))).toArray t (0, 0)) ∧ w.grownBy w' (some b) := by
  have hlt0 := blk_lt h
  have h0 : putAt l o ((be n x).take 0) = l := by unfold putAt; simp
  have HN := Lib.hid hn
  clear hn
  go_enter Tryz.func75, Tryz.ntmps75
  go_wp2_with fail
  go_loopw [7] (fun i wr => ∃ (k : Nat), i = .int .i64 k ∧ k ≤ n ∧ wr.heap[b]? = some (.cells (bC (putAt l o ((be n x).take k))).toArray t (0, 0)) ∧ w.grownBy wr (some b)) (fun i _ => n - (intOf i).toNat)
  case atStart => exact ⟨0, rfl, by omega, by rw [h0]; exact h, but_refl _ _⟩
  case round =>
    obtain ⟨k, rfl, hk, hB, hg⟩ := hrel
    clear h0
    by_cases hlt : k < n
    · have i1 : (k : Int) < (n : Int) := by omega
      have i2 : (0 : Int) ≤ (k : Int) := by omega
      have i3 : (k : Int).toNat = k := Int.toNat_natCast k
      have hv := be_get (x := x) hlt
      have hst := putAt_step l (be n x) o k _ (by rw [be_len]; exact HN.out) hv
      have HST := Lib.hid hst
      have hlen : (putAt l o ((be n x).take k)).length = l.length := putAt_len (by rw [List.length_take, be_len]; have := HN.out; omega)
      obtain ⟨y, hy⟩ : ∃ y, (putAt l o ((be n x).take k))[o + k]? = some y := ⟨_, List.getElem?_eq_getElem (by rw [hlen]; have := HN.out; omega)⟩
      have c0 : wr.cell? ⟨b, o + k, none⟩ = some (.int .u8 (y : Int)) := by rw [blk_cell hB, List.getElem?_toArray, bC_get, hy]; rfl
      have z0 := blk_free hB (o + k)
      clear hst hv hy hlen
      have e0 : (n : Int) - 1 - (k : Int) = ((n - 1 - k : Nat) : Int) := by omega
      go_wp2_with fail
      go_roundw
      case rel =>
        have hval : ((x : Int) / 2 ^ (8 * (n - 1 - k)) % 256) = ((x / 256 ^ (n - 1 - k) % 256 : Nat) : Int) := by
          rw [show (256 : Nat) ^ (n - 1 - k) = 2 ^ (8 * (n - 1 - k)) from by rw [Nat.pow_mul]]; push_cast; rfl
        rw [hval]
        refine ⟨k + 1, by go_num, by omega, ?_, but_set hg hlt0 _ _⟩
        have := blk_store hB (o + k) (.int .u8 ((x / 256 ^ (n - 1 - k) % 256 : Nat) : Int))
        rw [this, List.setIfInBounds_toArray, bC_set, HST.out]
      case measure => simp [intOf]; omega
    · obtain rfl : k = n := by omega
      have i1 : ¬ (k : Int) < (k : Int) := by omega
      rw [List.take_of_length_le (by rw [be_len]; exact Nat.le_refl _)] at hB
      go_wp2_with fail
      go_end0
      exact ⟨rfl, hB, hg⟩
theorem b1' (w : World) (a b : Obj) : ((w.alloc a).alloc b).heap[w.heap.size + 1]? = some b := by have := blk_new (w.alloc a) b; rwa [World.size_alloc] at this
theorem b2' (w : World) (a b c : Obj) : (((w.alloc a).alloc b).alloc c).heap[w.heap.size + 1 + 1]? = some c := by have := blk_new ((w.alloc a).alloc b) c; rwa [World.size_alloc, World.size_alloc] at this
theorem setCells_grown {b : Nat} (vs : List Value) : ∀ (o : Nat) (W W0 : World), W0.grownBy W (some b) → b < W0.heap.size → W0.grownBy (W.setCells b o vs) (some b) := by
  induction vs with
  | nil => intro o W W0 h _; exact h
  | cons v vs ih => intro o W W0 h hb; exact ih (o + 1) _ _ (but_set h hb _ _) hb
/-- 'copy(b, s)', s a text, into a block of bytes that is known whole. -/
theorem copy_text {P : Program} (w : World) (dT sT ty elem : TypeId) (b o dLen dCap : Nat) (s : ByteArray) (m l : List Nat) (t : TypeId)
    (hu : P.underlying dT = some (.slice elem)) (hs : (P.info? elem).map (·.size) = some 1) (hm : Lib.strCells s = bC m) (hn : m.length ≤ dLen)
    (hb : w.heap[b]? = some (.cells (bC l).toArray t (0, 0))) (ho : o + m.length ≤ l.length) :
    ∃ W', (Builtin.copy_ #[dT, sT] ty #[.slice (some ⟨b, o, none⟩) dLen dCap, .string s]).run P w = .ok (goInt s.size) W' ∧ W'.heap[b]? = some (.cells (bC (putAt l o m)).toArray t (0, 0)) ∧ w.grownBy W' (some b) := by
  have hL := Lib.strCells_length s
  have hml : m.length = s.size := by rw [← hL, hm, bC_len]
  have hth := there_blk hb o s.size (by simp [bC_len]; omega)
  have hst := run_storeCells_cells (P := P) b o (Lib.strCells s) 0 w (fun j hj => by
    rw [Nat.add_zero, blk_cell hb, List.getElem?_toArray, List.getElem?_eq_getElem (by rw [bC_len]; omega)]; rfl) (fun j _ => blk_free hb _) (Lib.strCells_oneCell s)
  have hq : min s.size dLen = s.size := by omega
  refine ⟨w.setCells b o (Lib.strCells s), ?_, ?_, ?_⟩
  · cases hq2 : P.info? elem with
    | none => simp [hq2] at hs
    | some i =>
      have hi : i.size = 1 := by simpa [hq2] using hs
      have hf := Lib.run_firstCells_string (P := P) w 1 s
      simp [Builtin.copy_, run_underlying hu, Builtin.lenOf, sizeOf, typeInfo, hq2, hi, hq, hf, hst]
  · rw [setCells_blk _ o w _ hb, hm]
    congr 2
    apply Array.ext_getElem?
    intro j
    rw [setAll_get, List.getElem?_toArray, List.getElem?_toArray, bC_len, bC_get, bC_get, bC_get]
    unfold putAt
    rw [List.getElem?_append, List.getElem?_append, List.length_take, List.getElem?_take, List.getElem?_drop]
    simp only [List.size_toArray, bC_len]
    have e : min o l.length = o := by omega
    rw [e]
    by_cases c1 : j < o
    · rw [if_neg (by omega), if_pos c1, if_pos c1]
    · by_cases c2 : j < o + m.length
      · rw [if_pos (by omega), if_neg c1, if_pos (by omega)]
      · rw [if_neg (by omega), if_neg c1, if_neg (by omega)]; congr 2; omega
  · exact setCells_grown _ o w _ (but_refl _ _) (blk_lt hb)
/-- The blocks of a slot's bytes while they are laid. -/
structure Bs (w : World) (r : Rc) (l : List Nat) (W : World) : Prop where
  box : W.heap[w.heap.size]? = some (.cells #[.int .i64 (r.life : Int), .int .i64 (r.round : Int), .int .i64 (r.tag : Int), .int .i64 (r.seq : Int)] 59 (0, 0))
  res : W.heap[w.heap.size + 1]? = some (.cells (bC (List.replicate 64 0)).toArray 57 (0, 0))
  b : W.heap[w.heap.size + 1 + 1]? = some (.cells (bC l).toArray 57 (0, 0))
  low : Below w.heap.size w W
  len : l.length = 64
theorem Bs.drew {w W : World} {r : Rc} {l : List Nat} (h : Bs w r l W) : Bs w r l W.drew := ⟨h.box, h.res, h.b, h.low.drew, h.len⟩
theorem Bs.put {w W W' : World} {r : Rc} {l m : List Nat} {o : Nat} (h : Bs w r l W) (hb : W'.heap[w.heap.size + 1 + 1]? = some (.cells (bC (putAt l o m)).toArray 57 (0, 0))) (hg : W.grownBy W' (some (w.heap.size + 1 + 1))) (hm : o + m.length ≤ 64) : Bs w r (putAt l o m) W' :=
  ⟨blk_grown hg h.box (by simp; omega), blk_grown hg h.res (by simp), hb, h.low.grown hg h.low.size (fun j hj => by cases hj; omega), (putAt_len (by rw [h.len]; exact hm)).trans h.len⟩
theorem Bs.cells {w W : World} {r : Rc} {l : List Nat} (h : Bs w r l W) :
    W.cell? ⟨w.heap.size, 0, none⟩ = some (.int .i64 (r.life : Int)) ∧ W.cell? ⟨w.heap.size, 1, none⟩ = some (.int .i64 (r.round : Int)) ∧ W.cell? ⟨w.heap.size, 2, none⟩ = some (.int .i64 (r.tag : Int)) ∧ W.cell? ⟨w.heap.size, 3, none⟩ = some (.int .i64 (r.seq : Int)) :=
  ⟨(blk_cell h.box 0).trans rfl, (blk_cell h.box 1).trans rfl, (blk_cell h.box 2).trans rfl, (blk_cell h.box 3).trans rfl⟩
theorem slot_info : (Tryz.prog.info? 57).map (·.size) = some 64 := by kernel_rfl
theorem enc_puts (r : Rc) : putAt (putAt (putAt (putAt (putAt (putAt (putAt (List.replicate 64 0) 0 [101, 97, 114, 49]) 4 (be 8 r.seq)) 12 (be 4 r.life)) 16 (be 5 r.round)) 32 [101, 97, 114, 50]) 36 (be 8 r.seq)) 44 (be 3 r.tag) = encL r := by
  rfl
set_option maxRecDepth 100000 in
theorem bytes_any (r : Rc) (h : r.may) (w : World) : Calls Tryz.prog 20 #[keptV r] w fun e w' => e = .returned (.agg (bC (encL r)).toArray) ∧ Below w.heap.size w w' := by
  unfold keptV
  have HM := Lib.hid h
  obtain ⟨m1, m2, m3, m4, m5, m6⟩ := h
  go_enter Tryz.func20, Tryz.ntmps20
  go_wp2_with fail
  generalize hW3 : World.alloc (World.alloc (World.alloc w _) _) _ = W3
  have B0 : Bs w r (List.replicate 64 0) W3 := by
    rw [← hW3]
    exact ⟨blk_old (blk_old (blk_new w _) _) _, blk_old (b1' w _ _) _, b2' w _ _ _, (((Below.refl _ w).alloc (Nat.le_refl _) _).alloc (by simp) _).alloc (by simp; omega) _, List.length_replicate⟩
  clear hW3
  obtain ⟨W4, hrun, hb4, hg4⟩ := copy_text (P := Tryz.prog) W3 24 9 3 5 (w.heap.size + 1 + 1) 0 64 64 ⟨#[101, 97, 114, 49]⟩ [101, 97, 114, 49] _ _ Tryz.underlying24 (by kernel_rfl) rfl (by decide) B0.b (by simp)
  have B4 := B0.put hb4 hg4 (by decide)
  rw [hrun]
  clear hrun hb4 hg4 B0
  go_wp2_with fail
  obtain ⟨c0, c1, c2, c3⟩ := B4.cells
  refine wp_region_still_tail 3 (by kernel_rfl) (by kernel_rfl) ?_
  simp only [List.take_succ_cons, List.take_zero, List.drop_succ_cons, List.drop_zero]
  repeat still_step
  try refine wpStill_nil ?_
  change wpList _ _ _ _ _ (World.drew _)
  have hd := B4.drew
  clear c0 c1 c2 c3
  go_wp2_with (go_at_call 75; refine (put_any (w.heap.size + 1 + 1) 4 8 _ r.seq _ 57 _ hd.b (by rw [hd.len]; decide) (by decide) (by omega)).mono ?_; rintro e w5 ⟨rfl, hb, hg⟩; have B5 := hd.put hb hg (by rw [be_len]; decide); clear hb hg hd B4)
  obtain ⟨c0, c1, c2, c3⟩ := B5.cells
  refine wp_region_still_tail 4 (by kernel_rfl) (by kernel_rfl) ?_
  simp only [List.take_succ_cons, List.take_zero, List.drop_succ_cons, List.drop_zero]
  repeat still_step
  try refine wpStill_nil ?_
  change wpList _ _ _ _ _ (World.drew _)
  have hd := B5.drew
  clear c0 c1 c2 c3
  go_wp2_with (go_at_call 75; refine (put_any (w.heap.size + 1 + 1) 12 4 _ r.life _ 57 _ hd.b (by rw [hd.len]; decide) (by decide) (by omega)).mono ?_; rintro e w6 ⟨rfl, hb, hg⟩; have B6 := hd.put hb hg (by rw [be_len]; decide); clear hb hg hd B5)
  obtain ⟨c0, c1, c2, c3⟩ := B6.cells
  refine wp_region_still_tail 4 (by kernel_rfl) (by kernel_rfl) ?_
  simp only [List.take_succ_cons, List.take_zero, List.drop_succ_cons, List.drop_zero]
  repeat still_step
  try refine wpStill_nil ?_
  change wpList _ _ _ _ _ (World.drew _)
  have hd := B6.drew
  clear c0 c1 c2 c3
  go_wp2_with (go_at_call 75; refine (put_any (w.heap.size + 1 + 1) 16 5 _ r.round _ 57 _ hd.b (by rw [hd.len]; decide) (by decide) (by omega)).mono ?_; rintro e w7 ⟨rfl, hb, hg⟩; have B7 := hd.put hb hg (by rw [be_len]; decide); clear hb hg hd B6)
  obtain ⟨W8, hrun, hb8, hg8⟩ := copy_text (P := Tryz.prog) w7 24 9 3 5 (w.heap.size + 1 + 1) 32 32 32 ⟨#[101, 97, 114, 50]⟩ [101, 97, 114, 50] _ _ Tryz.underlying24 (by kernel_rfl) rfl (by decide) B7.b (by rw [B7.len]; decide)
  have B8 := B7.put hb8 hg8 (by decide)
  rw [hrun]
  clear hrun hb8 hg8 B7
  go_wp2_with fail
  obtain ⟨c0, c1, c2, c3⟩ := B8.cells
  refine wp_region_still_tail 3 (by kernel_rfl) (by kernel_rfl) ?_
  simp only [List.take_succ_cons, List.take_zero, List.drop_succ_cons, List.drop_zero]
  repeat still_step
  try refine wpStill_nil ?_
  change wpList _ _ _ _ _ (World.drew _)
  have hd := B8.drew
  clear c0 c1 c2 c3
  go_wp2_with (go_at_call 75; refine (put_any (w.heap.size + 1 + 1) 36 8 _ r.seq _ 57 _ hd.b (by rw [hd.len]; decide) (by decide) (by omega)).mono ?_; rintro e w9 ⟨rfl, hb, hg⟩; have B9 := hd.put hb hg (by rw [be_len]; decide); clear hb hg hd B8)
  obtain ⟨c0, c1, c2, c3⟩ := B9.cells
  refine wp_region_still_tail 4 (by kernel_rfl) (by kernel_rfl) ?_
  simp only [List.take_succ_cons, List.take_zero, List.drop_succ_cons, List.drop_zero]
  repeat still_step
  try refine wpStill_nil ?_
  change wpList _ _ _ _ _ (World.drew _)
  have hd := B9.drew
  clear c0 c1 c2 c3
  go_wp2_with (first
    | (go_at_call 75; refine (put_any (w.heap.size + 1 + 1) 44 3 _ r.tag _ 57 _ hd.b (by rw [hd.len]; decide) (by decide) (by omega)).mono ?_; rintro e w10 ⟨rfl, hb, hg⟩; have B10 := hd.put hb hg (by rw [be_len]; decide); clear hb hg hd B9; rw [enc_puts] at B10; have hb10 := Lib.hid B10.b; have hr10 := Lib.hid B10.res)
    | (refine wpList_load_row rfl _ _ rfl (w.heap.size + 1 + 1) rfl _ (bC (encL r)).toArray _ _ hb10.out Tryz.underlying57 rfl (slot_info.trans (by simp [bC_len, encL_len])) ?_)
    | (refine wpList_store_mid rfl _ _ _ rfl (w.heap.size + 1) 0 (bC (encL r)).toArray rfl rfl (there_blk hr10.out 0 _ (by simp [bC_len, encL_len])) (slot_info.trans (by simp [bC_len, encL_len])) (all_oneCell_toArray (bC_one _)) ?_))
  have h3 := setCells_whole hr10.out (bC (encL r)).toArray (by simp [bC_len, encL_len])
  exact bodyPost_ret (v := .agg (bC (encL r)).toArray) (results_cell_row rfl _ _ (w.heap.size + 1) _ _ _ _ rfl h3 Tryz.underlying57 rfl (slot_info.trans (by simp [bC_len, encL_len]))) rfl ⟨rfl, setCells_below _ _ _ B10.low (by omega)⟩
end Go.Proofs.YthkppkecclnlnaaGreat
