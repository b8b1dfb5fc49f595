/- Walks: the document's Encode, Decode. -/
import Derived.Test.YthkppkecclnlnaaGreatRefA
import Derived.Test.YthkppkecclnlnaaGreatSlotN
import Derived.Deep.OwnRows
import Derived.BigQuiet
namespace Go.Proofs.YthkppkecclnlnaaGreat
set_option linter.unusedVariables false
set_option linter.unusedSimpArgs false
open Go.RowKit

theorem made_bytes (n : Nat) : madeCells #[Value.int .u8 0] n = (bC (List.replicate n 0)).toArray := by
  apply Array.ext
  · simp [size_madeCells, bC]
  · intro i h1 h2
    simp [madeCells, Nat.mod_one, bC]
theorem make64 (w : World) : (Instr.makeSlice 24 (.int .i64 64) (.int .i64 64)).run Tryz.prog w = .ok (.slice (some ⟨w.heap.size, 0, none⟩) 64 64) (w.alloc (.cells (bC (List.replicate 64 0)).toArray 5)) := by
  have := run_make_row' 24 5 (.int .u8 0) 1 Tryz.underlying24 Tryz.infoByte rfl .i64 .i64 64 (by decide) (by decide) w
  rwa [made_bytes] at this
def NewU (w W : World) (v : Value) (l : List Nat) : Prop := ∃ g, v = .slice (some ⟨g, 0, none⟩) 64 64 ∧ w.heap.size ≤ g ∧ W.heap[g]? = some (.cells (bC l).toArray 5 (0, 0))
structure Rs (w : World) (a b c : Int) (g : Nat) (l : List Nat) (W : World) : Prop where
  box : W.heap[w.heap.size]? = some (.cells #[.int .i64 a, .int .i64 b, .int .i64 c] 23 (0, 0))
  b : W.heap[g]? = some (.cells (bC l).toArray 5 (0, 0))
  low : Below w.heap.size w W
  len : l.length = 64
  far : w.heap.size < g
theorem Rs.put {w W W' : World} {a b c : Int} {g : Nat} {l m : List Nat} {o : Nat} (h : Rs w a b c g l W) (hb : W'.heap[g]? = some (.cells (bC (putAt l o m)).toArray 5 (0, 0))) (hg : W.grownBy W' (some g)) (hm : o + m.length ≤ 64) : Rs w a b c g (putAt l o m) W' :=
  ⟨blk_grown hg h.box (by simp; have := h.far; omega), hb, h.low.grown hg h.low.size (fun j hj => by cases hj; have := h.far; omega), (putAt_len (by rw [h.len]; exact hm)).trans h.len, h.far⟩
set_option maxRecDepth 100000 in
set_option maxHeartbeats 1000000 in
theorem refEncode_ok (r : Rc) (hm : r.may) (w : World) : Calls Tryz.prog 6 #[recV r.life r.round r.tag, .int .i64 (r.seq : Int)] w fun e w' =>
    ∃ v, e = .returned (.tuple #[v, .int .i64 0]) ∧ NewU w w' v (encL r) ∧ Below w.heap.size w w' := by
  have HM := Lib.hid (fun w => refMay_any (r.life : Int) (r.round : Int) (r.tag : Int) w)
  obtain ⟨m1, m2, m3, m4, m5, m6⟩ := hm
  have hb0 : Below w.heap.size w (w.alloc (.cells #[.int .i64 (r.life : Int), .int .i64 (r.round : Int), .int .i64 (r.tag : Int)] 23)) := (Below.refl _ w).alloc (Nat.le_refl _) _
  have k0 := box3 w (.int .i64 (r.life : Int)) (.int .i64 (r.round : Int)) (.int .i64 (r.tag : Int)) 23
  rw [decide_eq_true (show mayR (r.life : Int) (r.round : Int) (r.tag : Int) from ⟨by omega, by omega, by omega, by omega, by omega, by omega⟩)] at HM
  unfold recV at HM ⊢
  have s1 : ¬ (r.seq : Int) < 1 := by omega
  have s2 : ¬ (1099511627776 : Int) < (r.seq : Int) := by omega
  go_enter Tryz.func6, Tryz.ntmps6
  go_wp2_with fail
  refine (HM.out _).mono ?_
  rintro e w1 ⟨rfl, hB1⟩
  have hb1 := below_then hb0 hB1
  have k1 := blk_below' hB1 k0
  have hmk := make64 w1
  clear hb0 k0 hB1
  go_upto_region 4 with fail
  generalize hW2 : World.alloc w1 _ = W2
  obtain ⟨g, hgg⟩ : ∃ g, w1.heap.size = g := ⟨_, rfl⟩
  have B0 : Rs w (r.life : Int) (r.round : Int) (r.tag : Int) g (List.replicate 64 0) W2 := by
    rw [← hW2, ← hgg]
    exact ⟨blk_old k1 _, blk_new w1 _, hb1.alloc hb1.size _, List.length_replicate, blk_lt k1⟩
  rw [hgg]
  have hgw : w.heap.size ≤ g := Nat.le_of_lt B0.far
  clear hW2 hmk k1 hb1 hgg
  go_wp2_with fail
  obtain ⟨W4, hrun, hb4, hg4⟩ := copy_text (P := Tryz.prog) W2 24 9 3 5 g 0 64 64 ⟨#[101, 97, 114, 49]⟩ [101, 97, 114, 49] _ _ Tryz.underlying24 (by kernel_rfl) rfl (by decide) B0.b (by rw [B0.len]; decide)
  have B4 := B0.put hb4 hg4 (by decide)
  rw [hrun]
  clear hrun hb4 hg4 B0
  obtain ⟨c0, c1, c2, _⟩ := blk3 B4.box
  go_wp2_with fail
  refine (lay_any g 4 8 r.seq 64 _ 5 _ B4.b (by rw [B4.len]) (by decide) (by decide) (by decide) (by omega)).mono ?_
  rintro e w5 ⟨rfl, hb, hg⟩
  have B5 := B4.put hb hg (by rw [be_len]; decide)
  clear hb hg c0 c1 c2 B4
  obtain ⟨c0, c1, c2, _⟩ := blk3 B5.box
  go_wp2_with fail
  refine (lay_any g 12 4 r.life 64 _ 5 _ B5.b (by rw [B5.len]) (by decide) (by decide) (by decide) (by omega)).mono ?_
  rintro e w6 ⟨rfl, hb, hg⟩
  have B6 := B5.put hb hg (by rw [be_len]; decide)
  clear hb hg c0 c1 c2 B5
  obtain ⟨c0, c1, c2, _⟩ := blk3 B6.box
  go_wp2_with fail
  refine (lay_any g 16 5 r.round 64 _ 5 _ B6.b (by rw [B6.len]) (by decide) (by decide) (by decide) (by omega)).mono ?_
  rintro e w7 ⟨rfl, hb, hg⟩
  have B7 := B6.put hb hg (by rw [be_len]; decide)
  clear hb hg c0 c1 c2 B6
  go_wp2_with fail
  obtain ⟨W8, hrun, hb8, hg8⟩ := copy_text (P := Tryz.prog) w7 24 9 3 5 g 32 32 32 ⟨#[101, 97, 114, 50]⟩ [101, 97, 114, 50] _ _ Tryz.underlying24 (by kernel_rfl) rfl (by decide) B7.b (by rw [B7.len]; decide)
  have B8 := B7.put hb8 hg8 (by decide)
  rw [hrun]
  clear hrun hb8 hg8 B7
  obtain ⟨c0, c1, c2, _⟩ := blk3 B8.box
  go_wp2_with fail
  refine (lay_any g 36 8 r.seq 64 _ 5 _ B8.b (by rw [B8.len]) (by decide) (by decide) (by decide) (by omega)).mono ?_
  rintro e w9 ⟨rfl, hb, hg⟩
  have B9 := B8.put hb hg (by rw [be_len]; decide)
  clear hb hg c0 c1 c2 B8
  obtain ⟨c0, c1, c2, _⟩ := blk3 B9.box
  go_wp2_with fail
  refine (lay_any g 44 3 r.tag 64 _ 5 _ B9.b (by rw [B9.len]) (by decide) (by decide) (by decide) (by omega)).mono ?_
  rintro e w10 ⟨rfl, hb, hg⟩
  have B10 := B9.put hb hg (by rw [be_len]; decide)
  clear hb hg c0 c1 c2 B9
  rw [enc_puts] at B10
  go_wp2_with fail
  go_ret2
  exact ⟨_, rfl, ⟨g, rfl, hgw, B10.b⟩, B10.low⟩
set_option maxRecDepth 100000 in
set_option maxHeartbeats 1000000 in
theorem refEncode_no (a b c s : Int) (h : ¬ encOk a b c s) (w : World) : Calls Tryz.prog 6 #[recV a b c, .int .i64 s] w fun e w' =>
    e = .returned (.tuple #[.slice none 0 0, .int .i64 1]) ∧ Below w.heap.size w w' := by
  have HM := Lib.hid (fun w => refMay_any a b c w)
  have hb0 : Below w.heap.size w (w.alloc (.cells #[.int .i64 a, .int .i64 b, .int .i64 c] 23)) := (Below.refl _ w).alloc (Nat.le_refl _) _
  unfold recV at HM ⊢
  by_cases h1 : mayR a b c
  · rw [decide_eq_true h1] at HM
    by_cases s1 : s < 1
    · clear h h1
      go_enter Tryz.func6, Tryz.ntmps6
      go_wp2_with fail
      refine (HM.out _).mono ?_
      rintro e w1 ⟨rfl, hB1⟩
      go_wp2_with fail
      go_ret2
      exact ⟨rfl, below_then hb0 hB1⟩
    · have s2 : (1099511627776 : Int) < s := by
        by_cases h2 : (1099511627776 : Int) < s
        · exact h2
        · exact absurd ⟨h1, by omega, by omega⟩ h
      clear h h1
      go_enter Tryz.func6, Tryz.ntmps6
      go_wp2_with fail
      refine (HM.out _).mono ?_
      rintro e w1 ⟨rfl, hB1⟩
      go_wp2_with fail
      go_ret2
      exact ⟨rfl, below_then hb0 hB1⟩
  · rw [decide_eq_false h1] at HM
    clear h h1
    go_enter Tryz.func6, Tryz.ntmps6
    go_wp2_with fail
    refine (HM.out _).mono ?_
    rintro e w1 ⟨rfl, hB1⟩
    go_wp2_with fail
    go_ret2
    exact ⟨rfl, below_then hb0 hB1⟩
/-- The record that the document reads off the bytes. -/
def rcVal (l : List Nat) : Rc := ⟨valF 0 ((l.drop 12).take 4), valF 0 ((l.drop 16).take 5), valF 0 ((l.drop 44).take 3), valF 0 ((l.drop 4).take 8)⟩
theorem val_be {n x : Nat} (h : x < 256 ^ n) : valF 0 (be n x) = x := by rw [valF_be, Nat.mod_eq_of_lt h]; omega
theorem rcVal_enc {r : Rc} (h : r.may) : rcVal (encL r) = r ∧ (encL r)[4]? = some 0 := by
  obtain ⟨h1, h2, h3, h4, h5, h6⟩ := h
  obtain ⟨life, round, tag, seq⟩ := r
  simp only at h1 h2 h3 h4 h5 h6
  have e1 : (encL ⟨life, round, tag, seq⟩).drop 4 = be 8 seq ++ (be 4 life ++ (be 5 round ++ (List.replicate 11 0 ++ ([101, 97, 114, 50] ++ (be 8 seq ++ (be 3 tag ++ List.replicate 17 0)))))) := drop_app (n := 4) rfl 0
  have e2 : (encL ⟨life, round, tag, seq⟩).drop 12 = be 4 life ++ (be 5 round ++ (List.replicate 11 0 ++ ([101, 97, 114, 50] ++ (be 8 seq ++ (be 3 tag ++ List.replicate 17 0))))) := by
    rw [show (12 : Nat) = 4 + 8 from rfl, ← List.drop_drop, e1]; exact drop_app (n := 8) (be_len 8 _) 0
  have e3 : (encL ⟨life, round, tag, seq⟩).drop 16 = be 5 round ++ (List.replicate 11 0 ++ ([101, 97, 114, 50] ++ (be 8 seq ++ (be 3 tag ++ List.replicate 17 0)))) := by
    rw [show (16 : Nat) = 12 + 4 from rfl, ← List.drop_drop, e2]; exact drop_app (n := 4) (be_len 4 _) 0
  have e4 : (encL ⟨life, round, tag, seq⟩).drop 44 = be 3 tag ++ List.replicate 17 0 := by
    rw [show (44 : Nat) = 16 + 28 from rfl, ← List.drop_drop, e3, show (28 : Nat) = 5 + 23 from rfl, drop_app (n := 5) (be_len 5 _) 23, show (23 : Nat) = 11 + 12 from rfl, drop_app (n := 11) (by simp) 12, show (12 : Nat) = 4 + 8 from rfl, drop_app (n := 4) rfl 8]
    exact drop_app (n := 8) (be_len 8 _) 0
  constructor
  · unfold rcVal
    rw [e1, e2, e3, e4, take_app (be_len 8 _), take_app (be_len 4 _), take_app (be_len 5 _), take_app (be_len 3 _),
      val_be (n := 4) (by omega), val_be (n := 5) (by omega), val_be (n := 3) (by omega), val_be (n := 8) (by omega)]
  · have h0 : (encL ⟨life, round, tag, seq⟩)[4]? = ((encL ⟨life, round, tag, seq⟩).drop 4)[0]? := by rw [List.getElem?_drop]
    rw [h0, e1, be_succ]
    show some (seq / 256 ^ 7 % 256) = some 0
    rw [Nat.div_eq_of_lt (by omega)]
theorem decL_val {l : List Nat} {r : Rc} (h : decL l = some r) : rcVal l = r ∧ l[4]? = some 0 ∧ r.may ∧ l = encL r := by
  obtain ⟨hm, rfl⟩ := decL_some h
  exact ⟨(rcVal_enc hm).1, (rcVal_enc hm).2, hm, rfl⟩
theorem part_lt {l : List Nat} (hlt : ∀ c ∈ l, c < 256) (o n k : Nat) : ∀ c ∈ ((l.drop o).take n).take k, c < 256 := fun c hc => hlt c (List.mem_of_mem_drop (List.mem_of_mem_take (List.mem_of_mem_take hc)))
theorem part_bound {l : List Nat} (hlt : ∀ c ∈ l, c < 256) (o n : Nat) (hn : n ≤ 7) : ∀ k, k ≤ n → valF 0 (((l.drop o).take n).take k) < 72057594037927936 := by
  intro k hk
  have h := valF_lt (((l.drop o).take n).take k) 0 1 (part_lt hlt o n k) (by decide)
  have hl : (((l.drop o).take n).take k).length ≤ 7 := by rw [List.length_take]; omega
  have := Nat.pow_le_pow_right (n := 256) (by decide) hl
  omega
theorem part_bound8 {l : List Nat} (hlt : ∀ c ∈ l, c < 256) (h4 : l[4]? = some 0) : ∀ k, k ≤ 8 → valF 0 (((l.drop 4).take 8).take k) < 72057594037927936 := by
  intro k hk
  obtain ⟨h5, h6⟩ := List.getElem?_eq_some_iff.1 h4
  rw [List.drop_eq_getElem_cons h5, h6]
  cases k with
  | zero => show 0 < _; decide
  | succ k =>
    show valF 0 ((0 :: (l.drop 5).take 7).take (k + 1)) < _
    show valF (0 * 256 + 0) (((l.drop 5).take 7).take k) < _
    exact part_bound hlt 5 7 (Nat.le_refl _) k (by omega)
end Go.Proofs.YthkppkecclnlnaaGreat
