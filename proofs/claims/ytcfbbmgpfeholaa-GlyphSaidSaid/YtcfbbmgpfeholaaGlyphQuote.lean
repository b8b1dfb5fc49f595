/- Walk: glyph.Quote. -/
import Derived.Test.YtcfbbmgpfeholaaPiece
import Derived.Test.YtcfbbmgpfeholaaMend
import Derived.Test.YtcfbbmgpfeholaaBytes
namespace Go.Proofs.Ytcfbbmgpfeholaa
set_option linter.unusedVariables false
set_option linter.unusedSimpArgs false
open Go.RowKit

theorem size_of_list' (l : List UInt8) : (⟨l.toArray⟩ : ByteArray).size = l.length := by
  show l.toArray.size = _; simp
theorem builder_below {T e : TypeId} {B b : Nat} {bs : List Value} {W W' : World} (h : Lib.IsBuilderF T e B b bs W) (hb : Below W.heap.size W W') : Lib.IsBuilderF T e B b bs W' := by
  have one : ∀ p, Lib.BuilderAtF T e B b p bs W → Lib.BuilderAtF T e B b p bs W' := by
    rintro p ⟨hB, v, hv, hown, hne⟩
    exact ⟨hB, v, blk_below' hb hv, hown.kept (row := none) ⟨hb.os, hb.tape, hb.output, hb.size, fun k hk _ => hb.block k hk⟩ (Classical.em _), hne⟩
  exact h.imp (one _) (one _)

/-- What Quote writes for some characters; what it answers. -/
def quoteL (s : ByteArray) (l : List Nat) : List UInt8 := l.flatMap (qb s)
def quoteV (s : ByteArray) : Value :=
  if (quoteL s (st s 0)).length + 2 ≤ 65536 then .tuple #[.string ⟨(34 :: (quoteL s (st s 0) ++ [34])).toArray⟩, .int .i64 0] else .tuple #[.string ⟨#[]⟩, .int .i64 2]
theorem hexF_pos (f : Nat) {r : Nat} (h : 0 < r) : 1 ≤ (hexF (f + 1) r).length := by rw [hexF_succ f h]; simp
theorem pc_len (r : Nat) (l : Bool) (b : Nat) (own : List UInt8) (h : own.length ≤ 4) (h1 : 1 ≤ own.length) (h2 : r < 128 ∨ l = true → own.length = 1) : own.length ≤ (pc r l b own).length ∧ (pc r l b own).length ≤ 16 := by
  have h8 := hexL_len r
  unfold pc
  split
  · simp; omega
  · split
    · have := h2 (.inl (by omega)); simp; omega
    · split
      · have := h2 (.inl (by omega)); simp; omega
      · split
        · have := h2 (.inl (by omega)); simp; omega
        · split
          · rename_i h3
            have := h2 (by rcases h3 with h3 | h3 | h3 <;> first | exact .inr h3 | exact .inl (by omega)); simp; omega
          · split
            · rename_i h3
              have hr : 0 < r := by unfold hiddenB at h3; simp at h3; omega
              have := hexF_pos 7 hr
              have e : hexF (7 + 1) r = hexL r := rfl
              rw [e] at this
              simp; omega
            · omega
theorem wd_one (s : ByteArray) (p : Nat) (h : rn s p < 128 ∨ lo s p = true) : wd s p = 1 := by
  rcases h with h | h
  · unfold rn wd at *
    rcases dec_cases s p with ⟨_, e⟩ | ⟨e, _⟩ | ⟨r, e, _, _, hp, _⟩ | ⟨r, e, _, _, _, hp, _⟩ | ⟨r, e, _, _, hp, _⟩ <;> (simp only [e] at h ⊢ <;> omega)
  · exact ((lo_iff s p).1 h).2
theorem qb_len (s : ByteArray) (p : Nat) (h : p < s.size) : wd s p ≤ (qb s p).length ∧ (qb s p).length ≤ 16 := by
  have hw := wd_bd s p h
  have hl := bl_len s p h
  have := pc_len (rn s p) (lo s p) (bt s p) (bl s p) (by omega) (by omega) (fun h2 => by rw [hl]; exact wd_one s p h2)
  exact ⟨by unfold qb; omega, by unfold qb; omega⟩

set_option maxHeartbeats 2000000 in
theorem quote_any (s : ByteArray) (hs : s.size ≤ 9223372036854775000) (w : World) :
    Calls Try.prog 4 #[.string s] w fun e w' => e = .returned (quoteV s) ∧ Below w.heap.size w w' := by
  have HC : Hid (∀ p, p < s.size → ∀ w, Calls Try.prog 9 #[.string s, .int .i64 p, .int .i32 (rn s p)] w fun e w' =>
      e = .returned (.agg #[.int .i32 (rn s p), .int .i64 p, .int .i64 (wd s p), .bool (lo s p)]) ∧ Below w.heap.size w w') := Lib.hid (fun p hp w => char_any s p hp w)
  have HP : Hid (∀ p, p < s.size → ∀ w, Calls Try.prog 11 #[.agg #[.int .i32 (rn s p), .int .i64 p, .int .i64 (wd s p), .bool (lo s p)], .string (s.extract p (p + wd s p))] w fun e w' => e = .returned (.string ⟨(qb s p).toArray⟩) ∧ Below w.heap.size w w') := Lib.hid (fun p hp w => piece_any s p hp w)
  go_enter Try.func4, Try.ntmps4
  go_wp2_with fail
  have WB := Lib.hid (fun W h hB => Try.Builder_WriteByte_k w.heap.size w.heap.size [] 34 W h (by simp) hB)
  refine (WB.out _ (Lib.IsBuilderF.of (Lib.fresh_isBuilder 32 5 w)) (by simp)).mono ?_
  rintro e w1 ⟨rfl, b1, bw1, _⟩
  go_wp2_with fail
  obtain ⟨it, hit0⟩ : ∃ it, w1.heap.size = it := ⟨_, rfl⟩
  have hitB : w.heap.size < it := by have := bw1.size; simp at this; omega
  go_loopw [] (fun wr => ∃ (pos : Nat) (pre : List Nat), Lib.IsBuilderF 32 5 w.heap.size w.heap.size (Lib.byteCells (34 :: quoteL s pre)) wr ∧ wr.heap[it]? = some (.stringIter s pos) ∧ Below w.heap.size w wr ∧ Hid (st s 0 = pre ++ st s pos) ∧ (quoteL s pre).length + 1 < 65536 ∧ pos ≤ s.size) (fun wr => s.size - wr.iterPos it)
  case atStart =>
    refine ⟨0, [], (Lib.IsBuilderF.alloc (Or.inr b1) _), by rw [← hit0]; exact blk_new w1 _, ?_, rfl, by simp [quoteL], by omega⟩
    exact (((Below.refl _ _).alloc (Nat.le_refl _) _).trans bw1).alloc (by omega) _
  case round =>
    obtain ⟨pos, pre, hI, hit, hbw, hacc, hal, hple⟩ := hrel
    have hsz : it < wr.heap.size := (Array.getElem?_eq_some_iff.1 hit).1
    by_cases hp : pos < s.size
    · have hnx : ∀ ty, (Instr.next (.pointer (some ⟨it, 0, none⟩)) true ty).run Try.prog wr = .ok (.tuple #[.bool true, .int .i64 pos, .int .i32 (rn s pos)]) (wr.iterAt it s (pos + wd s pos)) := fun ty => by
        have := Lib.run_next_any_at (P := Try.prog) wr it s pos ty hit hp
        rwa [decode_dec] at this
      have hwd := wd_bd s pos hp
      have hr := rn_bd s pos
      have hI2 := hI.iterAt hit (pos + wd s pos)
      have hit2 := Lib.iterAt_heap wr it s pos (pos + wd s pos) hit
      have hbw2 := Lib.below_iterAt hbw (k := it) (by omega) s (pos + wd s pos)
      have hsz2 : w.heap.size ≤ (wr.iterAt it s (pos + wd s pos)).heap.size := by rw [Lib.iterAt_size]; omega
      have HP1 := Lib.hid (iterPos_of hit)
      generalize wr.iterAt it s (pos + wd s pos) = W at hnx hI2 hit2 hbw2 hsz2
      have C := Lib.hid (HC.out pos hp)
      have Pc := Lib.hid (HP.out pos hp)
      have hql := qb_len s pos hp
      clear hit hI
      rw [hit0]
      go_wp2_with fail
      refine (C.out _).mono ?_
      rintro e w2 ⟨rfl, hB2⟩
      go_wp2_with fail
      have hI3 := (builder_below hI2 hB2).alloc (.cells #[.int .i32 (rn s pos), .int .i64 pos, .int .i64 (wd s pos), .bool (lo s pos)] 37)
      have hit3 := blk_old (blk_below' hB2 hit2) (.cells #[.int .i32 (rn s pos), .int .i64 pos, .int .i64 (wd s pos), .bool (lo s pos)] 37)
      have hbw3 := (hbw2.trans (hB2.mono hsz2)).alloc (Nat.le_trans hsz2 hB2.size) (.cells #[.int .i32 (rn s pos), .int .i64 pos, .int .i64 (wd s pos), .bool (lo s pos)] 37)
      obtain ⟨c0, c1, c2, c3, f0, f1, f2, f3⟩ := four_cells (blk_new w2 (.cells #[.int .i32 (rn s pos), .int .i64 pos, .int .i64 (wd s pos), .bool (lo s pos)] 37))
      have hsz3 : w.heap.size ≤ (w2.alloc (.cells #[.int .i32 (rn s pos), .int .i64 pos, .int .i64 (wd s pos), .bool (lo s pos)] 37)).heap.size := by have := hB2.size; simp; omega
      generalize (w2.alloc (.cells #[.int .i32 (rn s pos), .int .i64 pos, .int .i64 (wd s pos), .bool (lo s pos)] 37)) = W3 at hI3 hit3 hbw3 c0 c1 c2 c3 f0 f1 f2 f3 hsz3 ⊢
      have i1 : (pos : Int) + (wd s pos : Int) ≤ (s.size : Int) := by omega
      have i2 : (pos : Int) ≤ (pos : Int) + (wd s pos : Int) := by omega
      have i5 : (0 : Int) ≤ (pos : Int) + (wd s pos : Int) := by omega
      have i3 : ((pos : Int) + (wd s pos : Int)).toNat = pos + wd s pos := by omega
      have i4 : IntKind.i64.wrap ((pos : Int) + (wd s pos : Int)) = (pos : Int) + (wd s pos : Int) := IntWalk.i64_in _ (by omega)
      refine wp_region_still_tail 8 (by kernel_rfl) (by kernel_rfl) ?_
      simp only [List.take_succ_cons, List.take_zero, List.drop_succ_cons, List.drop_zero]
      repeat still_step
      try refine wpStill_nil ?_
      change wpList _ _ _ _ _ W3.drew
      clear i1 i2 i3 i4 i5 c0 c1 c2 c3 f0 f1 f2 f3
      go_wp2_with fail
      refine (Pc.out _).mono ?_
      rintro e w4 ⟨rfl, hB4⟩
      go_wp2_with fail
      have hsz4 : w.heap.size ≤ w4.heap.size := Nat.le_trans hsz3 hB4.size
      have WS := Lib.hid (Try.Builder_WriteString_k w.heap.size w.heap.size _ ⟨(qb s pos).toArray⟩ w4 (builder_below (W := W3.drew) hI3 hB4) (by rw [Lib.byteCells_length, size_of_list']; simp; omega) hsz4)
      refine WS.out.mono ?_
      rintro e w5 ⟨rfl, b5, bw5, k5⟩
      have hit5 := k5.iter (blk_below' hB4 (hit3 : W3.drew.heap[it]? = _)) (by omega)
      have hbw5 := (hbw3.drew.trans (hB4.mono hsz3)).trans bw5
      rw [strCells_bytes, ← byteCells_app, List.cons_append, show quoteL s pre ++ (⟨(qb s pos).toArray⟩ : ByteArray).data.toList = quoteL s (pre ++ [pos]) from by simp [quoteL]] at b5
      have hqq : (quoteL s (pre ++ [pos])).length = (quoteL s pre).length + (qb s pos).length := by simp [quoteL]
      go_wp2_with fail
      have LN := Lib.hid (Try.Builder_Len_f w.heap.size w.heap.size _ w5 (Or.inr b5))
      refine LN.out.mono ?_
      rintro e w6 ⟨rfl, rfl⟩
      rw [Lib.byteCells_length, List.length_cons]
      have hst : st s 0 = (pre ++ [pos]) ++ st s (pos + wd s pos) := by rw [hacc.out, st_cons hp]; simp
      clear LN WS hnx
      by_cases hbig : 65536 ≤ (quoteL s (pre ++ [pos])).length + 1
      · have i0 : (65536 : Int) ≤ (((quoteL s (pre ++ [pos])).length + 1 : Nat) : Int) := by omega
        have hV : quoteV s = .tuple #[.string ⟨#[]⟩, .int .i64 2] := by
          unfold quoteV
          rw [if_neg]
          have : (quoteL s (pre ++ [pos])).length ≤ (quoteL s (st s 0)).length := by
            rw [hst]; simp [quoteL]
          omega
        generalize (((quoteL s (pre ++ [pos])).length + 1 : Nat) : Int) = n at i0 ⊢
        go_wp2_with fail
        go_ret2
        rw [hV]
        exact ⟨rfl, hbw5⟩
      · have i0 : ¬ (65536 : Int) ≤ (((quoteL s (pre ++ [pos])).length + 1 : Nat) : Int) := by omega
        generalize (((quoteL s (pre ++ [pos])).length + 1 : Nat) : Int) = n at i0 ⊢
        go_wp2_with fail
        go_roundw
        case rel => exact ⟨pos + wd s pos, pre ++ [pos], Or.inr b5, hit5, hbw5, hst, by omega, by omega⟩
        case measure => rw [iterPos_of hit5, HP1.out]; omega
    · have hnx : ∀ ty, (Instr.next (.pointer (some ⟨it, 0, none⟩)) true ty).run Try.prog wr = _ := fun ty => Lib.run_next_end_at wr it s pos ty hit hp
      have hh := hacc.out
      rw [st_nil hp, List.append_nil] at hh
      have hszB : w.heap.size ≤ wr.heap.size := by omega
      have W2 := Lib.hid (Try.Builder_WriteByte_k w.heap.size w.heap.size _ 34 wr hI (by rw [Lib.byteCells_length, List.length_cons]; omega) hszB)
      rw [hit0]
      go_wp2_with fail
      refine W2.out.mono ?_
      rintro e w2 ⟨rfl, b2, bw2, _⟩
      have b3 : Lib.BuilderAtF 32 5 w.heap.size w.heap.size (.pointer (some ⟨w.heap.size, 0, none⟩)) (Lib.byteCells (34 :: (quoteL s (st s 0) ++ [34]))) w2 := by
        rw [hh]
        have := b2
        rwa [show Lib.byteCells (34 :: quoteL s pre) ++ [Value.int .u8 34] = Lib.byteCells (34 :: (quoteL s pre ++ [34])) from by simp [Lib.byteCells]] at this
      have S := Lib.hid (Try.Builder_String_any_k w.heap.size w.heap.size (34 :: (quoteL s (st s 0) ++ [34])) w2 (Or.inr b3) (Nat.le_trans hszB bw2.size))
      have hV : quoteV s = .tuple #[.string ⟨(34 :: (quoteL s (st s 0) ++ [34])).toArray⟩, .int .i64 0] := by
        unfold quoteV
        rw [if_pos (by rw [hh]; omega)]
      go_wp2_with fail
      refine S.out.mono ?_
      rintro e w3 ⟨rfl, _, bw3, _⟩
      go_wp2_with fail
      go_ret2
      rw [hV, hh]
      exact ⟨rfl, (hbw.trans bw2).trans bw3⟩

end Go.Proofs.Ytcfbbmgpfeholaa
