/- Walk: glyph.Unquote of a text that is quoted. -/
import Derived.Test.YtcfbbmgpfeholaaEsc
import Derived.Test.YtcfbbmgpfeholaaSaidL
namespace Go.Proofs.Ytcfbbmgpfeholaa
set_option linter.unusedVariables false
set_option linter.unusedSimpArgs false
open Go.RowKit

theorem ext_tail (q : ByteArray) (n : Nat) : (q.extract n q.size).data.toList = q.data.toList.drop n := by
  simp [ByteArray.data_extract, List.extract]
  rw [List.take_of_length_le (by simp)]
theorem ext_mid (q : ByteArray) (n m : Nat) : (q.extract n (n + m)).data.toList = (q.data.toList.drop n).take m := by
  simp [ByteArray.data_extract, List.extract]
theorem quoR_pos (s : ByteArray) (p : Nat) : 0 < (quoR s p).length := by unfold quoR; simp
theorem list_size (q : ByteArray) : q.data.toList.length = q.size := by simp
theorem take_more (s : ByteArray) (p : Nat) : s.data.toList.take (p + wd s p) = s.data.toList.take p ++ bl s p := by
  unfold bl
  rw [List.take_add]
def saidV (s : ByteArray) : Value := .tuple #[.string s, .int .i64 0, .int .i64 0]
set_option maxRecDepth 100000 in
set_option maxHeartbeats 2000000 in
theorem unquote_quo (s q : ByteArray) (hq : q.data.toList = 34 :: quoR s 0) (hqs : q.size ≤ 65536) (hs : s.size ≤ 65536) (HESC : ∀ t : ByteArray, 2 ≤ t.size → t.size ≤ 9223372036854775800 → ∀ w, Calls Try.prog 18 #[.string t] w fun e w' => e = .returned (escA t) ∧ Below w.heap.size w w') (w : World) :
    Calls Try.prog 6 #[.string q] w fun e w' => e = .returned (saidV s) ∧ Below w.heap.size w w' := by
  have b0 : ¬ (65536 : Int) < (q.size : Int) := by omega
  have HPx : Hid (Lib.hasPrefix q.data.toList [34] = true) := by show _ = _; rw [hq]; rfl
  have HQ : Hid (q.data.toList.drop 1 = quoR s 0) := by show _ = _; rw [hq]; rfl
  have HQS := Lib.hid hqs
  have hq1 : 1 ≤ q.size := by rw [← list_size, hq]; simp
  clear hq hqs
  go_enter Try.func6, Try.ntmps6
  go_wp2_with (go_at_call 16; refine (Try.strings_HasPrefix _ _ _).mono ?_; rintro e w' ⟨rfl, hw'⟩; have hw2 := hw'.symm; subst hw2; clear hw'; rw [show (⟨#[34]⟩ : ByteArray).data.toList = [34] from rfl, HPx.out])
  go_loopw [6] (fun iv wr => ∃ p n : Nat, iv = .int .i64 (n : Nat) ∧ Lib.IsBuilderF 32 5 w.heap.size w.heap.size (Lib.byteCells (s.data.toList.take p)) wr ∧ Hid (Below w.heap.size w wr) ∧ Hid (q.data.toList.drop n = quoR s p) ∧ p ≤ s.size ∧ n ≤ q.size ∧ w.heap.size < wr.heap.size) (fun iv _ => q.size - (intOf iv).toNat)
  case atStart =>
    exact ⟨0, 1, rfl, Lib.IsBuilderF.of (Lib.fresh_isBuilder 32 5 w), (Below.refl _ _).alloc (Nat.le_refl _) _, HQ.out, Nat.zero_le _, hq1, by simp⟩
  case round =>
    obtain ⟨p, n, rfl, hI, hbw, hdr, hp, hn, hstr⟩ := hrel
    have hlen := congrArg List.length hdr.out
    rw [List.length_drop, list_size] at hlen
    have hpos := quoR_pos s p
    have hnlt : n < q.size := by omega
    have b1 : (n : Int) < (q.size : Int) := by omega
    have b2 : (0 : Int) ≤ (n : Int) := by omega
    have b3 : (n : Int) ≤ (q.size : Int) := by omega
    obtain ⟨t, htt⟩ : ∃ t, q.extract n q.size = t := ⟨_, rfl⟩
    have htl : t.data.toList = quoR s p := by rw [← htt, ext_tail, hdr.out]
    have hts : t.size = (quoR s p).length := by rw [← list_size, htl]
    have HTT := Lib.hid htt
    have hszB : w.heap.size ≤ wr.heap.size := hbw.out.size
    clear htt
    by_cases hp2 : p < s.size
    · have hcs := piece_cases s p hp2 (quoR s (p + wd s p)) t (by rw [htl, quoR_cons hp2])
      have hw := wd_bd s p hp2
      have hqc := quoR_cons hp2
      have hqlen : (quoR s p).length = (qb s p).length + (quoR s (p + wd s p)).length := by rw [hqc, List.length_append]
      have hpos2 := quoR_pos s (p + wd s p)
      have hql := qb_len s p hp2
      have HNX : ∀ m : Nat, m = (qb s p).length → Hid (q.data.toList.drop (n + m) = quoR s (p + wd s p)) := fun m hm => by
        show _ = _
        rw [← List.drop_drop, hdr.out, hqc, hm, List.drop_left]
      rcases hcs with ⟨hd, he⟩ | ⟨hd, hqb, hlo, h32, h127, h34, h92⟩
      · have e1 : rn t 0 = 92 := by unfold rn; rw [hd]
        have e2 : wd t 0 = 1 := by unfold wd; rw [hd]
        have HF : Hid (∀ w, Calls Try.prog 17 #[.string t] w fun e w' => e = .returned (.agg #[.int .i32 92, .int .i64 0, .int .i64 1, .bool (lo t 0)]) ∧ Below w.heap.size w w') := fun w => by
          have := first_any t (by omega) (by omega) w
          unfold chV at this
          rw [e1, e2] at this
          exact this
        have HE : Hid (∀ w, Calls Try.prog 18 #[.string t] w fun e w' => e = .returned (.tuple #[.string ⟨(bl s p).toArray⟩, .int .i64 ((qb s p).length : Nat), .bool true]) ∧ Below w.heap.size w w') := fun w => by
          have := HESC t (by omega) (by omega) w
          unfold escA at this
          rw [he] at this
          exact this
        have hnx := HNX _ rfl
        generalize hm : (qb s p).length = m at *
        have hm2 : (n : Int) + (m : Int) ≤ 65536 := by have := HQS.out; omega
        clear hd he HNX
        go_wp2_with fail
        rw [HTT.out]
        refine (HF.out _).mono ?_
        rintro e w2 ⟨rfl, hB2⟩
        have hI3 := (builder_below hI hB2).alloc (.cells #[.int .i32 92, .int .i64 0, .int .i64 1, .bool (lo t 0)] 37)
        have hbw3 := (hbw.out.trans (hB2.mono hszB)).alloc (Nat.le_trans hszB hB2.size) (.cells #[.int .i32 92, .int .i64 0, .int .i64 1, .bool (lo t 0)] 37)
        obtain ⟨c0, c1, c2, c3, f0, f1, f2, f3⟩ := four_cells (blk_new w2 (.cells #[.int .i32 92, .int .i64 0, .int .i64 1, .bool (lo t 0)] 37))
        have hbk3 := blk_new w2 (.cells #[.int .i32 92, .int .i64 0, .int .i64 1, .bool (lo t 0)] 37)
        have hsz3 : w.heap.size ≤ (w2.alloc (.cells #[.int .i32 92, .int .i64 0, .int .i64 1, .bool (lo t 0)] 37)).heap.size := by have := hB2.size; simp; omega
        obtain ⟨W3, hW3⟩ : ∃ W3, w2.alloc (.cells #[.int .i32 92, .int .i64 0, .int .i64 1, .bool (lo t 0)] 37) = W3 := ⟨_, rfl⟩
        obtain ⟨cb, hcb⟩ : ∃ cb, w2.heap.size = cb := ⟨_, rfl⟩
        rw [hW3] at hI3 hbw3 hbk3 c0 c1 c2 c3 f0 f1 f2 f3 hsz3
        rw [hcb] at hbk3 c0 c1 c2 c3 f0 f1 f2 f3
        have HW3 := Lib.hid hW3
        have HBK := Lib.hid hbk3
        clear hbk3
        have HCB := Lib.hid hcb
        have hcbl : w.heap.size < cb := by have := hB2.size; omega
        have hwr3 : w.heap.size < W3.heap.size := by rw [← hW3]; have := hB2.size; simp; omega
        clear hW3 hcb hI hB2
        go_upto_region 11 with fail
        rw [HW3.out, HCB.out]
        clear HW3 HCB
        go_wp2_with fail
        rw [HTT.out]
        refine (HE.out _).mono ?_
        rintro e w4 ⟨rfl, hB4⟩
        have hsz4 : w.heap.size ≤ w4.heap.size := Nat.le_trans hsz3 hB4.size
        have WS := Lib.hid (Try.Builder_WriteString_k w.heap.size w.heap.size _ ⟨(bl s p).toArray⟩ w4 (builder_below (W := W3) hI3 hB4) (by rw [Lib.byteCells_length, size_of_list', bl_len s p hp2, List.length_take]; omega) hsz4)
        go_wp2_with fail
        refine WS.out.mono ?_
        rintro e w5 ⟨rfl, b5, bw5, k5⟩
        have hbw5 := (hbw3.trans (hB4.mono hsz3)).trans bw5
        rw [strCells_bytes, ← byteCells_app, show s.data.toList.take p ++ (⟨(bl s p).toArray⟩ : ByteArray).data.toList = s.data.toList.take (p + wd s p) from by rw [take_more]] at b5
        clear WS
        go_wp2_with fail
        go_roundw
        case rel => exact ⟨p + wd s p, n + m, by go_num, Or.inr b5, hbw5, hnx.out, by omega, by omega, by have := hB4.size; have := bw5.size; omega⟩
        case measure => simp [intOf]; omega
      · have e1 : rn t 0 = rn s p := by unfold rn; rw [hd]; rfl
        have e2 : wd t 0 = wd s p := by unfold wd; rw [hd]; rfl
        have HF : Hid (∀ w, Calls Try.prog 17 #[.string t] w fun e w' => e = .returned (.agg #[.int .i32 (rn s p : Nat), .int .i64 0, .int .i64 (wd s p : Nat), .bool false]) ∧ Below w.heap.size w w') := fun w => by
          have := first_any t (by omega) (by omega) w
          unfold chV at this
          rw [e1, e2, hlo] at this
          exact this
        have hbll := bl_len s p hp2
        have hnx := HNX (wd s p) (by rw [hqb, hbll])
        have hqw : (qb s p).length = wd s p := by rw [hqb, hbll]
        have HEX : Hid (q.extract n (n + wd s p) = ⟨(bl s p).toArray⟩) := by
          show _ = _
          refine ba_ext ?_
          rw [ext_mid, hdr.out, hqc, hqb, ← hbll, List.take_left]
        have e34 : (((rn s p : Nat) : Int) == 34) = false := by simp; omega
        have e92 : (((rn s p : Nat) : Int) == 92) = false := by simp; omega
        have r32 : (32 : Int) ≤ ((rn s p : Nat) : Int) := by omega
        have r127 : ((rn s p : Nat) : Int) ≠ 127 := by omega
        have hm2 : (n : Int) + (wd s p : Int) ≤ 65536 := by have := HQS.out; omega
        have i1 : (n : Int) + (wd s p : Int) ≤ (q.size : Int) := by omega
        have i2 : (n : Int) ≤ (n : Int) + (wd s p : Int) := by omega
        have i5 : (0 : Int) ≤ (n : Int) + (wd s p : Int) := by omega
        have i3 : ((n : Int) + (wd s p : Int)).toNat = n + wd s p := by omega
        have i4 : IntKind.i64.wrap ((n : Int) + (wd s p : Int)) = (n : Int) + (wd s p : Int) := IntWalk.i64_in _ (by omega)
        clear hd HNX hqb
        go_wp2_with fail
        rw [HTT.out]
        refine (HF.out _).mono ?_
        rintro e w2 ⟨rfl, hB2⟩
        have hI3 := (builder_below hI hB2).alloc (.cells #[.int .i32 ((rn s p : Nat) : Int), .int .i64 0, .int .i64 ((wd s p : Nat) : Int), .bool (false)] 37)
        have hbw3 := (hbw.out.trans (hB2.mono hszB)).alloc (Nat.le_trans hszB hB2.size) (.cells #[.int .i32 ((rn s p : Nat) : Int), .int .i64 0, .int .i64 ((wd s p : Nat) : Int), .bool (false)] 37)
        obtain ⟨c0, c1, c2, c3, f0, f1, f2, f3⟩ := four_cells (blk_new w2 (.cells #[.int .i32 ((rn s p : Nat) : Int), .int .i64 0, .int .i64 ((wd s p : Nat) : Int), .bool (false)] 37))
        have hbk3 := blk_new w2 (.cells #[.int .i32 ((rn s p : Nat) : Int), .int .i64 0, .int .i64 ((wd s p : Nat) : Int), .bool (false)] 37)
        have hsz3 : w.heap.size ≤ (w2.alloc (.cells #[.int .i32 ((rn s p : Nat) : Int), .int .i64 0, .int .i64 ((wd s p : Nat) : Int), .bool (false)] 37)).heap.size := by have := hB2.size; simp; omega
        obtain ⟨W3, hW3⟩ : ∃ W3, w2.alloc (.cells #[.int .i32 ((rn s p : Nat) : Int), .int .i64 0, .int .i64 ((wd s p : Nat) : Int), .bool (false)] 37) = W3 := ⟨_, rfl⟩
        obtain ⟨cb, hcb⟩ : ∃ cb, w2.heap.size = cb := ⟨_, rfl⟩
        rw [hW3] at hI3 hbw3 hbk3 c0 c1 c2 c3 f0 f1 f2 f3 hsz3
        rw [hcb] at hbk3 c0 c1 c2 c3 f0 f1 f2 f3
        have HW3 := Lib.hid hW3
        have HBK := Lib.hid hbk3
        clear hbk3
        have HCB := Lib.hid hcb
        have hcbl : w.heap.size < cb := by have := hB2.size; omega
        have hwr3 : w.heap.size < W3.heap.size := by rw [← hW3]; have := hB2.size; simp; omega
        clear hW3 hcb hI hB2
        go_upto_region 11 with fail
        rw [HW3.out, HCB.out]
        clear HW3 HCB
        go_wp2_with fail
        refine (stands_yes _ _ _ _ r32 r127).mono ?_
        rintro e w4 ⟨rfl, hB4⟩
        clear c0 c1 c2 c3 f0 f1 f2 f3
        obtain ⟨c0, c1, c2, c3, f0, f1, f2, f3⟩ := four_cells (blk_below' hB4 HBK.out)
        go_wp2_with fail
        rw [HEX.out]
        have hsz4 : w.heap.size ≤ w4.heap.size := Nat.le_trans hsz3 hB4.size
        have WS := Lib.hid (Try.Builder_WriteString_k w.heap.size w.heap.size _ ⟨(bl s p).toArray⟩ w4 (builder_below (W := W3) hI3 hB4) (by rw [Lib.byteCells_length, size_of_list', bl_len s p hp2, List.length_take]; omega) hsz4)
        refine WS.out.mono ?_
        rintro e w5 ⟨rfl, b5, bw5, k5⟩
        have hbw5 := (hbw3.trans (hB4.mono hsz3)).trans bw5
        rw [strCells_bytes, ← byteCells_app, show s.data.toList.take p ++ (⟨(bl s p).toArray⟩ : ByteArray).data.toList = s.data.toList.take (p + wd s p) from by rw [take_more]] at b5
        have hk5 := k5 cb _ (blk_below' hB4 HBK.out) (fun e => by injection e with e; omega) (fun c fz e => by injection e with _ e; exact absurd e (by decide))
        clear WS c0 c1 c2 c3 f0 f1 f2 f3
        obtain ⟨c0, c1, c2, c3, f0, f1, f2, f3⟩ := four_cells hk5
        go_wp2_with fail
        go_roundw
        case rel => exact ⟨p + wd s p, n + wd s p, by go_num, Or.inr b5, hbw5, hnx.out, by omega, by omega, by have := hB4.size; have := bw5.size; omega⟩
        case measure => simp [intOf]; omega
    · obtain rfl : p = s.size := by omega
      have hqe := quoR_end hp2
      rw [hqe] at htl hts hlen
      have hd := (dec_enc (s := t) (p := 0) (r := 34) (l := []) ⟨by decide, by decide⟩ (by rw [List.drop_zero, htl]; rfl)).2.1
      have e1 : rn t 0 = 34 := by unfold rn; rw [hd]
      have e2 : wd t 0 = 1 := by unfold wd; rw [hd]; rfl
      have HF : Hid (∀ w, Calls Try.prog 17 #[.string t] w fun e w' => e = .returned (.agg #[.int .i32 34, .int .i64 0, .int .i64 1, .bool (lo t 0)]) ∧ Below w.heap.size w w') := fun w => by
        have := first_any t (by omega) (by omega) w
        unfold chV at this
        rw [e1, e2] at this
        exact this
      have hlen1 : q.size - n = 1 := hlen
      have b5 : ¬ (n : Int) + 1 < (q.size : Int) := by omega
      have HTK : Hid (s.data.toList.take s.size = s.data.toList) := by show _ = _; rw [List.take_of_length_le (by rw [list_size]; exact Nat.le_refl _)]
      clear hd hqe
      go_wp2_with fail
      rw [HTT.out]
      refine (HF.out _).mono ?_
      rintro e w2 ⟨rfl, hB2⟩
      have hI3 := (builder_below hI hB2).alloc (.cells #[.int .i32 34, .int .i64 0, .int .i64 1, .bool (lo t 0)] 37)
      have hbw3 := (hbw.out.trans (hB2.mono hszB)).alloc (Nat.le_trans hszB hB2.size) (.cells #[.int .i32 34, .int .i64 0, .int .i64 1, .bool (lo t 0)] 37)
      obtain ⟨c0, c1, c2, c3, f0, f1, f2, f3⟩ := four_cells (blk_new w2 (.cells #[.int .i32 34, .int .i64 0, .int .i64 1, .bool (lo t 0)] 37))
      have hbk3 := blk_new w2 (.cells #[.int .i32 34, .int .i64 0, .int .i64 1, .bool (lo t 0)] 37)
      have hsz3 : w.heap.size ≤ (w2.alloc (.cells #[.int .i32 34, .int .i64 0, .int .i64 1, .bool (lo t 0)] 37)).heap.size := by have := hB2.size; simp; omega
      obtain ⟨W3, hW3⟩ : ∃ W3, w2.alloc (.cells #[.int .i32 34, .int .i64 0, .int .i64 1, .bool (lo t 0)] 37) = W3 := ⟨_, rfl⟩
      obtain ⟨cb, hcb⟩ : ∃ cb, w2.heap.size = cb := ⟨_, rfl⟩
      rw [hW3] at hI3 hbw3 hbk3 c0 c1 c2 c3 f0 f1 f2 f3 hsz3
      rw [hcb] at hbk3 c0 c1 c2 c3 f0 f1 f2 f3
      have HW3 := Lib.hid hW3
      have HBK := Lib.hid hbk3
      clear hbk3
      have HCB := Lib.hid hcb
      have hcbl : w.heap.size < cb := by have := hB2.size; omega
      have hwr3 : w.heap.size < W3.heap.size := by rw [← hW3]; have := hB2.size; simp; omega
      clear hW3 hcb hI hB2
      go_upto_region 11 with fail
      rw [HW3.out, HCB.out]
      clear HW3 HCB
      rw [HTK.out] at hI3
      have S := Lib.hid (Try.Builder_String_any_k w.heap.size w.heap.size s.data.toList W3 hI3 hsz3)
      go_wp2_with fail
      refine S.out.mono ?_
      rintro e w5 ⟨rfl, _, bw5, _⟩
      go_wp2_with fail
      go_ret3
      exact ⟨rfl, hbw3.trans bw5⟩
end Go.Proofs.Ytcfbbmgpfeholaa
