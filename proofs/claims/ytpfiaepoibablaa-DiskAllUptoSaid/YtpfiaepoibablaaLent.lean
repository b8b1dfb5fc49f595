/- Walks: bytes that are lent, with marks behind them; are they as they were. -/
import Derived.Test.YtpfiaepoibablaaBkM
import Derived.Test.YtpfiaepoibablaaRefB
import Derived.Laws.CopyOwn
import Derived.Deep.DeepCutAuto
namespace Go.Proofs.Ytpfiaepoibablaa
set_option linter.unusedVariables false
set_option linter.unusedSimpArgs false
open Go.RowKit

/-- What a slice reads as. -/
def RdP (W : World) (av : Option Addr) (ld : List Nat) : Prop := ∀ j x : Nat, ld[j]? = some x → ∃ b, av = some b ∧ W.cell? (b.add j) = some (.int .u8 (x : Int))
theorem RdP.below {W X : World} {av : Option Addr} {ld : List Nat} (h : RdP W av ld) (hb : Below W.heap.size W X) : RdP X av ld := fun j x hx => by
  obtain ⟨b, e, hc⟩ := h j x hx
  exact ⟨b, e, (hb.cell (cell_lt hc)).trans hc⟩
def lentL (ld : List Nat) (j : Nat) : List Nat := ld ++ (List.replicate j 167 ++ List.replicate (9 - j) 0)
theorem lentL_len (ld : List Nat) {j : Nat} (h : j ≤ 9) : (lentL ld j).length = ld.length + 9 := by simp [lentL]; omega
theorem lentL_set (ld : List Nat) {j : Nat} (h : j < 9) : (lentL ld j).set (ld.length + j) 167 = lentL ld (j + 1) := by
  unfold lentL
  rw [List.set_append_right _ _ (by omega), show ld.length + j - ld.length = j by omega, List.set_append_right _ _ (by simp), List.length_replicate, Nat.sub_self, show 9 - j = (9 - (j + 1)) + 1 by omega, List.replicate_succ, List.set_cons_zero, List.replicate_succ', List.append_assoc]
  rfl
theorem lent_done (ld : List Nat) : lentL ld 9 = ld ++ List.replicate 9 167 := by simp [lentL]
theorem makeN (k : Nat) (h : k ≤ 2000) (w : World) : (Instr.makeSlice 22 (.int .i64 (k : Int)) (.int .i64 (k : Int))).run Try.prog w = .ok (.slice (some ⟨w.heap.size, 0, none⟩) k k) (w.alloc (.cells (bC (List.replicate k 0)).toArray 5)) := by
  have := run_make_row' 22 5 (.int .u8 0) 1 Try.underlying22 Try.infoByte rfl .i64 .i64 k (by omega) (by omega) w
  rwa [made_bytes] at this
theorem makeN' (n : Nat) (h : n ≤ 1000) : ∃ Z, Hid (Z = (bC (List.replicate (n + 9) 0)).toArray) ∧ ∀ w : World, (Instr.makeSlice 22 (.int .i64 ((n : Int) + 9)) (.int .i64 ((n : Int) + 9))).run Try.prog w = .ok (.slice (some ⟨w.heap.size, 0, none⟩) (n + 9) (n + 9)) (w.alloc (.cells Z 5)) :=
  ⟨_, rfl, makeN (n + 9) (by omega)⟩
theorem wpList_copy_none {w : World} {ops : Array Oper} {rest : List Oper} {o : Oper} {a : Act} {Q : Exit → Act → World → Prop} (hgd : o.guard = none) (d s : Operand)
    (ho : o.op = .call { callee := .builtin .copy, args := #[d, s], argTypes := #[22, 22] }) (b n c c2 : Nat) (hd : a.eval d = .slice (some ⟨b, 0, none⟩) n c) (hs : a.eval s = .slice none 0 c2)
    (h : wpList Try.prog ops Q rest (a.put o.dst (.int .i64 0)) w) : wpList Try.prog ops Q (o :: rest) a w := by
  obtain ⟨i0, hi, _, _, _⟩ := info_parts Try.infoByte
  have hrun : (Builtin.copy_ #[22, 22] o.type #[.slice (some ⟨b, 0, none⟩) n c, .slice none 0 c2]).run Try.prog w = .ok (.int .i64 0) w := by
    simp [Builtin.copy_, run_underlying Try.underlying22, Builtin.firstCells, loadCells, loadCellsFrom, Builtin.lenOf, sizeOf, typeInfo, hi, storeCells]
    rfl
  refine wpList_plain hgd fun K hK => ?_
  unfold Oper.wp
  simp [execOp, ho, resolve, invoke, builtin, hd, hs, hrun, Result.andThen]
  exact hK _ _ h
set_option maxRecDepth 100000 in
set_option maxHeartbeats 1000000 in
theorem lent_any (av : Option Addr) (cv : Nat) (ld : List Nat) (W : World) (hn : ld.length ≤ 1000) (hr : RdP W av ld) :
    Calls Try.prog 20 #[.slice av ld.length cv] W fun e w' => ∃ g, e = .returned (.slice (some ⟨g, 0, none⟩) ld.length (ld.length + 9)) ∧ W.heap.size ≤ g ∧ w'.heap[g]? = some (.cells (bC (lentL ld 9)).toArray 5 (0, 0)) ∧ Below W.heap.size W w' := by
  obtain ⟨Z, hZ, hM⟩ := makeN' ld.length hn
  have HR := Lib.hid hr
  obtain ⟨n, hlen⟩ : ∃ n, ld.length = n := ⟨_, rfl⟩
  have HL := Lib.hid hlen
  rw [hlen] at hn hZ hM ⊢
  have n1 : (n : Int) ≤ 1000 := by omega
  have hmk := hM W
  clear hM hr hlen
  go_enter Try.func20, Try.ntmps20
  go_upto_region 2 with fail
  have HB1 : Hid (Below W.heap.size W (W.alloc (.cells Z 5))) := (Below.refl _ _).alloc (Nat.le_refl _) _
  have HX1 := Lib.hid (blk_new W (.cells Z 5))
  generalize World.alloc W _ = W1 at *
  obtain ⟨g, hg⟩ : ∃ g, W.heap.size = g := ⟨_, rfl⟩
  have HG := Lib.hid hg
  rw [hg] at HX1
  rw [hg]
  clear hg hmk
  go_cut [] (fun wx => Hid (wx.heap[g]? = some (.cells (bC (lentL ld 0)).toArray 5 (0, 0))) ∧ Hid (Below W.heap.size W wx))
  case first =>
    cases av with
    | none =>
      have hld : ld = [] := by
        cases ld with
        | nil => rfl
        | cons x ld => obtain ⟨b, e, _⟩ := HR.out 0 x rfl; cases e
      have hn0 : n = 0 := by have := HL.out; rw [hld] at this; exact this.symm
      subst hn0
      go_wp2_with (refine wpList_copy_none rfl _ _ rfl g 9 9 cv rfl rfl ?_)
      go_meet
      refine ⟨?_, HB1.out⟩
      show W1.heap[g]? = _
      rw [HX1.out, hZ.out, hld]; rfl
    | some ad =>
      have hsrc : ∀ j u, (bC ld)[j]? = some u → W1.cell? (ad.add j) = some u := fun j u hu => by
        rw [bC_get] at hu
        obtain ⟨x, hx, rfl⟩ := Option.map_eq_some_iff.1 hu
        obtain ⟨b, e, hc⟩ := HR.out j x hx
        cases e
        exact (HB1.out.cell (cell_lt hc)).trans hc
      have HS := Lib.hid hsrc
      have HXZ := Lib.hid (show W1.heap[g]? = some (.cells (bC (List.replicate (n + 9) 0)).toArray 5 (0, 0)) by rw [HX1.out, hZ.out])
      clear hsrc
      go_wp2_with (refine wpList_copy_own rfl _ _ 22 22 rfl 5 Try.underlying22 (by kernel_rfl) g 0 (n + 9) (n + 9) ad n cv rfl rfl _ 5 HXZ.out (bC ld) (by rw [bC_len, HL.out]; exact (Nat.min_eq_left (by omega)).symm) HS.out (by rw [bC_len, HL.out]; simp [bC_len]) (bC_one ld) ?_)
      go_meet
      refine ⟨?_, below_setRow HB1.out (by rw [HG.out]; exact Nat.le_refl _) _⟩
      have hrow := setRow_heap W1 g _ (((bC (List.replicate (n + 9) 0)).toArray).toList.take 0 ++ (bC ld ++ ((bC (List.replicate (n + 9) 0)).toArray).toList.drop (0 + (bC ld).length))).toArray _ _ HXZ.out
      show (W1.setRow g _).heap[g]? = _
      rw [hrow]
      congr 3
      rw [List.take_zero, List.nil_append, List.toList_toArray, Nat.zero_add, bC_len, HL.out]
      unfold lentL bC
      rw [List.map_append, ← List.map_drop, List.drop_replicate]
      simp
  case rest =>
    obtain ⟨HC, HBB⟩ := hcut
    clear HX1 HB1 hZ
    go_wp2_with fail
    go_loopw [4] (fun iv wr => ∃ j : Nat, iv = .int .i64 ((n + j : Nat) : Int) ∧ j ≤ 9 ∧ Hid (wr.heap[g]? = some (.cells (bC (lentL ld j)).toArray 5 (0, 0))) ∧ Hid (Below W.heap.size W wr)) (fun iv _ => n + 9 - (intOf iv).toNat)
    case atStart => exact ⟨0, rfl, by omega, HC.out, HBB.out⟩
    case round =>
      clear HC HBB
      obtain ⟨j, rfl, hj, HC, HBB⟩ := hrel
      by_cases hlt : j < 9
      · have hll := lentL_len ld hj
        rw [HL.out] at hll
        have hz := blk_cell HC.out (n + j)
        have hf := blk_free HC.out (n + j)
        obtain ⟨q, hq⟩ : ∃ q, (lentL ld j)[n + j]? = some q := ⟨_, List.getElem?_eq_getElem (by rw [hll]; omega)⟩
        rw [List.getElem?_toArray, bC_get, hq] at hz
        simp only [Option.map_some] at hz
        clear hq
        have HN := Lib.hid (blk_store HC.out (n + j) (.int .u8 ((167 : Nat) : Int)))
        obtain ⟨x, hx⟩ : ∃ x, n + j = x := ⟨_, rfl⟩
        have HXX := Lib.hid hx
        rw [hx] at hz hf HN ⊢
        have i1 : (x : Int) < (n : Int) + 9 := by omega
        have i2 : (0 : Int) ≤ (x : Int) := by omega
        have i3 : (x : Int).toNat = x := Int.toNat_natCast x
        have i4 : x < n + 9 := by omega
        clear hll hx
        go_wp2_with fail
        have hn2 : Hid ((wr.setCell ⟨g, x, none⟩ (.int .u8 167)).heap[g]? = some (.cells (bC (lentL ld (j + 1))).toArray 5 (0, 0))) := by
          have h := HN.out
          rw [List.setIfInBounds_toArray, bC_set, ← HXX.out, ← HL.out, lentL_set ld hlt] at h
          rw [← HXX.out, ← HL.out]; exact h
        have hb2 := HBB.out.setCell (p := ⟨g, x, none⟩) (by show W.heap.size ≤ g; rw [HG.out]; exact Nat.le_refl _) (.int .u8 167)
        go_roundw
        case rel => exact ⟨j + 1, by rw [← Nat.add_assoc, HXX.out]; go_num, by omega, hn2.out, hb2⟩
        case measure => simp [intOf]; omega
      · obtain rfl : j = 9 := by omega
        have i1 : ¬ ((n + 9 : Nat) : Int) < (n : Int) + 9 := by omega
        have i2 : (n : Int) ≤ (n : Int) + 9 := by omega
        go_wp2_with fail
        go_ret
        exact ⟨g, rfl, by rw [HG.out]; exact Nat.le_refl _, HC.out, HBB.out⟩
theorem stays_any (av bv : Option Addr) (cv g : Nat) (ld : List Nat) (W : World) (hn : ld.length ≤ 1000) (hr : RdP W bv ld) (hg : W.heap[g]? = some (.cells (bC (lentL ld 9)).toArray 5 (0, 0))) :
    Calls Try.prog 22 #[.slice (some ⟨g, 0, none⟩) ld.length (ld.length + 9), .slice bv ld.length cv] W fun e w' => e = .returned (.bool true) ∧ Below W.heap.size W w' := by
  have HS := Lib.hid (same_any (.slice (some ⟨g, 0, none⟩) ld.length (ld.length + 9)) (.slice bv ld.length cv) ld ld W (some ⟨g, 0, none⟩) bv (ld.length + 9) cv rfl rfl (by omega) (by omega) (fun j x hx => ⟨_, rfl, by
    rw [Addr.add_mid, Nat.zero_add, blk_cell hg, List.getElem?_toArray, bC_get]
    unfold lentL
    rw [List.getElem?_append_left (List.getElem?_eq_some_iff.1 hx).1, hx]; rfl⟩) hr)
  have HGC := Lib.hid hg
  obtain ⟨n, hlen⟩ : ∃ n, ld.length = n := ⟨_, rfl⟩
  have HL := Lib.hid hlen
  rw [hlen] at hn HS ⊢
  have n1 : (n : Int) ≤ 1000 := by omega
  clear hr hg hlen
  go_enter Try.func22, Try.ntmps22
  go_wp2_with (go_at_call 25; refine HS.out.mono ?_; rintro e w1 ⟨rfl, hB1⟩; rw [decide_eq_true (rfl : ld = ld)])
  have HC1 := Lib.hid (blk_below' hB1 HGC.out)
  go_loopw [6] (fun iv wr => ∃ j : Nat, iv = .int .i64 ((n + j : Nat) : Int) ∧ j ≤ 9 ∧ wr = w1) (fun iv _ => n + 9 - (intOf iv).toNat)
  case atStart => exact ⟨0, rfl, by omega, rfl⟩
  case round =>
    obtain ⟨j, rfl, hj, rfl⟩ := hrel
    by_cases hlt : j < 9
    · have hz := blk_cell HC1.out (n + j)
      rw [List.getElem?_toArray, bC_get] at hz
      unfold lentL at hz
      rw [List.getElem?_append_right (by rw [HL.out]; omega), HL.out, show n + j - n = j by omega, List.getElem?_append_left (by simp; omega), List.getElem?_replicate, if_pos hlt] at hz
      simp only [Option.map_some] at hz
      obtain ⟨x, hx⟩ : ∃ x, n + j = x := ⟨_, rfl⟩
      have HXX := Lib.hid hx
      rw [hx] at hz ⊢
      have i1 : (x : Int) < (n : Int) + 9 := by omega
      have i2 : (0 : Int) ≤ (x : Int) := by omega
      have i3 : (x : Int).toNat = x := Int.toNat_natCast x
      have i4 : x < n + 9 := by omega
      clear hx
      go_wp2_with fail
      go_roundw
      case rel => exact ⟨j + 1, by rw [← Nat.add_assoc, HXX.out]; go_num, by omega, trivial⟩
      case measure => simp [intOf]; omega
    · obtain rfl : j = 9 := by omega
      have i1 : ¬ ((n + 9 : Nat) : Int) < (n : Int) + 9 := by omega
      go_wp2_with fail
      go_ret
      exact ⟨rfl, hB1⟩
end Go.Proofs.Ytpfiaepoibablaa
