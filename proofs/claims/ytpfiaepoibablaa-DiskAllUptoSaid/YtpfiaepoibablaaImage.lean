/- Walk: Image. -/
import Derived.Test.YtpfiaepoibablaaWrite
import Derived.Laws.Rows
import Derived.Deep.MidRow
namespace Go.Proofs.Ytpfiaepoibablaa
set_option linter.unusedVariables false
set_option linter.unusedSimpArgs false
open Go.RowKit

theorem DkAt.range {W : World} {b : Nat} {d : Dk} (h : DkAt W b d) : W.rangeAt b 0 (bC d.bs) := by
  intro j v hv
  rw [Nat.zero_add, blk_cell h.1]
  unfold dkC
  rw [List.getElem?_toArray, List.getElem?_append_left (List.getElem?_eq_some_iff.1 hv).1]
  exact hv
theorem image_info : (Try.prog.info? 54).map (·.size) = some 256 := by kernel_rfl
theorem sector_info : (Try.prog.info? 53).map (·.size) = some 32 := by kernel_rfl
theorem run_index_sector (l : List Nat) (hl : l.length = 256) (k : Nat) (hk : k < 8) (w : World) :
    (Instr.index 54 (.agg (bC l).toArray) (.int .i64 (k : Int))).run Try.prog w = .ok (.agg (bC ((l.drop (k * 32)).take 32)).toArray) w := by
  have h1 : (0 : Int) ≤ (k : Int) ∧ (k : Int) < ((8 : Nat) : Int) := by omega
  have hi := sector_info
  cases hq : Try.prog.info? 53 with
  | none => rw [hq] at hi; cases hi
  | some i =>
    have hs : i.size = 32 := by simpa [hq] using hi
    simp [Instr.index, run_underlying Try.underlying54, asIntOf, h1, go_sem, hk, bC, List.map_take, List.map_drop, sizeOf, typeInfo, hq, hs, isAgg, run_underlying Try.underlying53]
/-- A new block that is written whole. -/
theorem new_row (wr : World) (zz : Array Value) (t : TypeId) (vs : List Value) (hz : zz.size = vs.length) :
    ((wr.alloc (.cells zz t)).setCells wr.heap.size 0 vs.toArray.toList).heap[wr.heap.size]? = some (.cells vs.toArray t (0, 0)) ∧ Below wr.heap.size wr ((wr.alloc (.cells zz t)).setCells wr.heap.size 0 vs.toArray.toList) :=
  ⟨setCells_whole (blk_new wr _) vs.toArray (by simp [hz]), setCells_below _ _ _ ((Below.refl _ wr).alloc (Nat.le_refl _) _) (Nat.le_refl _)⟩
theorem image_nil (w : World) : Calls Try.prog 30 #[.pointer none] w fun e w' => e = .returned (.slice none 0 0) ∧ Below w.heap.size w w' := by
  go_enter Try.func30, Try.ntmps30
  go_wp2_with fail
  go_ret
  exact ⟨rfl, Below.refl _ _⟩
set_option maxRecDepth 100000 in
set_option maxHeartbeats 1000000 in
theorem image_any (b : Nat) (d : Dk) (w : World) (h : DkAt w b d) :
    Calls Try.prog 30 #[.pointer (some ⟨b, 0, none⟩)] w fun e w' => ∃ v, e = .returned v ∧ w'.ownsRow w.heap.size 5 1 v 256 (bC d.bs) ∧ Below w.heap.size w w' := by
  obtain ⟨i0, hi, hz0, hz1, hz2⟩ := info_parts Try.infoByte
  have hD := Lib.hid h
  clear h
  go_enter Try.func30, Try.ntmps30
  go_wp2_with (first
    | (refine wpList_make_own _ rfl _ _ 22 rfl w.heap.size 5 i0 (.int .u8 0) 1 Try.underlying22 hi hz0 hz1 _ _ _ 256 rfl rfl rfl (by rw [hz2]; decide) (by decide) (Nat.le_refl _) ?_; intro w1 hown hg; have hb1 : Below w.heap.size w w1 := (Below.refl _ w).grown hg (Nat.le_refl _) (fun j h => by cases h); have hD1 := Lib.hid (hD.out.below hb1))
    | (refine wpList_load_mid rfl _ _ rfl b 0 rfl (bC d.bs) _ hD1.out.range Try.underlying54 rfl (image_info.trans (by rw [bC_len, hD1.out.2])) ?_))
  go_loopw [3, 13] (fun v i wr => ∃ k : Nat, i = .int .i64 k ∧ k ≤ 8 ∧ wr.ownsRow w.heap.size 5 1 v (32 * k) (bC (d.bs.take (32 * k))) ∧ Below w.heap.size w wr) (fun _ i _ => 8 - (intOf i).toNat)
  case atStart => exact ⟨0, rfl, by omega, hown, hb1⟩
  case round =>
    obtain ⟨k, rfl, hk, hown, hbl⟩ := hrel
    clear hb1 hD1 hg
    by_cases hlt : k < 8
    · have i1 : (k : Int) < 8 := by omega
      have i2 : (0 : Int) ≤ (k : Int) := by omega
      have i3 : (k : Int).toNat = k := Int.toNat_natCast k
      have hidx := run_index_sector d.bs hD.out.2 k hlt
      obtain ⟨L, hL⟩ : ∃ L, (d.bs.drop (k * 32)).take 32 = L := ⟨_, rfl⟩
      have hLl : L.length = 32 := by rw [← hL, List.length_take, List.length_drop, hD.out.2]; omega
      have hLa : d.bs.take (32 * k) ++ L = d.bs.take (32 * (k + 1)) := by
        rw [← hL, Nat.mul_comm k 32, show 32 * (k + 1) = 32 * k + 32 from by omega, List.take_add]
      rw [hL] at hidx
      have HL := Lib.hid hLl
      have HA := Lib.hid hLa
      clear hL hLl hLa
      go_wp2_with (first
        | (refine wpList_store_mid rfl _ _ _ rfl wr.heap.size 0 (bC L).toArray rfl rfl (there_blk (blk_new wr _) 0 _ (by simp [bC_len, HL.out])) (sector_info.trans (by simp [bC_len, HL.out])) (all_oneCell_toArray (bC_one L)) ?_; generalize hW3 : World.setCells (World.alloc wr _) _ _ _ = W3; have n3 : W3.heap[wr.heap.size]? = some (.cells (bC L).toArray 53 (0, 0)) ∧ Below wr.heap.size wr W3 := (by rw [← hW3]; exact new_row wr _ _ (bC L) (by rw [bC_len, HL.out]; rfl)); clear hW3; have hb3 := below_then hbl n3.2; have hown3 := ownsRow_below hown n3.2)
        | (at_builtin; (refine wpList_append_own _ rfl _ _ 22 rfl w.heap.size 5 i0 (.int .u8 0) 1 1 Try.underlying22 hi hz0 hz1 hz2 rfl (by decide) _ _ _ rfl hown3 ⟨wr.heap.size, 0, none⟩ 32 32 (bC L) rfl ?a1 ?a2 ?a3 ?a4 ?a5 ?a6 ?_)))
      case a1 => rw [bC_len, HL.out]
      case a2 => intro j u hu; rw [Addr.add_mid, Nat.zero_add, blk_cell n3.1]; simpa using hu
      case a3 => exact bC_one L
      case a4 => unfold maxLen; omega
      case a5 => omega
      case a6 => exact hb3.size
      intro v' w4 hown4 hg4 hv4
      have hb4 := hb3.grown hg4 hb3.size (fun j hj => (hown3.lt _ hj).1)
      rw [show bC (d.bs.take (32 * k)) ++ bC L = bC (d.bs.take (32 * (k + 1))) from by rw [← HA.out]; unfold bC; rw [List.map_append], show 32 * k + 32 = 32 * (k + 1) from by omega] at hown4
      clear hown hown3 hg4 n3 hb3 hbl
      go_wp2
      go_roundw
      case rel => exact ⟨k + 1, by go_num, by omega, hown4, hb4⟩
      case measure => simp [intOf]; omega
    · obtain rfl : k = 8 := by omega
      rw [List.take_of_length_le (by rw [hD.out.2]; omega)] at hown
      go_wp2
      go_ret
      exact ⟨_, rfl, hown, hbl⟩
end Go.Proofs.Ytpfiaepoibablaa
