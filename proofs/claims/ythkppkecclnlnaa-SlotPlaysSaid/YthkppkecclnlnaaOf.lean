/- Walk: Of. -/
import Derived.Test.YthkppkecclnlnaaTwin
namespace Go.Proofs.Ythkppkecclnlnaa
set_option linter.unusedVariables false
set_option linter.unusedSimpArgs false
open Go.RowKit

set_option maxRecDepth 100000 in
theorem of_short (a : Option Addr) (n c : Nat) (w : World) (hn : n ≠ 256) : Calls Try.prog 34 #[.slice a n c] w fun e w' => e = .returned (.tuple #[.pointer none, .int .i64 102]) ∧ Below w.heap.size w w' := by
  have hne : ((n : Int) != 256) = true := by simp; omega
  clear hn
  go_enter Try.func34, Try.ntmps34
  go_wp2_with fail
  go_ret2
  exact ⟨rfl, Below.refl _ _⟩
/-- The first k sectors of l, then noughts. -/
def ofL (l : List Nat) (k : Nat) : List Nat := l.take (32 * k) ++ List.replicate (256 - 32 * k) 0
theorem ofL_put {l : List Nat} (hl : l.length = 256) {k : Nat} (hk : k < 8) : putS (ofL l k) k ((l.drop (k * 32)).take 32) = ofL l (k + 1) := by
  have hlen : (l.take (32 * k)).length = 32 * k := by rw [List.length_take]; omega
  have e1 : (l.take (32 * k) ++ List.replicate (256 - 32 * k) 0).drop (32 * k + 32) = List.replicate (256 - 32 * (k + 1)) 0 := by
    rw [List.drop_append, hlen, List.drop_of_length_le (by rw [hlen]; omega), List.nil_append, List.drop_replicate]
    congr 1; omega
  unfold putS ofL
  rw [e1, List.take_append_of_le_length (by omega), List.take_take, Nat.min_self, ← List.append_assoc]
  congr 1
  rw [Nat.mul_comm k 32, show 32 * (k + 1) = 32 * k + 32 from by omega, List.take_add]
set_option maxRecDepth 100000 in
set_option maxHeartbeats 1000000 in
theorem of_any (p : Addr) (c : Nat) (l : List Nat) (w : World) (hl : l.length = 256) (hc : 256 ≤ c) (hp : p.block < w.heap.size) (hr : ∀ j x, l[j]? = some x → w.cell? (p.add j) = some (.int .u8 (x : Nat))) :
    Calls Try.prog 34 #[.slice (some p) 256 c] w fun e w' => ∃ b, e = .returned (.tuple #[.pointer (some ⟨b, 0, none⟩), .int .i64 0]) ∧ w.heap.size ≤ b ∧ DkAt w' b { Dk.new with bs := l } ∧ Below w.heap.size w w' := by
  go_enter Try.func34, Try.ntmps34
  go_wp2_with (go_at_call 21; refine (new_any _).mono ?_; rintro e w1 ⟨rfl, hD1, hB1⟩)
  have hD0 : DkAt w1 w.heap.size { Dk.new with bs := ofL l 0 } := hD1
  clear hD1
  go_loopw [10] (fun i wr => ∃ k : Nat, i = .int .i64 k ∧ k ≤ 8 ∧ DkAt wr w.heap.size { Dk.new with bs := ofL l k } ∧ Below w.heap.size w wr) (fun i _ => 8 - (intOf i).toNat)
  case atStart => exact ⟨0, rfl, by omega, hD0, hB1⟩
  case round =>
    obtain ⟨k, rfl, hk, hD, hb⟩ := hrel
    clear hD0 hB1
    by_cases hlt : k < 8
    · have i1 : (k : Int) < 8 := by omega
      have i2 : (0 : Int) ≤ (k : Int) := by omega
      have i3 : (k : Int).toNat = k := Int.toNat_natCast k
      have i4 : (k : Int) * 32 ≤ 256 := by omega
      have i5 : (256 : Int) ≤ (c : Int) := by omega
      have i6 : ¬ c = k * 32 := by omega
      have i7 : IntKind.i64.wrap ((k : Int) * 32) = (k : Int) * 32 := by rw [IntKind.wrap_i64]; omega
      have i8 : (0 : Int) ≤ (k : Int) * 32 := by omega
      have i9 : ((k : Int) * 32).toNat = k * 32 := by omega
      go_wp2_with fail
      refine wp_region_still_tail 10 (by kernel_rfl) (by kernel_rfl) ?_
      simp only [List.take_succ_cons, List.take_zero, List.drop_succ_cons, List.drop_zero]
      repeat still_step
      try refine wpStill_nil ?_
      change wpList _ _ _ _ _ wr.drew
      have hLl : (bC ((l.drop (k * 32)).take 32)).length = 32 := by rw [bC_len, List.length_take, List.length_drop]; omega
      have hsrc : ∀ j u, (bC ((l.drop (k * 32)).take 32))[j]? = some u → wr.drew.cell? ((p.add (k * 32)).add j) = some u := by
        intro j u hu
        have hj : j < 32 := by have := (List.getElem?_eq_some_iff.1 hu).1; omega
        unfold bC at hu
        rw [List.getElem?_map, List.getElem?_take_of_lt hj, List.getElem?_drop] at hu
        obtain ⟨x, hx, rfl⟩ := Option.map_eq_some_iff.1 hu
        rw [Addr.add_add]
        exact (hb.cell (show (p.add (k * 32 + j)).block < w.heap.size by rw [show (p.add (k * 32 + j)).block = p.block from by unfold Addr.add; split <;> rfl]; exact hp)).trans (hr _ x hx)
      have hD2 := hD.drew.copy hlt (show ((l.drop (k * 32)).take 32).length = 32 by rw [← bC_len]; exact hLl)
      have hb2 := (hb.drew).grown (but_setRow (but_refl wr.drew (some w.heap.size)) ((dkC { Dk.new with bs := ofL l k }).toList.take (k * 32) ++ (bC ((l.drop (k * 32)).take 32) ++ (dkC { Dk.new with bs := ofL l k }).toList.drop (k * 32 + (bC ((l.drop (k * 32)).take 32)).length))).toArray) hb.size (fun j h => by cases h; exact Nat.le_refl _)
      have HS := Lib.hid hsrc
      have HL := Lib.hid hLl
      have HD := Lib.hid hD
      have HD2 := Lib.hid hD2
      have HB2 := Lib.hid hb2
      clear hsrc hLl hD hD2 hb2 hb
      refine wpList_copy_own rfl _ _ 30 30 rfl 5 Try.underlying30 (by kernel_rfl) w.heap.size (k * 32) 32 32 (p.add (k * 32)) (256 - k * 32) (c - k * 32) rfl rfl (dkC { Dk.new with bs := ofL l k }) 90 HD.out.1 (bC ((l.drop (k * 32)).take 32)) (by rw [HL.out]; exact (Nat.min_eq_right (by omega)).symm) HS.out (by rw [HL.out, dkC_size HD.out.2]; omega) (bC_one _) ?_
      go_wp2
      go_roundw
      case rel => exact ⟨k + 1, by go_num, by omega, by rw [← ofL_put hl hlt]; exact HD2.out, HB2.out⟩
      case measure => simp [intOf]; omega
    · obtain rfl : k = 8 := by omega
      have he : ofL l 8 = l := by unfold ofL; rw [List.take_of_length_le (by omega)]; simp
      rw [he] at hD
      go_wp2
      go_ret2
      exact ⟨_, rfl, Nat.le_refl _, hD, hb⟩
end Go.Proofs.Ythkppkecclnlnaa
