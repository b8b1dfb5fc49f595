/- Walks: mayBe, isSeq, take, put (the slot's small functions). -/
import Derived.Test.YthkppkecclnlnaaGreatSlotM
import Derived.Test.YthkppkecclnlnaaGreatCells
import Derived.Laws.Bits64b
namespace Go.Proofs.YthkppkecclnlnaaGreat
set_option linter.unusedVariables false
set_option linter.unusedSimpArgs false
open Go.RowKit

theorem bits_or_i64 (a b : Nat) (ha : a < 9223372036854775808) (hb : b < 9223372036854775808) : bits .or .i64 (a : Int) (b : Int) = ((a ||| b : Nat) : Int) := by
  have h3 : a ||| b < 2 ^ 63 := Nat.or_lt_two_pow (by omega) (by omega)
  have h1 : (BitVec.ofInt 64 (a : Int)).toNat = a := by rw [BitVec.ofInt_natCast, BitVec.toNat_ofNat]; exact Nat.mod_eq_of_lt (by omega)
  have h2 : (BitVec.ofInt 64 (b : Int)).toNat = b := by rw [BitVec.ofInt_natCast, BitVec.toNat_ofNat]; exact Nat.mod_eq_of_lt (by omega)
  show IntKind.i64.wrap ((BitVec.ofInt 64 (a : Int) ||| BitVec.ofInt 64 (b : Int)).toNat : Int) = _
  rw [BitVec.toNat_or, h1, h2, IntKind.wrap_i64]
  omega
theorem or_shift (x c : Nat) (hx : x < 281474976710656) (hc : c < 256) : bits .or .i64 ((x : Int) * 256) (c : Int) = ((x * 256 + c : Nat) : Int) := by
  have h := bits_or_i64 (x * 256) c (by omega) (by omega)
  rw [show ((x * 256 : Nat) : Int) = (x : Int) * 256 from by omega] at h
  rw [h, show x * 256 = 2 ^ 8 * x from by omega, ← Nat.two_pow_add_eq_or_of_lt (by omega)]
/-- A record as a value. -/
def recV (a b c : Int) : Value := .agg #[.int .i64 a, .int .i64 b, .int .i64 c]
def keptV (r : Rc) : Value := .agg #[.int .i64 (r.life : Int), .int .i64 (r.round : Int), .int .i64 (r.tag : Int), .int .i64 (r.seq : Int)]
set_option maxRecDepth 100000 in
theorem mayBe_any (a b c : Int) (w : World) : Calls Tryz.prog 18 #[recV a b c] w fun e w' => e = .returned (.bool (decide (mayR a b c))) ∧ Below w.heap.size w w' := by
  unfold recV
  have HB : Below w.heap.size w (w.alloc (.cells #[.int .i64 a, .int .i64 b, .int .i64 c] 23)) := (Below.refl _ w).alloc (Nat.le_refl _) _
  by_cases h1 : 1 ≤ a
  · by_cases h2 : a ≤ 1073741824
    · by_cases h3 : 0 ≤ b
      · by_cases h4 : b ≤ 1099511627775
        · by_cases h5 : 0 ≤ c
          · by_cases h6 : c ≤ 1048576
            · rw [decide_eq_true (show mayR a b c from ⟨h1, h2, h3, h4, h5, h6⟩)]
              go_enter Tryz.func18, Tryz.ntmps18
              go_wp2_with fail
              go_ret
              exact ⟨rfl, HB⟩
            · rw [decide_eq_false (show ¬ mayR a b c from fun h => h6 h.2.2.2.2.2)]
              go_enter Tryz.func18, Tryz.ntmps18
              go_wp2_with fail
              go_ret
              exact ⟨rfl, HB⟩
          · rw [decide_eq_false (show ¬ mayR a b c from fun h => h5 h.2.2.2.2.1)]
            go_enter Tryz.func18, Tryz.ntmps18
            go_wp2_with fail
            go_ret
            exact ⟨rfl, HB⟩
        · rw [decide_eq_false (show ¬ mayR a b c from fun h => h4 h.2.2.2.1)]
          go_enter Tryz.func18, Tryz.ntmps18
          go_wp2_with fail
          go_ret
          exact ⟨rfl, HB⟩
      · rw [decide_eq_false (show ¬ mayR a b c from fun h => h3 h.2.2.1)]
        go_enter Tryz.func18, Tryz.ntmps18
        go_wp2_with fail
        go_ret
        exact ⟨rfl, HB⟩
    · rw [decide_eq_false (show ¬ mayR a b c from fun h => h2 h.2.1)]
      go_enter Tryz.func18, Tryz.ntmps18
      go_wp2_with fail
      go_ret
      exact ⟨rfl, HB⟩
  · rw [decide_eq_false (show ¬ mayR a b c from fun h => h1 h.1)]
    go_enter Tryz.func18, Tryz.ntmps18
    go_wp2_with fail
    go_ret
    exact ⟨rfl, HB⟩
theorem isSeq_any (s : Int) (w : World) : Calls Tryz.prog 19 #[.int .i64 s] w fun e w' => e = .returned (.bool (decide (1 ≤ s ∧ s ≤ 1099511627776))) ∧ Below w.heap.size w w' := by
  by_cases h1 : 1 ≤ s
  · by_cases h2 : s ≤ 1099511627776
    · rw [decide_eq_true ⟨h1, h2⟩]
      go_enter Tryz.func19, Tryz.ntmps19
      go_wp2_with fail
      go_ret
      exact ⟨rfl, Below.refl _ _⟩
    · rw [decide_eq_false (fun h => h2 h.2)]
      go_enter Tryz.func19, Tryz.ntmps19
      go_wp2_with fail
      go_ret
      exact ⟨rfl, Below.refl _ _⟩
  · rw [decide_eq_false (fun h => h1 h.1)]
    go_enter Tryz.func19, Tryz.ntmps19
    go_wp2_with fail
    go_ret
    exact ⟨rfl, Below.refl _ _⟩
theorem takeF_drop {x k : Nat} {l : List Nat} {c : Nat} (hc : l[k]? = some c) : takeF x (l.drop k) = if 281474976710656 ≤ x then 72057594037927936 else takeF (x * 256 + c) (l.drop (k + 1)) := by
  obtain ⟨hk, hv⟩ := List.getElem?_eq_some_iff.1 hc
  rw [List.drop_eq_getElem_cons hk, hv]
  rfl
set_option maxRecDepth 100000 in
theorem take_any (p : Addr) (n cap : Nat) (l : List Nat) (w : World) (hl : l.length = n) (hn : n ≤ 1000000) (hlt : ∀ c ∈ l, c < 256) (hc : CellsAt w p l) :
    Calls Tryz.prog 23 #[.slice (some p) n cap] w fun e w' => e = .returned (.int .i64 (takeF 0 l : Nat)) ∧ Below w.heap.size w w' := by
  have HC := Lib.hid hc
  have HLT := Lib.hid hlt
  have HL := Lib.hid hl
  clear hc hlt hl
  go_enter Tryz.func23, Tryz.ntmps23
  go_wp2_with fail
  go_loopw [3, 8] (fun xv i wr => ∃ (k x : Nat), i = .int .i64 k ∧ k ≤ n ∧ xv = .int .i64 (x : Int) ∧ x < 72057594037927936 ∧ Hid (takeF 0 l = takeF x (l.drop k)) ∧ Below w.heap.size w wr) (fun _ i _ => n - (intOf i).toNat)
  case atStart => exact ⟨0, 0, rfl, by omega, rfl, by decide, rfl, Below.refl _ _⟩
  case round =>
    obtain ⟨k, x, rfl, hk, rfl, hx, heq, hb⟩ := hrel
    by_cases hlt : k < n
    · obtain ⟨c, hcx⟩ : ∃ c, l[k]? = some c := ⟨_, List.getElem?_eq_getElem (by rw [HL.out]; exact hlt)⟩
      obtain ⟨q, hq, hp⟩ := HC.out k c hcx
      cases hq
      have hp := (hb.cell (cell_lt hp)).trans hp
      have hc2 := HLT.out c (List.mem_of_getElem? hcx)
      have HT := Lib.hid (takeF_drop (x := x) hcx)
      have i1 : (k : Int) < (n : Int) := by omega
      have i2 : (0 : Int) ≤ (k : Int) := by omega
      have i3 : (k : Int).toNat = k := Int.toNat_natCast k
      clear hcx
      by_cases hx2 : x < 281474976710656
      · have j1 : ¬ (281474976710656 : Int) ≤ (x : Int) := by omega
        have hor := or_shift x c hx2 hc2
        have j2 : (x : Int) * 256 < 72057594037927936 := by omega
        go_wp2_with fail
        go_roundw
        case rel => exact ⟨k + 1, x * 256 + c, by go_num, by omega, by go_num, by omega, by show _ = _; rw [heq.out, HT.out, if_neg (by omega)], hb⟩
        case measure => simp [intOf]; omega
      · have j1 : (281474976710656 : Int) ≤ (x : Int) := by omega
        go_wp2_with fail
        go_ret
        refine ⟨?_, hb⟩
        rw [heq.out, HT.out, if_pos (by omega)]; rfl
    · obtain rfl : k = n := by omega
      have i1 : ¬ (k : Int) < (k : Int) := by omega
      go_wp2_with fail
      go_ret
      refine ⟨?_, hb⟩
      rw [heq.out, List.drop_of_length_le (by rw [HL.out]; exact Nat.le_refl _)]; rfl
end Go.Proofs.YthkppkecclnlnaaGreat
