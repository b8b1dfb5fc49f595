/- Walk: earshotlaw4.alive answers true. -/
import Derived.Test.YthbejpgeohhppaaAsk
namespace Go.Proofs.Ythbejpgeohhppaa
set_option linter.unusedVariables false
open Go.RowKit Go.Maps

theorem read_any (s : ByteArray) (hs : s.size ≤ 9223372036854775807) (w : World) : Calls Try.prog 12 #[.string s] w (ReadP s w) := by
  by_cases h1 : 65536 < s.size
  · exact read_long s h1 hs w
  by_cases h2 : s.size = 0
  · exact read_empty s h2 w
  · exact read_some s (by omega) (by omega) w

theorem readV_sgs {s : ByteArray} {o : Option (List Nat)} {a : Nat} {x : Int} (h : readV s = (o, a, x)) : (sgs o).length ≤ 100 ∧ (∀ r ∈ sgs o, okR r) ∧ (sgs o).Nodup := by
  cases o with
  | none => simp [sgs]
  | some l => obtain ⟨_, _, _, h4, _, h6, h7, _⟩ := readV_some h; exact ⟨h6, fun r hr => (h7 r hr).2, h4⟩
theorem textV_sgs {s : ByteArray} {o : Option (List Nat)} {a : Nat} {x : Int} (h : readV s = (o, a, x)) : textV o = txt (sgs o) := by
  cases o with
  | none => rfl
  | some l => rfl
/-- The cells of a roster. -/
theorem RostAt.shape {W : World} {B : Nat} {v : Value} {o : Option (List Nat)} (h : RostAt W B v o) : ∃ t a c m, v = .agg #[.string t, .slice a (sgs o).length c, .map m] := by
  cases o with
  | none => exact ⟨_, _, _, _, h⟩
  | some l =>
    obtain ⟨sv, b, D, rfl, h1, _⟩ := h
    obtain ⟨sa, sc, rfl, _⟩ := ownsRow_slice h1
    exact ⟨_, _, _, _, rfl⟩
theorem RefAt.shape {W : World} {B : Nat} {v : Value} {o : Option (List Nat)} (h : RefAt W B v o) : ∃ a c, v = .agg #[.slice a (sgs o).length c] := by
  cases o with
  | none => exact ⟨_, _, h⟩
  | some l =>
    obtain ⟨sv, rfl, h1⟩ := h
    obtain ⟨sa, sc, rfl, _⟩ := ownsRow_slice h1
    exact ⟨_, _, rfl⟩

abbrev aliveS : ByteArray := ⟨#[206, 177, 206, 178, 206, 179, 240, 159, 166, 137]⟩
theorem alive_id : idV (sgs (some [945, 946, 947, 129417])) 947 = .tuple #[.int .i64 2, .int .i64 0] := by kernel_rfl
theorem alive_read : readV aliveS = (some [945, 946, 947, 129417], 0, 0) := by decide +kernel

set_option maxHeartbeats 400000 in
theorem alive_any (w : World) :
    Calls Try.prog 14 #[] w fun e w' => e = .returned (.bool true) ∧ Below w.heap.size w w' := by
  have H1 := Lib.hid (fun w => read_any aliveS (by decide) w)
  go_enter Try.func14, Try.ntmps14
  go_wp2_with fail
  refine (H1.out _).mono ?_
  rintro e w1 ⟨v, a, x, o, rfl, hv, hr, hB⟩
  rw [alive_read] at hv
  obtain ⟨rfl, rfl, rfl⟩ : some [945, 946, 947, 129417] = o ∧ (0 : Nat) = a ∧ (0 : Int) = x := by simpa using hv
  clear hv
  obtain ⟨t, sa, sc, m, rfl⟩ := hr.shape
  obtain ⟨c0, c1, c2, f0, f1, f2⟩ := three_cells (blk_new w1 (.cells #[.string t, .slice sa (sgs (some [945, 946, 947, 129417])).length sc, .map m] 25))
  have hz := hB.size
  have hr2 := hr.below ((Below.refl _ _).alloc (Nat.le_refl _) (.cells #[.string t, .slice sa (sgs (some [945, 946, 947, 129417])).length sc, .map m] 25))
  go_wp2_with fail
  refine (id_any _ _ _ _ hr2 947 (by decide)).mono ?_
  rintro e w2 ⟨rfl, hB2⟩
  rw [alive_id]
  obtain ⟨c0, c1, c2, f0, f1, f2⟩ := three_cells (blk_below' hB2 (blk_new w1 (.cells #[.string t, .slice sa (sgs (some [945, 946, 947, 129417])).length sc, .map m] 25)))
  have hr3 := hr2.below hB2
  have H3 := Lib.hid (size_any _ _ _ _ hr3)
  go_wp2_with (go_at_call 15; refine H3.out.mono ?_; rintro e w3 ⟨rfl, hB3⟩)
  go_ret
  exact ⟨rfl, ((hB.alloc hB.size _).trans (hB2.mono (by simp; omega))).trans (hB3.mono (by have := hB2.size; simp at this; omega))⟩
end Go.Proofs.Ythbejpgeohhppaa
