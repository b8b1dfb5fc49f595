/- The walk of the law GlyphRunes. -/
import Derived.Test.YteoehhkdmmcglaaAlive
import Derived.Test.YteoehhkdmmcglaaGlyphChars
import Derived.Test.YteoehhkdmmcglaaRunes
import Derived.Test.YteoehhkdmmcglaaArgs
import Derived.Laws.Runes
namespace Go.Proofs.Yteoehhkdmmcglaa
open Go.RowKit
set_option linter.unusedVariables false

/-- The rune that is written for a number. -/
def fixR (r : Int) : Nat := if 0 ≤ r ∧ r ≤ 0x10FFFF ∧ ¬ (0xD800 ≤ r ∧ r ≤ 0xDFFF) then r.toNat else 65533
theorem fixR_ok (r : Int) : okR (fixR r) := by
  unfold fixR okR; split <;> omega
theorem encode_fix (r : Int) : (Utf8.encode r).data.toList = enc (fixR r) := by
  have hv : (if Utf8.valid r then r.toNat else Utf8.runeError) = fixR r := by
    unfold fixR
    by_cases h : 0 ≤ r ∧ r ≤ 0x10FFFF ∧ ¬ (0xD800 ≤ r ∧ r ≤ 0xDFFF)
    · rw [if_pos h, if_pos (by simp [Utf8.valid]; omega)]
    · rw [if_neg h, if_neg (by simp [Utf8.valid]; omega)]; rfl
  unfold Utf8.encode
  simp only [hv]
  unfold enc encN
  by_cases a : fixR r ≤ 127
  · rw [if_pos (by omega), if_pos a]; rfl
  · rw [if_neg (by omega), if_neg a]
    by_cases b : fixR r ≤ 2047
    · rw [if_pos (by omega), if_pos b]; rfl
    · rw [if_neg (by omega), if_neg b]
      by_cases c : fixR r ≤ 65535
      · rw [if_pos (by omega), if_pos c]; rfl
      · rw [if_neg (by omega), if_neg c]; rfl
theorem encode_len (r : Int) : (Utf8.encode r).size ≤ 4 := by
  have h : (Utf8.encode r).data.toList.length = (Utf8.encode r).size := by simp
  rw [← h, encode_fix]; exact (enc_len _).2
theorem txt_snoc (l : List Nat) (r : Int) : txt l ++ Utf8.encode r = txt (l ++ [fixR r]) := by
  refine ba_ext ?_
  rw [ByteArray.data_append, Array.toList_append, txt_list, txt_list, encode_fix]; simp

set_option maxHeartbeats 2000000 in
theorem glyphRunes_walk (w : World) (v : Value) (xs : List Int) (hv : RowOf w .i32 v xs) (hwf : ∀ x ∈ xs, (Lit.int .i32 x).wf = true) :
    Calls Try.prog 9 #[v] w fun e w' => e = .returned (.bool true) ∧ Below w.heap.size w w' := by
  obtain ⟨a, cap, rfl, hcap, hmax, hcell⟩ := hv.slice
  have A := Lib.hid alive_any
  unfold maxLen at hmax
  by_cases hlong : 2000 < xs.length
  · have h1 : (2000 : Int) < (xs.length : Int) := by omega
    go_enter Try.func9, Try.ntmps9
    go_wp2_with (go_at_call 17; refine (A.out _).mono ?_; rintro e w1 ⟨rfl, hB1⟩)
    go_ret
    exact ⟨rfl, hB1⟩
  · have h1 : ¬ (2000 : Int) < (xs.length : Int) := by omega
    go_enter Try.func9, Try.ntmps9
    go_wp2
    go_loopw [3, 4] (fun tv i wr => ∃ (t : ByteArray) (k : Nat), tv = .string t ∧ i = .int .i64 k ∧ Hid (t = txt ((xs.take k).map fixR)) ∧ t.size ≤ 4 * k ∧ k ≤ xs.length ∧ wr = w) (fun _ i _ => xs.length - (intOf i).toNat)
    case atStart => exact ⟨txt [], 0, rfl, rfl, rfl, by decide, by omega, rfl⟩
    case round =>
      obtain ⟨t, k, rfl, rfl, ht, hts, hk, rfl⟩ := hrel
      by_cases hlt : k < xs.length
      · obtain ⟨b, rfl, hc⟩ := hcell k xs[k] (List.getElem?_eq_getElem hlt)
        have hx := Lib.hid (List.getElem?_eq_getElem hlt)
        generalize xs[k] = x at hx hc
        have i0 : (k : Int) < (xs.length : Int) := by omega
        have i1 : (0 : Int) ≤ (k : Int) := by omega
        have i3 : (k : Int).toNat = k := Int.toNat_natCast k
        have z2 := encode_len x
        have z3 : ¬ 9223372036854775807 < t.size + (Utf8.encode x).size := by omega
        go_wp2_with fail
        go_roundw
        case rel =>
          refine ⟨t ++ Utf8.encode x, k + 1, rfl, by go_num, ?_, by rw [ByteArray.size_append]; omega, by omega, trivial⟩
          show _ = _
          rw [ht.out, txt_snoc, List.take_add_one, hx.out]
          simp
        case measure => simp [intOf]; omega
      · have i0 : ¬ (k : Int) < (xs.length : Int) := by omega
        obtain rfl : k = xs.length := by omega
        have HX := Lib.hid hcell
        have ht2 := ht.out
        rw [List.take_length] at ht2
        have hok : ∀ r ∈ xs.map fixR, okR r := fun r hr => by obtain ⟨x, _, rfl⟩ := List.mem_map.1 hr; exact fixR_ok x
        have hrs := rs_txt hok
        have hpl := plain_txt hok
        rw [← ht2] at hrs hpl
        have hplB := (plainB_iff t).2 hpl
        have hlen : (st t 0).length = xs.length := by have := congrArg List.length hrs; simpa [rs] using this
        have C := Lib.hid (fun w => chars_ok t (by omega) w)
        have P1 := Lib.hid (fun w => plain_any t w)
        change Hid (∀ w, Calls _ _ _ w fun e w' => e = .returned (.bool (plainB t)) ∧ _) at P1
        rw [hplB] at P1
        rw [hlen] at C
        have hnn : ((xs.length : Int) == (xs.length : Int)) = true := by simp
        have HL := Lib.hid hlen
        have HR := Lib.hid hrs
        have HP := Lib.hid hpl
        clear hcell ht2 hrs hpl hplB hlen ht hok hv
        go_wp2_with fail
        refine (C.out _).mono ?_
        rintro e w1 ⟨u, rfl, hu, hBw1⟩
        obtain ⟨pa, pc, rfl, hpa⟩ := ownsRow_slice hu
        go_wp2_with fail
        refine (P1.out _).mono ?_
        rintro e w2 ⟨rfl, hBw2⟩
        go_wp2_with fail
        have hu2 := ownsRow_below hu hBw2
        have hb12 := below_then hBw1 hBw2
        clear i0 hnn
        go_loopw [7] (fun i w3 => ∃ k : Nat, i = .int .i64 k ∧ k ≤ xs.length ∧ w3 = w2) (fun i _ => xs.length - (intOf i).toNat)
        case atStart => exact ⟨0, rfl, by omega, rfl⟩
        case round =>
          obtain ⟨k, rfl, hk, rfl⟩ := hrel
          by_cases hlt : k < xs.length
          · rcases hpa with h0 | ⟨g, rfl, _, _⟩
            · omega
            obtain ⟨b, hb, hc⟩ := HX.out k xs[k] (List.getElem?_eq_getElem hlt)
            subst hb
            have hc2 := (hb12.cell (cell_lt hc)).trans hc
            have hgp : (st t 0)[k]? = some ((st t 0)[k]'(by rw [HL.out]; exact hlt)) := List.getElem?_eq_getElem _
            generalize ((st t 0)[k]'(by rw [HL.out]; exact hlt)) = p at hgp
            obtain ⟨e0, e1, e2, e3⟩ := row_cells hu2 HL.out.symm hgp
            have hl := HP.out p (List.mem_of_getElem? hgp)
            have hrn : rn t p = fixR xs[k] := by
              have := congrArg (fun l => l[k]?) HR.out
              simpa [rs, hgp, hlt] using this
            rw [hl] at e3
            rw [hrn] at e0
            generalize xs[k] = x at *
            have i0 : (k : Int) < (xs.length : Int) := by omega
            have i1 : (0 : Int) ≤ (k : Int) := by omega
            have i3 : (k : Int).toNat = k := Int.toNat_natCast k
            have hx4 : (x < 0 ∧ fixR x = 65533) ∨ (¬ x < 0 ∧ 1114111 < x ∧ fixR x = 65533) ∨ (¬ x < 0 ∧ ¬ 1114111 < x ∧ 55296 ≤ x ∧ x ≤ 57343 ∧ fixR x = 65533) ∨ (¬ x < 0 ∧ ¬ 1114111 < x ∧ ¬ 55296 ≤ x ∧ (fixR x : Int) = x) ∨ (¬ x < 0 ∧ ¬ 1114111 < x ∧ 55296 ≤ x ∧ ¬ x ≤ 57343 ∧ (fixR x : Int) = x) := by
              unfold fixR; split <;> omega
            clear hc hgp hrn hl hb12
            have hxx : (x == x) = true := by simp
            rcases hx4 with ⟨q1, q⟩ | ⟨q1, q2, q⟩ | ⟨q1, q2, q3, q4, q⟩ | ⟨q1, q2, q3, q⟩ | ⟨q1, q2, q3, q4, q⟩
            all_goals (
              rw [q] at e0
              go_wp2_with fail
              go_roundw
              case rel => exact ⟨k + 1, by go_num, by omega, trivial⟩
              case measure => simp [intOf]; omega)
          · have i0 : ¬ (k : Int) < (xs.length : Int) := by omega
            go_wp2_with fail
            refine (A.out _).mono ?_
            rintro e w4 ⟨rfl, hBw4⟩
            go_wp2
            go_ret
            exact ⟨rfl, below_then hb12 hBw4⟩

end Go.Proofs.Yteoehhkdmmcglaa
