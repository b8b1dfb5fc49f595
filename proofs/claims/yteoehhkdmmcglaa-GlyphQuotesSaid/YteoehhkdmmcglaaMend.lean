/- Walks: glyph.Mend: a builder within a range over a text. -/
import Derived.Test.YteoehhkdmmcglaaRange
import Derived.Test.YteoehhkdmmcglaaWorld
import Derived.Test.YteoehhkdmmcglaaRunes
import Derived.Test.YteoehhkdmmcglaaShelf
namespace Go.Proofs.Yteoehhkdmmcglaa
set_option linter.unusedVariables false
open Go.RowKit

theorem enc_cells (r : Nat) (h : okR r) : Lib.runeCells (r : Int) = Lib.byteCells (enc r) := by rw [← enc_encodeRune h, Lib.byteCells_encodeRune]

set_option maxHeartbeats 1000000 in
theorem mend_any (s : ByteArray) (hs : s.size ≤ 35184372088832) (w : World) :
    Calls Try.prog 28 #[.string s] w fun e w' => e = .returned (.string (txt (rs s))) ∧ Below w.heap.size w w' := by
  go_enter Try.func28, Try.ntmps28
  go_wp2
  go_loopw [] (fun wr => ∃ (pos : Nat) (pre : List Nat), Lib.IsBuilderF 61 5 w.heap.size w.heap.size (Lib.byteCells (pre.flatMap enc)) wr ∧ wr.heap[w.heap.size + 1]? = some (.stringIter s pos) ∧ Below w.heap.size w wr ∧ Hid (rs s = pre ++ (st s pos).map (rn s)) ∧ (pre.flatMap enc).length ≤ 4 * pos ∧ pos ≤ s.size) (fun wr => s.size - wr.iterPos (w.heap.size + 1))
  case atStart =>
    refine ⟨0, [], (Lib.IsBuilderF.of (Lib.fresh_isBuilder 61 5 w)).alloc _, ?_, ((Below.refl _ w).alloc (Nat.le_refl _) _).alloc (by simp) _, rfl, by simp, by omega⟩
    have := World.iter_heap (w.alloc (.cells #[.pointer none, .slice none 0 0] 61)) s 0
    simpa using this
  case round =>
    obtain ⟨pos, pre, hI, hit, hbw, hacc, hal, hple⟩ := hrel
    have hsz : w.heap.size + 1 < wr.heap.size := (Array.getElem?_eq_some_iff.1 hit).1
    by_cases hp : pos < s.size
    · have hnx : ∀ ty, (Instr.next (.pointer (some ⟨w.heap.size + 1, 0, none⟩)) true ty).run Try.prog wr = .ok (.tuple #[.bool true, .int .i64 pos, .int .i32 (rn s pos)]) (wr.iterAt (w.heap.size + 1) s (pos + wd s pos)) := fun ty => by
        have := Lib.run_next_any_at (P := Try.prog) wr (w.heap.size + 1) s pos ty hit hp
        rwa [decode_dec] at this
      have hwd := wd_bd s pos hp
      have hr := rn_bd s pos
      have hI2 := hI.iterAt hit (pos + wd s pos)
      have hit2 := Lib.iterAt_heap wr (w.heap.size + 1) s pos (pos + wd s pos) hit
      have hbw2 := Lib.below_iterAt hbw (k := w.heap.size + 1) (by omega) s (pos + wd s pos)
      have hsz2 : w.heap.size ≤ (wr.iterAt (w.heap.size + 1) s (pos + wd s pos)).heap.size := by rw [Lib.iterAt_size]; omega
      have H := Lib.hid (Try.Builder_WriteRune_k w.heap.size w.heap.size _ (rn s pos : Int) (by omega) (by omega) _ hI2 (by rw [Lib.byteCells_length]; omega) hsz2)
      go_wp2_with (go_at_call 44; refine H.out.mono ?_; rintro e W1 ⟨rfl, h1, b1, k1⟩)
      go_roundw
      case rel =>
        have hl4 := enc_len (rn s pos)
        refine ⟨pos + wd s pos, pre ++ [rn s pos], ?_, k1.iter hit2 (by omega), hbw2.trans b1, ?_, by rw [List.flatMap_append, List.length_append, List.flatMap_singleton]; omega, by omega⟩
        · rw [List.flatMap_append, Lib.byteCells_append, List.flatMap_singleton, ← enc_cells _ hr]; exact Or.inr h1
        · show _ = _; rw [hacc.out, st_cons hp]; simp
      case measure =>
        simp only [World.iterPos, k1.iter hit2 (by omega), hit]
        omega
    · have hnx : ∀ ty, (Instr.next (.pointer (some ⟨w.heap.size + 1, 0, none⟩)) true ty).run Try.prog wr = _ := fun ty => Lib.run_next_end_at wr (w.heap.size + 1) s pos ty hit hp
      have H := Lib.hid (Try.Builder_String_any_k w.heap.size w.heap.size _ _ hI (by omega))
      go_wp2_with (go_at_call 45; refine H.out.mono ?_; rintro e W1 ⟨rfl, _, b1, _⟩)
      go_ret
      have hh := hacc.out
      rw [st_nil hp, List.map_nil, List.append_nil] at hh
      refine ⟨?_, hbw.trans b1⟩
      rw [hh]; rfl

end Go.Proofs.Yteoehhkdmmcglaa
