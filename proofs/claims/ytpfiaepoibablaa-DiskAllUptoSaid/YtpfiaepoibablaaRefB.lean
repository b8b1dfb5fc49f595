/- Walks: the document's Encode, Decode. -/
import Derived.Test.YtpfiaepoibablaaRefA
import Derived.Test.YtpfiaepoibablaaSlotN
import Derived.Deep.OwnRows
import Derived.BigQuiet
namespace Go.Proofs.Ytpfiaepoibablaa
set_option linter.unusedVariables false
set_option linter.unusedSimpArgs false
open Go.RowKit

theorem made_bytes (n : Nat) : madeCells #[Value.int .u8 0] n = (bC (List.replicate n 0)).toArray := by
  apply Array.ext
  · simp [size_madeCells, bC]
  · intro i h1 h2
    simp [madeCells, Nat.mod_one, bC]
theorem make64 (w : World) : (Instr.makeSlice 22 (.int .i64 64) (.int .i64 64)).run Try.prog w = .ok (.slice (some ⟨w.heap.size, 0, none⟩) 64 64) (w.alloc (.cells (bC (List.replicate 64 0)).toArray 5)) := by
  have := run_make_row' 22 5 (.int .u8 0) 1 Try.underlying22 Try.infoByte rfl .i64 .i64 64 (by decide) (by decide) w
  rwa [made_bytes] at this
def NewU (w W : World) (v : Value) (l : List Nat) : Prop := ∃ g, v = .slice (some ⟨g, 0, none⟩) 64 64 ∧ w.heap.size ≤ g ∧ W.heap[g]? = some (.cells (bC l).toArray 5 (0, 0))
/-- The record that the document reads off the bytes. -/
def rcVal (l : List Nat) : Rc := ⟨valF 0 ((l.drop 12).take 4), valF 0 ((l.drop 16).take 5), valF 0 ((l.drop 44).take 3), valF 0 ((l.drop 4).take 8)⟩
theorem val_be {n x : Nat} (h : x < 256 ^ n) : valF 0 (be n x) = x := by rw [valF_be, Nat.mod_eq_of_lt h]; omega
theorem rcVal_enc {r : Rc} (h : r.may) : rcVal (encL r) = r ∧ (encL r)[4]? = some 0 := by
  obtain ⟨h1, h2, h3, h4, h5, h6⟩ := h
  obtain ⟨life, round, tag, seq⟩ := r
  simp only at h1 h2 h3 h4 h5 h6
  have e1 : (encL ⟨life, round, tag, seq⟩).drop 4 = be 8 seq ++ (be 4 life ++ (be 5 round ++ (List.replicate 11 0 ++ ([101, 97, 114, 50] ++ (be 8 seq ++ (be 3 tag ++ List.replicate 17 0)))))) := drop_app (n := 4) rfl 0
  have e2 : (encL ⟨life, round, tag, seq⟩).drop 12 = be 4 life ++ (be 5 round ++ (List.replicate 11 0 ++ ([101, 97, 114, 50] ++ (be 8 seq ++ (be 3 tag ++ List.replicate 17 0))))) := by
    rw [show (12 : Nat) = 4 + 8 from rfl, ← List.drop_drop, e1]; exact drop_app (n := 8) (be_len 8 _) 0
  have e3 : (encL ⟨life, round, tag, seq⟩).drop 16 = be 5 round ++ (List.replicate 11 0 ++ ([101, 97, 114, 50] ++ (be 8 seq ++ (be 3 tag ++ List.replicate 17 0)))) := by
    rw [show (16 : Nat) = 12 + 4 from rfl, ← List.drop_drop, e2]; exact drop_app (n := 4) (be_len 4 _) 0
  have e4 : (encL ⟨life, round, tag, seq⟩).drop 44 = be 3 tag ++ List.replicate 17 0 := by
    rw [show (44 : Nat) = 16 + 28 from rfl, ← List.drop_drop, e3, show (28 : Nat) = 5 + 23 from rfl, drop_app (n := 5) (be_len 5 _) 23, show (23 : Nat) = 11 + 12 from rfl, drop_app (n := 11) (by simp) 12, show (12 : Nat) = 4 + 8 from rfl, drop_app (n := 4) rfl 8]
    exact drop_app (n := 8) (be_len 8 _) 0
  constructor
  · unfold rcVal
    rw [e1, e2, e3, e4, take_app (be_len 8 _), take_app (be_len 4 _), take_app (be_len 5 _), take_app (be_len 3 _),
      val_be (n := 4) (by omega), val_be (n := 5) (by omega), val_be (n := 3) (by omega), val_be (n := 8) (by omega)]
  · have h0 : (encL ⟨life, round, tag, seq⟩)[4]? = ((encL ⟨life, round, tag, seq⟩).drop 4)[0]? := by rw [List.getElem?_drop]
    rw [h0, e1, be_succ]
    show some (seq / 256 ^ 7 % 256) = some 0
    rw [Nat.div_eq_of_lt (by omega)]
theorem decL_val {l : List Nat} {r : Rc} (h : decL l = some r) : rcVal l = r ∧ l[4]? = some 0 ∧ r.may ∧ l = encL r := by
  obtain ⟨hm, rfl⟩ := decL_some h
  exact ⟨(rcVal_enc hm).1, (rcVal_enc hm).2, hm, rfl⟩
theorem part_lt {l : List Nat} (hlt : ∀ c ∈ l, c < 256) (o n k : Nat) : ∀ c ∈ ((l.drop o).take n).take k, c < 256 := fun c hc => hlt c (List.mem_of_mem_drop (List.mem_of_mem_take (List.mem_of_mem_take hc)))
theorem part_bound {l : List Nat} (hlt : ∀ c ∈ l, c < 256) (o n : Nat) (hn : n ≤ 7) : ∀ k, k ≤ n → valF 0 (((l.drop o).take n).take k) < 72057594037927936 := by
  intro k hk
  have h := valF_lt (((l.drop o).take n).take k) 0 1 (part_lt hlt o n k) (by decide)
  have hl : (((l.drop o).take n).take k).length ≤ 7 := by rw [List.length_take]; omega
  have := Nat.pow_le_pow_right (n := 256) (by decide) hl
  omega
theorem part_bound8 {l : List Nat} (hlt : ∀ c ∈ l, c < 256) (h4 : l[4]? = some 0) : ∀ k, k ≤ 8 → valF 0 (((l.drop 4).take 8).take k) < 72057594037927936 := by
  intro k hk
  obtain ⟨h5, h6⟩ := List.getElem?_eq_some_iff.1 h4
  rw [List.drop_eq_getElem_cons h5, h6]
  cases k with
  | zero => show 0 < _; decide
  | succ k =>
    show valF 0 ((0 :: (l.drop 5).take 7).take (k + 1)) < _
    show valF (0 * 256 + 0) (((l.drop 5).take 7).take k) < _
    exact part_bound hlt 5 7 (Nat.le_refl _) k (by omega)
end Go.Proofs.Ytpfiaepoibablaa
