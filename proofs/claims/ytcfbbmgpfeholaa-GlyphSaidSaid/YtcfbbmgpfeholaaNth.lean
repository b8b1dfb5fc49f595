/- Walks: glyph.Nth. -/
import Derived.Test.YtcfbbmgpfeholaaRange
import Derived.Test.YtcfbbmgpfeholaaWorld
namespace Go.Proofs.Ytcfbbmgpfeholaa
set_option linter.unusedVariables false
open Go.RowKit

def ch0 : Value := .agg #[.int .i32 0, .int .i64 0, .int .i64 0, .bool false]
abbrev chBlk : Obj := .cells #[.int .i32 0, .int .i64 0, .int .i64 0, .bool false] 37
def nthV (s : ByteArray) (i : Int) : Value :=
  .tuple #[if 0 ≤ i ∧ i < (st s 0).length then chV s ((st s 0).getD i.toNat 0) else ch0, .int .i64 (if 0 ≤ i ∧ i < (st s 0).length then 0 else 3)]

theorem nthV_some {s : ByteArray} {i : Int} {k p : Nat} (hi : i = k) (h : (st s 0)[k]? = some p) : nthV s i = .tuple #[chV s p, .int .i64 0] := by
  subst hi
  have hlt := (List.getElem?_eq_some_iff.1 h).1
  unfold nthV
  rw [if_pos (by omega), if_pos (by omega), Int.toNat_natCast, List.getD_eq_getElem?_getD, h]; rfl
theorem nthV_none {s : ByteArray} {i : Int} (h : ¬ (0 ≤ i ∧ i < (st s 0).length)) : nthV s i = .tuple #[ch0, .int .i64 3] := by
  unfold nthV
  rw [if_neg h, if_neg h]

set_option maxHeartbeats 400000 in
theorem nth_any (s : ByteArray) (i : Int) (hs : s.size ≤ 9223372036854775800) (w : World) :
    Calls Try.prog 14 #[.string s, .int .i64 i] w fun e w' => e = .returned (nthV s i) ∧ Below w.heap.size w w' := by
  go_enter Try.func14, Try.ntmps14
  go_wp2
  go_loopw [6] (fun n wr => ∃ pos k : Nat, wr.heap[w.heap.size]? = some chBlk ∧ wr.heap[w.heap.size + 1]? = some (.stringIter s pos) ∧ Below w.heap.size w wr ∧ n = .int .i64 k ∧ Hid (∃ pre, st s 0 = pre ++ st s pos ∧ pre.length = k) ∧ k ≤ s.size ∧ (i < 0 ∨ k ≤ i)) (fun _ wr => s.size - wr.iterPos (w.heap.size + 1))
  case atStart =>
    have h0 := blk_new w chBlk
    refine ⟨0, 0, blk_old h0 _, ?_, ((Below.refl _ _).alloc (Nat.le_refl _) _).alloc (by simp) _, rfl, ⟨[], rfl, rfl⟩, by omega, by omega⟩
    have := blk_new (w.alloc chBlk) (.stringIter s 0)
    rwa [World.size_alloc] at this
  case round =>
    obtain ⟨pos, k, hres, hit, hbl, rfl, hk, hk2, hk3⟩ := hrel
    have hpos := iterPos_of hit
    have hL : k + (st s pos).length ≤ s.size := by
      obtain ⟨pre, e, hl⟩ := hk.out
      have := st_len s 0
      rw [e, List.length_append] at this; omega
    by_cases hp : pos < s.size
    · obtain ⟨W1, hnx, hit1, hg, hz⟩ := next_at Try.prog hit hp
      have hres1 := blk_grown hg hres (by simp)
      have hbl1 : Below w.heap.size w W1 := hbl.grown hg hbl.size (fun j hj => by cases hj; omega)
      have hw := wd_bd s pos hp
      have HP := Lib.hid hpos
      clear hpos hit hres hg
      by_cases hki : (k : Int) = i
      · have hb : ((k : Int) == i) = true := by simpa using hki
        have H : Hid (∀ w, Calls Try.prog 9 #[.string s, .int .i64 pos, .int .i32 (rn s pos)] w fun e w' =>
          e = .returned (.agg #[.int .i32 (rn s pos), .int .i64 pos, .int .i64 (wd s pos), .bool (lo s pos)]) ∧ Below w.heap.size w w') := Lib.hid (fun w => char_any s pos hp w)
        have HK := Lib.hid hki
        clear hki
        go_wp2_with (go_at_call 9; refine (H.out _).mono ?_; rintro e w1 ⟨rfl, hB⟩; obtain ⟨c0, c1, c2, c3, f0, f1, f2, f3⟩ := four_cells (blk_below' hB hres1))
        go_light
        refine bodyPost_ret (v := .tuple #[chV s pos, .int .i64 0]) ?_ rfl ⟨?_, ?_⟩
        · simp [results, Try.results14, go_sem, chV, c0, c1, c2, c3]
        · obtain ⟨pre, e, hl⟩ := hk.out
          rw [nthV_some (k := k) (p := pos) HK.out.symm (by rw [e, st_cons hp, ← hl]; simp)]
        · exact ((((hbl1.trans (hB.mono hbl1.size)).setCell (Nat.le_refl _) _).setCell (Nat.le_refl _) _).setCell (Nat.le_refl _) _).setCell (Nat.le_refl _) _
      · have hb : ((k : Int) == i) = false := by simpa using hki
        go_wp2
        go_roundw
        case rel =>
          obtain ⟨pre, e, hl⟩ := hk.out
          rw [st_cons hp] at e hL
          simp only [List.length_cons] at hL
          exact ⟨pos + wd s pos, k + 1, hres1, hit1, hbl1, by go_num, ⟨pre ++ [pos], by rw [e]; simp, by simp [hl]⟩, by omega, by omega⟩
        case measure => rw [iterPos_of hit1, HP.out]; omega
    · have hnx := next_end Try.prog hit hp
      obtain ⟨c0, c1, c2, c3, f0, f1, f2, f3⟩ := four_cells hres
      have HP := Lib.hid hpos
      clear hpos hit hres
      go_wp2
      go_light
      refine bodyPost_ret (v := .tuple #[ch0, .int .i64 3]) ?_ rfl ⟨?_, ?_⟩
      · simp [results, Try.results14, go_sem, ch0, c0, c1, c2, c3]
      · obtain ⟨pre, e, hl⟩ := hk.out
        rw [st_nil hp, List.append_nil] at e
        rw [nthV_none (by rw [e, hl]; omega)]
      · exact (((hbl.setCell (Nat.le_refl _) _).setCell (Nat.le_refl _) _).setCell (Nat.le_refl _) _).setCell (Nat.le_refl _) _

end Go.Proofs.Ytcfbbmgpfeholaa
