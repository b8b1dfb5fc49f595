/- The walk of the law GlyphSaid. -/
import Derived.Test.YtcfbbmgpfeholaaUnquote
import Derived.Test.YtcfbbmgpfeholaaAlive
namespace Go.Proofs.Ytcfbbmgpfeholaa
set_option linter.unusedVariables false
set_option linter.unusedSimpArgs false
open Go.RowKit

set_option maxRecDepth 100000 in
set_option maxHeartbeats 2000000 in
theorem glyphSaid_of (s : ByteArray) (hs : s.size ≤ 140737488351232) (HESC : ∀ t : ByteArray, 2 ≤ t.size → t.size ≤ 9223372036854775800 → ∀ w, Calls Try.prog 18 #[.string t] w fun e w' => e = .returned (escA t) ∧ Below w.heap.size w w') (w : World) :
    Calls Try.prog 3 #[.string s] w fun e w' => e = .returned (.bool true) ∧ Below w.heap.size w w' := by
  have H1 := Lib.hid (fun w => quote_any s (by omega) w)
  have HA := Lib.hid alive_any
  unfold quoteV at H1
  by_cases hbig : (quoteL s (st s 0)).length + 2 ≤ 65536
  · rw [if_pos hbig] at H1
    obtain ⟨q, hq⟩ : ∃ q : ByteArray, (⟨(34 :: (quoteL s (st s 0) ++ [34])).toArray⟩ : ByteArray) = q := ⟨_, rfl⟩
    have hql : q.data.toList = 34 :: quoR s 0 := by rw [← hq]; rfl
    have hqs : q.size ≤ 65536 := by rw [← list_size, hql]; unfold quoR; simp; omega
    have hseen : Seen q.data.toList := by rw [hql]; exact Seen.cons (by decide) (quoR_seen s s.size 0 (by omega))
    have hss : s.size ≤ 65536 := by
      have h1 := bl_all s s.size 0 (by omega)
      have h2 : s.size = ((st s 0).flatMap (bl s)).length := by rw [← list_size, ← h1, List.drop_zero]
      have h3 : ∀ l : List Nat, (∀ p ∈ l, p < s.size) → (l.flatMap (bl s)).length ≤ (quoteL s l).length := by
        intro l hl
        induction l with
        | nil => simp [quoteL]
        | cons p l ih =>
          have hp := hl p (by simp)
          have := ih (fun x hx => hl x (by simp [hx]))
          have hb := bl_len s p hp
          have hq := (qb_len s p hp).1
          unfold quoteL at this ⊢
          rw [List.flatMap_cons, List.flatMap_cons, List.length_append, List.length_append]
          omega
      have := h3 (st s 0) (fun p hp => (st_mem s.size 0 (by omega) p hp).2)
      omega
    rw [hq] at H1
    have H2 := Lib.hid (fun w => unquote_quo s q hql hqs hss HESC w)
    have H3 : Hid (∀ w, Calls Try.prog 7 #[.string q] w fun e w' => e = .returned (.bool true) ∧ Below w.heap.size w w') := fun w => by
      have h := plain_any q w
      obtain ⟨⟨L, hL, hLe⟩, _⟩ := hseen
      have hqt : q = txt L := by refine ba_ext ?_; rw [txt_list, hLe]
      have hp := plain_txt hL
      rw [← hqt] at hp
      rw [show ((st q 0).all fun p => !lo q p) = true from by
        rw [List.all_eq_true]
        intro p hpm
        rw [hp p hpm]; rfl] at h
      exact h
    have HB : Hid (∀ j, (h : j < q.size) → 32 ≤ (q[j]'h).toNat ∧ (q[j]'h).toNat ≠ 127) := fun j h => by
      refine hseen.2 _ ?_
      have : q[j]'h = q.data.toList[j]'(by rw [list_size]; exact h) := by rfl
      rw [this]
      exact List.getElem_mem _
    unfold saidV at H2
    have HQS := Lib.hid hqs
    clear hq hql hseen hss hbig hqs hs
    go_enter Try.func3, Try.ntmps3
    go_wp2_with fail
    refine (H1.out _).mono ?_
    rintro e w1 ⟨rfl, hB1⟩
    go_wp2_with fail
    refine (H2.out _).mono ?_
    rintro e w2 ⟨rfl, hB2⟩
    go_wp2_with fail
    refine (H3.out _).mono ?_
    rintro e w3 ⟨rfl, hB3⟩
    have HBL := Lib.hid (below_then (below_then hB1 hB2) hB3)
    clear hB1 hB2 hB3
    go_wp2_with fail
    go_loopw [8] (fun iv wr => ∃ j : Nat, iv = .int .i64 (j : Nat) ∧ j ≤ q.size ∧ Hid (Below w.heap.size w wr)) (fun iv _ => q.size - (intOf iv).toNat)
    case atStart => exact ⟨0, rfl, Nat.zero_le _, HBL.out⟩
    case round =>
      obtain ⟨j, rfl, hj, hbl⟩ := hrel
      by_cases hlt : j < q.size
      · have b1 : (j : Int) < (q.size : Int) := by omega
        have b2 : (0 : Int) ≤ (j : Int) := by omega
        obtain ⟨hb32, hb127⟩ := HB.out j hlt
        have b3 : (32 : Int) ≤ ((q[j]'hlt).toNat : Int) := by omega
        have b4 : (((q[j]'hlt).toNat : Int) == 127) = false := by simp; omega
        have hj63 : (j : Int) ≤ 65536 := by have := HQS.out; omega
        clear hb32 hb127
        go_wp2_with fail
        go_roundw
        case rel => exact ⟨j + 1, by go_num, by omega, hbl.out⟩
        case measure => simp [intOf]; omega
      · obtain rfl : j = q.size := by omega
        have b1 : ¬ (q.size : Int) < (q.size : Int) := by omega
        go_wp2_with fail
        refine (HA.out _).mono ?_
        rintro e w4 ⟨rfl, hB4⟩
        go_wp2_with fail
        go_ret
        exact ⟨rfl, below_then hbl.out hB4⟩
  · rw [if_neg hbig] at H1
    have hbg : 9000 < s.size := by
      have := quoteL_len7 s s.size 0 (by omega)
      omega
    have b0 : (9000 : Int) < (s.size : Int) := by omega
    clear hbig hs hbg
    go_enter Try.func3, Try.ntmps3
    go_wp2_with fail
    refine (H1.out _).mono ?_
    rintro e w1 ⟨rfl, hB1⟩
    go_wp2_with fail
    refine (HA.out _).mono ?_
    rintro e w2 ⟨rfl, hB2⟩
    go_wp2_with fail
    go_ret
    exact ⟨rfl, below_then hB1 hB2⟩
end Go.Proofs.Ytcfbbmgpfeholaa
