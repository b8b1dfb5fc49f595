/- The walk of the law DiskFuse. -/
import Derived.Test.YthkppkecclnlnaaWalkNone
namespace Go.Proofs.Ythkppkecclnlnaa
set_option linter.unusedVariables false
set_option linter.unusedSimpArgs false
open Go.RowKit

/-- The disk behind n writes with a fuse of k. -/
structure FuD (k n : Nat) (d : Dk) : Prop where
  len : d.bs.length = 256
  wr : d.writes = min k n
  on : n ≤ k → d.off = false ∧ d.fused = true ∧ d.fuse = k - n
  gone : k < n → d.off = true ∧ d.fused = false
  fuz : d.fuse ≤ 9223372036854775807
theorem fuD_step {k n : Nat} {d : Dk} (h : FuD k n d) (s : Nat) (hs : s < 8) (l : List Nat) (hl : l.length = 32) :
    FuD k (n + 1) (wrV d (s : Int) l).1 ∧ (wrV d (s : Int) l).2 = (if n < k then 0 else 100) := by
  obtain ⟨h1, h2, h3, h4, h5⟩ := h
  by_cases hn : n ≤ k
  · obtain ⟨a, b, c⟩ := h3 hn
    have hm : mayV d (s : Int) = 0 := by
      unfold mayV
      rw [a, if_neg (by decide), if_neg (by omega)]
    unfold wrV
    rw [if_pos hm, if_pos hl, if_pos b]
    by_cases hf : d.fuse = 0
    · rw [if_pos hf, if_neg (by omega)]
      exact ⟨⟨h1, by show d.writes = _; omega, fun h => by omega, fun _ => ⟨rfl, rfl⟩, h5⟩, rfl⟩
    · rw [if_neg hf, if_pos (by omega)]
      exact ⟨⟨putS_len h1 (by omega) hl, by show d.writes + 1 = _; omega, fun h => ⟨a, b, by show d.fuse - 1 = _; omega⟩, fun h => by omega, by show d.fuse - 1 ≤ _; omega⟩, rfl⟩
  · obtain ⟨a, b⟩ := h4 (by omega)
    have hm : mayV d (s : Int) = 100 := by
      unfold mayV
      rw [a, if_pos rfl]
    unfold wrV
    rw [hm, if_neg (by decide), if_neg (by omega)]
    exact ⟨⟨h1, by show d.writes = _; omega, fun h => by omega, fun _ => ⟨a, b⟩, h5⟩, rfl⟩
set_option maxRecDepth 100000 in
set_option maxHeartbeats 2000000 in
theorem diskFuse_walk (k n : Int) (hk : (Lit.int .i64 k).wf = true) (hn : (Lit.int .i64 n).wf = true) (w : World) :
    Calls Try.prog 4 #[.int .i64 k, .int .i64 n] w fun e w' => e = .returned (.bool true) ∧ Below w.heap.size w w' := by
  by_cases hout : k < 0 ∨ 200 < k ∨ n < 0 ∨ 200 < n
  · by_cases c1 : k < 0
    · clear hout
      go_enter Try.func4, Try.ntmps4
      go_wp2_with (go_at_call 20; refine (alive_any _).mono ?_; rintro e w9 ⟨rfl, hB9⟩)
      all_goals (go_ret; exact ⟨rfl, hB9⟩)
    by_cases c2 : 200 < k
    · clear hout
      go_enter Try.func4, Try.ntmps4
      go_wp2_with (go_at_call 20; refine (alive_any _).mono ?_; rintro e w9 ⟨rfl, hB9⟩)
      all_goals (go_ret; exact ⟨rfl, hB9⟩)
    by_cases c3 : n < 0
    · clear hout
      go_enter Try.func4, Try.ntmps4
      go_wp2_with (go_at_call 20; refine (alive_any _).mono ?_; rintro e w9 ⟨rfl, hB9⟩)
      all_goals (go_ret; exact ⟨rfl, hB9⟩)
    have c4 : 200 < n := by omega
    · clear hout
      go_enter Try.func4, Try.ntmps4
      go_wp2_with (go_at_call 20; refine (alive_any _).mono ?_; rintro e w9 ⟨rfl, hB9⟩)
      all_goals (go_ret; exact ⟨rfl, hB9⟩)
  · obtain ⟨K, rfl⟩ : ∃ K : Nat, k = K := ⟨k.toNat, by omega⟩
    obtain ⟨N, rfl⟩ : ∃ N : Nat, n = N := ⟨n.toNat, by omega⟩
    have b0 : ¬ (K : Int) < 0 := by omega
    have b1 : ¬ (200 : Int) < (K : Int) := by omega
    have b2 : ¬ (N : Int) < 0 := by omega
    have b3 : ¬ (200 : Int) < (N : Int) := by omega
    clear hout
    go_enter Try.func4, Try.ntmps4
    go_wp2_with (first
      | (go_at_call 21; refine (new_any _).mono ?_; rintro e w1 ⟨rfl, hD1, hB1⟩)
      | (go_at_call 22; refine (fuse_any _ _ _ _ hD1).mono ?_; rintro e w2 ⟨rfl, hD2, hg2⟩))
    have hb2 : Below w.heap.size w w2 := hB1.grown hg2 hB1.size (fun j h => by cases h; exact Nat.le_refl _)
    have hF0 : FuD K 0 { Dk.new with fused := decide (0 ≤ (K : Int)), fuse := (K : Int).toNat } := ⟨List.length_replicate, by show 0 = _; omega, fun _ => ⟨rfl, by simp, by show (K : Int).toNat = _; omega⟩, fun h => by omega, by show (K : Int).toNat ≤ _; omega⟩
    obtain ⟨d0, hd0⟩ : ∃ d0, ({ Dk.new with fused := decide (0 ≤ (K : Int)), fuse := (K : Int).toNat } : Dk) = d0 := ⟨_, rfl⟩
    have hD2 : DkAt w2 w.heap.size d0 := by rw [← hd0]; exact hD2
    rw [hd0] at hF0
    clear hd0 hD1 hB1 hg2
    go_loopw [6, 7] (fun dn i wr => ∃ (n : Nat) (d : Dk), i = .int .i64 n ∧ n ≤ N ∧ dn = .int .i64 (min K n : Nat) ∧ FuD K n d ∧ DkAt wr w.heap.size d ∧ Below w.heap.size w wr) (fun _ i _ => N - (intOf i).toNat)
    case atStart => exact ⟨0, d0, rfl, by omega, by simp, hF0, hD2, hb2⟩
    case round =>
      obtain ⟨n, d, rfl, hn, rfl, hF, hD, hb⟩ := hrel
      clear hD2 hb2 hF0
      by_cases hlt : n < N
      · have i1 : (n : Int) < (N : Int) := by omega
        have HF := Lib.hid hF
        have hst := fuD_step hF (n % 8) (by omega) (secL (n : Int)) (by unfold secL; simp)
        rw [show ((n % 8 : Nat) : Int) = (n : Int) % 8 from by omega] at hst
        obtain ⟨d', er, hwr⟩ : ∃ d' er, wrV d ((n : Int) % 8) (secL (n : Int)) = (d', er) := ⟨_, _, rfl⟩
        rw [hwr] at hst
        have HWR := Lib.hid hwr
        have HST := Lib.hid hst.1
        have HER := Lib.hid hst.2
        have hwb : d.writes ≤ 4611686018427387904 := by have := hF.wr; omega
        have HFU := Lib.hid hF.fuz
        clear hF hwr hst
        go_wp2_with (first
          | (go_at_call 24; refine (sector_any _ _).mono ?_; rintro e w3 ⟨rfl, hr3, hB3⟩; have hD3 := hD.below hB3; have hb3 := below_then hb hB3))
        refine (write_any w.heap.size d ((n : Int) % 8) _ (secL (n : Int)) _ hD3 (bytes_row hr3 (by unfold secL; simp) (by have := hD.lt; omega)) (by unfold secL; simp) hwb HFU.out).mono ?_
        rintro e w4 ⟨rfl, hD4, hg4⟩
        rw [HWR.out] at hD4 ⊢
        have hb4 := hb3.grown hg4 hb3.size (fun j h => by cases h; exact Nat.le_refl _)
        by_cases hnK : n < K
        · have her : er = 0 := by have := HER.out; rw [if_pos hnK] at this; exact this
          subst her
          have hmin : min K n = n := by omega
          rw [hmin]
          have hmin2 : min K (n + 1) = n + 1 := by omega
          have HM := Lib.hid hmin2
          clear hmin hmin2
          go_wp2_with fail
          go_roundw
          case rel => exact ⟨n + 1, d', by go_num, by omega, by rw [HM.out]; rfl, HST.out, hD4, hb4⟩
          case measure => simp [intOf]; omega
        · have her : er = 100 := by have := HER.out; rw [if_neg hnK] at this; exact this
          subst her
          have hmin : min K n = K := by omega
          rw [hmin]
          have hmin2 : min K (n + 1) = K := by omega
          have HM := Lib.hid hmin2
          clear hmin hmin2
          go_wp2_with fail
          go_roundw
          case rel => exact ⟨n + 1, d', by go_num, by omega, by rw [HM.out], HST.out, hD4, hb4⟩
          case measure => simp [intOf]; omega
      · obtain rfl : n = N := by omega
        have i1 : ¬ (n : Int) < (n : Int) := by omega
        obtain ⟨bs, off, fused, fuse, writes⟩ := d
        by_cases hnK : n ≤ K
        · obtain ⟨e1, e2, e3⟩ := hF.on hnK
          have e4 : writes = n := by have := hF.wr; simp only at this; omega
          simp only at e1 e2 e3
          subst e1 e2 e3 e4
          have hmin : min K writes = writes := by omega
          rw [hmin]
          have j1 : (writes : Int) ≤ (K : Int) := by omega
          have j2 : ¬ (K : Int) < (writes : Int) := by omega
          have j3 : ((K - writes : Nat) : Int) = (K : Int) - (writes : Int) := by omega
          clear hmin hF
          go_wp2_with (first
            | (go_at_call 27; refine (writes_any _ _ _ hD).mono ?_; rintro e w5 ⟨rfl, hB5⟩; have hD5 := hD.below hB5; have hb5 := below_then hb hB5)
            | (go_at_call 28; refine (on_any _ _ _ hD5).mono ?_; rintro e w6 ⟨rfl, hB6⟩; have hD6 := hD5.below hB6; have hb6 := below_then hb5 hB6)
            | (go_at_call 20; refine (alive_any _).mono ?_; rintro e w7 ⟨rfl, hB7⟩; have hD7 := hD6.below hB7; have hb7 := below_then hb6 hB7)
            | (go_at_call 29; refine (left_any _ _ _ hD7).mono ?_; rintro e w8 ⟨rfl, hB8⟩; have hb8 := below_then hb7 hB8))
          all_goals (go_ret; exact ⟨rfl, hb8⟩)
        · obtain ⟨e1, e2⟩ := hF.gone (by omega)
          have e4 : writes = K := by have := hF.wr; simp only at this; omega
          simp only at e1 e2
          subst e1 e2 e4
          have hmin : min writes n = writes := by omega
          rw [hmin]
          have j1 : ¬ (n : Int) ≤ (writes : Int) := by omega
          have j2 : (writes : Int) < (n : Int) := by omega
          have hfz := Lib.hid hF.fuz
          clear hmin hF
          have hwr1 : wrV ⟨bs, false, false, fuse, writes⟩ 0 (secL 1) = (⟨putS bs 0 (secL 1), false, false, fuse, writes + 1⟩, 0) := by
            unfold wrV
            rw [if_pos (show mayV ⟨bs, false, false, fuse, writes⟩ 0 = 0 from rfl), if_pos (show (secL 1).length = 32 by unfold secL; simp), if_neg (by simp)]
            rfl
          have HW1 := Lib.hid hwr1
          have hwz : writes ≤ 4611686018427387904 := by omega
          clear hwr1
          go_wp2_with (first
            | (go_at_call 27; refine (writes_any _ _ _ hD).mono ?_; rintro e w5 ⟨rfl, hB5⟩; have hD5 := hD.below hB5; have hb5 := below_then hb hB5)
            | (go_at_call 28; refine (on_any _ _ _ hD5).mono ?_; rintro e w6 ⟨rfl, hB6⟩; have hD6 := hD5.below hB6; have hb6 := below_then hb5 hB6)
            | (go_at_call 29; refine (left_any _ _ _ hD6).mono ?_; rintro e w7 ⟨rfl, hB7⟩; have hD7 := hD6.below hB7; have hb7 := below_then hb6 hB7)
            | (go_at_call 30; refine (restore_any _ _ _ hD7).mono ?_; rintro e w8 ⟨rfl, hD8', hg8⟩; have hD8 : DkAt w8 w.heap.size ⟨bs, false, false, fuse, writes⟩ := hD8'; clear hD8'; have hb8 := hb7.grown hg8 hb7.size (fun j h => by cases h; exact Nat.le_refl _))
            | (go_at_call 20; refine (alive_any _).mono ?_; rintro e w9 ⟨rfl, hB9⟩; have hD9 := hD8.below hB9; have hb9 := below_then hb8 hB9)
            | (go_at_call 28; refine (on_any _ _ _ hD9).mono ?_; rintro e w10 ⟨rfl, hB10⟩; have hD10 := hD9.below hB10; have hb10 := below_then hb9 hB10)
            | (go_at_call 24; refine (sector_any _ _).mono ?_; rintro e w11 ⟨rfl, hr11, hB11⟩; have hD11 := hD10.below hB11; have hb11 := below_then hb10 hB11)
            | (go_at_call 23; refine (write_any w.heap.size _ 0 _ (secL 1) _ hD11 (bytes_row hr11 (by unfold secL; simp) (by have := hD10.lt; omega)) (by unfold secL; simp) hwz hfz.out).mono ?_; rintro e w12 ⟨rfl, hD12, hg12⟩; rw [HW1.out] at hD12 ⊢; have hb12 := hb11.grown hg12 hb11.size (fun j h => by cases h; exact Nat.le_refl _))
            | (go_at_call 27; refine (writes_any _ _ _ hD12).mono ?_; rintro e w13 ⟨rfl, hB13⟩; have hb13 := below_then hb12 hB13))
          all_goals (go_ret; exact ⟨rfl, hb13⟩)
end Go.Proofs.Ythkppkecclnlnaa
