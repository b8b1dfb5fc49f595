/- Walk: the document's Write. -/
import Derived.Test.YtpfiaepoibablaaRefD
import Derived.RegionTactic
import Derived.BigRegion
namespace Go.Proofs.Ytpfiaepoibablaa
set_option linter.unusedVariables false
set_option linter.unusedSimpArgs false
open Go.RowKit

def Bytes2 (W : World) (rb gb : Nat) (v : Value) (l : List Nat) : Prop :=
  ∃ a c, v = .slice a l.length c ∧ ∀ j x : Nat, l[j]? = some x → ∃ p, a = some p ∧ p.block ≠ rb ∧ p.block ≠ gb ∧ W.cell? (p.add j) = some (.int .u8 (x : Int))
theorem cell_heap {W X : World} {q : Addr} (h : X.heap[q.block]? = W.heap[q.block]?) : X.cell? q = W.cell? q := by unfold World.cell?; rw [h]
theorem add_block (p : Addr) (j : Nat) : (p.add j).block = p.block := by unfold Addr.add; split <;> rfl
theorem Bytes2.chg {W X : World} {rb o gb : Nat} {v : Value} {l : List Nat} (h : Bytes2 W rb gb v l) (hg : Chg W X rb o gb) : Bytes2 X rb gb v l := by
  obtain ⟨a, c, rfl, hc⟩ := h
  refine ⟨a, c, rfl, fun j x hx => ?_⟩
  obtain ⟨p, rfl, h1, h2, h3⟩ := hc j x hx
  exact ⟨p, rfl, h1, h2, (cell_heap (hg.other _ (cell_lt h3) (by rw [add_block]; exact h1) (by rw [add_block]; exact h2))).trans h3⟩
set_option maxRecDepth 100000 in
set_option maxHeartbeats 1000000 in
theorem refWrite_any (rb o gb n : Nat) (d : Dk) (s : Int) (v : Value) (l : List Nat) (w : World) (h : Rk w rb o gb n d) (hv : Bytes2 w rb gb v l) (hl : l.length ≤ 9223372036854775800) (hw : d.writes ≤ 4611686018427387904) (hfu : d.fuse ≤ 9223372036854775807) :
    Calls Try.prog 21 #[.pointer (some ⟨rb, o, none⟩), .int .i64 s, v] w fun e w' => e = .returned (.int .i64 (wrV d s l).2) ∧ Rk w' rb o gb n (wrV d s l).1 ∧ Chg w w' rb o gb := by
  obtain ⟨a, c, rfl, hc⟩ := hv
  obtain ⟨d', er, hwr⟩ : ∃ d' er, wrV d s l = (d', er) := ⟨_, _, rfl⟩
  rw [hwr]
  show Calls _ _ _ _ fun e w' => e = .returned (.int .i64 er) ∧ Rk w' rb o gb n d' ∧ Chg w w' rb o gb
  unfold wrV at hwr
  have HWR := Lib.hid hwr
  have HC := Lib.hid hc
  clear hwr hc
  have hh := Lib.hid h
  obtain ⟨c0, c1, c2, c3⟩ := h.cells
  obtain ⟨z0, z1, z2, z3⟩ := h.free
  clear h
  go_enter Try.func21, Try.ntmps21
  cases hoff : d.off with
  | true =>
    rw [hoff] at c1
    have hm : mayV d s = 100 := by unfold mayV; rw [hoff]; rfl
    rw [if_neg (by rw [hm]; decide), hm] at HWR
    clear hm
    have hwr := HWR.out
    injection hwr with e1 e2
    subst e1 e2
    clear HWR
    go_wp2_with fail
    go_ret
    exact ⟨rfl, hh.out, Chg.refl _ _ _ _⟩
  | false =>
    rw [hoff] at c1
    by_cases s0 : s < 0
    · have hm : mayV d s = 101 := by unfold mayV; rw [hoff]; simp <;> omega
      rw [if_neg (by rw [hm]; decide), hm] at HWR
      clear hm
      have hwr := HWR.out
      injection hwr with e1 e2
      subst e1 e2
      clear HWR
      go_wp2_with fail
      go_ret
      exact ⟨rfl, hh.out, Chg.refl _ _ _ _⟩
    by_cases s1 : 8 ≤ s
    · have hm : mayV d s = 101 := by unfold mayV; rw [hoff]; simp <;> omega
      rw [if_neg (by rw [hm]; decide), hm] at HWR
      clear hm
      have hwr := HWR.out
      injection hwr with e1 e2
      subst e1 e2
      clear HWR
      go_wp2_with fail
      go_ret
      exact ⟨rfl, hh.out, Chg.refl _ _ _ _⟩
    have hm : mayV d s = 0 := by unfold mayV; rw [hoff]; simp <;> omega
    rw [if_pos hm] at HWR
    clear hm
    have s3 : s < 8 := by omega
    have s4 : 0 ≤ s := by omega
    by_cases hl32 : l.length = 32
    · rw [if_pos hl32] at HWR
      have HL := Lib.hid hl32
      rw [hl32]
      clear hl32 hl
      obtain ⟨k, rfl⟩ : ∃ k : Nat, s = k := ⟨s.toNat, by omega⟩
      rw [Int.toNat_natCast] at HWR
      have h0 : putAt d.bs (32 * k) (l.take 0) = d.bs := by unfold putAt; simp
      have HB : Hid (∀ wr, Chg w wr rb o gb → ∀ j x : Nat, l[j]? = some x → ∃ p, a = some p ∧ wr.cell? (p.add j) = some (.int .u8 (x : Int))) := by
        intro wr hG j x hx
        obtain ⟨p, rfl, h1, h2, h3⟩ := HC.out j x hx
        exact ⟨p, rfl, (cell_heap (hG.other _ (cell_lt h3) (by rw [add_block]; exact h1) (by rw [add_block]; exact h2))).trans h3⟩
      clear HC
      obtain ⟨z, hz⟩ : ∃ z, fuZ d = z := ⟨_, rfl⟩
      rw [hz] at c2
      by_cases hz0 : z = 0
      · subst hz0
        have hfd : d.fused = true ∧ d.fuse = 0 := by
          unfold fuZ at hz
          cases hd : d.fused with
          | true => rw [hd] at hz; exact ⟨rfl, by simpa using hz⟩
          | false => rw [hd] at hz; simp at hz
        rw [if_pos hfd.1, if_pos hfd.2] at HWR
        have hwr := HWR.out
        injection hwr with e1 e2
        subst e1 e2
        clear HWR hfd
        go_wp2_with fail
        go_ret
        exact ⟨rfl, (hh.out.off true).fuse (-1) rfl ⟨rfl, rfl, rfl⟩, ((Chg.refl _ _ _ _).set 1 _ (by decide) hh.out.lt.1).set 2 _ (by decide) hh.out.lt.1⟩
      have HZ := Lib.hid hz
      clear hz
      go_wp2_with fail
      go_loopw [7] (fun i wr => ∃ j : Nat, i = .int .i64 j ∧ j ≤ 32 ∧ Hid (Rk wr rb o gb n { d with bs := putAt d.bs (32 * k) (l.take j) }) ∧ Hid (Chg w wr rb o gb)) (fun i _ => 32 - (intOf i).toNat)
      case atStart => exact ⟨0, rfl, by omega, by rw [h0]; exact hh.out, Chg.refl _ _ _ _⟩
      case round =>
        obtain ⟨j, rfl, hj, hR, hG⟩ := hrel
        clear c0 c1 c2 c3 z0 z1 z2 z3
        obtain ⟨c0, c1, c2, c3⟩ := hR.out.cells
        obtain ⟨z0, z1, z2, z3⟩ := hR.out.free
        have c2' : wr.cell? ⟨rb, o + 2, none⟩ = some (.int .i64 z) := by rw [c2, ← HZ.out]; rfl
        clear c2
        by_cases hlt : j < 32
        · obtain ⟨x, hx⟩ : ∃ x, l[j]? = some x := ⟨_, List.getElem?_eq_getElem (by rw [HL.out]; exact hlt)⟩
          obtain ⟨p, rfl, hpx⟩ := HB.out wr hG.out j x hx
          have hst := Lib.hid (putAt_step d.bs l (32 * k) j x (by rw [hh.out.len, HL.out]; omega) hx)
          have hlen : (putAt d.bs (32 * k) (l.take j)).length = 256 := (putAt_len (by rw [List.length_take, hh.out.len]; omega)).trans hh.out.len
          obtain ⟨y, hy⟩ : ∃ y, (putAt d.bs (32 * k) (l.take j))[32 * k + j]? = some y := ⟨_, List.getElem?_eq_getElem (by rw [hlen]; omega)⟩
          obtain ⟨b0, f0⟩ := hR.out.cell (32 * k + j) y hy
          have i1 : (j : Int) < 32 := by omega
          have i2 : (0 : Int) ≤ (j : Int) := by omega
          have i3 : (j : Int).toNat = j := Int.toNat_natCast j
          have i4 : (32 : Int) * (k : Int) + (j : Int) < 256 := by omega
          have i5 : (0 : Int) ≤ 32 * (k : Int) + (j : Int) := by omega
          have i6 : (32 * (k : Int) + (j : Int)).toNat = 32 * k + j := by omega
          clear hx hy hlen h0 HWR
          go_wp2
          go_region
          go_wp2
          go_roundw
          case rel => exact ⟨j + 1, by go_num, by omega, by have := (hR.out.put (32 * k + j) x (by omega)).drew; simp only [hst.out] at this; exact this, (hG.out.put hh.out.ne _ _).drew⟩
          case measure => simp [intOf]; omega
        · obtain rfl : j = 32 := by omega
          have HR : Hid (Rk wr rb o gb n { d with bs := putS d.bs k l }) := by
            show Rk _ _ _ _ _ _
            rw [putS_at _ _ _ HL.out]
            have := hR.out
            rwa [List.take_of_length_le (by rw [HL.out]; exact Nat.le_refl _)] at this
          have hwn : (d.writes : Int) ≤ 4611686018427387904 := by omega
          clear hR h0
          cases hfd : d.fused with
          | true =>
            have hzf : z = (d.fuse : Int) := by rw [← HZ.out]; unfold fuZ; rw [hfd]; rfl
            have hf0 : ¬ d.fuse = 0 := by omega
            rw [if_pos hfd, if_neg hf0] at HWR
            have hwr := HWR.out
            injection hwr with e1 e2
            subst e1 e2
            clear HWR HZ
            subst hzf
            have q1 : (0 : Int) < (d.fuse : Int) := by omega
            have q2 : (d.fuse : Int) - 1 = ((d.fuse - 1 : Nat) : Int) := by omega
            clear hf0
            go_wp2_with fail
            go_ret
            have HF := (HR.out.fuse (d' := { d with fuse := d.fuse - 1, bs := putS d.bs k l }) ((d.fuse - 1 : Nat) : Int) (by unfold fuZ; simp only [hfd, if_true]) ⟨rfl, rfl, rfl⟩).writes (d.writes + 1)
            simp only [hoff, hfd] at HF
            exact ⟨rfl, HF, (hG.out.set 2 _ (by decide) hh.out.lt.1).set 3 _ (by decide) hh.out.lt.1⟩
          | false =>
            have hzf : z = -1 := by rw [← HZ.out]; unfold fuZ; rw [hfd]; rfl
            rw [if_neg (by rw [hfd]; decide)] at HWR
            have hwr := HWR.out
            injection hwr with e1 e2
            subst e1 e2
            clear HWR HZ
            subst hzf
            go_wp2_with fail
            go_ret
            have HF := HR.out.writes (d.writes + 1)
            simp only [hoff, hfd] at HF
            exact ⟨rfl, HF, hG.out.set 3 _ (by decide) hh.out.lt.1⟩
    · rw [if_neg hl32] at HWR
      have h5 : ¬ (l.length : Int) = 32 := by omega
      clear hl32
      have hwr := HWR.out
      injection hwr with e1 e2
      subst e1 e2
      clear HWR
      go_wp2_with fail
      go_ret
      exact ⟨rfl, hh.out, Chg.refl _ _ _ _⟩
end Go.Proofs.Ytpfiaepoibablaa
