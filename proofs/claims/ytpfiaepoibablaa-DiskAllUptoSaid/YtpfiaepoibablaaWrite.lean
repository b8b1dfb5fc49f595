/- Walk: Write. -/
import Derived.Test.YtpfiaepoibablaaSec
import Derived.Laws.CopyOwn
namespace Go.Proofs.Ytpfiaepoibablaa
set_option linter.unusedVariables false
set_option linter.unusedSimpArgs false
open Go.RowKit

/-- A slice of bytes that can be read, and lies elsewhere than the block b. -/
def Bytes (W : World) (b : Nat) (v : Value) (l : List Nat) : Prop :=
  ∃ a c, v = .slice a l.length c ∧ ∀ j x, l[j]? = some x → ∃ p, a = some p ∧ p.block ≠ b ∧ W.cell? (p.add j) = some (.int .u8 (x : Nat))
def putS (bs : List Nat) (s : Nat) (l : List Nat) : List Nat := bs.take (32 * s) ++ (l ++ bs.drop (32 * s + 32))
/-- What a write leaves, and answers. -/
def wrV (d : Dk) (s : Int) (l : List Nat) : Dk × Int :=
  if mayV d s = 0 then
    if l.length = 32 then
      if d.fused then
        if d.fuse = 0 then ({ d with off := true, fused := false }, 100)
        else ({ d with fuse := d.fuse - 1, bs := putS d.bs s.toNat l, writes := d.writes + 1 }, 0)
      else ({ d with bs := putS d.bs s.toNat l, writes := d.writes + 1 }, 0)
    else (d, 102)
  else (d, mayV d s)
theorem mayV_nat {d : Dk} {s : Int} (h : mayV d s = 0) : ∃ k : Nat, s = k ∧ k < 8 ∧ d.off = false := by
  unfold mayV at h
  split at h
  · cases h
  · split at h
    · cases h
    · rename_i h1 h2
      exact ⟨s.toNat, by omega, by omega, by simpa using h1⟩

theorem dk_copy {d : Dk} {k : Nat} {l : List Nat} (hb : d.bs.length = 256) (hk : k < 8) (hl : l.length = 32) :
    ((dkC d).toList.take (k * 32) ++ (bC l ++ (dkC d).toList.drop (k * 32 + (bC l).length))).toArray = dkC { d with bs := putS d.bs k l } := by
  unfold dkC putS
  rw [List.toList_toArray, List.take_append_of_le_length (by rw [bC_len]; omega), List.drop_append_of_le_length (by rw [bC_len, bC_len]; omega), bC_len, hl]
  show _ = (bC _ ++ dkT d).toArray
  unfold bC
  rw [List.map_append, List.map_append, List.map_take, List.map_drop, Nat.mul_comm 32 k]
  simp
theorem putS_len {bs l : List Nat} {k : Nat} (hb : bs.length = 256) (hk : k < 8) (hl : l.length = 32) : (putS bs k l).length = 256 := by
  unfold putS
  simp [hb, hl]
  omega
theorem DkAt.copy {W : World} {b k : Nat} {d : Dk} {l : List Nat} (h : DkAt W b d) (hk : k < 8) (hl : l.length = 32) :
    DkAt (W.setRow b ((dkC d).toList.take (k * 32) ++ (bC l ++ (dkC d).toList.drop (k * 32 + (bC l).length))).toArray) b { d with bs := putS d.bs k l } :=
  ⟨by rw [dk_copy h.2 hk hl]; exact setRow_heap W b _ _ _ _ h.1, putS_len h.2 hk hl⟩
theorem but_setRow {W X : World} {b : Nat} (h : W.grownBy X (some b)) (cs : Array Value) : W.grownBy (X.setRow b cs) (some b) := by
  obtain ⟨h1, h2, h3, h4, h5⟩ := h
  refine ⟨h1, h2, h3, by simpa [World.setRow] using h4, fun k hk hne => ?_⟩
  rw [setRow_other X b k cs (fun e => hne (by rw [e]))]
  exact h5 k hk hne
theorem bC_one (l : List Nat) : ∀ v ∈ bC l, v.oneCell' = true := by
  intro v hv
  obtain ⟨x, _, rfl⟩ := List.mem_map.1 hv
  rfl
theorem cell_set_other {W : World} {p q : Addr} (h : q.block ≠ p.block) (v : Value) : (W.setCell p v).cell? q = W.cell? q := by
  unfold World.cell?
  rw [Below.heap_setCell W p v q.block h]
set_option maxRecDepth 100000 in
set_option maxHeartbeats 1000000 in
theorem write_any (b : Nat) (d : Dk) (s : Int) (v : Value) (l : List Nat) (w : World) (h : DkAt w b d) (hv : Bytes w b v l) (hl : l.length ≤ 9223372036854775800) (hw : d.writes ≤ 4611686018427387904) (hfu : d.fuse ≤ 9223372036854775807) :
    Calls Try.prog 16 #[.pointer (some ⟨b, 0, none⟩), .int .i64 s, v] w fun e w' => e = .returned (.int .i64 (wrV d s l).2) ∧ DkAt w' b (wrV d s l).1 ∧ w.grownBy w' (some b) := by
  obtain ⟨a, c, rfl, hc⟩ := hv
  have HM := Lib.hid (may_any b d s w h)
  have HC := Lib.hid hc
  clear hc
  obtain ⟨d', er, hwr⟩ : ∃ d' er, wrV d s l = (d', er) := ⟨_, _, rfl⟩
  rw [hwr]
  show Calls _ _ _ _ fun e w' => e = .returned (.int .i64 er) ∧ DkAt w' b d' ∧ w.grownBy w' (some b)
  unfold wrV at hwr
  have HWR := Lib.hid hwr
  clear hwr
  go_enter Try.func16, Try.ntmps16
  go_wp2_with fail
  refine HM.out.mono ?_
  rintro e w1 ⟨rfl, hB1⟩
  have h1 := h.below hB1
  have hg1 := but_below hB1 (some b)
  by_cases hm : mayV d s = 0
  · obtain ⟨k, rfl, hk, hoff⟩ := mayV_nat hm
    rw [if_pos hm] at HWR
    rw [hm]
    clear hm HM
    have hlt := h.lt
    clear h
    by_cases hl32 : l.length = 32
    · rw [if_pos hl32] at HWR
      have HL := Lib.hid hl32
      rw [hl32]
      clear hl32 hl
      obtain ⟨c0, c1, c2, c3⟩ := h1.cells
      obtain ⟨z0, z1, z2, z3⟩ := h1.free
      obtain ⟨p, rfl, hpb, _⟩ := HC.out 0 _ (List.getElem?_eq_getElem (by rw [HL.out]; omega))
      have hs0 : ∀ j u, (bC l)[j]? = some u → w.cell? (p.add j) = some u := by
        intro j u hu
        unfold bC at hu
        rw [List.getElem?_map] at hu
        cases hx : l[j]? with
        | none => rw [hx] at hu; cases hu
        | some x =>
          rw [hx] at hu
          obtain ⟨p', hp1, _, hp2⟩ := HC.out j x hx
          cases hp1
          cases hu
          exact hp2
      have hsw : Hid (∀ j u, (bC l)[j]? = some u → w1.cell? (p.add j) = some u) := fun j u hu => by
        have h0 := hs0 j u hu
        exact (hB1.cell (cell_lt h0)).trans h0
      clear hs0 HC
      have k0 : (k : Int) < 8 := by omega
      have k1 : (0 : Int) ≤ (k : Int) := by omega
      have k2 : (k : Int).toNat = k := Int.toNat_natCast k
      obtain ⟨bs, off, fused, fuse, writes⟩ := d
      obtain rfl : off = false := hoff
      cases fused with
      | true =>
        rw [if_pos rfl] at HWR
        by_cases hf0 : fuse = 0
        · rw [if_pos hf0] at HWR
          subst hf0
          have hwr := HWR.out
          injection hwr with e1 e2
          subst e1 e2
          go_wp2_with fail
          go_ret
          exact ⟨rfl, (h1.off true).fused false, but_set (but_set hg1 (hlt) _ _) (hlt) _ _⟩
        · rw [if_neg hf0] at HWR
          have hwr := HWR.out
          injection hwr with e1 e2
          subst e1 e2
          have hf1 : ¬ (fuse : Int) = 0 := by omega
          have hf2 : (fuse : Int) - 1 = ((fuse - 1 : Nat) : Int) := by omega
          clear hf0
          have hwn : (writes : Int) ≤ 4611686018427387904 := by have : writes ≤ 4611686018427387904 := hw; omega
          have hsrc : Hid (∀ j u, (bC l)[j]? = some u → (w1.setCell ⟨b, 258, none⟩ (.int .i64 ((fuse - 1 : Nat) : Int))).cell? (p.add j) = some u) := fun j u hu => by
            rw [cell_set_other (by rw [show (p.add j).block = p.block from by unfold Addr.add; split <;> rfl]; exact hpb)]
            exact hsw.out j u hu
          have h2 := Lib.hid (h1.fuse (fuse - 1))
          have hg2 := Lib.hid (but_set hg1 hlt 258 (.int .i64 ((fuse - 1 : Nat) : Int)))
          go_wp2_with (refine wpList_copy_own rfl _ _ 22 22 rfl 5 Try.underlying22 (by kernel_rfl) b (k * 32) 32 32 p 32 c rfl rfl (dkC _) 56 h2.out.1 (bC l) (by rw [bC_len, HL.out]; rfl) hsrc.out (by rw [bC_len, HL.out, dkC_size h2.out.2]; omega) (bC_one l) ?_; have h3 := h2.out.copy hk HL.out; have hg3 := but_setRow hg2.out ((dkC ⟨bs, false, true, fuse - 1, writes⟩).toList.take (k * 32) ++ (bC l ++ (dkC ⟨bs, false, true, fuse - 1, writes⟩).toList.drop (k * 32 + (bC l).length))).toArray; obtain ⟨W3, hW3⟩ : ∃ W3, (w1.setCell ⟨b, 258, none⟩ (.int .i64 ((fuse - 1 : Nat) : Int))).setRow b ((dkC ⟨bs, false, true, fuse - 1, writes⟩).toList.take (k * 32) ++ (bC l ++ (dkC ⟨bs, false, true, fuse - 1, writes⟩).toList.drop (k * 32 + (bC l).length))).toArray = W3 := ⟨_, rfl⟩; rw [hW3] at h3 hg3 ⊢; clear hW3 c0 c1 c2 c3 z0 z1 z2 z3; obtain ⟨c0, c1, c2, c3⟩ := h3.cells; obtain ⟨z0, z1, z2, z3⟩ := h3.free)
          go_ret
          exact ⟨rfl, h3.writes (writes + 1), but_set hg3 hlt _ _⟩
      | false =>
        rw [if_neg (by simp)] at HWR
        have hwr := HWR.out
        injection hwr with e1 e2
        subst e1 e2
        have h2 := Lib.hid h1
        have hg2 := Lib.hid hg1
        have hsrc := hsw
        have hwn : (writes : Int) ≤ 4611686018427387904 := by have : writes ≤ 4611686018427387904 := hw; omega
        go_wp2_with (refine wpList_copy_own rfl _ _ 22 22 rfl 5 Try.underlying22 (by kernel_rfl) b (k * 32) 32 32 p 32 c rfl rfl (dkC _) 56 h2.out.1 (bC l) (by rw [bC_len, HL.out]; rfl) hsrc.out (by rw [bC_len, HL.out, dkC_size h2.out.2]; omega) (bC_one l) ?_; have h3 := h2.out.copy hk HL.out; have hg3 := but_setRow hg2.out ((dkC ⟨bs, false, false, fuse, writes⟩).toList.take (k * 32) ++ (bC l ++ (dkC ⟨bs, false, false, fuse, writes⟩).toList.drop (k * 32 + (bC l).length))).toArray; obtain ⟨W3, hW3⟩ : ∃ W3, w1.setRow b ((dkC ⟨bs, false, false, fuse, writes⟩).toList.take (k * 32) ++ (bC l ++ (dkC ⟨bs, false, false, fuse, writes⟩).toList.drop (k * 32 + (bC l).length))).toArray = W3 := ⟨_, rfl⟩; rw [hW3] at h3 hg3 ⊢; clear hW3 c0 c1 c2 c3 z0 z1 z2 z3; obtain ⟨c0, c1, c2, c3⟩ := h3.cells; obtain ⟨z0, z1, z2, z3⟩ := h3.free)
        go_ret
        exact ⟨rfl, h3.writes (writes + 1), but_set hg3 hlt _ _⟩
    · rw [if_neg hl32] at HWR
      have hne : ((l.length : Int) != 32) = true := by simp; omega
      clear hl32
      have hwr := HWR.out
      injection hwr with e1 e2
      subst e1 e2
      go_wp2_with fail
      go_ret
      exact ⟨rfl, h1, hg1⟩
  · have hne : (mayV d s != 0) = true := by simpa using hm
    rw [if_neg hm] at HWR
    have hwr := HWR.out
    injection hwr with e1 e2
    subst e1 e2
    clear hm HM HWR
    go_wp2_with fail
    go_ret
    exact ⟨rfl, h1, hg1⟩
end Go.Proofs.Ytpfiaepoibablaa
