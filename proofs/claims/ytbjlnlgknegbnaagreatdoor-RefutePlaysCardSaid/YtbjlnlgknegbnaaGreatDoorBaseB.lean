/- Lemmas of this chapter, laid one behind the other. -/
import Derived.Test.YtbjlnlgknegbnaaGreatDoorBaseA
import Derived.IntWalk
import Derived.StillTail
import Derived.StillTailTactics
import Derived.StillTactics
import Derived.OwnWalk
import Derived.Laws.CopyOwn
import Derived.Laws.Rows
import Derived.Deep.MidRow
import Derived.Laws.Bits64b
import Derived.DeepKeys
import Derived.Deep.CutRange
namespace Go.Proofs.YtbjlnlgknegbnaaGreatDoor
set_option linter.unusedVariables false
set_option linter.unusedSimpArgs false
open Go.RowKit

theorem on_any (b : Nat) (d : Dk) (w : World) (h : DkAt w b d) : Calls Tryz.prog 82 #[.pointer (some ⟨b, 0, none⟩)] w fun e w' => e = .returned (.bool (!d.off)) ∧ Below w.heap.size w w' := by
  obtain ⟨c0, c1, c2, c3⟩ := h.cells
  go_enter Tryz.func82, Tryz.ntmps82
  go_wp2_with fail
  go_ret
  exact ⟨rfl, (Below.refl _ _)⟩
theorem on_nil (w : World) : Calls Tryz.prog 82 #[.pointer none] w fun e w' => e = .returned (.bool false) ∧ Below w.heap.size w w' := by
  go_enter Tryz.func82, Tryz.ntmps82
  go_wp2_with fail
  go_ret
  exact ⟨rfl, (Below.refl _ _)⟩
theorem restore_any (b : Nat) (d : Dk) (w : World) (h : DkAt w b d) : Calls Tryz.prog 11 #[.pointer (some ⟨b, 0, none⟩)] w fun e w' => e = .returned (.tuple #[]) ∧ DkAt w' b { d with off := false } ∧ w.grownBy w' (some b) := by
  obtain ⟨c0, c1, c2, c3⟩ := h.cells
  obtain ⟨z0, z1, z2, z3⟩ := h.free
  go_enter Tryz.func11, Tryz.ntmps11
  go_wp2_with fail
  go_end0
  exact ⟨rfl, h.off false, but_set (but_refl _ _) h.lt _ _⟩
theorem restore_nil (w : World) : Calls Tryz.prog 11 #[.pointer none] w fun e w' => e = .returned (.tuple #[]) ∧ Below w.heap.size w w' := by
  go_enter Tryz.func11, Tryz.ntmps11
  go_wp2_with fail
  go_end0
  exact ⟨rfl, (Below.refl _ _)⟩
theorem fuse_any (b : Nat) (d : Dk) (k : Int) (w : World) (h : DkAt w b d) : Calls Tryz.prog 12 #[.pointer (some ⟨b, 0, none⟩), .int .i64 k] w fun e w' => e = .returned (.tuple #[]) ∧ DkAt w' b { d with fused := decide (0 ≤ k), fuse := k.toNat } ∧ w.grownBy w' (some b) := by
  obtain ⟨c0, c1, c2, c3⟩ := h.cells
  obtain ⟨z0, z1, z2, z3⟩ := h.free
  have hD := Lib.hid h
  clear h
  by_cases hk : k < 0
  · have e1 : decide (0 ≤ k) = false := by simp; omega
    have e2 : k.toNat = 0 := by omega
    rw [e1, e2]
    go_enter Tryz.func12, Tryz.ntmps12
    go_wp2_with fail
    go_end0
    exact ⟨rfl, (hD.out.fused false).fuse 0, but_set (but_set (but_refl _ _) hD.out.lt _ _) hD.out.lt _ _⟩
  · obtain ⟨n, rfl⟩ : ∃ n : Nat, k = n := ⟨k.toNat, by omega⟩
    have e1 : decide (0 ≤ (n : Int)) = true := by simp
    have e3 : (0 : Int) ≤ n := by omega
    rw [e1, Int.toNat_natCast]
    go_enter Tryz.func12, Tryz.ntmps12
    go_wp2_with fail
    go_end0
    exact ⟨rfl, (hD.out.fused true).fuse n, but_set (but_set (but_refl _ _) hD.out.lt _ _) hD.out.lt _ _⟩
theorem fuse_nil (k : Int) (w : World) : Calls Tryz.prog 12 #[.pointer none, .int .i64 k] w fun e w' => e = .returned (.tuple #[]) ∧ Below w.heap.size w w' := by
  go_enter Tryz.func12, Tryz.ntmps12
  go_wp2_with fail
  go_end0
  exact ⟨rfl, (Below.refl _ _)⟩
/-- What asking for power and a sector answers. -/
def mayV (d : Dk) (s : Int) : Int := if d.off then 100 else if s < 0 ∨ 8 ≤ s then 101 else 0
theorem may_any (b : Nat) (d : Dk) (s : Int) (w : World) (h : DkAt w b d) : Calls Tryz.prog 83 #[.pointer (some ⟨b, 0, none⟩), .int .i64 s] w fun e w' => e = .returned (.int .i64 (mayV d s)) ∧ Below w.heap.size w w' := by
  unfold mayV
  have HO := Lib.hid (on_any b d w h)
  clear h
  obtain ⟨of, hof⟩ : ∃ of, d.off = of := ⟨_, rfl⟩
  rw [hof] at HO ⊢
  clear hof
  go_enter Tryz.func83, Tryz.ntmps83
  cases of with
  | true =>
    go_wp2_with (go_at_call 82; refine HO.out.mono ?_; rintro e w1 ⟨rfl, hB1⟩)
    go_ret
    exact ⟨rfl, hB1⟩
  | false =>
    by_cases h1 : s < 0
    · go_wp2_with (go_at_call 82; refine HO.out.mono ?_; rintro e w1 ⟨rfl, hB1⟩)
      go_ret
      exact ⟨rfl, hB1⟩
    · by_cases h2 : 8 ≤ s
      · go_wp2_with (go_at_call 82; refine HO.out.mono ?_; rintro e w1 ⟨rfl, hB1⟩)
        go_ret
        exact ⟨rfl, hB1⟩
      · go_wp2_with (go_at_call 82; refine HO.out.mono ?_; rintro e w1 ⟨rfl, hB1⟩)
        go_ret
        exact ⟨rfl, hB1⟩
theorem new_any (w : World) : Calls Tryz.prog 5 #[] w fun e w' => e = .returned (.pointer (some ⟨w.heap.size, 0, none⟩)) ∧ DkAt w' w.heap.size Dk.new ∧ Below w.heap.size w w' := by
  go_enter Tryz.func5, Tryz.ntmps5
  go_wp2_with fail
  go_ret
  exact ⟨rfl, ⟨(blk_new _ _).trans (by kernel_rfl), List.length_replicate⟩, (Below.refl _ _).alloc (Nat.le_refl _) _⟩
end Go.Proofs.YtbjlnlgknegbnaaGreatDoor
namespace Go.Proofs.YtbjlnlgknegbnaaGreatDoor
set_option linter.unusedVariables false
set_option linter.unusedSimpArgs false
open Go.RowKit

theorem Tryz.infoByte : (Tryz.prog.info? 5).map (fun i => (i.zero, i.size, i.bytes)) = some (some (.int .u8 0), 1, 1) := by kernel_rfl
/-- The bytes of a sector. -/
def secB (v : Int) (i : Nat) : Nat := ((v + 7 * i) % 256).toNat
def secL (v : Int) : List Nat := (List.range 32).map (secB v)
def secK (v : Int) (k : Nat) : List Nat := (List.range 32).map fun i => if i < k then secB v i else 0

theorem secK_zero (v : Int) : bC (secK v 0) = List.replicate 32 (.int .u8 0) := rfl
theorem secK_all (v : Int) : secK v 32 = secL v := by
  unfold secK secL
  refine List.map_congr_left fun i hi => ?_
  rw [if_pos (List.mem_range.1 hi)]
theorem secK_set (v : Int) (k : Nat) (hk : k < 32) : (bC (secK v k)).set k (.int .u8 (secB v k : Nat)) = bC (secK v (k + 1)) := by
  apply List.ext_getElem?
  intro j
  unfold bC secK
  rw [List.getElem?_set]
  by_cases hj : k = j
  · subst hj
    simp [hk]
  · rw [if_neg hj]
    simp only [List.getElem?_map]
    by_cases h2 : j < 32
    · rw [List.getElem?_range h2]
      simp only [Option.map_some]
      have : (j < k) = (j < k + 1) := by rw [eq_iff_iff]; omega
      simp only [this]
    · rw [List.getElem?_eq_none (by simp; omega)]; rfl
theorem secB_wrap (v : Int) (k : Nat) : wrap64 (v + 7 * (k : Int)) % 256 = (secB v k : Nat) := by
  unfold secB wrap64
  omega

/- Two rows of bytes, compared. -/
set_option maxRecDepth 100000 in
set_option maxHeartbeats 1000000 in
theorem same_any (v u : Value) (l m : List Nat) (w : World) (a a' : Option Addr) (c c' : Nat) (hv : v = .slice a l.length c) (hu : u = .slice a' m.length c') (hl : l.length ≤ 9223372036854775800) (hm : m.length ≤ 9223372036854775800)
    (h1 : ∀ j x, l[j]? = some x → ∃ b, a = some b ∧ w.cell? (b.add j) = some (.int .u8 (x : Nat))) (h2 : ∀ j x, m[j]? = some x → ∃ b, a' = some b ∧ w.cell? (b.add j) = some (.int .u8 (x : Nat))) :
    Calls Tryz.prog 22 #[v, u] w fun e w' => e = .returned (.bool (decide (l = m))) ∧ Below w.heap.size w w' := by
  subst hv hu
  go_enter Tryz.func22, Tryz.ntmps22
  by_cases hlen : l.length = m.length
  · have HLE := Lib.hid hlen
    rw [hlen] at hl ⊢
    clear hlen
    go_wp2_with fail
    go_loopw [5] (fun i wr => ∃ k : Nat, i = .int .i64 k ∧ k ≤ m.length ∧ Hid (∀ j, j < k → l[j]? = m[j]?) ∧ Below w.heap.size w wr) (fun i _ => m.length - (intOf i).toNat)
    case atStart => exact ⟨0, rfl, by omega, fun j hj => by omega, Below.refl _ _⟩
    case round =>
      obtain ⟨k, rfl, hk, heq, hbl⟩ := hrel
      by_cases hlt : k < m.length
      · obtain ⟨x, hx⟩ : ∃ x, l[k]? = some x := ⟨_, List.getElem?_eq_getElem (by rw [HLE.out]; exact hlt)⟩
        obtain ⟨y, hy⟩ : ∃ y, m[k]? = some y := ⟨_, List.getElem?_eq_getElem hlt⟩
        obtain ⟨p, rfl, hp⟩ := h1 k x hx
        obtain ⟨q, rfl, hq⟩ := h2 k y hy
        have hp := (hbl.cell (cell_lt hp)).trans hp
        have hq := (hbl.cell (cell_lt hq)).trans hq
        have i1 : (k : Int) < (m.length : Int) := by omega
        have i2 : (0 : Int) ≤ (k : Int) := by omega
        have i3 : (k : Int).toNat = k := Int.toNat_natCast k
        have HX := Lib.hid hx
        have HY := Lib.hid hy
        clear hx hy h1 h2
        by_cases hxy : x = y
        · subst hxy
          go_wp2
          refine wp_region_still_tail 8 (by kernel_rfl) (by kernel_rfl) ?_
          simp only [List.take_succ_cons, List.take_zero, List.drop_succ_cons, List.drop_zero]
          repeat still_step
          try refine wpStill_nil ?_
          change wpList _ _ _ _ _ wr.drew
          go_wp2
          go_roundw
          case rel => exact ⟨k + 1, by go_num, by omega, fun j hj => by
            by_cases hjk : j = k
            · subst hjk; rw [HX.out, HY.out]
            · exact heq.out j (by omega), hbl.drew⟩
          case measure => simp [intOf]; omega
        · have hne : ((x : Int) == (y : Int)) = false := by simp; omega
          have hfin : decide (l = m) = false := by
            simp only [decide_eq_false_iff_not]
            intro e
            have := HX.out
            rw [e, HY.out] at this
            exact hxy (Option.some.inj this).symm
          have HF := Lib.hid hfin
          clear hfin
          go_wp2
          refine wp_region_still_tail 8 (by kernel_rfl) (by kernel_rfl) ?_
          simp only [List.take_succ_cons, List.take_zero, List.drop_succ_cons, List.drop_zero]
          repeat still_step
          try refine wpStill_nil ?_
          change wpList _ _ _ _ _ wr.drew
          go_wp2
          go_ret
          refine ⟨?_, hbl.drew⟩
          rw [HF.out]; rfl
      · obtain rfl : k = m.length := by omega
        have hfin : decide (l = m) = true := by
          rw [decide_eq_true_iff]
          apply List.ext_getElem?
          intro j
          by_cases hj : j < m.length
          · exact heq.out j hj
          · rw [List.getElem?_eq_none (by rw [HLE.out]; omega), List.getElem?_eq_none (by omega)]
        have i1 : ¬ (m.length : Int) < (m.length : Int) := by omega
        have HF := Lib.hid hfin
        clear hfin
        go_wp2
        go_ret
        refine ⟨?_, hbl⟩
        rw [HF.out]; rfl
  · have hfin : decide (l = m) = false := by simp; intro e; exact hlen (by rw [e])
    have hne : ((l.length : Int) != (m.length : Int)) = true := by simp; omega
    rw [hfin]
    go_wp2_with fail
    go_ret
    exact ⟨rfl, Below.refl _ _⟩
end Go.Proofs.YtbjlnlgknegbnaaGreatDoor
namespace Go.Proofs.YtbjlnlgknegbnaaGreatDoor
set_option linter.unusedVariables false
set_option linter.unusedSimpArgs false
open Go.RowKit

/-- A slice of bytes that can be read, and lies elsewhere than the block b. -/
def Bytes (W : World) (b : Nat) (v : Value) (l : List Nat) : Prop :=
  ∃ a c, v = .slice a l.length c ∧ ∀ j x, l[j]? = some x → ∃ p, a = some p ∧ p.block ≠ b ∧ W.cell? (p.add j) = some (.int .u8 (x : Nat))
def putS (bs : List Nat) (s : Nat) (l : List Nat) : List Nat := bs.take (32 * s) ++ (l ++ bs.drop (32 * s + 32))
/-- What a write leaves, and answers. -/
def wrV (d : Dk) (s : Int) (l : List Nat) : Dk × Int :=
  if mayV d s = 0 then
    if l.length = 32 then
      if d.fused then
        if d.fuse = 0 then ({ d with off := true, fused := false }, 100)
        else ({ d with fuse := d.fuse - 1, bs := putS d.bs s.toNat l, writes := d.writes + 1 }, 0)
      else ({ d with bs := putS d.bs s.toNat l, writes := d.writes + 1 }, 0)
    else (d, 102)
  else (d, mayV d s)
theorem mayV_nat {d : Dk} {s : Int} (h : mayV d s = 0) : ∃ k : Nat, s = k ∧ k < 8 ∧ d.off = false := by
  unfold mayV at h
  split at h
  · cases h
  · split at h
    · cases h
    · rename_i h1 h2
      exact ⟨s.toNat, by omega, by omega, by simpa using h1⟩

theorem dk_copy {d : Dk} {k : Nat} {l : List Nat} (hb : d.bs.length = 256) (hk : k < 8) (hl : l.length = 32) :
    ((dkC d).toList.take (k * 32) ++ (bC l ++ (dkC d).toList.drop (k * 32 + (bC l).length))).toArray = dkC { d with bs := putS d.bs k l } := by
  unfold dkC putS
  rw [List.toList_toArray, List.take_append_of_le_length (by rw [bC_len]; omega), List.drop_append_of_le_length (by rw [bC_len, bC_len]; omega), bC_len, hl]
  show _ = (bC _ ++ dkT d).toArray
  unfold bC
  rw [List.map_append, List.map_append, List.map_take, List.map_drop, Nat.mul_comm 32 k]
  simp
theorem putS_len {bs l : List Nat} {k : Nat} (hb : bs.length = 256) (hk : k < 8) (hl : l.length = 32) : (putS bs k l).length = 256 := by
  unfold putS
  simp [hb, hl]
  omega
theorem DkAt.copy {W : World} {b k : Nat} {d : Dk} {l : List Nat} (h : DkAt W b d) (hk : k < 8) (hl : l.length = 32) :
    DkAt (W.setRow b ((dkC d).toList.take (k * 32) ++ (bC l ++ (dkC d).toList.drop (k * 32 + (bC l).length))).toArray) b { d with bs := putS d.bs k l } :=
  ⟨by rw [dk_copy h.2 hk hl]; exact setRow_heap W b _ _ _ _ h.1, putS_len h.2 hk hl⟩
theorem but_setRow {W X : World} {b : Nat} (h : W.grownBy X (some b)) (cs : Array Value) : W.grownBy (X.setRow b cs) (some b) := by
  obtain ⟨h1, h2, h3, h4, h5⟩ := h
  refine ⟨h1, h2, h3, by simpa [World.setRow] using h4, fun k hk hne => ?_⟩
  rw [setRow_other X b k cs (fun e => hne (by rw [e]))]
  exact h5 k hk hne
theorem bC_one (l : List Nat) : ∀ v ∈ bC l, v.oneCell' = true := by
  intro v hv
  obtain ⟨x, _, rfl⟩ := List.mem_map.1 hv
  rfl
theorem cell_set_other {W : World} {p q : Addr} (h : q.block ≠ p.block) (v : Value) : (W.setCell p v).cell? q = W.cell? q := by
  unfold World.cell?
  rw [Below.heap_setCell W p v q.block h]
set_option maxRecDepth 100000 in
set_option maxHeartbeats 1000000 in
theorem write_any (b : Nat) (d : Dk) (s : Int) (v : Value) (l : List Nat) (w : World) (h : DkAt w b d) (hv : Bytes w b v l) (hl : l.length ≤ 9223372036854775800) (hw : d.writes ≤ 4611686018427387904) (hfu : d.fuse ≤ 9223372036854775807) :
    Calls Tryz.prog 71 #[.pointer (some ⟨b, 0, none⟩), .int .i64 s, v] w fun e w' => e = .returned (.int .i64 (wrV d s l).2) ∧ DkAt w' b (wrV d s l).1 ∧ w.grownBy w' (some b) := by
  obtain ⟨a, c, rfl, hc⟩ := hv
  have HM := Lib.hid (may_any b d s w h)
  have HC := Lib.hid hc
  clear hc
  obtain ⟨d', er, hwr⟩ : ∃ d' er, wrV d s l = (d', er) := ⟨_, _, rfl⟩
  rw [hwr]
  show Calls _ _ _ _ fun e w' => e = .returned (.int .i64 er) ∧ DkAt w' b d' ∧ w.grownBy w' (some b)
  unfold wrV at hwr
  have HWR := Lib.hid hwr
  clear hwr
  go_enter Tryz.func71, Tryz.ntmps71
  go_wp2_with fail
  refine HM.out.mono ?_
  rintro e w1 ⟨rfl, hB1⟩
  have h1 := h.below hB1
  have hg1 := but_below hB1 (some b)
  by_cases hm : mayV d s = 0
  · obtain ⟨k, rfl, hk, hoff⟩ := mayV_nat hm
    rw [if_pos hm] at HWR
    rw [hm]
    clear hm HM
    have hlt := h.lt
    clear h
    by_cases hl32 : l.length = 32
    · rw [if_pos hl32] at HWR
      have HL := Lib.hid hl32
      rw [hl32]
      clear hl32 hl
      obtain ⟨c0, c1, c2, c3⟩ := h1.cells
      obtain ⟨z0, z1, z2, z3⟩ := h1.free
      obtain ⟨p, rfl, hpb, _⟩ := HC.out 0 _ (List.getElem?_eq_getElem (by rw [HL.out]; omega))
      have hs0 : ∀ j u, (bC l)[j]? = some u → w.cell? (p.add j) = some u := by
        intro j u hu
        unfold bC at hu
        rw [List.getElem?_map] at hu
        cases hx : l[j]? with
        | none => rw [hx] at hu; cases hu
        | some x =>
          rw [hx] at hu
          obtain ⟨p', hp1, _, hp2⟩ := HC.out j x hx
          cases hp1
          cases hu
          exact hp2
      have hsw : Hid (∀ j u, (bC l)[j]? = some u → w1.cell? (p.add j) = some u) := fun j u hu => by
        have h0 := hs0 j u hu
        exact (hB1.cell (cell_lt h0)).trans h0
      clear hs0 HC
      have k0 : (k : Int) < 8 := by omega
      have k1 : (0 : Int) ≤ (k : Int) := by omega
      have k2 : (k : Int).toNat = k := Int.toNat_natCast k
      obtain ⟨bs, off, fused, fuse, writes⟩ := d
      obtain rfl : off = false := hoff
      cases fused with
      | true =>
        rw [if_pos rfl] at HWR
        by_cases hf0 : fuse = 0
        · rw [if_pos hf0] at HWR
          subst hf0
          have hwr := HWR.out
          injection hwr with e1 e2
          subst e1 e2
          go_wp2_with fail
          go_ret
          exact ⟨rfl, (h1.off true).fused false, but_set (but_set hg1 (hlt) _ _) (hlt) _ _⟩
        · rw [if_neg hf0] at HWR
          have hwr := HWR.out
          injection hwr with e1 e2
          subst e1 e2
          have hf1 : ¬ (fuse : Int) = 0 := by omega
          have hf2 : (fuse : Int) - 1 = ((fuse - 1 : Nat) : Int) := by omega
          clear hf0
          have hwn : (writes : Int) ≤ 4611686018427387904 := by have : writes ≤ 4611686018427387904 := hw; omega
          have hsrc : Hid (∀ j u, (bC l)[j]? = some u → (w1.setCell ⟨b, 258, none⟩ (.int .i64 ((fuse - 1 : Nat) : Int))).cell? (p.add j) = some u) := fun j u hu => by
            rw [cell_set_other (by rw [show (p.add j).block = p.block from by unfold Addr.add; split <;> rfl]; exact hpb)]
            exact hsw.out j u hu
          have h2 := Lib.hid (h1.fuse (fuse - 1))
          have hg2 := Lib.hid (but_set hg1 hlt 258 (.int .i64 ((fuse - 1 : Nat) : Int)))
          go_wp2_with (refine wpList_copy_own rfl _ _ 26 26 rfl 5 Tryz.underlying26 (by kernel_rfl) b (k * 32) 32 32 p 32 c rfl rfl (dkC _) 78 h2.out.1 (bC l) (by rw [bC_len, HL.out]; rfl) hsrc.out (by rw [bC_len, HL.out, dkC_size h2.out.2]; omega) (bC_one l) ?_; have h3 := h2.out.copy hk HL.out; have hg3 := but_setRow hg2.out ((dkC ⟨bs, false, true, fuse - 1, writes⟩).toList.take (k * 32) ++ (bC l ++ (dkC ⟨bs, false, true, fuse - 1, writes⟩).toList.drop (k * 32 + (bC l).length))).toArray; obtain ⟨W3, hW3⟩ : ∃ W3, (w1.setCell ⟨b, 258, none⟩ (.int .i64 ((fuse - 1 : Nat) : Int))).setRow b ((dkC ⟨bs, false, true, fuse - 1, writes⟩).toList.take (k * 32) ++ (bC l ++ (dkC ⟨bs, false, true, fuse - 1, writes⟩).toList.drop (k * 32 + (bC l).length))).toArray = W3 := ⟨_, rfl⟩; rw [hW3] at h3 hg3 ⊢; clear hW3 c0 c1 c2 c3 z0 z1 z2 z3; obtain ⟨c0, c1, c2, c3⟩ := h3.cells; obtain ⟨z0, z1, z2, z3⟩ := h3.free)
          go_ret
          exact ⟨rfl, h3.writes (writes + 1), but_set hg3 hlt _ _⟩
      | false =>
        rw [if_neg (by simp)] at HWR
        have hwr := HWR.out
        injection hwr with e1 e2
        subst e1 e2
        have h2 := Lib.hid h1
        have hg2 := Lib.hid hg1
        have hsrc := hsw
        have hwn : (writes : Int) ≤ 4611686018427387904 := by have : writes ≤ 4611686018427387904 := hw; omega
        go_wp2_with (refine wpList_copy_own rfl _ _ 26 26 rfl 5 Tryz.underlying26 (by kernel_rfl) b (k * 32) 32 32 p 32 c rfl rfl (dkC _) 78 h2.out.1 (bC l) (by rw [bC_len, HL.out]; rfl) hsrc.out (by rw [bC_len, HL.out, dkC_size h2.out.2]; omega) (bC_one l) ?_; have h3 := h2.out.copy hk HL.out; have hg3 := but_setRow hg2.out ((dkC ⟨bs, false, false, fuse, writes⟩).toList.take (k * 32) ++ (bC l ++ (dkC ⟨bs, false, false, fuse, writes⟩).toList.drop (k * 32 + (bC l).length))).toArray; obtain ⟨W3, hW3⟩ : ∃ W3, w1.setRow b ((dkC ⟨bs, false, false, fuse, writes⟩).toList.take (k * 32) ++ (bC l ++ (dkC ⟨bs, false, false, fuse, writes⟩).toList.drop (k * 32 + (bC l).length))).toArray = W3 := ⟨_, rfl⟩; rw [hW3] at h3 hg3 ⊢; clear hW3 c0 c1 c2 c3 z0 z1 z2 z3; obtain ⟨c0, c1, c2, c3⟩ := h3.cells; obtain ⟨z0, z1, z2, z3⟩ := h3.free)
        go_ret
        exact ⟨rfl, h3.writes (writes + 1), but_set hg3 hlt _ _⟩
    · rw [if_neg hl32] at HWR
      have hne : ((l.length : Int) != 32) = true := by simp; omega
      clear hl32
      have hwr := HWR.out
      injection hwr with e1 e2
      subst e1 e2
      go_wp2_with fail
      go_ret
      exact ⟨rfl, h1, hg1⟩
  · have hne : (mayV d s != 0) = true := by simpa using hm
    rw [if_neg hm] at HWR
    have hwr := HWR.out
    injection hwr with e1 e2
    subst e1 e2
    clear hm HM HWR
    go_wp2_with fail
    go_ret
    exact ⟨rfl, h1, hg1⟩
end Go.Proofs.YtbjlnlgknegbnaaGreatDoor
namespace Go.Proofs.YtbjlnlgknegbnaaGreatDoor
set_option linter.unusedVariables false
set_option linter.unusedSimpArgs false
open Go.RowKit

theorem DkAt.range {W : World} {b : Nat} {d : Dk} (h : DkAt W b d) : W.rangeAt b 0 (bC d.bs) := by
  intro j v hv
  rw [Nat.zero_add, blk_cell h.1]
  unfold dkC
  rw [List.getElem?_toArray, List.getElem?_append_left (List.getElem?_eq_some_iff.1 hv).1]
  exact hv
theorem image_info : (Tryz.prog.info? 76).map (·.size) = some 256 := by kernel_rfl
theorem sector_info : (Tryz.prog.info? 75).map (·.size) = some 32 := by kernel_rfl
theorem run_index_sector (l : List Nat) (hl : l.length = 256) (k : Nat) (hk : k < 8) (w : World) :
    (Instr.index 76 (.agg (bC l).toArray) (.int .i64 (k : Int))).run Tryz.prog w = .ok (.agg (bC ((l.drop (k * 32)).take 32)).toArray) w := by
  have h1 : (0 : Int) ≤ (k : Int) ∧ (k : Int) < ((8 : Nat) : Int) := by omega
  have hi := sector_info
  cases hq : Tryz.prog.info? 75 with
  | none => rw [hq] at hi; cases hi
  | some i =>
    have hs : i.size = 32 := by simpa [hq] using hi
    simp [Instr.index, run_underlying Tryz.underlying76, asIntOf, h1, go_sem, hk, bC, List.map_take, List.map_drop, sizeOf, typeInfo, hq, hs, isAgg, run_underlying Tryz.underlying75]
/-- A new block that is written whole. -/
theorem new_row (wr : World) (zz : Array Value) (t : TypeId) (vs : List Value) (hz : zz.size = vs.length) :
    ((wr.alloc (.cells zz t)).setCells wr.heap.size 0 vs.toArray.toList).heap[wr.heap.size]? = some (.cells vs.toArray t (0, 0)) ∧ Below wr.heap.size wr ((wr.alloc (.cells zz t)).setCells wr.heap.size 0 vs.toArray.toList) :=
  ⟨setCells_whole (blk_new wr _) vs.toArray (by simp [hz]), setCells_below _ _ _ ((Below.refl _ wr).alloc (Nat.le_refl _) _) (Nat.le_refl _)⟩
theorem image_nil (w : World) : Calls Tryz.prog 23 #[.pointer none] w fun e w' => e = .returned (.slice none 0 0) ∧ Below w.heap.size w w' := by
  go_enter Tryz.func23, Tryz.ntmps23
  go_wp2_with fail
  go_ret
  exact ⟨rfl, Below.refl _ _⟩
set_option maxRecDepth 100000 in
set_option maxHeartbeats 1000000 in
theorem image_any (b : Nat) (d : Dk) (w : World) (h : DkAt w b d) :
    Calls Tryz.prog 23 #[.pointer (some ⟨b, 0, none⟩)] w fun e w' => ∃ v, e = .returned v ∧ w'.ownsRow w.heap.size 5 1 v 256 (bC d.bs) ∧ Below w.heap.size w w' := by
  obtain ⟨i0, hi, hz0, hz1, hz2⟩ := info_parts Tryz.infoByte
  have hD := Lib.hid h
  clear h
  go_enter Tryz.func23, Tryz.ntmps23
  go_wp2_with (first
    | (refine wpList_make_own _ rfl _ _ 26 rfl w.heap.size 5 i0 (.int .u8 0) 1 Tryz.underlying26 hi hz0 hz1 _ _ _ 256 rfl rfl rfl (by rw [hz2]; decide) (by decide) (Nat.le_refl _) ?_; intro w1 hown hg; have hb1 : Below w.heap.size w w1 := (Below.refl _ w).grown hg (Nat.le_refl _) (fun j h => by cases h); have hD1 := Lib.hid (hD.out.below hb1))
    | (refine wpList_load_mid rfl _ _ rfl b 0 rfl (bC d.bs) _ hD1.out.range Tryz.underlying76 rfl (image_info.trans (by rw [bC_len, hD1.out.2])) ?_))
  go_loopw [3, 13] (fun v i wr => ∃ k : Nat, i = .int .i64 k ∧ k ≤ 8 ∧ wr.ownsRow w.heap.size 5 1 v (32 * k) (bC (d.bs.take (32 * k))) ∧ Below w.heap.size w wr) (fun _ i _ => 8 - (intOf i).toNat)
  case atStart => exact ⟨0, rfl, by omega, hown, hb1⟩
  case round =>
    obtain ⟨k, rfl, hk, hown, hbl⟩ := hrel
    clear hb1 hD1 hg
    by_cases hlt : k < 8
    · have i1 : (k : Int) < 8 := by omega
      have i2 : (0 : Int) ≤ (k : Int) := by omega
      have i3 : (k : Int).toNat = k := Int.toNat_natCast k
      have hidx := run_index_sector d.bs hD.out.2 k hlt
      obtain ⟨L, hL⟩ : ∃ L, (d.bs.drop (k * 32)).take 32 = L := ⟨_, rfl⟩
      have hLl : L.length = 32 := by rw [← hL, List.length_take, List.length_drop, hD.out.2]; omega
      have hLa : d.bs.take (32 * k) ++ L = d.bs.take (32 * (k + 1)) := by
        rw [← hL, Nat.mul_comm k 32, show 32 * (k + 1) = 32 * k + 32 from by omega, List.take_add]
      rw [hL] at hidx
      have HL := Lib.hid hLl
      have HA := Lib.hid hLa
      clear hL hLl hLa
      go_wp2_with (first
        | (refine wpList_store_mid rfl _ _ _ rfl wr.heap.size 0 (bC L).toArray rfl rfl (there_blk (blk_new wr _) 0 _ (by simp [bC_len, HL.out])) (sector_info.trans (by simp [bC_len, HL.out])) (all_oneCell_toArray (bC_one L)) ?_; generalize hW3 : World.setCells (World.alloc wr _) _ _ _ = W3; have n3 : W3.heap[wr.heap.size]? = some (.cells (bC L).toArray 75 (0, 0)) ∧ Below wr.heap.size wr W3 := (by rw [← hW3]; exact new_row wr _ _ (bC L) (by rw [bC_len, HL.out]; rfl)); clear hW3; have hb3 := below_then hbl n3.2; have hown3 := ownsRow_below hown n3.2)
        | (at_builtin; (refine wpList_append_own _ rfl _ _ 26 rfl w.heap.size 5 i0 (.int .u8 0) 1 1 Tryz.underlying26 hi hz0 hz1 hz2 rfl (by decide) _ _ _ rfl hown3 ⟨wr.heap.size, 0, none⟩ 32 32 (bC L) rfl ?a1 ?a2 ?a3 ?a4 ?a5 ?a6 ?_)))
      case a1 => rw [bC_len, HL.out]
      case a2 => intro j u hu; rw [Addr.add_mid, Nat.zero_add, blk_cell n3.1]; simpa using hu
      case a3 => exact bC_one L
      case a4 => unfold maxLen; omega
      case a5 => omega
      case a6 => exact hb3.size
      intro v' w4 hown4 hg4 hv4
      have hb4 := hb3.grown hg4 hb3.size (fun j hj => (hown3.lt _ hj).1)
      rw [show bC (d.bs.take (32 * k)) ++ bC L = bC (d.bs.take (32 * (k + 1))) from by rw [← HA.out]; unfold bC; rw [List.map_append], show 32 * k + 32 = 32 * (k + 1) from by omega] at hown4
      clear hown hown3 hg4 n3 hb3 hbl
      go_wp2
      go_roundw
      case rel => exact ⟨k + 1, by go_num, by omega, hown4, hb4⟩
      case measure => simp [intOf]; omega
    · obtain rfl : k = 8 := by omega
      rw [List.take_of_length_le (by rw [hD.out.2]; omega)] at hown
      go_wp2
      go_ret
      exact ⟨_, rfl, hown, hbl⟩
end Go.Proofs.YtbjlnlgknegbnaaGreatDoor
namespace Go.Proofs.YtbjlnlgknegbnaaGreatDoor
set_option linter.unusedVariables false
set_option linter.unusedSimpArgs false
open Go.RowKit

set_option maxRecDepth 100000 in
theorem clone_any (p : Addr) (n c : Nat) (l : List Nat) (w : World) (hl : l.length = n) (h0 : n ≤ 1000000) (hc : ∀ j u, (bC l)[j]? = some u → w.cell? (p.add j) = some u ∧ (p.add j).block < w.heap.size) :
    Calls Tryz.prog 84 #[.slice (some p) n c] w fun e w' => ∃ v, e = .returned v ∧ w'.ownsRow w.heap.size 5 1 v n (bC l) ∧ Below w.heap.size w w' := by
  obtain ⟨i0, hi, hz0, hz1, hz2⟩ := info_parts Tryz.infoByte
  have HL := Lib.hid hl
  have HC := Lib.hid hc
  clear hl hc
  go_enter Tryz.func84, Tryz.ntmps84
  have hnil : ∀ w, (binOp .eql 26 (.slice (some p) n c) (.slice none 0 0)).run Tryz.prog w = .ok (.bool false) w := fun w => by kernel_rfl
  go_wp2_with (at_builtin; refine wpList_append_own _ rfl _ _ 26 rfl w.heap.size 5 i0 (.int .u8 0) 1 1 Tryz.underlying26 hi hz0 hz1 hz2 rfl (by decide) _ 0 [] rfl (World.ownsRow_lit w #[] 0 (Nat.le_refl _) (by unfold maxLen; omega) rfl) p n c (bC l) rfl ?a1 ?a2 ?a3 ?a4 ?a5 ?a6 ?_)
  case a1 => rw [bC_len, HL.out]; omega
  case a2 => intro j u hu; rw [World.cell?_alloc_old _ _ _ (Nat.ne_of_lt (HC.out j u hu).2)]; exact (HC.out j u hu).1
  case a3 => exact bC_one l
  case a4 => unfold maxLen; omega
  case a5 => omega
  case a6 => simp
  intro v' w4 hown4 hg4 hv4
  go_wp2
  go_ret
  exact ⟨_, rfl, hown4, ((Below.refl _ w).alloc (Nat.le_refl _) _).grown hg4 (by simp) (fun j hj => by cases hj; exact Nat.le_refl _)⟩
set_option maxRecDepth 100000 in
set_option maxHeartbeats 1000000 in
theorem read_any (b : Nat) (d : Dk) (s : Int) (w : World) (h : DkAt w b d) :
    Calls Tryz.prog 67 #[.pointer (some ⟨b, 0, none⟩), .int .i64 s] w fun e w' => ∃ v, e = .returned (.tuple #[v, .int .i64 (mayV d s)]) ∧ (mayV d s ≠ 0 → v = .slice none 0 0) ∧ (mayV d s = 0 → w'.ownsRow w.heap.size 5 1 v 32 (bC ((d.bs.drop (s.toNat * 32)).take 32))) ∧ Below w.heap.size w w' := by
  have HM := Lib.hid (may_any b d s w h)
  go_enter Tryz.func67, Tryz.ntmps67
  go_wp2_with fail
  refine HM.out.mono ?_
  rintro e w1 ⟨rfl, hB1⟩
  have h1 := h.below hB1
  by_cases hm : mayV d s = 0
  · obtain ⟨k, rfl, hk, hoff⟩ := mayV_nat hm
    rw [hm]
    have k0 : (k : Int) < 8 := by omega
    have k1 : (0 : Int) ≤ (k : Int) := by omega
    have k2 : (k : Int).toNat = k := Int.toNat_natCast k
    have HMV := Lib.hid hm
    clear hm HM
    go_wp2_with fail
    refine (image_any b d _ h1).mono ?_
    rintro e w2 ⟨v, rfl, hown, hB2⟩
    obtain ⟨g, cap, rfl, hg1, hg2⟩ := ownsRow_pos hown (by omega)
    have hcap : 256 ≤ cap := by
      rcases hown.2 with ⟨h', _⟩ | ⟨g', cap', cur, h', _, _, hnc, _⟩
      · simp at h'
      · injection h' with _ _ h'; omega
    have q1 : ((k : Int) + 1) * 32 ≤ (cap : Int) := by omega
    have q2 : (0 : Int) ≤ ((k : Int) + 1) * 32 := by omega
    have q3 : (0 : Int) ≤ (k : Int) * 32 := by omega
    have q4 : (k : Int) * 32 ≤ ((k : Int) + 1) * 32 := by omega
    have q5 : (k + 1) * 32 - k * 32 = 32 := by omega
    have q6 : ¬ (k + 1) * 32 = k * 32 := by omega
    go_wp2_with fail
    refine (clone_any _ 32 32 ((d.bs.drop (k * 32)).take 32) w2 (by rw [List.length_take, List.length_drop, h1.2]; omega) (by omega) ?_).mono ?_
    · intro j u hu
      unfold bC at hu
      rw [List.map_take, List.map_drop, List.getElem?_take] at hu
      rw [Addr.add_mid]
      refine ⟨?_, hg2⟩
      split at hu
      · rw [List.getElem?_drop] at hu
        rw [hown.cellAt _ (by omega)]
        exact hu
      · cases hu
    · rintro e w3 ⟨v3, rfl, hown3, hB3⟩
      go_wp2_with fail
      go_ret2
      exact ⟨_, by rw [HMV.out]; rfl, fun h => absurd HMV.out h, fun _ => ownsRow_base hown3 (Nat.le_trans hB1.size hB2.size), below_then (below_then hB1 hB2) hB3⟩
  · have hne : (mayV d s != 0) = true := by simpa using hm
    have HMV := Lib.hid hm
    clear hm HM
    go_wp2_with fail
    go_ret2
    exact ⟨_, rfl, fun _ => rfl, fun h => absurd h HMV.out, hB1⟩
end Go.Proofs.YtbjlnlgknegbnaaGreatDoor
namespace Go.Proofs.YtbjlnlgknegbnaaGreatDoor
set_option linter.unusedVariables false
set_option linter.unusedSimpArgs false
open Go.RowKit

theorem bytes_row {W : World} {B g n c b : Nat} {l : List Nat} (h : W.ownsRow B 5 1 (.slice (some ⟨g, 0, none⟩) n c) n (bC l)) (hl : l.length = n) (hg : g ≠ b) : Bytes W b (.slice (some ⟨g, 0, none⟩) n c) l := by
  subst hl
  refine ⟨_, _, rfl, fun j x hx => ⟨_, rfl, hg, ?_⟩⟩
  have hj := (List.getElem?_eq_some_iff.1 hx).1
  rw [Addr.add_mid, Nat.zero_add, h.cellAt j (by omega)]
  unfold bC
  rw [List.getElem?_map, hx]; rfl
def aL : List Nat := (List.replicate 32 0).set 5 9
def aD : Dk := ⟨putS (List.replicate 256 0) 1 aL, false, false, 0, 1⟩
theorem aD_is : wrV Dk.new 1 aL = (aD, 0) := by
  unfold wrV
  rw [if_pos (by rfl), if_pos (by decide +kernel), if_neg (by show ¬ false = true; decide)]
  rfl
theorem aD_row : (aD.bs.drop (Int.toNat 1 * 32)).take 32 = aL := by decide +kernel
theorem aL_five : (bC aL)[5]? = some (.int .u8 9) := by rfl
theorem aL_set : (bC (List.replicate 32 0)).set 5 (.int .u8 9) = bC aL := by rfl
end Go.Proofs.YtbjlnlgknegbnaaGreatDoor
namespace Go.Proofs.YtbjlnlgknegbnaaGreatDoor
set_option linter.unusedVariables false
set_option linter.unusedSimpArgs false
open Go.RowKit

theorem may_nil (s : Int) (w : World) : Calls Tryz.prog 83 #[.pointer none, .int .i64 s] w fun e w' => e = .returned (.int .i64 100) ∧ Below w.heap.size w w' := by
  have HO := Lib.hid (on_nil w)
  go_enter Tryz.func83, Tryz.ntmps83
  go_wp2_with (go_at_call 82; refine HO.out.mono ?_; rintro e w1 ⟨rfl, hB1⟩)
  go_ret
  exact ⟨rfl, hB1⟩
theorem write_nil (s : Int) (v : Value) (w : World) : Calls Tryz.prog 71 #[.pointer none, .int .i64 s, v] w fun e w' => e = .returned (.int .i64 100) ∧ Below w.heap.size w w' := by
  have HO := Lib.hid (may_nil s w)
  go_enter Tryz.func71, Tryz.ntmps71
  go_wp2_with (go_at_call 83; refine HO.out.mono ?_; rintro e w1 ⟨rfl, hB1⟩)
  go_ret
  exact ⟨rfl, hB1⟩
theorem read_nil (s : Int) (w : World) : Calls Tryz.prog 67 #[.pointer none, .int .i64 s] w fun e w' => e = .returned (.tuple #[.slice none 0 0, .int .i64 100]) ∧ Below w.heap.size w w' := by
  have HO := Lib.hid (may_nil s w)
  go_enter Tryz.func67, Tryz.ntmps67
  go_wp2_with (go_at_call 83; refine HO.out.mono ?_; rintro e w1 ⟨rfl, hB1⟩)
  go_ret2
  exact ⟨rfl, hB1⟩
end Go.Proofs.YtbjlnlgknegbnaaGreatDoor
namespace Go.Proofs.YtbjlnlgknegbnaaGreatDoor
set_option linter.unusedVariables false

def rowS (bs : List Nat) (s : Nat) : List Nat := (bs.drop (s * 32)).take 32
theorem rowS_len {bs : List Nat} (h : bs.length = 256) {s : Nat} (hs : s < 8) : (rowS bs s).length = 32 := by
  unfold rowS; rw [List.length_take, List.length_drop]; omega
theorem putS_get {bs l : List Nat} {k : Nat} (hb : bs.length = 256) (hk : k < 8) (hl : l.length = 32) (j : Nat) :
    (putS bs k l)[j]? = if j < 32 * k then bs[j]? else if j < 32 * k + 32 then l[j - 32 * k]? else bs[j]? := by
  unfold putS
  have h1 : (bs.take (32 * k)).length = 32 * k := by rw [List.length_take]; omega
  rw [List.getElem?_append, h1]
  by_cases c : j < 32 * k
  · rw [if_pos c, if_pos c, List.getElem?_take_of_lt c]
  · rw [if_neg c, if_neg c, List.getElem?_append, hl]
    by_cases c2 : j < 32 * k + 32
    · rw [if_pos (by omega), if_pos c2]
    · rw [if_neg (by omega), if_neg c2, List.getElem?_drop]; congr 1; omega
theorem putS_row {bs l : List Nat} {k : Nat} (hb : bs.length = 256) (hk : k < 8) (s : Nat) (hs : s < 8) (hl : l.length = 32) :
    ((putS bs k l).drop (s * 32)).take 32 = if s = k then l else (bs.drop (s * 32)).take 32 := by
  apply List.ext_getElem?
  intro j
  by_cases hj : j < 32
  · rw [List.getElem?_take_of_lt hj, List.getElem?_drop, putS_get hb hk hl]
    by_cases c : s = k
    · subst c
      rw [if_neg (by omega), if_pos (by omega), if_pos rfl]; congr 1; omega
    · rw [if_neg c, List.getElem?_take_of_lt hj, List.getElem?_drop]
      by_cases c2 : s < k
      · rw [if_pos (by omega)]
      · rw [if_neg (by omega), if_neg (by omega)]
  · rw [List.getElem?_eq_none (by rw [List.length_take]; omega)]
    symm
    apply List.getElem?_eq_none
    split
    · omega
    · rw [List.length_take]; omega
theorem wrV_cases (d : Dk) (s : Int) (l : List Nat) (hl : l.length = 32) :
    ((wrV d s l).2 = 0 ∧ ∃ k : Nat, s = k ∧ k < 8 ∧ (wrV d s l).1.bs = putS d.bs k l ∧ (wrV d s l).1.writes = d.writes + 1 ∧ (wrV d s l).1.fuse ≤ d.fuse ∧ (wrV d s l).1.off = d.off ∧ d.off = false) ∨
    ((wrV d s l).2 ≠ 0 ∧ (wrV d s l).1.bs = d.bs ∧ (wrV d s l).1.writes = d.writes ∧ (wrV d s l).1.fuse = d.fuse) := by
  unfold wrV
  by_cases hm : mayV d s = 0
  · obtain ⟨k, rfl, hk, ho⟩ := mayV_nat hm
    rw [if_pos hm, if_pos hl]
    cases hf : d.fused with
    | true =>
      rw [if_pos rfl]
      by_cases h0 : d.fuse = 0
      · rw [if_pos h0]; exact .inr ⟨by show (100 : Int) ≠ 0; decide, rfl, rfl, rfl⟩
      · rw [if_neg h0]; exact .inl ⟨rfl, k, rfl, hk, by rw [Int.toNat_natCast], rfl, by show d.fuse - 1 ≤ d.fuse; omega, rfl, ho⟩
    | false =>
      rw [if_neg (by decide)]; exact .inl ⟨rfl, k, rfl, hk, by rw [Int.toNat_natCast], rfl, Nat.le_refl _, rfl, ho⟩
  · rw [if_neg hm]; exact .inr ⟨hm, rfl, rfl, rfl⟩
theorem wrV_len {d : Dk} (h : d.bs.length = 256) (s : Int) (l : List Nat) (hl : l.length = 32) : (wrV d s l).1.bs.length = 256 := by
  rcases wrV_cases d s l hl with ⟨_, k, _, hk, hb, _⟩ | ⟨_, hb, _⟩
  · rw [hb]; exact putS_len h hk hl
  · rw [hb]; exact h

/-- Behind n writes of whole sectors: the last one of each place. -/
structure WhD (d : Dk) (last : List Nat) (n : Nat) : Prop where
  len : d.bs.length = 256
  many : last.length = 8
  rows : ∀ s v : Nat, last[s]? = some v → (d.bs.drop (s * 32)).take 32 = if v = 0 then List.replicate 32 0 else secL (v : Int)
  le : d.writes ≤ n
  fz : d.fuse ≤ 9223372036854775807
  small : ∀ s v : Nat, last[s]? = some v → v ≤ n
theorem whD_step {d : Dk} {last : List Nat} {n : Nat} (h : WhD d last n) (s : Nat) (hs : s < 8) :
    ((wrV d (s : Int) (secL ((n : Int) + 1))).2 = 0 ∧ WhD (wrV d (s : Int) (secL ((n : Int) + 1))).1 (last.set s (n + 1)) (n + 1)) ∨
    ((wrV d (s : Int) (secL ((n : Int) + 1))).2 ≠ 0 ∧ WhD (wrV d (s : Int) (secL ((n : Int) + 1))).1 last (n + 1)) := by
  have hl : (secL ((n : Int) + 1)).length = 32 := by unfold secL; simp
  obtain ⟨a1, a2, a3, a4, a5, a6⟩ := h
  rcases wrV_cases d (s : Int) (secL ((n : Int) + 1)) hl with ⟨h0, k, hk, hk8, hb, hw, hf, _⟩ | ⟨h0, hb, hw, hf⟩
  · obtain rfl : s = k := by omega
    refine .inl ⟨h0, ⟨by rw [hb]; exact putS_len a1 hk8 hl, by rw [List.length_set]; exact a2, fun j v hv => ?_, by omega, by omega, fun j v hv => ?_⟩⟩
    · have hj : j < 8 := by have := (List.getElem?_eq_some_iff.1 hv).1; rw [List.length_set] at this; omega
      rw [hb, putS_row a1 hk8 j hj hl]
      rw [List.getElem?_set] at hv
      by_cases c : s = j
      · subst c
        rw [if_pos rfl, if_pos (by omega)] at hv
        cases hv
        rw [if_pos rfl, if_neg (by omega)]; rfl
      · rw [if_neg c] at hv
        rw [if_neg (fun e => c e.symm)]
        exact a3 j v hv
    · rw [List.getElem?_set] at hv
      split at hv
      · split at hv
        · cases hv; omega
        · cases hv
      · have := a6 j v hv; omega
  · exact .inr ⟨h0, ⟨by rw [hb]; exact a1, a2, fun j v hv => by rw [hb]; exact a3 j v hv, by omega, by omega, fun j v hv => by have := a6 j v hv; omega⟩⟩
end Go.Proofs.YtbjlnlgknegbnaaGreatDoor
namespace Go.Proofs.YtbjlnlgknegbnaaGreatDoor
set_option linter.unusedVariables false

/-- A number in n bytes, the highest one first. -/
def be (n x : Nat) : List Nat := (List.range n).map fun i => x / 256 ^ (n - 1 - i) % 256
theorem be_len (n x : Nat) : (be n x).length = n := by simp [be]
theorem be_succ (n x : Nat) : be (n + 1) x = (x / 256 ^ n % 256) :: be n x := by
  unfold be
  rw [List.range_succ_eq_map, List.map_cons, List.map_map]
  congr 1
  refine List.map_congr_left fun i hi => ?_
  show x / 256 ^ (n + 1 - 1 - (i + 1)) % 256 = _
  rw [show n + 1 - 1 - (i + 1) = n - 1 - i from by omega]
theorem be_lt (n x : Nat) : ∀ c ∈ be n x, c < 256 := by
  intro c hc
  obtain ⟨i, _, rfl⟩ := List.mem_map.1 hc
  exact Nat.mod_lt _ (by decide)
/-- What the bytes tell; what is too great is told as one number that is. -/
def takeF : Nat → List Nat → Nat
  | x, [] => x
  | x, c :: l => if 281474976710656 ≤ x then 72057594037927936 else takeF (x * 256 + c) l
theorem takeF_be : ∀ (n x y : Nat), x * 256 ^ n + y % 256 ^ n ≤ 281474976710656 → takeF x (be n y) = x * 256 ^ n + y % 256 ^ n
  | 0, x, y, _ => by show x = _; simp [Nat.mod_one]
  | n + 1, x, y, h => by
    have hp : 0 < 256 ^ n := Nat.pow_pos (by decide)
    have hpe : 256 ^ (n + 1) = 256 ^ n * 256 := Nat.pow_succ 256 n
    have hm : y % 256 ^ (n + 1) = 256 ^ n * (y / 256 ^ n % 256) + y % 256 ^ n := by
      rw [hpe, Nat.mod_mul]; omega
    have h2 : (x * 256 + y / 256 ^ n % 256) * 256 ^ n + y % 256 ^ n = x * 256 ^ (n + 1) + y % 256 ^ (n + 1) := by
      rw [hm, hpe, Nat.add_mul, Nat.mul_assoc, Nat.mul_comm 256 (256 ^ n), Nat.mul_comm (y / 256 ^ n % 256) (256 ^ n)]; omega
    rw [be_succ]
    show (if 281474976710656 ≤ x then 72057594037927936 else takeF (x * 256 + y / 256 ^ n % 256) (be n y)) = _
    have hx : ¬ 281474976710656 ≤ x := by
      intro hx
      have h3 : x * 256 ≤ x * 256 ^ (n + 1) := Nat.mul_le_mul_left x (by rw [hpe]; exact Nat.le_mul_of_pos_left _ hp)
      omega
    rw [if_neg hx, takeF_be n _ y (by rw [h2]; exact h), h2]
/-- A record that may be, and its number. -/
structure Rc where
  life : Nat
  round : Nat
  tag : Nat
  seq : Nat
def Rc.may (r : Rc) : Prop := 1 ≤ r.life ∧ r.life ≤ 1073741824 ∧ r.round ≤ 1099511627775 ∧ r.tag ≤ 1048576 ∧ 1 ≤ r.seq ∧ r.seq ≤ 1099511627776
instance (r : Rc) : Decidable r.may := by unfold Rc.may; infer_instance
def encL (r : Rc) : List Nat := [101, 97, 114, 49] ++ (be 8 r.seq ++ (be 4 r.life ++ (be 5 r.round ++ (List.replicate 11 0 ++ ([101, 97, 114, 50] ++ (be 8 r.seq ++ (be 3 r.tag ++ List.replicate 17 0)))))))
theorem encL_len (r : Rc) : (encL r).length = 64 := by simp [encL, be_len]
theorem encL_lt (r : Rc) : ∀ c ∈ encL r, c < 256 := by
  intro c hc
  unfold encL at hc
  simp only [List.mem_append] at hc
  rcases hc with h | h | h | h | h | h | h | h | h
  · have h1 : ∀ c ∈ [101, 97, 114, 49], c < 256 := by decide
    exact h1 c h
  · exact be_lt _ _ c h
  · exact be_lt _ _ c h
  · exact be_lt _ _ c h
  · rw [(List.mem_replicate.1 h).2]; decide
  · have h1 : ∀ c ∈ [101, 97, 114, 50], c < 256 := by decide
    exact h1 c h
  · exact be_lt _ _ c h
  · exact be_lt _ _ c h
  · rw [(List.mem_replicate.1 h).2]; decide
/-- The record that the bytes would be of. -/
def rcOf (l : List Nat) : Rc := ⟨takeF 0 ((l.drop 12).take 4), takeF 0 ((l.drop 16).take 5), takeF 0 ((l.drop 44).take 3), takeF 0 ((l.drop 4).take 8)⟩
def decL (l : List Nat) : Option Rc := if (rcOf l).may ∧ encL (rcOf l) = l then some (rcOf l) else none
theorem take_be {n x : Nat} (h : x < 256 ^ n) (h2 : x ≤ 281474976710656) : takeF 0 (be n x) = x := by
  rw [takeF_be n 0 x (by rw [Nat.mod_eq_of_lt h]; omega), Nat.mod_eq_of_lt h]; omega
theorem drop_app {α : Type} {a b : List α} {n : Nat} (h : a.length = n) (k : Nat) : (a ++ b).drop (n + k) = b.drop k := by
  rw [List.drop_append, List.drop_of_length_le (by omega), List.nil_append, h]; congr 1; omega
theorem take_app {α : Type} {a b : List α} {n : Nat} (h : a.length = n) : (a ++ b).take n = a := by
  rw [← h]; exact List.take_left
theorem rcOf_enc {r : Rc} (h : r.may) : rcOf (encL r) = r := by
  obtain ⟨h1, h2, h3, h4, h5, h6⟩ := h
  obtain ⟨life, round, tag, seq⟩ := r
  simp only at h1 h2 h3 h4 h5 h6
  have e1 : (encL ⟨life, round, tag, seq⟩).drop 4 = be 8 seq ++ (be 4 life ++ (be 5 round ++ (List.replicate 11 0 ++ ([101, 97, 114, 50] ++ (be 8 seq ++ (be 3 tag ++ List.replicate 17 0)))))) := drop_app (n := 4) rfl 0
  have e2 : (encL ⟨life, round, tag, seq⟩).drop 12 = be 4 life ++ (be 5 round ++ (List.replicate 11 0 ++ ([101, 97, 114, 50] ++ (be 8 seq ++ (be 3 tag ++ List.replicate 17 0))))) := by
    rw [show (12 : Nat) = 4 + 8 from rfl, ← List.drop_drop, e1]; exact drop_app (n := 8) (be_len 8 _) 0
  have e3 : (encL ⟨life, round, tag, seq⟩).drop 16 = be 5 round ++ (List.replicate 11 0 ++ ([101, 97, 114, 50] ++ (be 8 seq ++ (be 3 tag ++ List.replicate 17 0)))) := by
    rw [show (16 : Nat) = 12 + 4 from rfl, ← List.drop_drop, e2]; exact drop_app (n := 4) (be_len 4 _) 0
  have e4 : (encL ⟨life, round, tag, seq⟩).drop 44 = be 3 tag ++ List.replicate 17 0 := by
    rw [show (44 : Nat) = 16 + 28 from rfl, ← List.drop_drop, e3, show (28 : Nat) = 5 + 23 from rfl, drop_app (n := 5) (be_len 5 _) 23, show (23 : Nat) = 11 + 12 from rfl, drop_app (n := 11) (by simp) 12, show (12 : Nat) = 4 + 8 from rfl, drop_app (n := 4) rfl 8]
    exact drop_app (n := 8) (be_len 8 _) 0
  unfold rcOf
  rw [e1, e2, e3, e4, take_app (be_len 8 _), take_app (be_len 4 _), take_app (be_len 5 _), take_app (be_len 3 _),
    take_be (n := 4) (by omega) (by omega), take_be (n := 5) (by omega) (by omega), take_be (n := 3) (by omega) (by omega), take_be (n := 8) (by omega) (by omega)]
theorem decL_enc {r : Rc} (h : r.may) : decL (encL r) = some r := by
  unfold decL
  rw [rcOf_enc h, if_pos ⟨h, rfl⟩]
theorem decL_some {l : List Nat} {r : Rc} (h : decL l = some r) : r.may ∧ l = encL r := by
  unfold decL at h
  split at h
  · rename_i hc
    cases h
    exact ⟨hc.1, hc.2.symm⟩
  · cases h
end Go.Proofs.YtbjlnlgknegbnaaGreatDoor
namespace Go.Proofs.YtbjlnlgknegbnaaGreatDoor
set_option linter.unusedVariables false

def slotB (bs : List Nat) (i : Nat) : List Nat := rowS bs (2 * i) ++ rowS bs (2 * i + 1)
def Rc.zero : Rc := ⟨0, 0, 0, 0⟩
def pick (b : Rc × Int) (i : Int) (o : Option Rc) : Rc × Int := match o with | some r => if b.1.seq < r.seq then (r, i) else b | none => b
def bestL (bs : List Nat) : Rc × Int := pick (pick (Rc.zero, -1) 0 (decL (slotB bs 0))) 1 (decL (slotB bs 1))
def mayR (a b c : Int) : Prop := 1 ≤ a ∧ a ≤ 1073741824 ∧ 0 ≤ b ∧ b ≤ 1099511627775 ∧ 0 ≤ c ∧ c ≤ 1048576
instance (a b c : Int) : Decidable (mayR a b c) := by unfold mayR; infer_instance
/-- Where a save goes. -/
def toL (bs : List Nat) : Nat := if (bestL bs).2 = 0 then 1 else 0
def nxL (bs : List Nat) (a b c : Int) : List Nat := encL ⟨a.toNat, b.toNat, c.toNat, (bestL bs).1.seq + 1⟩
def saveV (d : Dk) (a b c : Int) : Dk × Int :=
  if mayR a b c then
    if d.off then (d, 100)
    else if 1099511627776 ≤ (bestL d.bs).1.seq then (d, 120)
    else if (wrV d ((2 * toL d.bs : Nat) : Int) ((nxL d.bs a b c).take 32)).2 = 0 then wrV (wrV d ((2 * toL d.bs : Nat) : Int) ((nxL d.bs a b c).take 32)).1 ((2 * toL d.bs + 1 : Nat) : Int) ((nxL d.bs a b c).drop 32)
    else wrV d ((2 * toL d.bs : Nat) : Int) ((nxL d.bs a b c).take 32)
  else (d, 1)
/- The two halves of a slot's bytes. -/
def hA (r : Rc) : List Nat := (encL r).take 32
def hB (r : Rc) : List Nat := (encL r).drop 32
theorem hAB (r : Rc) : hA r ++ hB r = encL r := List.take_append_drop 32 _
theorem hA_len (r : Rc) : (hA r).length = 32 := by unfold hA; rw [List.length_take, encL_len]; rfl
theorem hB_len (r : Rc) : (hB r).length = 32 := by unfold hB; rw [List.length_drop, encL_len]
theorem hA_is (r : Rc) : hA r = [101, 97, 114, 49] ++ (be 8 r.seq ++ (be 4 r.life ++ (be 5 r.round ++ List.replicate 11 0))) := by
  have h : encL r = ([101, 97, 114, 49] ++ (be 8 r.seq ++ (be 4 r.life ++ (be 5 r.round ++ List.replicate 11 0)))) ++ ([101, 97, 114, 50] ++ (be 8 r.seq ++ (be 3 r.tag ++ List.replicate 17 0))) := by
    unfold encL; simp only [List.append_assoc]
  unfold hA
  rw [h, take_app (n := 32) (by simp [be_len])]
theorem hB_is (r : Rc) : hB r = [101, 97, 114, 50] ++ (be 8 r.seq ++ (be 3 r.tag ++ List.replicate 17 0)) := by
  have h : encL r = ([101, 97, 114, 49] ++ (be 8 r.seq ++ (be 4 r.life ++ (be 5 r.round ++ List.replicate 11 0)))) ++ ([101, 97, 114, 50] ++ (be 8 r.seq ++ (be 3 r.tag ++ List.replicate 17 0))) := by
    unfold encL; simp only [List.append_assoc]
  unfold hB
  rw [h]; exact drop_app (n := 32) (by simp [be_len]) 0
/-- Two halves of one number are a slot. -/
theorem halves_same {r s : Rc} (h : r.seq = s.seq) : hA r ++ hB s = encL ⟨r.life, r.round, s.tag, r.seq⟩ := by
  have e1 : hA r = hA ⟨r.life, r.round, s.tag, r.seq⟩ := by rw [hA_is, hA_is]
  have e2 : hB s = hB ⟨r.life, r.round, s.tag, r.seq⟩ := by rw [hB_is, hB_is, h]
  rw [← hAB, e1, e2]
theorem be_inj {n x y : Nat} (hx : x < 256 ^ n) (hy : y < 256 ^ n) (h2 : x ≤ 281474976710656) (h3 : y ≤ 281474976710656) (h : be n x = be n y) : x = y := by
  rw [← take_be hx h2, ← take_be hy h3, h]
theorem hA_inj {r s : Rc} (hr : r.may) (hs : s.may) (h : hA r = hA s) : r.life = s.life ∧ r.round = s.round ∧ r.seq = s.seq := by
  rw [hA_is, hA_is] at h
  obtain ⟨r1, r2, r3, r4, r5, r6⟩ := hr
  obtain ⟨s1, s2, s3, s4, s5, s6⟩ := hs
  have h1 := List.append_cancel_left h
  have e8 := (List.append_inj h1 (by rw [be_len, be_len]))
  have e4 := (List.append_inj e8.2 (by rw [be_len, be_len]))
  have e5 := (List.append_inj e4.2 (by rw [be_len, be_len]))
  exact ⟨be_inj (n := 4) (by omega) (by omega) (by omega) (by omega) e4.1, be_inj (n := 5) (by omega) (by omega) (by omega) (by omega) e5.1, be_inj (n := 8) (by omega) (by omega) (by omega) (by omega) e8.1⟩
theorem hB_inj {r s : Rc} (hr : r.may) (hs : s.may) (h : hB r = hB s) : r.tag = s.tag ∧ r.seq = s.seq := by
  rw [hB_is, hB_is] at h
  obtain ⟨r1, r2, r3, r4, r5, r6⟩ := hr
  obtain ⟨s1, s2, s3, s4, s5, s6⟩ := hs
  have h1 := List.append_cancel_left h
  have e8 := (List.append_inj h1 (by rw [be_len, be_len]))
  have e3 := (List.append_inj e8.2 (by rw [be_len, be_len]))
  exact ⟨be_inj (n := 3) (by omega) (by omega) (by omega) (by omega) e3.1, be_inj (n := 8) (by omega) (by omega) (by omega) (by omega) e8.1⟩
theorem halves_other {r s : Rc} (hr : r.may) (hs : s.may) (h : r.seq ≠ s.seq) : decL (hA r ++ hB s) = none := by
  cases hd : decL (hA r ++ hB s) with
  | none => rfl
  | some t =>
    obtain ⟨ht, he⟩ := decL_some hd
    rw [← hAB t] at he
    obtain ⟨e1, e2⟩ := List.append_inj he (by rw [hA_len, hA_len])
    exact absurd ((hA_inj hr ht e1).2.2.trans (hB_inj hs ht e2).2.symm) h
theorem blank_half (l : List Nat) (hl : l.length = 32) : decL (List.replicate 32 0 ++ l) = none := by
  cases hd : decL (List.replicate 32 0 ++ l) with
  | none => rfl
  | some t =>
    obtain ⟨ht, he⟩ := decL_some hd
    have := congrArg List.head? he
    simp [encL] at this
theorem half_blank (r : Rc) : decL (hA r ++ List.replicate 32 0) = none := by
  cases hd : decL (hA r ++ List.replicate 32 0) with
  | none => rfl
  | some t =>
    obtain ⟨ht, he⟩ := decL_some hd
    rw [← hAB t] at he
    obtain ⟨e1, e2⟩ := List.append_inj he (by rw [hA_len, hA_len])
    rw [hB_is] at e2
    have := congrArg List.head? e2
    simp at this
theorem decL_one {r : Rc} (h : r.may) : decL (hA r ++ hB r) = some r := by rw [hAB]; exact decL_enc h
/- What a write leaves of the rows. -/
theorem rowS_put {bs l : List Nat} {k s : Nat} (hb : bs.length = 256) (hk : k < 8) (hs : s < 8) (hl : l.length = 32) : rowS (putS bs k l) s = if s = k then l else rowS bs s := putS_row hb hk s hs hl
end Go.Proofs.YtbjlnlgknegbnaaGreatDoor
namespace Go.Proofs.YtbjlnlgknegbnaaGreatDoor
set_option linter.unusedVariables false
set_option linter.unusedSimpArgs false
open Go.RowKit

/-- A local array of numbers. -/
def laC (l : List Nat) : Array Value := (l.map fun x : Nat => Value.int .i64 (x : Int)).toArray
theorem laC_get {l : List Nat} {s v : Nat} (h : l[s]? = some v) : (laC l)[s]? = some (.int .i64 (v : Int)) := by
  unfold laC; rw [List.getElem?_toArray, List.getElem?_map, h]; rfl
theorem laC_set (l : List Nat) (s v : Nat) : (laC l).setIfInBounds s (.int .i64 (v : Int)) = laC (l.set s v) := by
  unfold laC; rw [List.setIfInBounds_toArray, List.map_set]
/-- A part of a row of bytes that the call owns. -/
theorem row_part {W : World} {B g n c o : Nat} {l m : List Nat} (h : W.ownsRow B 5 1 (.slice (some ⟨g, 0, none⟩) n c) n (bC l)) (hl : l.length = n) (hm : ∀ j x, m[j]? = some x → l[o + j]? = some x) :
    ∀ j x, m[j]? = some x → ∃ b, some (⟨g, o, none⟩ : Addr) = some b ∧ W.cell? (b.add j) = some (.int .u8 (x : Nat)) := by
  intro j x hx
  have h2 := hm j x hx
  have hj := (List.getElem?_eq_some_iff.1 h2).1
  refine ⟨_, rfl, ?_⟩
  rw [Addr.add_mid, h.cellAt _ (by omega)]
  unfold bC
  rw [List.getElem?_map, h2]; rfl
theorem rem_place (x : Int) : ∃ k : Nat, k < 8 ∧ ((Int.tmod x 8 = (k : Int)) ∨ (Int.tmod x 8 < 0 ∧ Int.tmod x 8 = (k : Int) - 8)) := by
  have h1 : Int.tmod x 8 < 8 := Int.tmod_lt_of_pos x (by decide)
  have h2 : -8 < Int.tmod x 8 := Int.lt_tmod_of_pos x (by decide)
  by_cases h : Int.tmod x 8 < 0
  · exact ⟨(Int.tmod x 8 + 8).toNat, by omega, .inr ⟨h, by omega⟩⟩
  · exact ⟨(Int.tmod x 8).toNat, by omega, .inl (by omega)⟩
end Go.Proofs.YtbjlnlgknegbnaaGreatDoor
namespace Go.Proofs.YtbjlnlgknegbnaaGreatDoor
set_option linter.unusedVariables false
open Go.RowKit

theorem DkAt.but {W W' : World} {b c : Nat} {d : Dk} (h : DkAt W b d) (hg : W.grownBy W' (some c)) (hne : b ≠ c) : DkAt W' b d := ⟨blk_grown hg h.1 (by simpa using hne), h.2⟩
theorem own_but {W W' : World} {B g n cp b : Nat} {e : TypeId} {xs : List Value} {sz : Nat} (h : W.ownsRow B e sz (.slice (some ⟨g, 0, none⟩) n cp) n xs) (hg : W.grownBy W' (some b)) (hne : g ≠ b) : W'.ownsRow B e sz (.slice (some ⟨g, 0, none⟩) n cp) n xs :=
  h.kept hg (.inr (by simp [Value.ownBlock]; omega))
theorem secL_len (v : Int) : (secL v).length = 32 := by unfold secL; simp
/-- Bytes that lie from a place on. -/
def CellsAt (W : World) (p : Addr) (l : List Nat) : Prop := ∀ j x, l[j]? = some x → ∃ b, some p = some b ∧ W.cell? (b.add j) = some (.int .u8 (x : Nat))
theorem CellsAt.below {W W' : World} {p : Addr} {l : List Nat} (h : CellsAt W p l) (hb : Below W.heap.size W W') : CellsAt W' p l := by
  intro j x hx
  obtain ⟨b, h1, h2⟩ := h j x hx
  exact ⟨b, h1, (hb.cell (cell_lt h2)).trans h2⟩
theorem CellsAt.but {W W' : World} {p : Addr} {l : List Nat} {b : Nat} (h : CellsAt W p l) (hg : W.grownBy W' (some b)) (hne : p.block ≠ b) : CellsAt W' p l := by
  intro j x hx
  obtain ⟨q, h1, h2⟩ := h j x hx
  cases h1
  refine ⟨_, rfl, ?_⟩
  obtain ⟨_, _, _, _, hgb⟩ := hg
  have hk := hgb (p.add j).block (cell_lt h2) (by rw [show (p.add j).block = p.block from by unfold Addr.add; split <;> rfl]; simpa using hne)
  unfold World.cell? at h2 ⊢
  rw [hk]; exact h2
theorem row_all {W : World} {B g n c : Nat} {l : List Nat} (h : W.ownsRow B 5 1 (.slice (some ⟨g, 0, none⟩) n c) n (bC l)) (hl : l.length = n) : CellsAt W ⟨g, 0, none⟩ l :=
  row_part (o := 0) h hl (fun j x hx => by rw [Nat.zero_add]; exact hx)
theorem row_cap {W : World} {B g n c : Nat} {e : TypeId} {sz : Nat} {xs : List Value} (h : W.ownsRow B e sz (.slice (some ⟨g, 0, none⟩) n c) n xs) : n ≤ c := by
  rcases h.2 with ⟨h', _⟩ | ⟨g', cap', cur, h', _, _, hnc, _⟩
  · simp at h'
  · injection h' with _ _ h'; omega
end Go.Proofs.YtbjlnlgknegbnaaGreatDoor
namespace Go.Proofs.YtbjlnlgknegbnaaGreatDoor
set_option linter.unusedVariables false
set_option linter.unusedSimpArgs false
open Go.RowKit

theorem bits_or_i64 (a b : Nat) (ha : a < 9223372036854775808) (hb : b < 9223372036854775808) : bits .or .i64 (a : Int) (b : Int) = ((a ||| b : Nat) : Int) := by
  have h3 : a ||| b < 2 ^ 63 := Nat.or_lt_two_pow (by omega) (by omega)
  have h1 : (BitVec.ofInt 64 (a : Int)).toNat = a := by rw [BitVec.ofInt_natCast, BitVec.toNat_ofNat]; exact Nat.mod_eq_of_lt (by omega)
  have h2 : (BitVec.ofInt 64 (b : Int)).toNat = b := by rw [BitVec.ofInt_natCast, BitVec.toNat_ofNat]; exact Nat.mod_eq_of_lt (by omega)
  show IntKind.i64.wrap ((BitVec.ofInt 64 (a : Int) ||| BitVec.ofInt 64 (b : Int)).toNat : Int) = _
  rw [BitVec.toNat_or, h1, h2, IntKind.wrap_i64]
  omega
theorem or_shift (x c : Nat) (hx : x < 281474976710656) (hc : c < 256) : bits .or .i64 ((x : Int) * 256) (c : Int) = ((x * 256 + c : Nat) : Int) := by
  have h := bits_or_i64 (x * 256) c (by omega) (by omega)
  rw [show ((x * 256 : Nat) : Int) = (x : Int) * 256 from by omega] at h
  rw [h, show x * 256 = 2 ^ 8 * x from by omega, ← Nat.two_pow_add_eq_or_of_lt (by omega)]
/-- A record as a value. -/
def recV (a b c : Int) : Value := .agg #[.int .i64 a, .int .i64 b, .int .i64 c]
def keptV (r : Rc) : Value := .agg #[.int .i64 (r.life : Int), .int .i64 (r.round : Int), .int .i64 (r.tag : Int), .int .i64 (r.seq : Int)]
set_option maxRecDepth 100000 in
theorem mayBe_any (a b c : Int) (w : World) : Calls Tryz.prog 69 #[recV a b c] w fun e w' => e = .returned (.bool (decide (mayR a b c))) ∧ Below w.heap.size w w' := by
  unfold recV
  have HB : Below w.heap.size w (w.alloc (.cells #[.int .i64 a, .int .i64 b, .int .i64 c] 35)) := (Below.refl _ w).alloc (Nat.le_refl _) _
  by_cases h1 : 1 ≤ a
  · by_cases h2 : a ≤ 1073741824
    · by_cases h3 : 0 ≤ b
      · by_cases h4 : b ≤ 1099511627775
        · by_cases h5 : 0 ≤ c
          · by_cases h6 : c ≤ 1048576
            · rw [decide_eq_true (show mayR a b c from ⟨h1, h2, h3, h4, h5, h6⟩)]
              go_enter Tryz.func69, Tryz.ntmps69
              go_wp2_with fail
              go_ret
              exact ⟨rfl, HB⟩
            · rw [decide_eq_false (show ¬ mayR a b c from fun h => h6 h.2.2.2.2.2)]
              go_enter Tryz.func69, Tryz.ntmps69
              go_wp2_with fail
              go_ret
              exact ⟨rfl, HB⟩
          · rw [decide_eq_false (show ¬ mayR a b c from fun h => h5 h.2.2.2.2.1)]
            go_enter Tryz.func69, Tryz.ntmps69
            go_wp2_with fail
            go_ret
            exact ⟨rfl, HB⟩
        · rw [decide_eq_false (show ¬ mayR a b c from fun h => h4 h.2.2.2.1)]
          go_enter Tryz.func69, Tryz.ntmps69
          go_wp2_with fail
          go_ret
          exact ⟨rfl, HB⟩
      · rw [decide_eq_false (show ¬ mayR a b c from fun h => h3 h.2.2.1)]
        go_enter Tryz.func69, Tryz.ntmps69
        go_wp2_with fail
        go_ret
        exact ⟨rfl, HB⟩
    · rw [decide_eq_false (show ¬ mayR a b c from fun h => h2 h.2.1)]
      go_enter Tryz.func69, Tryz.ntmps69
      go_wp2_with fail
      go_ret
      exact ⟨rfl, HB⟩
  · rw [decide_eq_false (show ¬ mayR a b c from fun h => h1 h.1)]
    go_enter Tryz.func69, Tryz.ntmps69
    go_wp2_with fail
    go_ret
    exact ⟨rfl, HB⟩
theorem isSeq_any (s : Int) (w : World) : Calls Tryz.prog 86 #[.int .i64 s] w fun e w' => e = .returned (.bool (decide (1 ≤ s ∧ s ≤ 1099511627776))) ∧ Below w.heap.size w w' := by
  by_cases h1 : 1 ≤ s
  · by_cases h2 : s ≤ 1099511627776
    · rw [decide_eq_true ⟨h1, h2⟩]
      go_enter Tryz.func86, Tryz.ntmps86
      go_wp2_with fail
      go_ret
      exact ⟨rfl, Below.refl _ _⟩
    · rw [decide_eq_false (fun h => h2 h.2)]
      go_enter Tryz.func86, Tryz.ntmps86
      go_wp2_with fail
      go_ret
      exact ⟨rfl, Below.refl _ _⟩
  · rw [decide_eq_false (fun h => h1 h.1)]
    go_enter Tryz.func86, Tryz.ntmps86
    go_wp2_with fail
    go_ret
    exact ⟨rfl, Below.refl _ _⟩
theorem takeF_drop {x k : Nat} {l : List Nat} {c : Nat} (hc : l[k]? = some c) : takeF x (l.drop k) = if 281474976710656 ≤ x then 72057594037927936 else takeF (x * 256 + c) (l.drop (k + 1)) := by
  obtain ⟨hk, hv⟩ := List.getElem?_eq_some_iff.1 hc
  rw [List.drop_eq_getElem_cons hk, hv]
  rfl
set_option maxRecDepth 100000 in
theorem take_any (p : Addr) (n cap : Nat) (l : List Nat) (w : World) (hl : l.length = n) (hn : n ≤ 1000000) (hlt : ∀ c ∈ l, c < 256) (hc : CellsAt w p l) :
    Calls Tryz.prog 85 #[.slice (some p) n cap] w fun e w' => e = .returned (.int .i64 (takeF 0 l : Nat)) ∧ Below w.heap.size w w' := by
  have HC := Lib.hid hc
  have HLT := Lib.hid hlt
  have HL := Lib.hid hl
  clear hc hlt hl
  go_enter Tryz.func85, Tryz.ntmps85
  go_wp2_with fail
  go_loopw [3, 8] (fun xv i wr => ∃ (k x : Nat), i = .int .i64 k ∧ k ≤ n ∧ xv = .int .i64 (x : Int) ∧ x < 72057594037927936 ∧ Hid (takeF 0 l = takeF x (l.drop k)) ∧ Below w.heap.size w wr) (fun _ i _ => n - (intOf i).toNat)
  case atStart => exact ⟨0, 0, rfl, by omega, rfl, by decide, rfl, Below.refl _ _⟩
  case round =>
    obtain ⟨k, x, rfl, hk, rfl, hx, heq, hb⟩ := hrel
    by_cases hlt : k < n
    · obtain ⟨c, hcx⟩ : ∃ c, l[k]? = some c := ⟨_, List.getElem?_eq_getElem (by rw [HL.out]; exact hlt)⟩
      obtain ⟨q, hq, hp⟩ := HC.out k c hcx
      cases hq
      have hp := (hb.cell (cell_lt hp)).trans hp
      have hc2 := HLT.out c (List.mem_of_getElem? hcx)
      have HT := Lib.hid (takeF_drop (x := x) hcx)
      have i1 : (k : Int) < (n : Int) := by omega
      have i2 : (0 : Int) ≤ (k : Int) := by omega
      have i3 : (k : Int).toNat = k := Int.toNat_natCast k
      clear hcx
      by_cases hx2 : x < 281474976710656
      · have j1 : ¬ (281474976710656 : Int) ≤ (x : Int) := by omega
        have hor := or_shift x c hx2 hc2
        have j2 : (x : Int) * 256 < 72057594037927936 := by omega
        go_wp2_with fail
        go_roundw
        case rel => exact ⟨k + 1, x * 256 + c, by go_num, by omega, by go_num, by omega, by show _ = _; rw [heq.out, HT.out, if_neg (by omega)], hb⟩
        case measure => simp [intOf]; omega
      · have j1 : (281474976710656 : Int) ≤ (x : Int) := by omega
        go_wp2_with fail
        go_ret
        refine ⟨?_, hb⟩
        rw [heq.out, HT.out, if_pos (by omega)]; rfl
    · obtain rfl : k = n := by omega
      have i1 : ¬ (k : Int) < (k : Int) := by omega
      go_wp2_with fail
      go_ret
      refine ⟨?_, hb⟩
      rw [heq.out, List.drop_of_length_le (by rw [HL.out]; exact Nat.le_refl _)]; rfl
end Go.Proofs.YtbjlnlgknegbnaaGreatDoor
namespace Go.Proofs.YtbjlnlgknegbnaaGreatDoor
set_option linter.unusedVariables false
set_option linter.unusedSimpArgs false
open Go.RowKit

/-- Some bytes laid over others from a place on. -/
def putAt (l : List Nat) (o : Nat) (m : List Nat) : List Nat := l.take o ++ (m ++ l.drop (o + m.length))
theorem putAt_len {l m : List Nat} {o : Nat} (h : o + m.length ≤ l.length) : (putAt l o m).length = l.length := by
  unfold putAt; simp only [List.length_append, List.length_take, List.length_drop]; omega
theorem putAt_step (l m : List Nat) (o k v : Nat) (h : o + m.length ≤ l.length) (hk : m[k]? = some v) : (putAt l o (m.take k)).set (o + k) v = putAt l o (m.take (k + 1)) := by
  have hkl := (List.getElem?_eq_some_iff.1 hk).1
  have h1 : (m.take k).length = k := by rw [List.length_take]; omega
  have h2 : (m.take (k + 1)).length = k + 1 := by rw [List.length_take]; omega
  have h3 : (l.take o).length = o := by rw [List.length_take]; omega
  unfold putAt
  rw [h1, h2, List.set_append_right _ _ (by omega), h3, Nat.add_sub_cancel_left, List.set_append_right _ _ (by omega), h1, Nat.sub_self, List.take_add_one, hk]
  rw [List.drop_eq_getElem_cons (show o + k < l.length by omega), List.set_cons_zero, Option.toList_some, List.append_assoc, Nat.add_assoc]
  rfl
theorem bC_get (l : List Nat) (j : Nat) : (bC l)[j]? = (l[j]?).map fun x : Nat => Value.int .u8 (x : Int) := by unfold bC; rw [List.getElem?_map]
theorem bC_set (l : List Nat) (j v : Nat) : (bC l).set j (.int .u8 (v : Int)) = bC (l.set j v) := by unfold bC; rw [List.map_set]
theorem be_get {n x k : Nat} (h : k < n) : (be n x)[k]? = some (x / 256 ^ (n - 1 - k) % 256) := by
  unfold be; rw [List.getElem?_map, List.getElem?_range h]; rfl
set_option maxRecDepth 100000 in
theorem put_any (b o n cap x : Nat) (l : List Nat) (t : TypeId) (w : World) (h : w.heap[b]? = some (.cells (bC l).toArray t (0, 0))) (hn : o + n ≤ l.length) (hn8 : n ≤ 8) (hx : x < 4611686018427387904) :
    Calls Tryz.prog 91 #[.slice (some ⟨b, o, none⟩) n cap, .int .i64 (x : Int)] w fun e w' => e = .returned (.tuple #[]) ∧ w'.heap[b]? = some (.cells (bC (putAt l o (be n x))).toArray t (0, 0)) ∧ w.grownBy w' (some b) := by
  have hlt0 := blk_lt h
  have h0 : putAt l o ((be n x).take 0) = l := by unfold putAt; simp
  have HN := Lib.hid hn
  clear hn
  go_enter Tryz.func91, Tryz.ntmps91
  go_wp2_with fail
  go_loopw [7] (fun i wr => ∃ (k : Nat), i = .int .i64 k ∧ k ≤ n ∧ wr.heap[b]? = some (.cells (bC (putAt l o ((be n x).take k))).toArray t (0, 0)) ∧ w.grownBy wr (some b)) (fun i _ => n - (intOf i).toNat)
  case atStart => exact ⟨0, rfl, by omega, by rw [h0]; exact h, but_refl _ _⟩
  case round =>
    obtain ⟨k, rfl, hk, hB, hg⟩ := hrel
    clear h0
    by_cases hlt : k < n
    · have i1 : (k : Int) < (n : Int) := by omega
      have i2 : (0 : Int) ≤ (k : Int) := by omega
      have i3 : (k : Int).toNat = k := Int.toNat_natCast k
      have hv := be_get (x := x) hlt
      have hst := putAt_step l (be n x) o k _ (by rw [be_len]; exact HN.out) hv
      have HST := Lib.hid hst
      have hlen : (putAt l o ((be n x).take k)).length = l.length := putAt_len (by rw [List.length_take, be_len]; have := HN.out; omega)
      obtain ⟨y, hy⟩ : ∃ y, (putAt l o ((be n x).take k))[o + k]? = some y := ⟨_, List.getElem?_eq_getElem (by rw [hlen]; have := HN.out; omega)⟩
      have c0 : wr.cell? ⟨b, o + k, none⟩ = some (.int .u8 (y : Int)) := by rw [blk_cell hB, List.getElem?_toArray, bC_get, hy]; rfl
      have z0 := blk_free hB (o + k)
      clear hst hv hy hlen
      have e0 : (n : Int) - 1 - (k : Int) = ((n - 1 - k : Nat) : Int) := by omega
      go_wp2_with fail
      go_roundw
      case rel =>
        have hval : ((x : Int) / 2 ^ (8 * (n - 1 - k)) % 256) = ((x / 256 ^ (n - 1 - k) % 256 : Nat) : Int) := by
          rw [show (256 : Nat) ^ (n - 1 - k) = 2 ^ (8 * (n - 1 - k)) from by rw [Nat.pow_mul]]; push_cast; rfl
        rw [hval]
        refine ⟨k + 1, by go_num, by omega, ?_, but_set hg hlt0 _ _⟩
        have := blk_store hB (o + k) (.int .u8 ((x / 256 ^ (n - 1 - k) % 256 : Nat) : Int))
        rw [this, List.setIfInBounds_toArray, bC_set, HST.out]
      case measure => simp [intOf]; omega
    · obtain rfl : k = n := by omega
      have i1 : ¬ (k : Int) < (k : Int) := by omega
      rw [List.take_of_length_le (by rw [be_len]; exact Nat.le_refl _)] at hB
      go_wp2_with fail
      go_end0
      exact ⟨rfl, hB, hg⟩
theorem b1' (w : World) (a b : Obj) : ((w.alloc a).alloc b).heap[w.heap.size + 1]? = some b := by have := blk_new (w.alloc a) b; rwa [World.size_alloc] at this
theorem b2' (w : World) (a b c : Obj) : (((w.alloc a).alloc b).alloc c).heap[w.heap.size + 1 + 1]? = some c := by have := blk_new ((w.alloc a).alloc b) c; rwa [World.size_alloc, World.size_alloc] at this
theorem setCells_grown {b : Nat} (vs : List Value) : ∀ (o : Nat) (W W0 : World), W0.grownBy W (some b) → b < W0.heap.size → W0.grownBy (W.setCells b o vs) (some b) := by
  induction vs with
  | nil => intro o W W0 h _; exact h
  | cons v vs ih => intro o W W0 h hb; exact ih (o + 1) _ _ (but_set h hb _ _) hb
/-- 'copy(b, s)', s a text, into a block of bytes that is known whole. -/
theorem copy_text {P : Program} (w : World) (dT sT ty elem : TypeId) (b o dLen dCap : Nat) (s : ByteArray) (m l : List Nat) (t : TypeId)
    (hu : P.underlying dT = some (.slice elem)) (hs : (P.info? elem).map (·.size) = some 1) (hm : Lib.strCells s = bC m) (hn : m.length ≤ dLen)
    (hb : w.heap[b]? = some (.cells (bC l).toArray t (0, 0))) (ho : o + m.length ≤ l.length) :
    ∃ W', (Builtin.copy_ #[dT, sT] ty #[.slice (some ⟨b, o, none⟩) dLen dCap, .string s]).run P w = .ok (goInt s.size) W' ∧ W'.heap[b]? = some (.cells (bC (putAt l o m)).toArray t (0, 0)) ∧ w.grownBy W' (some b) := by
  have hL := Lib.strCells_length s
  have hml : m.length = s.size := by rw [← hL, hm, bC_len]
  have hth := there_blk hb o s.size (by simp [bC_len]; omega)
  have hst := run_storeCells_cells (P := P) b o (Lib.strCells s) 0 w (fun j hj => by
    rw [Nat.add_zero, blk_cell hb, List.getElem?_toArray, List.getElem?_eq_getElem (by rw [bC_len]; omega)]; rfl) (fun j _ => blk_free hb _) (Lib.strCells_oneCell s)
  have hq : min s.size dLen = s.size := by omega
  refine ⟨w.setCells b o (Lib.strCells s), ?_, ?_, ?_⟩
  · cases hq2 : P.info? elem with
    | none => simp [hq2] at hs
    | some i =>
      have hi : i.size = 1 := by simpa [hq2] using hs
      have hf := Lib.run_firstCells_string (P := P) w 1 s
      simp [Builtin.copy_, run_underlying hu, Builtin.lenOf, sizeOf, typeInfo, hq2, hi, hq, hf, hst]
  · rw [setCells_blk _ o w _ hb, hm]
    congr 2
    apply Array.ext_getElem?
    intro j
    rw [setAll_get, List.getElem?_toArray, List.getElem?_toArray, bC_len, bC_get, bC_get, bC_get]
    unfold putAt
    rw [List.getElem?_append, List.getElem?_append, List.length_take, List.getElem?_take, List.getElem?_drop]
    simp only [List.size_toArray, bC_len]
    have e : min o l.length = o := by omega
    rw [e]
    by_cases c1 : j < o
    · rw [if_neg (by omega), if_pos c1, if_pos c1]
    · by_cases c2 : j < o + m.length
      · rw [if_pos (by omega), if_neg c1, if_pos (by omega)]
      · rw [if_neg (by omega), if_neg c1, if_neg (by omega)]; congr 2; omega
  · exact setCells_grown _ o w _ (but_refl _ _) (blk_lt hb)
/-- The blocks of a slot's bytes while they are laid. -/
structure Bs (w : World) (r : Rc) (l : List Nat) (W : World) : Prop where
  box : W.heap[w.heap.size]? = some (.cells #[.int .i64 (r.life : Int), .int .i64 (r.round : Int), .int .i64 (r.tag : Int), .int .i64 (r.seq : Int)] 109 (0, 0))
  res : W.heap[w.heap.size + 1]? = some (.cells (bC (List.replicate 64 0)).toArray 145 (0, 0))
  b : W.heap[w.heap.size + 1 + 1]? = some (.cells (bC l).toArray 145 (0, 0))
  low : Below w.heap.size w W
  len : l.length = 64
theorem Bs.drew {w W : World} {r : Rc} {l : List Nat} (h : Bs w r l W) : Bs w r l W.drew := ⟨h.box, h.res, h.b, h.low.drew, h.len⟩
theorem Bs.put {w W W' : World} {r : Rc} {l m : List Nat} {o : Nat} (h : Bs w r l W) (hb : W'.heap[w.heap.size + 1 + 1]? = some (.cells (bC (putAt l o m)).toArray 145 (0, 0))) (hg : W.grownBy W' (some (w.heap.size + 1 + 1))) (hm : o + m.length ≤ 64) : Bs w r (putAt l o m) W' :=
  ⟨blk_grown hg h.box (by simp; omega), blk_grown hg h.res (by simp), hb, h.low.grown hg h.low.size (fun j hj => by cases hj; omega), (putAt_len (by rw [h.len]; exact hm)).trans h.len⟩
theorem Bs.cells {w W : World} {r : Rc} {l : List Nat} (h : Bs w r l W) :
    W.cell? ⟨w.heap.size, 0, none⟩ = some (.int .i64 (r.life : Int)) ∧ W.cell? ⟨w.heap.size, 1, none⟩ = some (.int .i64 (r.round : Int)) ∧ W.cell? ⟨w.heap.size, 2, none⟩ = some (.int .i64 (r.tag : Int)) ∧ W.cell? ⟨w.heap.size, 3, none⟩ = some (.int .i64 (r.seq : Int)) :=
  ⟨(blk_cell h.box 0).trans rfl, (blk_cell h.box 1).trans rfl, (blk_cell h.box 2).trans rfl, (blk_cell h.box 3).trans rfl⟩
theorem slot_info : (Tryz.prog.info? 145).map (·.size) = some 64 := by kernel_rfl
theorem enc_puts (r : Rc) : putAt (putAt (putAt (putAt (putAt (putAt (putAt (List.replicate 64 0) 0 [101, 97, 114, 49]) 4 (be 8 r.seq)) 12 (be 4 r.life)) 16 (be 5 r.round)) 32 [101, 97, 114, 50]) 36 (be 8 r.seq)) 44 (be 3 r.tag) = encL r := by
  rfl
set_option maxRecDepth 100000 in
theorem bytes_any (r : Rc) (h : r.may) (w : World) : Calls Tryz.prog 87 #[keptV r] w fun e w' => e = .returned (.agg (bC (encL r)).toArray) ∧ Below w.heap.size w w' := by
  unfold keptV
  have HM := Lib.hid h
  obtain ⟨m1, m2, m3, m4, m5, m6⟩ := h
  go_enter Tryz.func87, Tryz.ntmps87
  go_wp2_with fail
  generalize hW3 : World.alloc (World.alloc (World.alloc w _) _) _ = W3
  have B0 : Bs w r (List.replicate 64 0) W3 := by
    rw [← hW3]
    exact ⟨blk_old (blk_old (blk_new w _) _) _, blk_old (b1' w _ _) _, b2' w _ _ _, (((Below.refl _ w).alloc (Nat.le_refl _) _).alloc (by simp) _).alloc (by simp; omega) _, List.length_replicate⟩
  clear hW3
  obtain ⟨W4, hrun, hb4, hg4⟩ := copy_text (P := Tryz.prog) W3 26 9 3 5 (w.heap.size + 1 + 1) 0 64 64 ⟨#[101, 97, 114, 49]⟩ [101, 97, 114, 49] _ _ Tryz.underlying26 (by kernel_rfl) rfl (by decide) B0.b (by simp)
  have B4 := B0.put hb4 hg4 (by decide)
  rw [hrun]
  clear hrun hb4 hg4 B0
  go_wp2_with fail
  obtain ⟨c0, c1, c2, c3⟩ := B4.cells
  refine wp_region_still_tail 3 (by kernel_rfl) (by kernel_rfl) ?_
  simp only [List.take_succ_cons, List.take_zero, List.drop_succ_cons, List.drop_zero]
  repeat still_step
  try refine wpStill_nil ?_
  change wpList _ _ _ _ _ (World.drew _)
  have hd := B4.drew
  clear c0 c1 c2 c3
  go_wp2_with (go_at_call 91; refine (put_any (w.heap.size + 1 + 1) 4 8 _ r.seq _ 145 _ hd.b (by rw [hd.len]; decide) (by decide) (by omega)).mono ?_; rintro e w5 ⟨rfl, hb, hg⟩; have B5 := hd.put hb hg (by rw [be_len]; decide); clear hb hg hd B4)
  obtain ⟨c0, c1, c2, c3⟩ := B5.cells
  refine wp_region_still_tail 4 (by kernel_rfl) (by kernel_rfl) ?_
  simp only [List.take_succ_cons, List.take_zero, List.drop_succ_cons, List.drop_zero]
  repeat still_step
  try refine wpStill_nil ?_
  change wpList _ _ _ _ _ (World.drew _)
  have hd := B5.drew
  clear c0 c1 c2 c3
  go_wp2_with (go_at_call 91; refine (put_any (w.heap.size + 1 + 1) 12 4 _ r.life _ 145 _ hd.b (by rw [hd.len]; decide) (by decide) (by omega)).mono ?_; rintro e w6 ⟨rfl, hb, hg⟩; have B6 := hd.put hb hg (by rw [be_len]; decide); clear hb hg hd B5)
  obtain ⟨c0, c1, c2, c3⟩ := B6.cells
  refine wp_region_still_tail 4 (by kernel_rfl) (by kernel_rfl) ?_
  simp only [List.take_succ_cons, List.take_zero, List.drop_succ_cons, List.drop_zero]
  repeat still_step
  try refine wpStill_nil ?_
  change wpList _ _ _ _ _ (World.drew _)
  have hd := B6.drew
  clear c0 c1 c2 c3
  go_wp2_with (go_at_call 91; refine (put_any (w.heap.size + 1 + 1) 16 5 _ r.round _ 145 _ hd.b (by rw [hd.len]; decide) (by decide) (by omega)).mono ?_; rintro e w7 ⟨rfl, hb, hg⟩; have B7 := hd.put hb hg (by rw [be_len]; decide); clear hb hg hd B6)
  obtain ⟨W8, hrun, hb8, hg8⟩ := copy_text (P := Tryz.prog) w7 26 9 3 5 (w.heap.size + 1 + 1) 32 32 32 ⟨#[101, 97, 114, 50]⟩ [101, 97, 114, 50] _ _ Tryz.underlying26 (by kernel_rfl) rfl (by decide) B7.b (by rw [B7.len]; decide)
  have B8 := B7.put hb8 hg8 (by decide)
  rw [hrun]
  clear hrun hb8 hg8 B7
  go_wp2_with fail
  obtain ⟨c0, c1, c2, c3⟩ := B8.cells
  refine wp_region_still_tail 3 (by kernel_rfl) (by kernel_rfl) ?_
  simp only [List.take_succ_cons, List.take_zero, List.drop_succ_cons, List.drop_zero]
  repeat still_step
  try refine wpStill_nil ?_
  change wpList _ _ _ _ _ (World.drew _)
  have hd := B8.drew
  clear c0 c1 c2 c3
  go_wp2_with (go_at_call 91; refine (put_any (w.heap.size + 1 + 1) 36 8 _ r.seq _ 145 _ hd.b (by rw [hd.len]; decide) (by decide) (by omega)).mono ?_; rintro e w9 ⟨rfl, hb, hg⟩; have B9 := hd.put hb hg (by rw [be_len]; decide); clear hb hg hd B8)
  obtain ⟨c0, c1, c2, c3⟩ := B9.cells
  refine wp_region_still_tail 4 (by kernel_rfl) (by kernel_rfl) ?_
  simp only [List.take_succ_cons, List.take_zero, List.drop_succ_cons, List.drop_zero]
  repeat still_step
  try refine wpStill_nil ?_
  change wpList _ _ _ _ _ (World.drew _)
  have hd := B9.drew
  clear c0 c1 c2 c3
  go_wp2_with (first
    | (go_at_call 91; refine (put_any (w.heap.size + 1 + 1) 44 3 _ r.tag _ 145 _ hd.b (by rw [hd.len]; decide) (by decide) (by omega)).mono ?_; rintro e w10 ⟨rfl, hb, hg⟩; have B10 := hd.put hb hg (by rw [be_len]; decide); clear hb hg hd B9; rw [enc_puts] at B10; have hb10 := Lib.hid B10.b; have hr10 := Lib.hid B10.res)
    | (refine wpList_load_row rfl _ _ rfl (w.heap.size + 1 + 1) rfl _ (bC (encL r)).toArray _ _ hb10.out Tryz.underlying145 rfl (slot_info.trans (by simp [bC_len, encL_len])) ?_)
    | (refine wpList_store_mid rfl _ _ _ rfl (w.heap.size + 1) 0 (bC (encL r)).toArray rfl rfl (there_blk hr10.out 0 _ (by simp [bC_len, encL_len])) (slot_info.trans (by simp [bC_len, encL_len])) (all_oneCell_toArray (bC_one _)) ?_))
  have h3 := setCells_whole hr10.out (bC (encL r)).toArray (by simp [bC_len, encL_len])
  exact bodyPost_ret (v := .agg (bC (encL r)).toArray) (results_cell_row rfl _ _ (w.heap.size + 1) _ _ _ _ rfl h3 Tryz.underlying145 rfl (slot_info.trans (by simp [bC_len, encL_len]))) rfl ⟨rfl, setCells_below _ _ _ B10.low (by omega)⟩
end Go.Proofs.YtbjlnlgknegbnaaGreatDoor
namespace Go.Proofs.YtbjlnlgknegbnaaGreatDoor
set_option linter.unusedVariables false
open Go.RowKit

theorem mapM_all {α β : Type} (f : α → Option β) (g : α → β) : ∀ (is : List α), (∀ i ∈ is, f i = some (g i)) → is.mapM f = some (is.map g)
  | [], _ => by simp
  | i :: is, h => by
    rw [List.mapM_cons, h i (by simp), mapM_all f g is (fun j hj => h j (by simp [hj]))]
    rfl
theorem flat_ones {α β : Type} (h : α → β) : ∀ (is : List α), (is.map fun i => [h i]).flatten = is.map h
  | [] => rfl
  | i :: is => by rw [List.map_cons, List.flatten_cons, flat_ones h is]; rfl
theorem byte_wf {x : Nat} (h : x < 256) : (Lit.int .u8 (x : Int)).wf = true := by
  simp only [Lit.wf, Bool.and_eq_true, decide_eq_true_eq]
  have h4 : IntKind.u8.min = 0 := by decide
  have h5 : IntKind.u8.max = 255 := by decide
  omega
theorem lits64 (l : List Nat) (hl : l.length = 64) (hlt : ∀ c ∈ l, c < 256) : Tryz.prog.keyLits 2 145 (bC l) = some (l.map fun x : Nat => Lit.int .u8 (x : Int)) := by
  have hc : Tryz.prog.cellsOf 5 = 1 := by kernel_rfl
  have hc2 : Tryz.prog.cellsOf 145 = 64 := by kernel_rfl
  rw [show (2 : Nat) = 1 + 1 from rfl]
  unfold Program.keyLits
  rw [Tryz.underlying145]
  show (if (bC l).length = Tryz.prog.cellsOf 145 then _ else _) = _
  rw [if_pos (by rw [bC_len, hl, hc2]), hc]
  rw [mapM_all _ (fun i => [Lit.int .u8 ((l.getD i 0 : Nat) : Int)]) _ ?_]
  · rw [Option.map_some, flat_ones]
    refine congrArg some ?_
    apply List.ext_getElem?
    intro j
    by_cases hj : j < 64
    · rw [List.getElem?_map, List.getElem?_range hj, List.getElem?_map, List.getElem?_eq_getElem (show j < l.length by omega)]
      simp [List.getD_eq_getElem?_getD, show j < l.length by omega]
    · rw [List.getElem?_eq_none (by simp; omega), List.getElem?_eq_none (by simp; omega)]
  · intro i hi
    have hi : i < l.length := by rw [hl]; exact List.mem_range.1 hi
    rw [Nat.mul_one]
    have : ((bC l).drop i).take 1 = [Value.int .u8 ((l.getD i 0 : Nat) : Int)] := by
      rw [List.drop_eq_getElem_cons (show i < (bC l).length by rw [bC_len]; exact hi)]
      simp [bC, List.getD_eq_getElem?_getD, hi]
    rw [this]
    unfold Program.keyLits
    rw [Tryz.underlying5]
    show (if _ then _ else _) = _
    rw [if_pos ⟨rfl, byte_wf (by rw [List.getD_eq_getElem?_getD, List.getElem?_eq_getElem hi]; exact hlt _ (List.getElem_mem hi))⟩]
theorem eq_bytes (l m : List Nat) (hl : l.length = 64) (hm : m.length = 64) (h1 : ∀ c ∈ l, c < 256) (h2 : ∀ c ∈ m, c < 256) (w : World) :
    (Op.equalIn 10000 145 (.agg (bC l).toArray) (.agg (bC m).toArray)).run Tryz.prog w = .ok (decide (l = m)) w := by
  have formed : ∀ k : List Nat, k.length = 64 → (Value.agg (bC k).toArray).formed Tryz.prog 145 = true := by
    intro k hk
    have hc2 : Tryz.prog.cellsOf 145 = 64 := by kernel_rfl
    simp [Value.formed, Tryz.underlying145, hc2, bC_len, hk]
  obtain ⟨r, hr, hiff⟩ := run_equalIn_deep (P := Tryz.prog) 9998 2 145 (by kernel_rfl) w 2 2 (.agg (bC l).toArray) (.agg (bC m).toArray) _ _ (formed l hl) (formed m hm) (lits64 l hl h1) (lits64 m hm h2)
  have hr2 : (Op.equalIn 10000 145 (.agg (bC l).toArray) (.agg (bC m).toArray)).run Tryz.prog w = .ok r w := hr
  rw [hr2]
  clear hr hr2
  congr 1
  rw [Bool.eq_iff_iff, hiff, decide_eq_true_iff]
  constructor
  · intro h
    apply List.ext_getElem?
    intro j
    have := congrArg (fun k => k[j]?) h
    simp only [List.getElem?_map] at this
    cases h3 : l[j]? <;> cases h4 : m[j]? <;> simp [h3, h4] at this ⊢
    omega
  · rintro rfl; rfl
end Go.Proofs.YtbjlnlgknegbnaaGreatDoor
namespace Go.Proofs.YtbjlnlgknegbnaaGreatDoor
set_option linter.unusedVariables false
set_option linter.unusedSimpArgs false
open Go.RowKit

/-- A new row of 64 bytes. -/
def NewB (w W : World) (v : Value) (l : List Nat) : Prop := ∃ g, v = .slice (some ⟨g, 0, none⟩) 64 64 ∧ w.heap.size ≤ g ∧ W.heap[g]? = some (.cells (bC l).toArray 145 (0, 0))
def encOk (a b c s : Int) : Prop := mayR a b c ∧ 1 ≤ s ∧ s ≤ 1099511627776
instance (a b c s : Int) : Decidable (encOk a b c s) := by unfold encOk; infer_instance
def rcN (a b c s : Int) : Rc := ⟨a.toNat, b.toNat, c.toNat, s.toNat⟩
theorem rcN_may {a b c s : Int} (h : encOk a b c s) : (rcN a b c s).may ∧ keptV (rcN a b c s) = .agg #[.int .i64 a, .int .i64 b, .int .i64 c, .int .i64 s] := by
  obtain ⟨⟨h1, h2, h3, h4, h5, h6⟩, h7, h8⟩ := h
  refine ⟨⟨by show 1 ≤ a.toNat; omega, by show a.toNat ≤ _; omega, by show b.toNat ≤ _; omega, by show c.toNat ≤ _; omega, by show 1 ≤ s.toNat; omega, by show s.toNat ≤ _; omega⟩, ?_⟩
  unfold keptV rcN
  simp only
  rw [Int.toNat_of_nonneg (by omega), Int.toNat_of_nonneg (by omega), Int.toNat_of_nonneg (by omega), Int.toNat_of_nonneg (by omega)]
theorem box3 (w : World) (x y z : Value) (t : TypeId) : (w.alloc (.cells #[x, y, z] t)).heap[w.heap.size]? = some (.cells #[x, y, z] t (0, 0)) := blk_new w _
set_option maxRecDepth 100000 in
set_option maxHeartbeats 1000000 in
theorem encode_ok (a b c s : Int) (h : encOk a b c s) (w : World) : Calls Tryz.prog 70 #[recV a b c, .int .i64 s] w fun e w' =>
    ∃ v, e = .returned (.tuple #[v, .int .i64 0]) ∧ NewB w w' v (encL (rcN a b c s)) ∧ Below w.heap.size w w' := by
  have HM := Lib.hid (fun w => mayBe_any a b c w)
  have HS := Lib.hid (fun w => isSeq_any s w)
  have hb0 : Below w.heap.size w (w.alloc (.cells #[.int .i64 a, .int .i64 b, .int .i64 c] 35)) := (Below.refl _ w).alloc (Nat.le_refl _) _
  have k0 := box3 w (.int .i64 a) (.int .i64 b) (.int .i64 c) 35
  unfold recV at HM ⊢
  obtain ⟨hm, hk⟩ := rcN_may h
  have HB := Lib.hid (fun w => bytes_any _ hm w)
  rw [hk] at HB
  rw [decide_eq_true h.1] at HM
  rw [decide_eq_true h.2] at HS
  have hll : (bC (encL (rcN a b c s))).length = 64 := by rw [bC_len, encL_len]
  generalize encL (rcN a b c s) = l at *
  have HL := Lib.hid hll
  clear h hm hk hll
  go_enter Tryz.func70, Tryz.ntmps70
  go_wp2_with fail
  refine (HM.out _).mono ?_
  rintro e w1 ⟨rfl, hB1⟩
  have hb1 := below_then hb0 hB1
  have k1 := blk_below' hB1 k0
  go_wp2_with fail
  refine (HS.out _).mono ?_
  rintro e w2 ⟨rfl, hB2⟩
  have hb2 := below_then hb1 hB2
  have k2 := blk_below' hB2 k1
  have c0 := (blk_cell k2 0).trans rfl
  have c1 := (blk_cell k2 1).trans rfl
  have c2 := (blk_cell k2 2).trans rfl
  simp at c0 c1 c2
  clear k0 hb0 hB1 hb1 k1 k2 hB2
  go_wp2_with fail
  refine (HB.out _).mono ?_
  rintro e w3 ⟨rfl, hB3⟩
  have hb3 := below_then hb2 hB3
  go_wp2_with (refine wpList_store_mid rfl _ _ _ rfl w3.heap.size 0 (bC l).toArray rfl rfl (there_blk (blk_new w3 _) 0 _ (by simp [HL.out])) (slot_info.trans (by simp [HL.out])) (all_oneCell_toArray (bC_one _)) ?_; generalize hW3 : World.setCells (World.alloc w3 _) _ _ _ = W3; have n3 : W3.heap[w3.heap.size]? = some (.cells (bC l).toArray 145 (0, 0)) ∧ Below w3.heap.size w3 W3 := (by rw [← hW3]; exact new_row w3 _ _ (bC l) (by rw [HL.out]; rfl)); clear hW3)
  go_ret2
  exact ⟨_, rfl, ⟨_, rfl, hb3.size, n3.1⟩, below_then hb3 n3.2⟩
set_option maxRecDepth 100000 in
set_option maxHeartbeats 1000000 in
theorem encode_no (a b c s : Int) (h : ¬ encOk a b c s) (w : World) : Calls Tryz.prog 70 #[recV a b c, .int .i64 s] w fun e w' =>
    e = .returned (.tuple #[.slice none 0 0, .int .i64 1]) ∧ Below w.heap.size w w' := by
  have HM := Lib.hid (fun w => mayBe_any a b c w)
  have HS := Lib.hid (fun w => isSeq_any s w)
  have hb0 : Below w.heap.size w (w.alloc (.cells #[.int .i64 a, .int .i64 b, .int .i64 c] 35)) := (Below.refl _ w).alloc (Nat.le_refl _) _
  unfold recV at HM ⊢
  by_cases h1 : mayR a b c
  · have h2 : ¬ (1 ≤ s ∧ s ≤ 1099511627776) := fun h2 => h ⟨h1, h2⟩
    rw [decide_eq_true h1] at HM
    rw [decide_eq_false h2] at HS
    clear h h1 h2
    go_enter Tryz.func70, Tryz.ntmps70
    go_wp2_with fail
    refine (HM.out _).mono ?_
    rintro e w1 ⟨rfl, hB1⟩
    have hb1 := below_then hb0 hB1
    go_wp2_with fail
    refine (HS.out _).mono ?_
    rintro e w2 ⟨rfl, hB2⟩
    have hb2 := below_then hb1 hB2
    go_wp2_with fail
    go_ret2
    exact ⟨rfl, hb2⟩
  · rw [decide_eq_false h1] at HM
    clear h h1
    go_enter Tryz.func70, Tryz.ntmps70
    go_wp2_with fail
    refine (HM.out _).mono ?_
    rintro e w1 ⟨rfl, hB1⟩
    have hb1 := below_then hb0 hB1
    go_wp2_with fail
    go_ret2
    exact ⟨rfl, hb1⟩
theorem decode_size (a : Option Addr) (n cp : Nat) (h : n ≠ 64) (w : World) : Calls Tryz.prog 68 #[.slice a n cp] w fun e w' =>
    e = .returned (.tuple #[recV 0 0 0, .int .i64 0, .int .i64 102]) ∧ Below w.heap.size w w' := by
  have hne : ((n : Int) != 64) = true := by simp; omega
  unfold recV
  clear h
  go_enter Tryz.func68, Tryz.ntmps68
  go_wp2_with fail
  exact bodyPost_ret (v := .tuple #[.agg #[.int .i64 0, .int .i64 0, .int .i64 0], .int .i64 0, .int .i64 102]) (by simp [results, Tryz.results68, go_sem]) rfl ⟨rfl, (Below.refl _ w).alloc (Nat.le_refl _) _⟩
/-- What Decode answers. -/
def decA (o : Option Rc) : Value := match o with | some r => .tuple #[recV r.life r.round r.tag, .int .i64 (r.seq : Int), .int .i64 0] | none => .tuple #[recV 0 0 0, .int .i64 0, .int .i64 70]
/-- What is known while a slot's bytes are read. -/
structure TK (w : World) (p : Addr) (l : List Nat) (W : World) : Prop where
  bytes : CellsAt W p l
  low : Below w.heap.size w W
  out : W.heap[w.heap.size]? = some (.cells #[.int .i64 0, .int .i64 0, .int .i64 0] 35 (0, 0))
theorem TK.below {w W W' : World} {p : Addr} {l : List Nat} (h : TK w p l W) (hb : Below W.heap.size W W') : TK w p l W' := ⟨h.bytes.below hb, below_then h.low hb, blk_below' hb h.out⟩
theorem CellsAt.part {W : World} {p : Addr} {l : List Nat} (h : CellsAt W p l) (o n : Nat) : CellsAt W (p.add o) ((l.drop o).take n) := by
  intro j x hx
  rw [List.getElem?_take] at hx
  split at hx
  · rw [List.getElem?_drop] at hx
    obtain ⟨b, h1, h2⟩ := h _ _ hx
    cases h1
    exact ⟨_, rfl, by rw [Addr.add_add]; exact h2⟩
  · cases hx
theorem TK.take {w W : World} {g q : Nat} {l : List Nat} (h : TK w ⟨g, q, none⟩ l W) (hl : l.length = 64) (hlt : ∀ c ∈ l, c < 256) (o n cp : Nat) (hn : o + n ≤ 64) :
    Calls Tryz.prog 85 #[.slice (some ⟨g, q + o, none⟩) n cp] W fun e w' => e = .returned (.int .i64 (takeF 0 ((l.drop o).take n) : Nat)) ∧ Below W.heap.size W w' := by
  have h1 := h.bytes.part o n
  rw [Addr.add_mid] at h1
  exact take_any _ n cp _ W (by rw [List.length_take, List.length_drop]; omega) (by omega) (fun c hc => hlt c (List.mem_of_mem_drop (List.mem_of_mem_take hc))) h1
/-- The record that was read, beside. -/
structure KS (w : World) (p : Addr) (l : List Nat) (g : Nat) (W : World) : Prop where
  tk : TK w p l W
  kept : W.heap[g]? = some (.cells #[.int .i64 ((rcOf l).life : Int), .int .i64 ((rcOf l).round : Int), .int .i64 ((rcOf l).tag : Int), .int .i64 ((rcOf l).seq : Int)] 109 (0, 0))
  far : w.heap.size < g
theorem KS.below {w W W' : World} {p : Addr} {l : List Nat} {g : Nat} (h : KS w p l g W) (hb : Below W.heap.size W W') : KS w p l g W' := ⟨h.tk.below hb, blk_below' hb h.kept, h.far⟩
theorem KS.new {w W : World} {p : Addr} {l : List Nat} {g : Nat} (h : TK w p l W) (hg : W.heap[g]? = some (.cells #[.int .i64 0, .int .i64 0, .int .i64 0, .int .i64 0] 109 (0, 0))) (hgw : w.heap.size < g) (hp : p.block ≠ g) :
    KS w p l g ((((W.setCell ⟨g, 0, none⟩ (.int .i64 ((rcOf l).life : Int))).setCell ⟨g, 1, none⟩ (.int .i64 ((rcOf l).round : Int))).setCell ⟨g, 2, none⟩ (.int .i64 ((rcOf l).tag : Int))).setCell ⟨g, 3, none⟩ (.int .i64 ((rcOf l).seq : Int))) := by
  have hgr : W.grownBy ((((W.setCell ⟨g, 0, none⟩ (.int .i64 ((rcOf l).life : Int))).setCell ⟨g, 1, none⟩ (.int .i64 ((rcOf l).round : Int))).setCell ⟨g, 2, none⟩ (.int .i64 ((rcOf l).tag : Int))).setCell ⟨g, 3, none⟩ (.int .i64 ((rcOf l).seq : Int))) (some g) :=
    but_set (but_set (but_set (but_set (but_refl _ _) (blk_lt hg) _ _) (blk_lt hg) _ _) (blk_lt hg) _ _) (blk_lt hg) _ _
  refine ⟨⟨h.bytes.but hgr hp, h.low.grown hgr h.low.size (fun j hj => by cases hj; omega), blk_grown hgr h.out (by simp; omega)⟩, ?_, hgw⟩
  exact blk_store (blk_store (blk_store (blk_store hg 0 _) 1 _) 2 _) 3 _
theorem TK.new' {w W : World} {g q : Nat} {l : List Nat} {b : Nat} (h : TK w ⟨g, q, none⟩ l W) (hg : W.heap[b]? = some (.cells #[.int .i64 0, .int .i64 0, .int .i64 0, .int .i64 0] 109 (0, 0))) (hgw : w.heap.size < b) (hp : g ≠ b) :
    KS w ⟨g, q, none⟩ l b ((((W.setCell ⟨b, 0, none⟩ (.int .i64 ((rcOf l).life : Int))).setCell ⟨b, 1, none⟩ (.int .i64 ((rcOf l).round : Int))).setCell ⟨b, 2, none⟩ (.int .i64 ((rcOf l).tag : Int))).setCell ⟨b, 3, none⟩ (.int .i64 ((rcOf l).seq : Int))) := KS.new h hg hgw hp
/-- The same, by the record. -/
structure KG (b : Nat) (r : Rc) (w : World) (p : Addr) (l : List Nat) (W : World) : Prop where
  kept : W.heap[b]? = some (.cells #[.int .i64 (r.life : Int), .int .i64 (r.round : Int), .int .i64 (r.tag : Int), .int .i64 (r.seq : Int)] 109 (0, 0))
  tk : TK w p l W
theorem KG.below {w W W' : World} {p : Addr} {l : List Nat} {b : Nat} {r : Rc} (h : KG b r w p l W) (hb : Below W.heap.size W W') : KG b r w p l W' := ⟨blk_below' hb h.kept, h.tk.below hb⟩
theorem KG.cells {w W : World} {p : Addr} {l : List Nat} {b : Nat} {r : Rc} (h : KG b r w p l W) :
    W.cell? ⟨b, 0, none⟩ = some (.int .i64 (r.life : Int)) ∧ W.cell? ⟨b, 1, none⟩ = some (.int .i64 (r.round : Int)) ∧ W.cell? ⟨b, 2, none⟩ = some (.int .i64 (r.tag : Int)) ∧ W.cell? ⟨b, 3, none⟩ = some (.int .i64 (r.seq : Int)) :=
  ⟨(blk_cell h.kept 0).trans rfl, (blk_cell h.kept 1).trans rfl, (blk_cell h.kept 2).trans rfl, (blk_cell h.kept 3).trans rfl⟩
theorem run_arrayAt64 (g q cp : Nat) (w : World) : (Instr.arrayAt 145 (.slice (some ⟨g, q, none⟩) 64 cp)).run Tryz.prog w = .ok (.pointer (some ⟨g, q, none⟩)) w := by
  simp [Instr.arrayAt, run_underlying Tryz.underlying145, go_sem]
theorem CellsAt.range {W : World} {g q : Nat} {l : List Nat} (h : CellsAt W ⟨g, q, none⟩ l) : W.rangeAt g q (bC l) := by
  intro j v hv
  rw [bC_get] at hv
  cases hx : l[j]? with
  | none => rw [hx] at hv; cases hv
  | some x =>
    rw [hx] at hv
    cases hv
    obtain ⟨b, h1, h2⟩ := h j x hx
    cases h1
    rwa [Addr.add_mid] at h2
set_option maxRecDepth 100000 in
set_option maxHeartbeats 2000000 in
theorem decode_any (g q : Nat) (cp : Nat) (l : List Nat) (hl : l.length = 64) (hlt : ∀ c ∈ l, c < 256) (hcp : 64 ≤ cp) (w : World) (hc : CellsAt w ⟨g, q, none⟩ l) (hgw : g < w.heap.size) : Calls Tryz.prog 68 #[.slice (some ⟨g, q, none⟩) 64 cp] w fun e w' =>
    e = .returned (decA (decL l)) ∧ Below w.heap.size w w' := by
  have hk : TK w ⟨g, q, none⟩ l (w.alloc (.cells #[.int .i64 0, .int .i64 0, .int .i64 0] 35)) := ⟨hc.below ((Below.refl _ w).alloc (Nat.le_refl _) _), (Below.refl _ w).alloc (Nat.le_refl _) _, box3 w _ _ _ _⟩
  have q1 : (16 : Int) ≤ (cp : Int) := by omega
  have q2 : (21 : Int) ≤ (cp : Int) := by omega
  have q3 : (47 : Int) ≤ (cp : Int) := by omega
  have q4 : (12 : Int) ≤ (cp : Int) := by omega
  have q5 : ¬ cp = 12 := by omega
  have q6 : ¬ cp = 16 := by omega
  have q7 : ¬ cp = 44 := by omega
  have q8 : ¬ cp = 4 := by omega
  go_enter Tryz.func68, Tryz.ntmps68
  go_wp2_with fail
  generalize World.alloc w _ = W1 at *
  clear hc
  go_cut [5] from 10 to 23 (fun v5 wx => ∃ b, v5 = .pointer (some ⟨b, 0, none⟩) ∧ KS w ⟨g, q, none⟩ l b wx)
  case first =>
    refine wp_region_early (fun _ => True) (fun _ => false) (by kernel_rfl) ?_
    have hk2 : TK w ⟨g, q, none⟩ l W1.drew := ⟨hk.bytes, hk.low.drew, hk.out⟩
    clear hk
    generalize W1.drew = W2 at *
    have hSS : True := trivial
    simp only [List.size_toArray, List.length_cons, List.length_nil, Nat.reduceAdd, Array.replicate_succ, Array.replicate_zero, List.push_toArray, List.nil_append, List.cons_append]
    refine wpAnyE_take (i := 0) (v := ?_) rfl (by kernel_rfl) (by kernel_rfl) (by kernel_rfl) (by kernel_rfl) (fun _ _ _ h => h) (Or.inl ⟨by rfl, ?_⟩) hSS ?_
    rotate_left
    · intro w hSw
      (try have kc0 := hSw.1.cell); (try have kc1 := hSw.2.cell)
      go_simp
      all_goals with_reducible rfl
    simp only [Act.put, List.setIfInBounds_toArray, List.set_cons_zero, List.set_cons_succ, List.getElem_toArray, List.getElem_cons_zero, List.getElem_cons_succ]
    refine wpAnyE_take (i := 1) (v := ?_) rfl (by kernel_rfl) (by kernel_rfl) (by kernel_rfl) (by kernel_rfl) (fun _ _ _ h => h) (Or.inl ⟨by rfl, ?_⟩) hSS ?_
    rotate_left
    · intro w hSw
      (try have kc0 := hSw.1.cell); (try have kc1 := hSw.2.cell)
      go_simp
      all_goals with_reducible rfl
    simp only [Act.put, List.setIfInBounds_toArray, List.set_cons_zero, List.set_cons_succ, List.getElem_toArray, List.getElem_cons_zero, List.getElem_cons_succ]
    refine wpAnyE_take (i := 3) (v := ?_) rfl (by kernel_rfl) (by kernel_rfl) (by kernel_rfl) (by kernel_rfl) (fun _ _ _ h => h) (Or.inl ⟨by rfl, ?_⟩) hSS ?_
    rotate_left
    · intro w hSw
      (try have kc0 := hSw.1.cell); (try have kc1 := hSw.2.cell)
      go_simp
      all_goals with_reducible rfl
    simp only [Act.put, List.setIfInBounds_toArray, List.set_cons_zero, List.set_cons_succ, List.getElem_toArray, List.getElem_cons_zero, List.getElem_cons_succ]
    refine wpAnyE_take (i := 4) (v := ?_) rfl (by kernel_rfl) (by kernel_rfl) (by kernel_rfl) (by kernel_rfl) (fun _ _ _ h => h) (Or.inl ⟨by rfl, ?_⟩) hSS ?_
    rotate_left
    · intro w hSw
      (try have kc0 := hSw.1.cell); (try have kc1 := hSw.2.cell)
      go_simp
      all_goals with_reducible rfl
    simp only [Act.put, List.setIfInBounds_toArray, List.set_cons_zero, List.set_cons_succ, List.getElem_toArray, List.getElem_cons_zero, List.getElem_cons_succ]
    refine wpAnyE_take (i := 6) (v := ?_) rfl (by kernel_rfl) (by kernel_rfl) (by kernel_rfl) (by kernel_rfl) (fun _ _ _ h => h) (Or.inl ⟨by rfl, ?_⟩) hSS ?_
    rotate_left
    · intro w hSw
      (try have kc0 := hSw.1.cell); (try have kc1 := hSw.2.cell)
      go_simp
      all_goals with_reducible rfl
    simp only [Act.put, List.setIfInBounds_toArray, List.set_cons_zero, List.set_cons_succ, List.getElem_toArray, List.getElem_cons_zero, List.getElem_cons_succ]
    refine wpAnyE_take (i := 7) (v := ?_) rfl (by kernel_rfl) (by kernel_rfl) (by kernel_rfl) (by kernel_rfl) (fun _ _ _ h => h) (Or.inl ⟨by rfl, ?_⟩) hSS ?_
    rotate_left
    · intro w hSw
      (try have kc0 := hSw.1.cell); (try have kc1 := hSw.2.cell)
      go_simp
      all_goals with_reducible rfl
    simp only [Act.put, List.setIfInBounds_toArray, List.set_cons_zero, List.set_cons_succ, List.getElem_toArray, List.getElem_cons_zero, List.getElem_cons_succ]
    refine wpAnyE_take (i := 10) (v := ?_) rfl (by kernel_rfl) (by kernel_rfl) (by kernel_rfl) (by kernel_rfl) (fun _ _ _ h => h) (Or.inl ⟨by rfl, ?_⟩) hSS ?_
    rotate_left
    · intro w hSw
      (try have kc0 := hSw.1.cell); (try have kc1 := hSw.2.cell)
      go_simp
      all_goals with_reducible rfl
    simp only [Act.put, List.setIfInBounds_toArray, List.set_cons_zero, List.set_cons_succ, List.getElem_toArray, List.getElem_cons_zero, List.getElem_cons_succ]
    refine wpAnyE_take (i := 11) (v := ?_) rfl (by kernel_rfl) (by kernel_rfl) (by kernel_rfl) (by kernel_rfl) (fun _ _ _ h => h) (Or.inl ⟨by rfl, ?_⟩) hSS ?_
    rotate_left
    · intro w hSw
      (try have kc0 := hSw.1.cell); (try have kc1 := hSw.2.cell)
      go_simp
      all_goals with_reducible rfl
    simp only [Act.put, List.setIfInBounds_toArray, List.set_cons_zero, List.set_cons_succ, List.getElem_toArray, List.getElem_cons_zero, List.getElem_cons_succ]
    refine wpAnyE_two (i := 2) (j := 14) (by kernel_rfl) rfl rfl ?_ ?_
    · skip
      change wpList _ _ (Exit.then _ _) [_] _ _
      try simp only [List.setIfInBounds_toArray, List.set_cons_zero, List.set_cons_succ, List.getElem_toArray, List.getElem_cons_zero, List.getElem_cons_succ]
      go_wp2_with (go_at_call 85; refine ((hk2).take hl hlt 12 4 _ (by decide)).mono ?_; rintro e w3 ⟨rfl, hB3⟩)
      have hk3 := (hk2).below hB3
      refine ⟨fun _ => trivial, ?_⟩
      try simp only [List.setIfInBounds_toArray, List.set_cons_zero, List.set_cons_succ, List.getElem_toArray, List.getElem_cons_zero, List.getElem_cons_succ]
      refine wpAnyE_two (i := 5) (j := 14) (by kernel_rfl) rfl rfl ?_ ?_
      · skip
        change wpList _ _ (Exit.then _ _) [_] _ _
        try simp only [List.setIfInBounds_toArray, List.set_cons_zero, List.set_cons_succ, List.getElem_toArray, List.getElem_cons_zero, List.getElem_cons_succ]
        go_wp2_with (go_at_call 85; refine ((hk3).take hl hlt 16 5 _ (by decide)).mono ?_; rintro e w4 ⟨rfl, hB4⟩)
        have hk4 := (hk3).below hB4
        refine ⟨fun _ => trivial, ?_⟩
        try simp only [List.setIfInBounds_toArray, List.set_cons_zero, List.set_cons_succ, List.getElem_toArray, List.getElem_cons_zero, List.getElem_cons_succ]
        refine wpAnyE_two (i := 8) (j := 14) (by kernel_rfl) rfl rfl ?_ ?_
        · skip
          change wpList _ _ (Exit.then _ _) [_] _ _
          try simp only [List.setIfInBounds_toArray, List.set_cons_zero, List.set_cons_succ, List.getElem_toArray, List.getElem_cons_zero, List.getElem_cons_succ]
          go_wp2_with (go_at_call 85; refine ((hk4).take hl hlt 44 3 _ (by decide)).mono ?_; rintro e w5 ⟨rfl, hB5⟩)
          have hk5 := (hk4).below hB5
          refine ⟨fun _ => trivial, ?_⟩
          try simp only [List.setIfInBounds_toArray, List.set_cons_zero, List.set_cons_succ, List.getElem_toArray, List.getElem_cons_zero, List.getElem_cons_succ]
          refine wpAnyE_take (i := 9) (v := ?_) rfl (by kernel_rfl) (by kernel_rfl) (by kernel_rfl) (by kernel_rfl) (fun _ _ _ h => h) (Or.inl ⟨by rfl, ?_⟩) hSS ?_
          rotate_left
          · intro w hSw
            (try have kc0 := hSw.1.cell); (try have kc1 := hSw.2.cell)
            go_simp
            all_goals with_reducible rfl
          simp only [Act.put, List.setIfInBounds_toArray, List.set_cons_zero, List.set_cons_succ, List.getElem_toArray, List.getElem_cons_zero, List.getElem_cons_succ]
          refine wpAnyE_two (i := 12) (j := 14) (by kernel_rfl) rfl rfl ?_ ?_
          · skip
            change wpList _ _ (Exit.then _ _) [_] _ _
            try simp only [List.setIfInBounds_toArray, List.set_cons_zero, List.set_cons_succ, List.getElem_toArray, List.getElem_cons_zero, List.getElem_cons_succ]
            go_wp2_with (go_at_call 85; refine ((hk5).take hl hlt 4 8 _ (by decide)).mono ?_; rintro e w6 ⟨rfl, hB6⟩)
            have hk6 := (hk5).below hB6
            refine ⟨fun _ => trivial, ?_⟩
            try simp only [List.setIfInBounds_toArray, List.set_cons_zero, List.set_cons_succ, List.getElem_toArray, List.getElem_cons_zero, List.getElem_cons_succ]
            refine wpAnyE_take (i := 13) (v := ?_) rfl (by kernel_rfl) (by kernel_rfl) (by kernel_rfl) (by kernel_rfl) (fun _ _ _ h => h) (Or.inl ⟨by rfl, ?_⟩) hSS ?_
            rotate_left
            · intro w hSw
              (try have kc0 := hSw.1.cell); (try have kc1 := hSw.2.cell)
              go_simp
              all_goals with_reducible rfl
            simp only [Act.put, List.setIfInBounds_toArray, List.set_cons_zero, List.set_cons_succ, List.getElem_toArray, List.getElem_cons_zero, List.getElem_cons_succ]
            refine wpAnyE_one (i := 14) (by kernel_rfl) rfl ?_
            change wpList _ _ (Exit.then _ _) [_] _ _
            try simp only [List.setIfInBounds_toArray, List.set_cons_zero, List.set_cons_succ, List.getElem_toArray, List.getElem_cons_zero, List.getElem_cons_succ]
            go_wp2_with fail
            refine ⟨fun _ => trivial, ?_⟩
            try simp only [List.setIfInBounds_toArray, List.set_cons_zero, List.set_cons_succ, List.getElem_toArray, List.getElem_cons_zero, List.getElem_cons_succ]
            have hz := blk_new w6 (.cells #[.int .i64 0, .int .i64 0, .int .i64 0, .int .i64 0] 109)
            have hf : w.heap.size < (w6).heap.size := blk_lt (hk6).out
            have hk7 := (hk6).below ((Below.refl _ w6).alloc (Nat.le_refl _) (.cells #[.int .i64 0, .int .i64 0, .int .i64 0, .int .i64 0] 109))
            generalize World.alloc w6 _ = WA at *
            refine wpAnyE_one (i := 15) (by kernel_rfl) rfl ?_
            change wpList _ _ (Exit.then _ _) [_] _ _
            try simp only [List.setIfInBounds_toArray, List.set_cons_zero, List.set_cons_succ, List.getElem_toArray, List.getElem_cons_zero, List.getElem_cons_succ]
            have hfin := (hk7).new' hz hf (show g ≠ (w6.heap.size) by omega)
            have y0 := (blk_cell hz 0).trans rfl
            have y1 := (blk_cell hz 1).trans rfl
            have y2 := (blk_cell hz 2).trans rfl
            have y3 := (blk_cell hz 3).trans rfl
            simp at y0 y1 y2 y3
            have t0 := blk_free hz 0
            have t1 := blk_free hz 1
            have t2 := blk_free hz 2
            have t3 := blk_free hz 3
            have HFIN := Lib.hid hfin
            clear hfin hz
            go_wp2_with fail
            refine ⟨fun _ => trivial, wpAnyE_end (by kernel_rfl) ?_⟩
            go_wp2_with fail
            go_meet
            exact ⟨_, rfl, HFIN.out⟩
          · skip
            change wpList _ _ (Exit.then _ _) [_] _ _
            try simp only [List.setIfInBounds_toArray, List.set_cons_zero, List.set_cons_succ, List.getElem_toArray, List.getElem_cons_zero, List.getElem_cons_succ]
            go_wp2_with fail
            refine ⟨fun _ => trivial, ?_⟩
            try simp only [List.setIfInBounds_toArray, List.set_cons_zero, List.set_cons_succ, List.getElem_toArray, List.getElem_cons_zero, List.getElem_cons_succ]
            have hz := blk_new w5 (.cells #[.int .i64 0, .int .i64 0, .int .i64 0, .int .i64 0] 109)
            have hf : w.heap.size < (w5).heap.size := blk_lt (hk5).out
            have hk6 := (hk5).below ((Below.refl _ w5).alloc (Nat.le_refl _) (.cells #[.int .i64 0, .int .i64 0, .int .i64 0, .int .i64 0] 109))
            generalize World.alloc w5 _ = WA at *
            refine wpAnyE_one (i := 12) (by kernel_rfl) rfl ?_
            change wpList _ _ (Exit.then _ _) [_] _ _
            try simp only [List.setIfInBounds_toArray, List.set_cons_zero, List.set_cons_succ, List.getElem_toArray, List.getElem_cons_zero, List.getElem_cons_succ]
            go_wp2_with (go_at_call 85; refine ((hk6).take hl hlt 4 8 _ (by decide)).mono ?_; rintro e w6 ⟨rfl, hB6⟩)
            have hk7 := (hk6).below hB6
            refine ⟨fun _ => trivial, ?_⟩
            try simp only [List.setIfInBounds_toArray, List.set_cons_zero, List.set_cons_succ, List.getElem_toArray, List.getElem_cons_zero, List.getElem_cons_succ]
            have hz := blk_below' hB6 hz
            refine wpAnyE_take (i := 13) (v := ?_) rfl (by kernel_rfl) (by kernel_rfl) (by kernel_rfl) (by kernel_rfl) (fun _ _ _ h => h) (Or.inl ⟨by rfl, ?_⟩) hSS ?_
            rotate_left
            · intro w hSw
              (try have kc0 := hSw.1.cell); (try have kc1 := hSw.2.cell)
              go_simp
              all_goals with_reducible rfl
            simp only [Act.put, List.setIfInBounds_toArray, List.set_cons_zero, List.set_cons_succ, List.getElem_toArray, List.getElem_cons_zero, List.getElem_cons_succ]
            refine wpAnyE_one (i := 15) (by kernel_rfl) rfl ?_
            change wpList _ _ (Exit.then _ _) [_] _ _
            try simp only [List.setIfInBounds_toArray, List.set_cons_zero, List.set_cons_succ, List.getElem_toArray, List.getElem_cons_zero, List.getElem_cons_succ]
            have hfin := (hk7).new' hz hf (show g ≠ (w5.heap.size) by omega)
            have y0 := (blk_cell hz 0).trans rfl
            have y1 := (blk_cell hz 1).trans rfl
            have y2 := (blk_cell hz 2).trans rfl
            have y3 := (blk_cell hz 3).trans rfl
            simp at y0 y1 y2 y3
            have t0 := blk_free hz 0
            have t1 := blk_free hz 1
            have t2 := blk_free hz 2
            have t3 := blk_free hz 3
            have HFIN := Lib.hid hfin
            clear hfin hz
            go_wp2_with fail
            refine ⟨fun _ => trivial, wpAnyE_end (by kernel_rfl) ?_⟩
            go_wp2_with fail
            go_meet
            exact ⟨_, rfl, HFIN.out⟩
        · skip
          change wpList _ _ (Exit.then _ _) [_] _ _
          try simp only [List.setIfInBounds_toArray, List.set_cons_zero, List.set_cons_succ, List.getElem_toArray, List.getElem_cons_zero, List.getElem_cons_succ]
          go_wp2_with fail
          refine ⟨fun _ => trivial, ?_⟩
          try simp only [List.setIfInBounds_toArray, List.set_cons_zero, List.set_cons_succ, List.getElem_toArray, List.getElem_cons_zero, List.getElem_cons_succ]
          have hz := blk_new w4 (.cells #[.int .i64 0, .int .i64 0, .int .i64 0, .int .i64 0] 109)
          have hf : w.heap.size < (w4).heap.size := blk_lt (hk4).out
          have hk5 := (hk4).below ((Below.refl _ w4).alloc (Nat.le_refl _) (.cells #[.int .i64 0, .int .i64 0, .int .i64 0, .int .i64 0] 109))
          generalize World.alloc w4 _ = WA at *
          refine wpAnyE_one (i := 8) (by kernel_rfl) rfl ?_
          change wpList _ _ (Exit.then _ _) [_] _ _
          try simp only [List.setIfInBounds_toArray, List.set_cons_zero, List.set_cons_succ, List.getElem_toArray, List.getElem_cons_zero, List.getElem_cons_succ]
          go_wp2_with (go_at_call 85; refine ((hk5).take hl hlt 44 3 _ (by decide)).mono ?_; rintro e w5 ⟨rfl, hB5⟩)
          have hk6 := (hk5).below hB5
          refine ⟨fun _ => trivial, ?_⟩
          try simp only [List.setIfInBounds_toArray, List.set_cons_zero, List.set_cons_succ, List.getElem_toArray, List.getElem_cons_zero, List.getElem_cons_succ]
          have hz := blk_below' hB5 hz
          refine wpAnyE_take (i := 9) (v := ?_) rfl (by kernel_rfl) (by kernel_rfl) (by kernel_rfl) (by kernel_rfl) (fun _ _ _ h => h) (Or.inl ⟨by rfl, ?_⟩) hSS ?_
          rotate_left
          · intro w hSw
            (try have kc0 := hSw.1.cell); (try have kc1 := hSw.2.cell)
            go_simp
            all_goals with_reducible rfl
          simp only [Act.put, List.setIfInBounds_toArray, List.set_cons_zero, List.set_cons_succ, List.getElem_toArray, List.getElem_cons_zero, List.getElem_cons_succ]
          refine wpAnyE_one (i := 12) (by kernel_rfl) rfl ?_
          change wpList _ _ (Exit.then _ _) [_] _ _
          try simp only [List.setIfInBounds_toArray, List.set_cons_zero, List.set_cons_succ, List.getElem_toArray, List.getElem_cons_zero, List.getElem_cons_succ]
          go_wp2_with (go_at_call 85; refine ((hk6).take hl hlt 4 8 _ (by decide)).mono ?_; rintro e w6 ⟨rfl, hB6⟩)
          have hk7 := (hk6).below hB6
          refine ⟨fun _ => trivial, ?_⟩
          try simp only [List.setIfInBounds_toArray, List.set_cons_zero, List.set_cons_succ, List.getElem_toArray, List.getElem_cons_zero, List.getElem_cons_succ]
          have hz := blk_below' hB6 hz
          refine wpAnyE_take (i := 13) (v := ?_) rfl (by kernel_rfl) (by kernel_rfl) (by kernel_rfl) (by kernel_rfl) (fun _ _ _ h => h) (Or.inl ⟨by rfl, ?_⟩) hSS ?_
          rotate_left
          · intro w hSw
            (try have kc0 := hSw.1.cell); (try have kc1 := hSw.2.cell)
            go_simp
            all_goals with_reducible rfl
          simp only [Act.put, List.setIfInBounds_toArray, List.set_cons_zero, List.set_cons_succ, List.getElem_toArray, List.getElem_cons_zero, List.getElem_cons_succ]
          refine wpAnyE_one (i := 15) (by kernel_rfl) rfl ?_
          change wpList _ _ (Exit.then _ _) [_] _ _
          try simp only [List.setIfInBounds_toArray, List.set_cons_zero, List.set_cons_succ, List.getElem_toArray, List.getElem_cons_zero, List.getElem_cons_succ]
          have hfin := (hk7).new' hz hf (show g ≠ (w4.heap.size) by omega)
          have y0 := (blk_cell hz 0).trans rfl
          have y1 := (blk_cell hz 1).trans rfl
          have y2 := (blk_cell hz 2).trans rfl
          have y3 := (blk_cell hz 3).trans rfl
          simp at y0 y1 y2 y3
          have t0 := blk_free hz 0
          have t1 := blk_free hz 1
          have t2 := blk_free hz 2
          have t3 := blk_free hz 3
          have HFIN := Lib.hid hfin
          clear hfin hz
          go_wp2_with fail
          refine ⟨fun _ => trivial, wpAnyE_end (by kernel_rfl) ?_⟩
          go_wp2_with fail
          go_meet
          exact ⟨_, rfl, HFIN.out⟩
      · skip
        change wpList _ _ (Exit.then _ _) [_] _ _
        try simp only [List.setIfInBounds_toArray, List.set_cons_zero, List.set_cons_succ, List.getElem_toArray, List.getElem_cons_zero, List.getElem_cons_succ]
        go_wp2_with fail
        refine ⟨fun _ => trivial, ?_⟩
        try simp only [List.setIfInBounds_toArray, List.set_cons_zero, List.set_cons_succ, List.getElem_toArray, List.getElem_cons_zero, List.getElem_cons_succ]
        have hz := blk_new w3 (.cells #[.int .i64 0, .int .i64 0, .int .i64 0, .int .i64 0] 109)
        have hf : w.heap.size < (w3).heap.size := blk_lt (hk3).out
        have hk4 := (hk3).below ((Below.refl _ w3).alloc (Nat.le_refl _) (.cells #[.int .i64 0, .int .i64 0, .int .i64 0, .int .i64 0] 109))
        generalize World.alloc w3 _ = WA at *
        refine wpAnyE_one (i := 5) (by kernel_rfl) rfl ?_
        change wpList _ _ (Exit.then _ _) [_] _ _
        try simp only [List.setIfInBounds_toArray, List.set_cons_zero, List.set_cons_succ, List.getElem_toArray, List.getElem_cons_zero, List.getElem_cons_succ]
        go_wp2_with (go_at_call 85; refine ((hk4).take hl hlt 16 5 _ (by decide)).mono ?_; rintro e w4 ⟨rfl, hB4⟩)
        have hk5 := (hk4).below hB4
        refine ⟨fun _ => trivial, ?_⟩
        try simp only [List.setIfInBounds_toArray, List.set_cons_zero, List.set_cons_succ, List.getElem_toArray, List.getElem_cons_zero, List.getElem_cons_succ]
        have hz := blk_below' hB4 hz
        refine wpAnyE_one (i := 8) (by kernel_rfl) rfl ?_
        change wpList _ _ (Exit.then _ _) [_] _ _
        try simp only [List.setIfInBounds_toArray, List.set_cons_zero, List.set_cons_succ, List.getElem_toArray, List.getElem_cons_zero, List.getElem_cons_succ]
        go_wp2_with (go_at_call 85; refine ((hk5).take hl hlt 44 3 _ (by decide)).mono ?_; rintro e w5 ⟨rfl, hB5⟩)
        have hk6 := (hk5).below hB5
        refine ⟨fun _ => trivial, ?_⟩
        try simp only [List.setIfInBounds_toArray, List.set_cons_zero, List.set_cons_succ, List.getElem_toArray, List.getElem_cons_zero, List.getElem_cons_succ]
        have hz := blk_below' hB5 hz
        refine wpAnyE_take (i := 9) (v := ?_) rfl (by kernel_rfl) (by kernel_rfl) (by kernel_rfl) (by kernel_rfl) (fun _ _ _ h => h) (Or.inl ⟨by rfl, ?_⟩) hSS ?_
        rotate_left
        · intro w hSw
          (try have kc0 := hSw.1.cell); (try have kc1 := hSw.2.cell)
          go_simp
          all_goals with_reducible rfl
        simp only [Act.put, List.setIfInBounds_toArray, List.set_cons_zero, List.set_cons_succ, List.getElem_toArray, List.getElem_cons_zero, List.getElem_cons_succ]
        refine wpAnyE_one (i := 12) (by kernel_rfl) rfl ?_
        change wpList _ _ (Exit.then _ _) [_] _ _
        try simp only [List.setIfInBounds_toArray, List.set_cons_zero, List.set_cons_succ, List.getElem_toArray, List.getElem_cons_zero, List.getElem_cons_succ]
        go_wp2_with (go_at_call 85; refine ((hk6).take hl hlt 4 8 _ (by decide)).mono ?_; rintro e w6 ⟨rfl, hB6⟩)
        have hk7 := (hk6).below hB6
        refine ⟨fun _ => trivial, ?_⟩
        try simp only [List.setIfInBounds_toArray, List.set_cons_zero, List.set_cons_succ, List.getElem_toArray, List.getElem_cons_zero, List.getElem_cons_succ]
        have hz := blk_below' hB6 hz
        refine wpAnyE_take (i := 13) (v := ?_) rfl (by kernel_rfl) (by kernel_rfl) (by kernel_rfl) (by kernel_rfl) (fun _ _ _ h => h) (Or.inl ⟨by rfl, ?_⟩) hSS ?_
        rotate_left
        · intro w hSw
          (try have kc0 := hSw.1.cell); (try have kc1 := hSw.2.cell)
          go_simp
          all_goals with_reducible rfl
        simp only [Act.put, List.setIfInBounds_toArray, List.set_cons_zero, List.set_cons_succ, List.getElem_toArray, List.getElem_cons_zero, List.getElem_cons_succ]
        refine wpAnyE_one (i := 15) (by kernel_rfl) rfl ?_
        change wpList _ _ (Exit.then _ _) [_] _ _
        try simp only [List.setIfInBounds_toArray, List.set_cons_zero, List.set_cons_succ, List.getElem_toArray, List.getElem_cons_zero, List.getElem_cons_succ]
        have hfin := (hk7).new' hz hf (show g ≠ (w3.heap.size) by omega)
        have y0 := (blk_cell hz 0).trans rfl
        have y1 := (blk_cell hz 1).trans rfl
        have y2 := (blk_cell hz 2).trans rfl
        have y3 := (blk_cell hz 3).trans rfl
        simp at y0 y1 y2 y3
        have t0 := blk_free hz 0
        have t1 := blk_free hz 1
        have t2 := blk_free hz 2
        have t3 := blk_free hz 3
        have HFIN := Lib.hid hfin
        clear hfin hz
        go_wp2_with fail
        refine ⟨fun _ => trivial, wpAnyE_end (by kernel_rfl) ?_⟩
        go_wp2_with fail
        go_meet
        exact ⟨_, rfl, HFIN.out⟩
    · skip
      change wpList _ _ (Exit.then _ _) [_] _ _
      try simp only [List.setIfInBounds_toArray, List.set_cons_zero, List.set_cons_succ, List.getElem_toArray, List.getElem_cons_zero, List.getElem_cons_succ]
      go_wp2_with fail
      refine ⟨fun _ => trivial, ?_⟩
      try simp only [List.setIfInBounds_toArray, List.set_cons_zero, List.set_cons_succ, List.getElem_toArray, List.getElem_cons_zero, List.getElem_cons_succ]
      have hz := blk_new W2 (.cells #[.int .i64 0, .int .i64 0, .int .i64 0, .int .i64 0] 109)
      have hf : w.heap.size < (W2).heap.size := blk_lt (hk2).out
      have hk3 := (hk2).below ((Below.refl _ W2).alloc (Nat.le_refl _) (.cells #[.int .i64 0, .int .i64 0, .int .i64 0, .int .i64 0] 109))
      generalize World.alloc W2 _ = WA at *
      refine wpAnyE_one (i := 2) (by kernel_rfl) rfl ?_
      change wpList _ _ (Exit.then _ _) [_] _ _
      try simp only [List.setIfInBounds_toArray, List.set_cons_zero, List.set_cons_succ, List.getElem_toArray, List.getElem_cons_zero, List.getElem_cons_succ]
      go_wp2_with (go_at_call 85; refine ((hk3).take hl hlt 12 4 _ (by decide)).mono ?_; rintro e w3 ⟨rfl, hB3⟩)
      have hk4 := (hk3).below hB3
      refine ⟨fun _ => trivial, ?_⟩
      try simp only [List.setIfInBounds_toArray, List.set_cons_zero, List.set_cons_succ, List.getElem_toArray, List.getElem_cons_zero, List.getElem_cons_succ]
      have hz := blk_below' hB3 hz
      refine wpAnyE_one (i := 5) (by kernel_rfl) rfl ?_
      change wpList _ _ (Exit.then _ _) [_] _ _
      try simp only [List.setIfInBounds_toArray, List.set_cons_zero, List.set_cons_succ, List.getElem_toArray, List.getElem_cons_zero, List.getElem_cons_succ]
      go_wp2_with (go_at_call 85; refine ((hk4).take hl hlt 16 5 _ (by decide)).mono ?_; rintro e w4 ⟨rfl, hB4⟩)
      have hk5 := (hk4).below hB4
      refine ⟨fun _ => trivial, ?_⟩
      try simp only [List.setIfInBounds_toArray, List.set_cons_zero, List.set_cons_succ, List.getElem_toArray, List.getElem_cons_zero, List.getElem_cons_succ]
      have hz := blk_below' hB4 hz
      refine wpAnyE_one (i := 8) (by kernel_rfl) rfl ?_
      change wpList _ _ (Exit.then _ _) [_] _ _
      try simp only [List.setIfInBounds_toArray, List.set_cons_zero, List.set_cons_succ, List.getElem_toArray, List.getElem_cons_zero, List.getElem_cons_succ]
      go_wp2_with (go_at_call 85; refine ((hk5).take hl hlt 44 3 _ (by decide)).mono ?_; rintro e w5 ⟨rfl, hB5⟩)
      have hk6 := (hk5).below hB5
      refine ⟨fun _ => trivial, ?_⟩
      try simp only [List.setIfInBounds_toArray, List.set_cons_zero, List.set_cons_succ, List.getElem_toArray, List.getElem_cons_zero, List.getElem_cons_succ]
      have hz := blk_below' hB5 hz
      refine wpAnyE_take (i := 9) (v := ?_) rfl (by kernel_rfl) (by kernel_rfl) (by kernel_rfl) (by kernel_rfl) (fun _ _ _ h => h) (Or.inl ⟨by rfl, ?_⟩) hSS ?_
      rotate_left
      · intro w hSw
        (try have kc0 := hSw.1.cell); (try have kc1 := hSw.2.cell)
        go_simp
        all_goals with_reducible rfl
      simp only [Act.put, List.setIfInBounds_toArray, List.set_cons_zero, List.set_cons_succ, List.getElem_toArray, List.getElem_cons_zero, List.getElem_cons_succ]
      refine wpAnyE_one (i := 12) (by kernel_rfl) rfl ?_
      change wpList _ _ (Exit.then _ _) [_] _ _
      try simp only [List.setIfInBounds_toArray, List.set_cons_zero, List.set_cons_succ, List.getElem_toArray, List.getElem_cons_zero, List.getElem_cons_succ]
      go_wp2_with (go_at_call 85; refine ((hk6).take hl hlt 4 8 _ (by decide)).mono ?_; rintro e w6 ⟨rfl, hB6⟩)
      have hk7 := (hk6).below hB6
      refine ⟨fun _ => trivial, ?_⟩
      try simp only [List.setIfInBounds_toArray, List.set_cons_zero, List.set_cons_succ, List.getElem_toArray, List.getElem_cons_zero, List.getElem_cons_succ]
      have hz := blk_below' hB6 hz
      refine wpAnyE_take (i := 13) (v := ?_) rfl (by kernel_rfl) (by kernel_rfl) (by kernel_rfl) (by kernel_rfl) (fun _ _ _ h => h) (Or.inl ⟨by rfl, ?_⟩) hSS ?_
      rotate_left
      · intro w hSw
        (try have kc0 := hSw.1.cell); (try have kc1 := hSw.2.cell)
        go_simp
        all_goals with_reducible rfl
      simp only [Act.put, List.setIfInBounds_toArray, List.set_cons_zero, List.set_cons_succ, List.getElem_toArray, List.getElem_cons_zero, List.getElem_cons_succ]
      refine wpAnyE_one (i := 15) (by kernel_rfl) rfl ?_
      change wpList _ _ (Exit.then _ _) [_] _ _
      try simp only [List.setIfInBounds_toArray, List.set_cons_zero, List.set_cons_succ, List.getElem_toArray, List.getElem_cons_zero, List.getElem_cons_succ]
      have hfin := (hk7).new' hz hf (show g ≠ (W2.heap.size) by omega)
      have y0 := (blk_cell hz 0).trans rfl
      have y1 := (blk_cell hz 1).trans rfl
      have y2 := (blk_cell hz 2).trans rfl
      have y3 := (blk_cell hz 3).trans rfl
      simp at y0 y1 y2 y3
      have t0 := blk_free hz 0
      have t1 := blk_free hz 1
      have t2 := blk_free hz 2
      have t3 := blk_free hz 3
      have HFIN := Lib.hid hfin
      clear hfin hz
      go_wp2_with fail
      refine ⟨fun _ => trivial, wpAnyE_end (by kernel_rfl) ?_⟩
      go_wp2_with fail
      go_meet
      exact ⟨_, rfl, HFIN.out⟩
  case rest =>
    obtain ⟨b, rfl, hK⟩ := hcut
    have harr : ∀ w, (Instr.arrayAt 145 (.slice (some ⟨g, q, none⟩) 64 cp)).run Tryz.prog w = .ok (.pointer (some ⟨g, q, none⟩)) w := fun w => run_arrayAt64 g q cp w
    have hfin : ∀ W, KS w ⟨g, q, none⟩ l b W → Below w.heap.size w W := fun W h => h.tk.low
    obtain ⟨r, hr⟩ : ∃ r, rcOf l = r := ⟨_, rfl⟩
    have HM := Lib.hid (fun w => mayBe_any (r.life : Int) (r.round : Int) (r.tag : Int) w)
    have HS := Lib.hid (fun w => isSeq_any (r.seq : Int) w)
    unfold recV at HM
    have hKk := hK.kept
    rw [hr] at hKk
    clear hk hgw q1 q2 q3 q4 q5 q6 q7 q8
    have hSS : KG b r w ⟨g, q, none⟩ l wc := ⟨hKk, hK.tk⟩
    have hfar := hK.far
    clear hKk hK
    by_cases h1 : mayR (r.life : Int) (r.round : Int) (r.tag : Int)
    · by_cases h2 : (1 : Int) ≤ (r.seq : Int) ∧ (r.seq : Int) ≤ 1099511627776
      · have hmay : r.may := by obtain ⟨a1, a2, a3, a4, a5, a6⟩ := h1; exact ⟨by omega, by omega, by omega, by omega, by omega, by omega⟩
        rw [decide_eq_true h1] at HM
        rw [decide_eq_true h2] at HS
        have HB := Lib.hid (fun w => bytes_any r hmay w)
        unfold keptV at HB
        have hcmp := eq_bytes (encL r) l (encL_len r) hl (encL_lt r) hlt
        by_cases he : encL r = l
        · have hd : decL l = some r := by unfold decL; rw [hr, if_pos ⟨hmay, he⟩]
          have HD := Lib.hid hd
          clear hd
          rw [he, decide_eq_true rfl] at hcmp
          rw [he] at HB
          go_wp2_with fail
          refine wp_region_early (KG b r w ⟨g, q, none⟩ l) (fun _ => false) (by kernel_rfl) ?_
          have hSS : KG b r w ⟨g, q, none⟩ l wc.drew := ⟨hSS.kept, hSS.tk.bytes, hSS.tk.low.drew, hSS.tk.out⟩
          generalize wc.drew = W4 at *
          simp only [List.size_toArray, List.length_cons, List.length_nil, Nat.reduceAdd, Array.replicate_succ, Array.replicate_zero, List.push_toArray, List.nil_append, List.cons_append]
          refine wpAnyE_take (i := 0) (v := ?_) rfl (by kernel_rfl) (by kernel_rfl) (by kernel_rfl) (by kernel_rfl) (fun _ _ _ h => h) (Or.inl ⟨by rfl, ?_⟩) hSS ?_
          rotate_left
          · intro w hSw
            obtain ⟨kc0, kc1, kc2, kc3⟩ := hSw.cells
            go_simp
            all_goals with_reducible rfl
          simp only [Act.put, List.setIfInBounds_toArray, List.set_cons_zero, List.set_cons_succ, List.getElem_toArray, List.getElem_cons_zero, List.getElem_cons_succ]
          refine wpAnyE_take (i := 1) (v := ?_) rfl (by kernel_rfl) (by kernel_rfl) (by kernel_rfl) (by kernel_rfl) (fun _ _ _ h => h) (Or.inl ⟨by rfl, ?_⟩) hSS ?_
          rotate_left
          · intro w hSw
            obtain ⟨kc0, kc1, kc2, kc3⟩ := hSw.cells
            go_simp
            all_goals with_reducible rfl
          simp only [Act.put, List.setIfInBounds_toArray, List.set_cons_zero, List.set_cons_succ, List.getElem_toArray, List.getElem_cons_zero, List.getElem_cons_succ]
          refine wpAnyE_one (i := 2) (by kernel_rfl) rfl ?_
          change wpList _ _ (Exit.then _ _) [_] _ _
          try simp only [List.setIfInBounds_toArray, List.set_cons_zero, List.set_cons_succ, List.getElem_toArray, List.getElem_cons_zero, List.getElem_cons_succ]
          go_wp2_with (go_at_call 69; refine (HM.out _).mono ?_; rintro e w4 ⟨rfl, hB4⟩)
          have hSS := hSS.below hB4
          refine ⟨fun _ => hSS, ?_⟩
          try simp only [List.setIfInBounds_toArray, List.set_cons_zero, List.set_cons_succ, List.getElem_toArray, List.getElem_cons_zero, List.getElem_cons_succ]
          refine wpAnyE_take (i := 3) (v := ?_) rfl (by kernel_rfl) (by kernel_rfl) (by kernel_rfl) (by kernel_rfl) (fun _ _ _ h => h) (Or.inl ⟨by rfl, ?_⟩) hSS ?_
          rotate_left
          · intro w hSw
            (try have kc0 := hSw.1.cell); (try have kc1 := hSw.2.cell)
            go_simp
            all_goals with_reducible rfl
          simp only [Act.put, List.setIfInBounds_toArray, List.set_cons_zero, List.set_cons_succ, List.getElem_toArray, List.getElem_cons_zero, List.getElem_cons_succ]
          refine wpAnyE_take (i := 4) (v := ?_) rfl (by kernel_rfl) (by kernel_rfl) (by kernel_rfl) (by kernel_rfl) (fun _ _ _ h => h) (Or.inl ⟨by rfl, ?_⟩) hSS ?_
          rotate_left
          · intro w hSw
            (try have kc0 := hSw.1.cell); (try have kc1 := hSw.2.cell)
            go_simp
            all_goals with_reducible rfl
          simp only [Act.put, List.setIfInBounds_toArray, List.set_cons_zero, List.set_cons_succ, List.getElem_toArray, List.getElem_cons_zero, List.getElem_cons_succ]
          refine wpAnyE_take (i := 5) (v := ?_) rfl (by kernel_rfl) (by kernel_rfl) (by kernel_rfl) (by kernel_rfl) (fun _ _ _ h => h) (Or.inl ⟨by rfl, ?_⟩) hSS ?_
          rotate_left
          · intro w hSw
            obtain ⟨kc0, kc1, kc2, kc3⟩ := hSw.cells
            go_simp
            all_goals with_reducible rfl
          simp only [Act.put, List.setIfInBounds_toArray, List.set_cons_zero, List.set_cons_succ, List.getElem_toArray, List.getElem_cons_zero, List.getElem_cons_succ]
          refine wpAnyE_take (i := 6) (v := ?_) rfl (by kernel_rfl) (by kernel_rfl) (by kernel_rfl) (by kernel_rfl) (fun _ _ _ h => h) (Or.inl ⟨by rfl, ?_⟩) hSS ?_
          rotate_left
          · intro w hSw
            obtain ⟨kc0, kc1, kc2, kc3⟩ := hSw.cells
            go_simp
            all_goals with_reducible rfl
          simp only [Act.put, List.setIfInBounds_toArray, List.set_cons_zero, List.set_cons_succ, List.getElem_toArray, List.getElem_cons_zero, List.getElem_cons_succ]
          refine wpAnyE_one (i := 7) (by kernel_rfl) rfl ?_
          change wpList _ _ (Exit.then _ _) [_] _ _
          try simp only [List.setIfInBounds_toArray, List.set_cons_zero, List.set_cons_succ, List.getElem_toArray, List.getElem_cons_zero, List.getElem_cons_succ]
          go_wp2_with (go_at_call 86; refine (HS.out _).mono ?_; rintro e w5 ⟨rfl, hB5⟩)
          have hSS := hSS.below hB5
          refine ⟨fun _ => hSS, ?_⟩
          try simp only [List.setIfInBounds_toArray, List.set_cons_zero, List.set_cons_succ, List.getElem_toArray, List.getElem_cons_zero, List.getElem_cons_succ]
          refine wpAnyE_take (i := 8) (v := ?_) rfl (by kernel_rfl) (by kernel_rfl) (by kernel_rfl) (by kernel_rfl) (fun _ _ _ h => h) (Or.inl ⟨by rfl, ?_⟩) hSS ?_
          rotate_left
          · intro w hSw
            (try have kc0 := hSw.1.cell); (try have kc1 := hSw.2.cell)
            go_simp
            all_goals with_reducible rfl
          simp only [Act.put, List.setIfInBounds_toArray, List.set_cons_zero, List.set_cons_succ, List.getElem_toArray, List.getElem_cons_zero, List.getElem_cons_succ]
          refine wpAnyE_take (i := 9) (v := ?_) rfl (by kernel_rfl) (by kernel_rfl) (by kernel_rfl) (by kernel_rfl) (fun _ _ _ h => h) (Or.inl ⟨by rfl, ?_⟩) hSS ?_
          rotate_left
          · intro w hSw
            (try have kc0 := hSw.1.cell); (try have kc1 := hSw.2.cell)
            go_simp
            all_goals with_reducible rfl
          simp only [Act.put, List.setIfInBounds_toArray, List.set_cons_zero, List.set_cons_succ, List.getElem_toArray, List.getElem_cons_zero, List.getElem_cons_succ]
          refine wpAnyE_take (i := 10) (v := ?_) rfl (by kernel_rfl) (by kernel_rfl) (by kernel_rfl) (by kernel_rfl) (fun _ _ _ h => h) (Or.inl ⟨by rfl, ?_⟩) hSS ?_
          rotate_left
          · intro w hSw
            (try have kc0 := hSw.1.cell); (try have kc1 := hSw.2.cell)
            go_simp
            all_goals with_reducible rfl
          simp only [Act.put, List.setIfInBounds_toArray, List.set_cons_zero, List.set_cons_succ, List.getElem_toArray, List.getElem_cons_zero, List.getElem_cons_succ]
          refine wpAnyE_take (i := 11) (v := ?_) rfl (by kernel_rfl) (by kernel_rfl) (by kernel_rfl) (by kernel_rfl) (fun _ _ _ h => h) (Or.inl ⟨by rfl, ?_⟩) hSS ?_
          rotate_left
          · intro w hSw
            obtain ⟨kc0, kc1, kc2, kc3⟩ := hSw.cells
            go_simp
            all_goals with_reducible rfl
          simp only [Act.put, List.setIfInBounds_toArray, List.set_cons_zero, List.set_cons_succ, List.getElem_toArray, List.getElem_cons_zero, List.getElem_cons_succ]
          refine wpAnyE_take (i := 13) (v := ?_) rfl (by kernel_rfl) (by kernel_rfl) (by kernel_rfl) (by kernel_rfl) (fun _ _ _ h => h) (Or.inl ⟨by rfl, ?_⟩) hSS ?_
          rotate_left
          · intro w hSw
            (try have kc0 := hSw.1.cell); (try have kc1 := hSw.2.cell)
            go_simp
            all_goals with_reducible rfl
          simp only [Act.put, List.setIfInBounds_toArray, List.set_cons_zero, List.set_cons_succ, List.getElem_toArray, List.getElem_cons_zero, List.getElem_cons_succ]
          refine wpAnyE_take (i := 14) (v := ?_) rfl (by kernel_rfl) (by kernel_rfl) (by kernel_rfl) (by kernel_rfl) (fun _ _ _ h => h) (Or.inl ⟨by rfl, ?_⟩) hSS ?_
          rotate_left
          · intro w hSw
            (try have kc0 := hSw.1.cell); (try have kc1 := hSw.2.cell)
            go_simp
            all_goals with_reducible rfl
          simp only [Act.put, List.setIfInBounds_toArray, List.set_cons_zero, List.set_cons_succ, List.getElem_toArray, List.getElem_cons_zero, List.getElem_cons_succ]
          refine wpAnyE_take (i := 15) (v := .agg (bC l).toArray) rfl (by kernel_rfl) (by kernel_rfl) (by kernel_rfl) (by kernel_rfl) (fun _ _ _ h => h) (yieldsIf_load_mid rfl _ _ rfl g q rfl (bC l) _ (fun W h => h.tk.bytes.range) Tryz.underlying145 rfl (slot_info.trans (by rw [bC_len, hl]))) hSS ?_
          simp only [Act.put, List.setIfInBounds_toArray, List.set_cons_zero, List.set_cons_succ, List.getElem_toArray, List.getElem_cons_zero, List.getElem_cons_succ]
          refine wpAnyE_one (i := 12) (by kernel_rfl) rfl ?_
          change wpList _ _ (Exit.then _ _) [_] _ _
          try simp only [List.setIfInBounds_toArray, List.set_cons_zero, List.set_cons_succ, List.getElem_toArray, List.getElem_cons_zero, List.getElem_cons_succ]
          go_wp2_with (go_at_call 87; refine (HB.out _).mono ?_; rintro e w6 ⟨rfl, hB6⟩)
          have hSS := hSS.below hB6
          refine ⟨fun _ => hSS, ?_⟩
          try simp only [List.setIfInBounds_toArray, List.set_cons_zero, List.set_cons_succ, List.getElem_toArray, List.getElem_cons_zero, List.getElem_cons_succ]
          refine wpAnyE_take (i := 16) (v := ?_) rfl (by kernel_rfl) (by kernel_rfl) (by kernel_rfl) (by kernel_rfl) (fun _ _ _ h => h) (Or.inl ⟨by rfl, ?_⟩) hSS ?_
          rotate_left
          · intro w hSw
            (try have kc0 := hSw.1.cell); (try have kc1 := hSw.2.cell)
            go_simp
            all_goals with_reducible rfl
          simp only [Act.put, List.setIfInBounds_toArray, List.set_cons_zero, List.set_cons_succ, List.getElem_toArray, List.getElem_cons_zero, List.getElem_cons_succ]
          refine wpAnyE_take (i := 17) (v := ?_) rfl (by kernel_rfl) (by kernel_rfl) (by kernel_rfl) (by kernel_rfl) (fun _ _ _ h => h) (Or.inl ⟨by rfl, ?_⟩) hSS ?_
          rotate_left
          · intro w hSw
            (try have kc0 := hSw.1.cell); (try have kc1 := hSw.2.cell)
            go_simp
            all_goals with_reducible rfl
          simp only [Act.put, List.setIfInBounds_toArray, List.set_cons_zero, List.set_cons_succ, List.getElem_toArray, List.getElem_cons_zero, List.getElem_cons_succ]
          refine wpAnyE_end (by kernel_rfl) ?_
          have HK := Lib.hid hSS
          have z0 := (blk_cell hSS.tk.out 0).trans rfl
          have z1 := (blk_cell hSS.tk.out 1).trans rfl
          have z2 := (blk_cell hSS.tk.out 2).trans rfl
          simp at z0 z1 z2
          have zf0 := blk_free hSS.tk.out 0
          have zf1 := blk_free hSS.tk.out 1
          have zf2 := blk_free hSS.tk.out 2
          obtain ⟨kc0, kc1, kc2, kc3⟩ := hSS.cells
          clear hSS
          have hne : ¬ b = w.heap.size := by omega
          have hne2 : ¬ w.heap.size = b := by omega
          go_wp2_with fail
          go_region
          all_goals (go_wp2_with fail)
          all_goals generalize hWF : World.setCell (World.setCell (World.setCell _ _ _) _ _) _ _ = WF
          all_goals skip
          have hfb : WF.heap[w.heap.size]? = some (.cells #[.int .i64 ((r.life : Int)), .int .i64 ((r.round : Int)), .int .i64 ((r.tag : Int))] 35 (0, 0)) := by
            rw [← hWF]; exact blk_store (blk_store (blk_store HK.out.tk.out 0 _) 1 _) 2 _
          have hfl : Below w.heap.size w WF := by
            rw [← hWF]; exact ((HK.out.tk.low.setCell (Nat.le_refl _) _).setCell (Nat.le_refl _) _).setCell (Nat.le_refl _) _
          have y0 := (blk_cell hfb 0).trans rfl
          have y1 := (blk_cell hfb 1).trans rfl
          have y2 := (blk_cell hfb 2).trans rfl
          simp at y0 y1 y2
          exact bodyPost_ret (v := .tuple #[.agg #[.int .i64 ((r.life : Int)), .int .i64 ((r.round : Int)), .int .i64 ((r.tag : Int))], .int .i64 ((r.seq : Int)), .int .i64 0]) (by simp [results, Tryz.results68, go_sem, y0, y1, y2]) rfl ⟨by rw [HD.out]; rfl, hfl.drew⟩
        · have hd : decL l = none := by unfold decL; rw [hr, if_neg (fun h => he h.2)]
          have HD := Lib.hid hd
          clear hd
          rw [decide_eq_false he] at hcmp
          go_wp2_with fail
          refine wp_region_early (KG b r w ⟨g, q, none⟩ l) (fun _ => false) (by kernel_rfl) ?_
          have hSS : KG b r w ⟨g, q, none⟩ l wc.drew := ⟨hSS.kept, hSS.tk.bytes, hSS.tk.low.drew, hSS.tk.out⟩
          generalize wc.drew = W4 at *
          simp only [List.size_toArray, List.length_cons, List.length_nil, Nat.reduceAdd, Array.replicate_succ, Array.replicate_zero, List.push_toArray, List.nil_append, List.cons_append]
          refine wpAnyE_take (i := 0) (v := ?_) rfl (by kernel_rfl) (by kernel_rfl) (by kernel_rfl) (by kernel_rfl) (fun _ _ _ h => h) (Or.inl ⟨by rfl, ?_⟩) hSS ?_
          rotate_left
          · intro w hSw
            obtain ⟨kc0, kc1, kc2, kc3⟩ := hSw.cells
            go_simp
            all_goals with_reducible rfl
          simp only [Act.put, List.setIfInBounds_toArray, List.set_cons_zero, List.set_cons_succ, List.getElem_toArray, List.getElem_cons_zero, List.getElem_cons_succ]
          refine wpAnyE_take (i := 1) (v := ?_) rfl (by kernel_rfl) (by kernel_rfl) (by kernel_rfl) (by kernel_rfl) (fun _ _ _ h => h) (Or.inl ⟨by rfl, ?_⟩) hSS ?_
          rotate_left
          · intro w hSw
            obtain ⟨kc0, kc1, kc2, kc3⟩ := hSw.cells
            go_simp
            all_goals with_reducible rfl
          simp only [Act.put, List.setIfInBounds_toArray, List.set_cons_zero, List.set_cons_succ, List.getElem_toArray, List.getElem_cons_zero, List.getElem_cons_succ]
          refine wpAnyE_one (i := 2) (by kernel_rfl) rfl ?_
          change wpList _ _ (Exit.then _ _) [_] _ _
          try simp only [List.setIfInBounds_toArray, List.set_cons_zero, List.set_cons_succ, List.getElem_toArray, List.getElem_cons_zero, List.getElem_cons_succ]
          go_wp2_with (go_at_call 69; refine (HM.out _).mono ?_; rintro e w4 ⟨rfl, hB4⟩)
          have hSS := hSS.below hB4
          refine ⟨fun _ => hSS, ?_⟩
          try simp only [List.setIfInBounds_toArray, List.set_cons_zero, List.set_cons_succ, List.getElem_toArray, List.getElem_cons_zero, List.getElem_cons_succ]
          refine wpAnyE_take (i := 3) (v := ?_) rfl (by kernel_rfl) (by kernel_rfl) (by kernel_rfl) (by kernel_rfl) (fun _ _ _ h => h) (Or.inl ⟨by rfl, ?_⟩) hSS ?_
          rotate_left
          · intro w hSw
            (try have kc0 := hSw.1.cell); (try have kc1 := hSw.2.cell)
            go_simp
            all_goals with_reducible rfl
          simp only [Act.put, List.setIfInBounds_toArray, List.set_cons_zero, List.set_cons_succ, List.getElem_toArray, List.getElem_cons_zero, List.getElem_cons_succ]
          refine wpAnyE_take (i := 4) (v := ?_) rfl (by kernel_rfl) (by kernel_rfl) (by kernel_rfl) (by kernel_rfl) (fun _ _ _ h => h) (Or.inl ⟨by rfl, ?_⟩) hSS ?_
          rotate_left
          · intro w hSw
            (try have kc0 := hSw.1.cell); (try have kc1 := hSw.2.cell)
            go_simp
            all_goals with_reducible rfl
          simp only [Act.put, List.setIfInBounds_toArray, List.set_cons_zero, List.set_cons_succ, List.getElem_toArray, List.getElem_cons_zero, List.getElem_cons_succ]
          refine wpAnyE_take (i := 5) (v := ?_) rfl (by kernel_rfl) (by kernel_rfl) (by kernel_rfl) (by kernel_rfl) (fun _ _ _ h => h) (Or.inl ⟨by rfl, ?_⟩) hSS ?_
          rotate_left
          · intro w hSw
            obtain ⟨kc0, kc1, kc2, kc3⟩ := hSw.cells
            go_simp
            all_goals with_reducible rfl
          simp only [Act.put, List.setIfInBounds_toArray, List.set_cons_zero, List.set_cons_succ, List.getElem_toArray, List.getElem_cons_zero, List.getElem_cons_succ]
          refine wpAnyE_take (i := 6) (v := ?_) rfl (by kernel_rfl) (by kernel_rfl) (by kernel_rfl) (by kernel_rfl) (fun _ _ _ h => h) (Or.inl ⟨by rfl, ?_⟩) hSS ?_
          rotate_left
          · intro w hSw
            obtain ⟨kc0, kc1, kc2, kc3⟩ := hSw.cells
            go_simp
            all_goals with_reducible rfl
          simp only [Act.put, List.setIfInBounds_toArray, List.set_cons_zero, List.set_cons_succ, List.getElem_toArray, List.getElem_cons_zero, List.getElem_cons_succ]
          refine wpAnyE_one (i := 7) (by kernel_rfl) rfl ?_
          change wpList _ _ (Exit.then _ _) [_] _ _
          try simp only [List.setIfInBounds_toArray, List.set_cons_zero, List.set_cons_succ, List.getElem_toArray, List.getElem_cons_zero, List.getElem_cons_succ]
          go_wp2_with (go_at_call 86; refine (HS.out _).mono ?_; rintro e w5 ⟨rfl, hB5⟩)
          have hSS := hSS.below hB5
          refine ⟨fun _ => hSS, ?_⟩
          try simp only [List.setIfInBounds_toArray, List.set_cons_zero, List.set_cons_succ, List.getElem_toArray, List.getElem_cons_zero, List.getElem_cons_succ]
          refine wpAnyE_take (i := 8) (v := ?_) rfl (by kernel_rfl) (by kernel_rfl) (by kernel_rfl) (by kernel_rfl) (fun _ _ _ h => h) (Or.inl ⟨by rfl, ?_⟩) hSS ?_
          rotate_left
          · intro w hSw
            (try have kc0 := hSw.1.cell); (try have kc1 := hSw.2.cell)
            go_simp
            all_goals with_reducible rfl
          simp only [Act.put, List.setIfInBounds_toArray, List.set_cons_zero, List.set_cons_succ, List.getElem_toArray, List.getElem_cons_zero, List.getElem_cons_succ]
          refine wpAnyE_take (i := 9) (v := ?_) rfl (by kernel_rfl) (by kernel_rfl) (by kernel_rfl) (by kernel_rfl) (fun _ _ _ h => h) (Or.inl ⟨by rfl, ?_⟩) hSS ?_
          rotate_left
          · intro w hSw
            (try have kc0 := hSw.1.cell); (try have kc1 := hSw.2.cell)
            go_simp
            all_goals with_reducible rfl
          simp only [Act.put, List.setIfInBounds_toArray, List.set_cons_zero, List.set_cons_succ, List.getElem_toArray, List.getElem_cons_zero, List.getElem_cons_succ]
          refine wpAnyE_take (i := 10) (v := ?_) rfl (by kernel_rfl) (by kernel_rfl) (by kernel_rfl) (by kernel_rfl) (fun _ _ _ h => h) (Or.inl ⟨by rfl, ?_⟩) hSS ?_
          rotate_left
          · intro w hSw
            (try have kc0 := hSw.1.cell); (try have kc1 := hSw.2.cell)
            go_simp
            all_goals with_reducible rfl
          simp only [Act.put, List.setIfInBounds_toArray, List.set_cons_zero, List.set_cons_succ, List.getElem_toArray, List.getElem_cons_zero, List.getElem_cons_succ]
          refine wpAnyE_take (i := 11) (v := ?_) rfl (by kernel_rfl) (by kernel_rfl) (by kernel_rfl) (by kernel_rfl) (fun _ _ _ h => h) (Or.inl ⟨by rfl, ?_⟩) hSS ?_
          rotate_left
          · intro w hSw
            obtain ⟨kc0, kc1, kc2, kc3⟩ := hSw.cells
            go_simp
            all_goals with_reducible rfl
          simp only [Act.put, List.setIfInBounds_toArray, List.set_cons_zero, List.set_cons_succ, List.getElem_toArray, List.getElem_cons_zero, List.getElem_cons_succ]
          refine wpAnyE_take (i := 13) (v := ?_) rfl (by kernel_rfl) (by kernel_rfl) (by kernel_rfl) (by kernel_rfl) (fun _ _ _ h => h) (Or.inl ⟨by rfl, ?_⟩) hSS ?_
          rotate_left
          · intro w hSw
            (try have kc0 := hSw.1.cell); (try have kc1 := hSw.2.cell)
            go_simp
            all_goals with_reducible rfl
          simp only [Act.put, List.setIfInBounds_toArray, List.set_cons_zero, List.set_cons_succ, List.getElem_toArray, List.getElem_cons_zero, List.getElem_cons_succ]
          refine wpAnyE_take (i := 14) (v := ?_) rfl (by kernel_rfl) (by kernel_rfl) (by kernel_rfl) (by kernel_rfl) (fun _ _ _ h => h) (Or.inl ⟨by rfl, ?_⟩) hSS ?_
          rotate_left
          · intro w hSw
            (try have kc0 := hSw.1.cell); (try have kc1 := hSw.2.cell)
            go_simp
            all_goals with_reducible rfl
          simp only [Act.put, List.setIfInBounds_toArray, List.set_cons_zero, List.set_cons_succ, List.getElem_toArray, List.getElem_cons_zero, List.getElem_cons_succ]
          refine wpAnyE_take (i := 15) (v := .agg (bC l).toArray) rfl (by kernel_rfl) (by kernel_rfl) (by kernel_rfl) (by kernel_rfl) (fun _ _ _ h => h) (yieldsIf_load_mid rfl _ _ rfl g q rfl (bC l) _ (fun W h => h.tk.bytes.range) Tryz.underlying145 rfl (slot_info.trans (by rw [bC_len, hl]))) hSS ?_
          simp only [Act.put, List.setIfInBounds_toArray, List.set_cons_zero, List.set_cons_succ, List.getElem_toArray, List.getElem_cons_zero, List.getElem_cons_succ]
          refine wpAnyE_one (i := 12) (by kernel_rfl) rfl ?_
          change wpList _ _ (Exit.then _ _) [_] _ _
          try simp only [List.setIfInBounds_toArray, List.set_cons_zero, List.set_cons_succ, List.getElem_toArray, List.getElem_cons_zero, List.getElem_cons_succ]
          go_wp2_with (go_at_call 87; refine (HB.out _).mono ?_; rintro e w6 ⟨rfl, hB6⟩)
          have hSS := hSS.below hB6
          refine ⟨fun _ => hSS, ?_⟩
          try simp only [List.setIfInBounds_toArray, List.set_cons_zero, List.set_cons_succ, List.getElem_toArray, List.getElem_cons_zero, List.getElem_cons_succ]
          refine wpAnyE_take (i := 16) (v := ?_) rfl (by kernel_rfl) (by kernel_rfl) (by kernel_rfl) (by kernel_rfl) (fun _ _ _ h => h) (Or.inl ⟨by rfl, ?_⟩) hSS ?_
          rotate_left
          · intro w hSw
            (try have kc0 := hSw.1.cell); (try have kc1 := hSw.2.cell)
            go_simp
            all_goals with_reducible rfl
          simp only [Act.put, List.setIfInBounds_toArray, List.set_cons_zero, List.set_cons_succ, List.getElem_toArray, List.getElem_cons_zero, List.getElem_cons_succ]
          refine wpAnyE_take (i := 17) (v := ?_) rfl (by kernel_rfl) (by kernel_rfl) (by kernel_rfl) (by kernel_rfl) (fun _ _ _ h => h) (Or.inl ⟨by rfl, ?_⟩) hSS ?_
          rotate_left
          · intro w hSw
            (try have kc0 := hSw.1.cell); (try have kc1 := hSw.2.cell)
            go_simp
            all_goals with_reducible rfl
          simp only [Act.put, List.setIfInBounds_toArray, List.set_cons_zero, List.set_cons_succ, List.getElem_toArray, List.getElem_cons_zero, List.getElem_cons_succ]
          refine wpAnyE_end (by kernel_rfl) ?_
          have HK := Lib.hid hSS
          have z0 := (blk_cell hSS.tk.out 0).trans rfl
          have z1 := (blk_cell hSS.tk.out 1).trans rfl
          have z2 := (blk_cell hSS.tk.out 2).trans rfl
          simp at z0 z1 z2
          have zf0 := blk_free hSS.tk.out 0
          have zf1 := blk_free hSS.tk.out 1
          have zf2 := blk_free hSS.tk.out 2
          clear hSS
          go_wp2_with fail
          generalize hWF : World.setCell (World.setCell (World.setCell _ _ _) _ _) _ _ = WF
          have hfb : WF.heap[w.heap.size]? = some (.cells #[.int .i64 (0), .int .i64 (0), .int .i64 (0)] 35 (0, 0)) := by
            rw [← hWF]; exact blk_store (blk_store (blk_store HK.out.tk.out 0 _) 1 _) 2 _
          have hfl : Below w.heap.size w WF := by
            rw [← hWF]; exact ((HK.out.tk.low.setCell (Nat.le_refl _) _).setCell (Nat.le_refl _) _).setCell (Nat.le_refl _) _
          have y0 := (blk_cell hfb 0).trans rfl
          have y1 := (blk_cell hfb 1).trans rfl
          have y2 := (blk_cell hfb 2).trans rfl
          simp at y0 y1 y2
          exact bodyPost_ret (v := .tuple #[.agg #[.int .i64 (0), .int .i64 (0), .int .i64 (0)], .int .i64 (0), .int .i64 70]) (by simp [results, Tryz.results68, go_sem, y0, y1, y2]) rfl ⟨by rw [HD.out]; rfl, hfl⟩
      · have hd : decL l = none := by
          unfold decL; rw [hr, if_neg]
          rintro ⟨⟨a1, a2, a3, a4, a5, a6⟩, _⟩
          exact h2 ⟨by omega, by omega⟩
        have HD := Lib.hid hd
        clear hd
        rw [decide_eq_true h1] at HM
        rw [decide_eq_false h2] at HS
        go_wp2_with fail
        refine wp_region_early (KG b r w ⟨g, q, none⟩ l) (fun _ => false) (by kernel_rfl) ?_
        have hSS : KG b r w ⟨g, q, none⟩ l wc.drew := ⟨hSS.kept, hSS.tk.bytes, hSS.tk.low.drew, hSS.tk.out⟩
        generalize wc.drew = W4 at *
        simp only [List.size_toArray, List.length_cons, List.length_nil, Nat.reduceAdd, Array.replicate_succ, Array.replicate_zero, List.push_toArray, List.nil_append, List.cons_append]
        refine wpAnyE_take (i := 0) (v := ?_) rfl (by kernel_rfl) (by kernel_rfl) (by kernel_rfl) (by kernel_rfl) (fun _ _ _ h => h) (Or.inl ⟨by rfl, ?_⟩) hSS ?_
        rotate_left
        · intro w hSw
          obtain ⟨kc0, kc1, kc2, kc3⟩ := hSw.cells
          go_simp
          all_goals with_reducible rfl
        simp only [Act.put, List.setIfInBounds_toArray, List.set_cons_zero, List.set_cons_succ, List.getElem_toArray, List.getElem_cons_zero, List.getElem_cons_succ]
        refine wpAnyE_take (i := 1) (v := ?_) rfl (by kernel_rfl) (by kernel_rfl) (by kernel_rfl) (by kernel_rfl) (fun _ _ _ h => h) (Or.inl ⟨by rfl, ?_⟩) hSS ?_
        rotate_left
        · intro w hSw
          obtain ⟨kc0, kc1, kc2, kc3⟩ := hSw.cells
          go_simp
          all_goals with_reducible rfl
        simp only [Act.put, List.setIfInBounds_toArray, List.set_cons_zero, List.set_cons_succ, List.getElem_toArray, List.getElem_cons_zero, List.getElem_cons_succ]
        refine wpAnyE_one (i := 2) (by kernel_rfl) rfl ?_
        change wpList _ _ (Exit.then _ _) [_] _ _
        try simp only [List.setIfInBounds_toArray, List.set_cons_zero, List.set_cons_succ, List.getElem_toArray, List.getElem_cons_zero, List.getElem_cons_succ]
        go_wp2_with (go_at_call 69; refine (HM.out _).mono ?_; rintro e w4 ⟨rfl, hB4⟩)
        have hSS := hSS.below hB4
        refine ⟨fun _ => hSS, ?_⟩
        try simp only [List.setIfInBounds_toArray, List.set_cons_zero, List.set_cons_succ, List.getElem_toArray, List.getElem_cons_zero, List.getElem_cons_succ]
        refine wpAnyE_take (i := 3) (v := ?_) rfl (by kernel_rfl) (by kernel_rfl) (by kernel_rfl) (by kernel_rfl) (fun _ _ _ h => h) (Or.inl ⟨by rfl, ?_⟩) hSS ?_
        rotate_left
        · intro w hSw
          (try have kc0 := hSw.1.cell); (try have kc1 := hSw.2.cell)
          go_simp
          all_goals with_reducible rfl
        simp only [Act.put, List.setIfInBounds_toArray, List.set_cons_zero, List.set_cons_succ, List.getElem_toArray, List.getElem_cons_zero, List.getElem_cons_succ]
        refine wpAnyE_take (i := 4) (v := ?_) rfl (by kernel_rfl) (by kernel_rfl) (by kernel_rfl) (by kernel_rfl) (fun _ _ _ h => h) (Or.inl ⟨by rfl, ?_⟩) hSS ?_
        rotate_left
        · intro w hSw
          (try have kc0 := hSw.1.cell); (try have kc1 := hSw.2.cell)
          go_simp
          all_goals with_reducible rfl
        simp only [Act.put, List.setIfInBounds_toArray, List.set_cons_zero, List.set_cons_succ, List.getElem_toArray, List.getElem_cons_zero, List.getElem_cons_succ]
        refine wpAnyE_take (i := 5) (v := ?_) rfl (by kernel_rfl) (by kernel_rfl) (by kernel_rfl) (by kernel_rfl) (fun _ _ _ h => h) (Or.inl ⟨by rfl, ?_⟩) hSS ?_
        rotate_left
        · intro w hSw
          obtain ⟨kc0, kc1, kc2, kc3⟩ := hSw.cells
          go_simp
          all_goals with_reducible rfl
        simp only [Act.put, List.setIfInBounds_toArray, List.set_cons_zero, List.set_cons_succ, List.getElem_toArray, List.getElem_cons_zero, List.getElem_cons_succ]
        refine wpAnyE_take (i := 6) (v := ?_) rfl (by kernel_rfl) (by kernel_rfl) (by kernel_rfl) (by kernel_rfl) (fun _ _ _ h => h) (Or.inl ⟨by rfl, ?_⟩) hSS ?_
        rotate_left
        · intro w hSw
          obtain ⟨kc0, kc1, kc2, kc3⟩ := hSw.cells
          go_simp
          all_goals with_reducible rfl
        simp only [Act.put, List.setIfInBounds_toArray, List.set_cons_zero, List.set_cons_succ, List.getElem_toArray, List.getElem_cons_zero, List.getElem_cons_succ]
        refine wpAnyE_one (i := 7) (by kernel_rfl) rfl ?_
        change wpList _ _ (Exit.then _ _) [_] _ _
        try simp only [List.setIfInBounds_toArray, List.set_cons_zero, List.set_cons_succ, List.getElem_toArray, List.getElem_cons_zero, List.getElem_cons_succ]
        go_wp2_with (go_at_call 86; refine (HS.out _).mono ?_; rintro e w5 ⟨rfl, hB5⟩)
        have hSS := hSS.below hB5
        refine ⟨fun _ => hSS, ?_⟩
        try simp only [List.setIfInBounds_toArray, List.set_cons_zero, List.set_cons_succ, List.getElem_toArray, List.getElem_cons_zero, List.getElem_cons_succ]
        refine wpAnyE_take (i := 8) (v := ?_) rfl (by kernel_rfl) (by kernel_rfl) (by kernel_rfl) (by kernel_rfl) (fun _ _ _ h => h) (Or.inl ⟨by rfl, ?_⟩) hSS ?_
        rotate_left
        · intro w hSw
          (try have kc0 := hSw.1.cell); (try have kc1 := hSw.2.cell)
          go_simp
          all_goals with_reducible rfl
        simp only [Act.put, List.setIfInBounds_toArray, List.set_cons_zero, List.set_cons_succ, List.getElem_toArray, List.getElem_cons_zero, List.getElem_cons_succ]
        refine wpAnyE_take (i := 9) (v := ?_) rfl (by kernel_rfl) (by kernel_rfl) (by kernel_rfl) (by kernel_rfl) (fun _ _ _ h => h) (Or.inl ⟨by rfl, ?_⟩) hSS ?_
        rotate_left
        · intro w hSw
          (try have kc0 := hSw.1.cell); (try have kc1 := hSw.2.cell)
          go_simp
          all_goals with_reducible rfl
        simp only [Act.put, List.setIfInBounds_toArray, List.set_cons_zero, List.set_cons_succ, List.getElem_toArray, List.getElem_cons_zero, List.getElem_cons_succ]
        refine wpAnyE_take (i := 10) (v := ?_) rfl (by kernel_rfl) (by kernel_rfl) (by kernel_rfl) (by kernel_rfl) (fun _ _ _ h => h) (Or.inl ⟨by rfl, ?_⟩) hSS ?_
        rotate_left
        · intro w hSw
          (try have kc0 := hSw.1.cell); (try have kc1 := hSw.2.cell)
          go_simp
          all_goals with_reducible rfl
        simp only [Act.put, List.setIfInBounds_toArray, List.set_cons_zero, List.set_cons_succ, List.getElem_toArray, List.getElem_cons_zero, List.getElem_cons_succ]
        refine wpAnyE_take (i := 11) (v := undef) rfl (by kernel_rfl) (by kernel_rfl) (by kernel_rfl) (by kernel_rfl) (fun _ _ _ h => h) (Or.inr ⟨by rfl, rfl⟩) hSS ?_
        simp only [Act.put, List.setIfInBounds_toArray, List.set_cons_zero, List.set_cons_succ, List.getElem_toArray, List.getElem_cons_zero, List.getElem_cons_succ]
        refine wpAnyE_take (i := 12) (v := undef) rfl (by kernel_rfl) (by kernel_rfl) (by kernel_rfl) (by kernel_rfl) (fun _ _ _ h => h) (Or.inr ⟨by rfl, rfl⟩) hSS ?_
        simp only [Act.put, List.setIfInBounds_toArray, List.set_cons_zero, List.set_cons_succ, List.getElem_toArray, List.getElem_cons_zero, List.getElem_cons_succ]
        refine wpAnyE_take (i := 13) (v := undef) rfl (by kernel_rfl) (by kernel_rfl) (by kernel_rfl) (by kernel_rfl) (fun _ _ _ h => h) (Or.inr ⟨by rfl, rfl⟩) hSS ?_
        simp only [Act.put, List.setIfInBounds_toArray, List.set_cons_zero, List.set_cons_succ, List.getElem_toArray, List.getElem_cons_zero, List.getElem_cons_succ]
        refine wpAnyE_take (i := 14) (v := undef) rfl (by kernel_rfl) (by kernel_rfl) (by kernel_rfl) (by kernel_rfl) (fun _ _ _ h => h) (Or.inr ⟨by rfl, rfl⟩) hSS ?_
        simp only [Act.put, List.setIfInBounds_toArray, List.set_cons_zero, List.set_cons_succ, List.getElem_toArray, List.getElem_cons_zero, List.getElem_cons_succ]
        refine wpAnyE_take (i := 15) (v := undef) rfl (by kernel_rfl) (by kernel_rfl) (by kernel_rfl) (by kernel_rfl) (fun _ _ _ h => h) (Or.inr ⟨by rfl, rfl⟩) hSS ?_
        simp only [Act.put, List.setIfInBounds_toArray, List.set_cons_zero, List.set_cons_succ, List.getElem_toArray, List.getElem_cons_zero, List.getElem_cons_succ]
        refine wpAnyE_take (i := 16) (v := undef) rfl (by kernel_rfl) (by kernel_rfl) (by kernel_rfl) (by kernel_rfl) (fun _ _ _ h => h) (Or.inr ⟨by rfl, rfl⟩) hSS ?_
        simp only [Act.put, List.setIfInBounds_toArray, List.set_cons_zero, List.set_cons_succ, List.getElem_toArray, List.getElem_cons_zero, List.getElem_cons_succ]
        refine wpAnyE_take (i := 17) (v := ?_) rfl (by kernel_rfl) (by kernel_rfl) (by kernel_rfl) (by kernel_rfl) (fun _ _ _ h => h) (Or.inl ⟨by rfl, ?_⟩) hSS ?_
        rotate_left
        · intro w hSw
          (try have kc0 := hSw.1.cell); (try have kc1 := hSw.2.cell)
          go_simp
          all_goals with_reducible rfl
        simp only [Act.put, List.setIfInBounds_toArray, List.set_cons_zero, List.set_cons_succ, List.getElem_toArray, List.getElem_cons_zero, List.getElem_cons_succ]
        refine wpAnyE_end (by kernel_rfl) ?_
        have HK := Lib.hid hSS
        have z0 := (blk_cell hSS.tk.out 0).trans rfl
        have z1 := (blk_cell hSS.tk.out 1).trans rfl
        have z2 := (blk_cell hSS.tk.out 2).trans rfl
        simp at z0 z1 z2
        have zf0 := blk_free hSS.tk.out 0
        have zf1 := blk_free hSS.tk.out 1
        have zf2 := blk_free hSS.tk.out 2
        clear hSS
        go_wp2_with fail
        generalize hWF : World.setCell (World.setCell (World.setCell _ _ _) _ _) _ _ = WF
        have hfb : WF.heap[w.heap.size]? = some (.cells #[.int .i64 (0), .int .i64 (0), .int .i64 (0)] 35 (0, 0)) := by
          rw [← hWF]; exact blk_store (blk_store (blk_store HK.out.tk.out 0 _) 1 _) 2 _
        have hfl : Below w.heap.size w WF := by
          rw [← hWF]; exact ((HK.out.tk.low.setCell (Nat.le_refl _) _).setCell (Nat.le_refl _) _).setCell (Nat.le_refl _) _
        have y0 := (blk_cell hfb 0).trans rfl
        have y1 := (blk_cell hfb 1).trans rfl
        have y2 := (blk_cell hfb 2).trans rfl
        simp at y0 y1 y2
        exact bodyPost_ret (v := .tuple #[.agg #[.int .i64 (0), .int .i64 (0), .int .i64 (0)], .int .i64 (0), .int .i64 70]) (by simp [results, Tryz.results68, go_sem, y0, y1, y2]) rfl ⟨by rw [HD.out]; rfl, hfl⟩
    · have hd : decL l = none := by
        unfold decL; rw [hr, if_neg]
        rintro ⟨⟨a1, a2, a3, a4, a5, a6⟩, _⟩
        exact h1 ⟨by omega, by omega, by omega, by omega, by omega, by omega⟩
      have HD := Lib.hid hd
      clear hd
      rw [decide_eq_false h1] at HM
      go_wp2_with fail
      refine wp_region_early (KG b r w ⟨g, q, none⟩ l) (fun _ => false) (by kernel_rfl) ?_
      have hSS : KG b r w ⟨g, q, none⟩ l wc.drew := ⟨hSS.kept, hSS.tk.bytes, hSS.tk.low.drew, hSS.tk.out⟩
      generalize wc.drew = W4 at *
      simp only [List.size_toArray, List.length_cons, List.length_nil, Nat.reduceAdd, Array.replicate_succ, Array.replicate_zero, List.push_toArray, List.nil_append, List.cons_append]
      refine wpAnyE_take (i := 0) (v := ?_) rfl (by kernel_rfl) (by kernel_rfl) (by kernel_rfl) (by kernel_rfl) (fun _ _ _ h => h) (Or.inl ⟨by rfl, ?_⟩) hSS ?_
      rotate_left
      · intro w hSw
        obtain ⟨kc0, kc1, kc2, kc3⟩ := hSw.cells
        go_simp
        all_goals with_reducible rfl
      simp only [Act.put, List.setIfInBounds_toArray, List.set_cons_zero, List.set_cons_succ, List.getElem_toArray, List.getElem_cons_zero, List.getElem_cons_succ]
      refine wpAnyE_take (i := 1) (v := ?_) rfl (by kernel_rfl) (by kernel_rfl) (by kernel_rfl) (by kernel_rfl) (fun _ _ _ h => h) (Or.inl ⟨by rfl, ?_⟩) hSS ?_
      rotate_left
      · intro w hSw
        obtain ⟨kc0, kc1, kc2, kc3⟩ := hSw.cells
        go_simp
        all_goals with_reducible rfl
      simp only [Act.put, List.setIfInBounds_toArray, List.set_cons_zero, List.set_cons_succ, List.getElem_toArray, List.getElem_cons_zero, List.getElem_cons_succ]
      refine wpAnyE_one (i := 2) (by kernel_rfl) rfl ?_
      change wpList _ _ (Exit.then _ _) [_] _ _
      try simp only [List.setIfInBounds_toArray, List.set_cons_zero, List.set_cons_succ, List.getElem_toArray, List.getElem_cons_zero, List.getElem_cons_succ]
      go_wp2_with (go_at_call 69; refine (HM.out _).mono ?_; rintro e w4 ⟨rfl, hB4⟩)
      have hSS := hSS.below hB4
      refine ⟨fun _ => hSS, ?_⟩
      try simp only [List.setIfInBounds_toArray, List.set_cons_zero, List.set_cons_succ, List.getElem_toArray, List.getElem_cons_zero, List.getElem_cons_succ]
      refine wpAnyE_take (i := 3) (v := ?_) rfl (by kernel_rfl) (by kernel_rfl) (by kernel_rfl) (by kernel_rfl) (fun _ _ _ h => h) (Or.inl ⟨by rfl, ?_⟩) hSS ?_
      rotate_left
      · intro w hSw
        (try have kc0 := hSw.1.cell); (try have kc1 := hSw.2.cell)
        go_simp
        all_goals with_reducible rfl
      simp only [Act.put, List.setIfInBounds_toArray, List.set_cons_zero, List.set_cons_succ, List.getElem_toArray, List.getElem_cons_zero, List.getElem_cons_succ]
      refine wpAnyE_take (i := 4) (v := ?_) rfl (by kernel_rfl) (by kernel_rfl) (by kernel_rfl) (by kernel_rfl) (fun _ _ _ h => h) (Or.inl ⟨by rfl, ?_⟩) hSS ?_
      rotate_left
      · intro w hSw
        (try have kc0 := hSw.1.cell); (try have kc1 := hSw.2.cell)
        go_simp
        all_goals with_reducible rfl
      simp only [Act.put, List.setIfInBounds_toArray, List.set_cons_zero, List.set_cons_succ, List.getElem_toArray, List.getElem_cons_zero, List.getElem_cons_succ]
      refine wpAnyE_take (i := 5) (v := undef) rfl (by kernel_rfl) (by kernel_rfl) (by kernel_rfl) (by kernel_rfl) (fun _ _ _ h => h) (Or.inr ⟨by rfl, rfl⟩) hSS ?_
      simp only [Act.put, List.setIfInBounds_toArray, List.set_cons_zero, List.set_cons_succ, List.getElem_toArray, List.getElem_cons_zero, List.getElem_cons_succ]
      refine wpAnyE_take (i := 6) (v := undef) rfl (by kernel_rfl) (by kernel_rfl) (by kernel_rfl) (by kernel_rfl) (fun _ _ _ h => h) (Or.inr ⟨by rfl, rfl⟩) hSS ?_
      simp only [Act.put, List.setIfInBounds_toArray, List.set_cons_zero, List.set_cons_succ, List.getElem_toArray, List.getElem_cons_zero, List.getElem_cons_succ]
      refine wpAnyE_take (i := 7) (v := undef) rfl (by kernel_rfl) (by kernel_rfl) (by kernel_rfl) (by kernel_rfl) (fun _ _ _ h => h) (Or.inr ⟨by rfl, rfl⟩) hSS ?_
      simp only [Act.put, List.setIfInBounds_toArray, List.set_cons_zero, List.set_cons_succ, List.getElem_toArray, List.getElem_cons_zero, List.getElem_cons_succ]
      refine wpAnyE_take (i := 8) (v := undef) rfl (by kernel_rfl) (by kernel_rfl) (by kernel_rfl) (by kernel_rfl) (fun _ _ _ h => h) (Or.inr ⟨by rfl, rfl⟩) hSS ?_
      simp only [Act.put, List.setIfInBounds_toArray, List.set_cons_zero, List.set_cons_succ, List.getElem_toArray, List.getElem_cons_zero, List.getElem_cons_succ]
      refine wpAnyE_take (i := 9) (v := ?_) rfl (by kernel_rfl) (by kernel_rfl) (by kernel_rfl) (by kernel_rfl) (fun _ _ _ h => h) (Or.inl ⟨by rfl, ?_⟩) hSS ?_
      rotate_left
      · intro w hSw
        (try have kc0 := hSw.1.cell); (try have kc1 := hSw.2.cell)
        go_simp
        all_goals with_reducible rfl
      simp only [Act.put, List.setIfInBounds_toArray, List.set_cons_zero, List.set_cons_succ, List.getElem_toArray, List.getElem_cons_zero, List.getElem_cons_succ]
      refine wpAnyE_take (i := 10) (v := ?_) rfl (by kernel_rfl) (by kernel_rfl) (by kernel_rfl) (by kernel_rfl) (fun _ _ _ h => h) (Or.inl ⟨by rfl, ?_⟩) hSS ?_
      rotate_left
      · intro w hSw
        (try have kc0 := hSw.1.cell); (try have kc1 := hSw.2.cell)
        go_simp
        all_goals with_reducible rfl
      simp only [Act.put, List.setIfInBounds_toArray, List.set_cons_zero, List.set_cons_succ, List.getElem_toArray, List.getElem_cons_zero, List.getElem_cons_succ]
      refine wpAnyE_take (i := 11) (v := undef) rfl (by kernel_rfl) (by kernel_rfl) (by kernel_rfl) (by kernel_rfl) (fun _ _ _ h => h) (Or.inr ⟨by rfl, rfl⟩) hSS ?_
      simp only [Act.put, List.setIfInBounds_toArray, List.set_cons_zero, List.set_cons_succ, List.getElem_toArray, List.getElem_cons_zero, List.getElem_cons_succ]
      refine wpAnyE_take (i := 12) (v := undef) rfl (by kernel_rfl) (by kernel_rfl) (by kernel_rfl) (by kernel_rfl) (fun _ _ _ h => h) (Or.inr ⟨by rfl, rfl⟩) hSS ?_
      simp only [Act.put, List.setIfInBounds_toArray, List.set_cons_zero, List.set_cons_succ, List.getElem_toArray, List.getElem_cons_zero, List.getElem_cons_succ]
      refine wpAnyE_take (i := 13) (v := undef) rfl (by kernel_rfl) (by kernel_rfl) (by kernel_rfl) (by kernel_rfl) (fun _ _ _ h => h) (Or.inr ⟨by rfl, rfl⟩) hSS ?_
      simp only [Act.put, List.setIfInBounds_toArray, List.set_cons_zero, List.set_cons_succ, List.getElem_toArray, List.getElem_cons_zero, List.getElem_cons_succ]
      refine wpAnyE_take (i := 14) (v := undef) rfl (by kernel_rfl) (by kernel_rfl) (by kernel_rfl) (by kernel_rfl) (fun _ _ _ h => h) (Or.inr ⟨by rfl, rfl⟩) hSS ?_
      simp only [Act.put, List.setIfInBounds_toArray, List.set_cons_zero, List.set_cons_succ, List.getElem_toArray, List.getElem_cons_zero, List.getElem_cons_succ]
      refine wpAnyE_take (i := 15) (v := undef) rfl (by kernel_rfl) (by kernel_rfl) (by kernel_rfl) (by kernel_rfl) (fun _ _ _ h => h) (Or.inr ⟨by rfl, rfl⟩) hSS ?_
      simp only [Act.put, List.setIfInBounds_toArray, List.set_cons_zero, List.set_cons_succ, List.getElem_toArray, List.getElem_cons_zero, List.getElem_cons_succ]
      refine wpAnyE_take (i := 16) (v := undef) rfl (by kernel_rfl) (by kernel_rfl) (by kernel_rfl) (by kernel_rfl) (fun _ _ _ h => h) (Or.inr ⟨by rfl, rfl⟩) hSS ?_
      simp only [Act.put, List.setIfInBounds_toArray, List.set_cons_zero, List.set_cons_succ, List.getElem_toArray, List.getElem_cons_zero, List.getElem_cons_succ]
      refine wpAnyE_take (i := 17) (v := ?_) rfl (by kernel_rfl) (by kernel_rfl) (by kernel_rfl) (by kernel_rfl) (fun _ _ _ h => h) (Or.inl ⟨by rfl, ?_⟩) hSS ?_
      rotate_left
      · intro w hSw
        (try have kc0 := hSw.1.cell); (try have kc1 := hSw.2.cell)
        go_simp
        all_goals with_reducible rfl
      simp only [Act.put, List.setIfInBounds_toArray, List.set_cons_zero, List.set_cons_succ, List.getElem_toArray, List.getElem_cons_zero, List.getElem_cons_succ]
      refine wpAnyE_end (by kernel_rfl) ?_
      have HK := Lib.hid hSS
      have z0 := (blk_cell hSS.tk.out 0).trans rfl
      have z1 := (blk_cell hSS.tk.out 1).trans rfl
      have z2 := (blk_cell hSS.tk.out 2).trans rfl
      simp at z0 z1 z2
      have zf0 := blk_free hSS.tk.out 0
      have zf1 := blk_free hSS.tk.out 1
      have zf2 := blk_free hSS.tk.out 2
      clear hSS
      go_wp2_with fail
      generalize hWF : World.setCell (World.setCell (World.setCell _ _ _) _ _) _ _ = WF
      have hfb : WF.heap[w.heap.size]? = some (.cells #[.int .i64 (0), .int .i64 (0), .int .i64 (0)] 35 (0, 0)) := by
        rw [← hWF]; exact blk_store (blk_store (blk_store HK.out.tk.out 0 _) 1 _) 2 _
      have hfl : Below w.heap.size w WF := by
        rw [← hWF]; exact ((HK.out.tk.low.setCell (Nat.le_refl _) _).setCell (Nat.le_refl _) _).setCell (Nat.le_refl _) _
      have y0 := (blk_cell hfb 0).trans rfl
      have y1 := (blk_cell hfb 1).trans rfl
      have y2 := (blk_cell hfb 2).trans rfl
      simp at y0 y1 y2
      exact bodyPost_ret (v := .tuple #[.agg #[.int .i64 (0), .int .i64 (0), .int .i64 (0)], .int .i64 (0), .int .i64 70]) (by simp [results, Tryz.results68, go_sem, y0, y1, y2]) rfl ⟨by rw [HD.out]; rfl, hfl⟩
end Go.Proofs.YtbjlnlgknegbnaaGreatDoor
namespace Go.Proofs.YtbjlnlgknegbnaaGreatDoor
set_option linter.unusedVariables false
set_option linter.unusedSimpArgs false
open Go.RowKit

def bestK (bs : List Nat) : Nat → Rc × Int
  | 0 => (Rc.zero, -1)
  | k + 1 => pick (bestK bs k) k (decL (slotB bs k))
theorem bestK_two (bs : List Nat) : bestK bs 2 = bestL bs := rfl
def keptC (r : Rc) : Array Value := #[.int .i64 (r.life : Int), .int .i64 (r.round : Int), .int .i64 (r.tag : Int), .int .i64 (r.seq : Int)]
structure LdI (w : World) (b : Nat) (d : Dk) (r : Rc) (W : World) : Prop where
  disk : DkAt W b d
  res : W.heap[w.heap.size]? = some (.cells #[.int .i64 0, .int .i64 0, .int .i64 0, .int .i64 0] 109 (0, 0))
  best : W.heap[w.heap.size + 1]? = some (.cells #[.int .i64 (r.life : Int), .int .i64 (r.round : Int), .int .i64 (r.tag : Int), .int .i64 (r.seq : Int)] 109 (0, 0))
  low : Below w.heap.size w W
theorem LdI.below {w W W' : World} {b : Nat} {d : Dk} {r : Rc} (h : LdI w b d r W) (hb : Below W.heap.size W W') : LdI w b d r W' := ⟨h.disk.below hb, blk_below' hb h.res, blk_below' hb h.best, below_then h.low hb⟩
theorem LdI.put {w W : World} {b : Nat} {d : Dk} {r : Rc} (h : LdI w b d r W) (hb : b < w.heap.size) (q : Rc) :
    LdI w b d q ((((W.setCell ⟨w.heap.size + 1, 0, none⟩ (.int .i64 (q.life : Int))).setCell ⟨w.heap.size + 1, 1, none⟩ (.int .i64 (q.round : Int))).setCell ⟨w.heap.size + 1, 2, none⟩ (.int .i64 (q.tag : Int))).setCell ⟨w.heap.size + 1, 3, none⟩ (.int .i64 (q.seq : Int))) := by
  have hlt := blk_lt h.best
  have hgr : W.grownBy ((((W.setCell ⟨w.heap.size + 1, 0, none⟩ (.int .i64 (q.life : Int))).setCell ⟨w.heap.size + 1, 1, none⟩ (.int .i64 (q.round : Int))).setCell ⟨w.heap.size + 1, 2, none⟩ (.int .i64 (q.tag : Int))).setCell ⟨w.heap.size + 1, 3, none⟩ (.int .i64 (q.seq : Int))) (some (w.heap.size + 1)) :=
    but_set (but_set (but_set (but_set (but_refl _ _) hlt _ _) hlt _ _) hlt _ _) hlt _ _
  exact ⟨h.disk.but hgr (by omega), blk_grown hgr h.res (by simp), blk_store (blk_store (blk_store (blk_store h.best 0 _) 1 _) 2 _) 3 _, h.low.grown hgr h.low.size (fun j hj => by cases hj; omega)⟩
theorem slotB_get {bs : List Nat} (h : bs.length = 256) {k : Nat} (hk : k < 4) : (slotB bs k).length = 64 := by
  unfold slotB; rw [List.length_append, rowS_len h (by omega), rowS_len h (by omega)]
theorem rowS_lt {bs : List Nat} (h : ∀ c ∈ bs, c < 256) (s : Nat) : ∀ c ∈ rowS bs s, c < 256 := fun c hc => h c (List.mem_of_mem_drop (List.mem_of_mem_take hc))
theorem slotB_lt {bs : List Nat} (h : ∀ c ∈ bs, c < 256) (k : Nat) : ∀ c ∈ slotB bs k, c < 256 := by
  intro c hc
  rcases List.mem_append.1 hc with hc | hc
  · exact rowS_lt h _ c hc
  · exact rowS_lt h _ c hc
theorem blk4 {W : World} {b : Nat} {x y z s : Value} {t : TypeId} (h : W.heap[b]? = some (.cells #[x, y, z, s] t (0, 0))) :
    W.cell? ⟨b, 0, none⟩ = some x ∧ W.cell? ⟨b, 1, none⟩ = some y ∧ W.cell? ⟨b, 2, none⟩ = some z ∧ W.cell? ⟨b, 3, none⟩ = some s ∧ W.frozen? ⟨b, 0, none⟩ = false ∧ W.frozen? ⟨b, 1, none⟩ = false ∧ W.frozen? ⟨b, 2, none⟩ = false ∧ W.frozen? ⟨b, 3, none⟩ = false :=
  ⟨(blk_cell h 0).trans rfl, (blk_cell h 1).trans rfl, (blk_cell h 2).trans rfl, (blk_cell h 3).trans rfl, blk_free h 0, blk_free h 1, blk_free h 2, blk_free h 3⟩
theorem blk3 {W : World} {b : Nat} {x y z : Value} {t : TypeId} (h : W.heap[b]? = some (.cells #[x, y, z] t (0, 0))) :
    W.cell? ⟨b, 0, none⟩ = some x ∧ W.cell? ⟨b, 1, none⟩ = some y ∧ W.cell? ⟨b, 2, none⟩ = some z ∧ W.frozen? ⟨b, 0, none⟩ = false ∧ W.frozen? ⟨b, 1, none⟩ = false ∧ W.frozen? ⟨b, 2, none⟩ = false :=
  ⟨(blk_cell h 0).trans rfl, (blk_cell h 1).trans rfl, (blk_cell h 2).trans rfl, blk_free h 0, blk_free h 1, blk_free h 2⟩
def ldA (d : Dk) : Value := if d.off then .tuple #[keptV Rc.zero, .int .i64 (-1), .int .i64 100] else .tuple #[keptV (bestL d.bs).1, .int .i64 (bestL d.bs).2, .int .i64 0]
theorem ld_end {w W : World} {d : Dk} {a : Act} {x y z s i c : Int} (hd : a.defers = []) (h2 : a.tmps[2]?.getD undef = .pointer (some ⟨w.heap.size, 0, none⟩)) (h3 : a.tmps[3]?.getD undef = .int .i64 i) (h4 : a.tmps[4]?.getD undef = .int .i64 c)
    (hb : W.heap[w.heap.size]? = some (.cells #[.int .i64 x, .int .i64 y, .int .i64 z, .int .i64 s] 109 (0, 0))) (hl : Below w.heap.size w W)
    (he : .tuple #[.agg #[.int .i64 x, .int .i64 y, .int .i64 z, .int .i64 s], .int .i64 i, .int .i64 c] = ldA d) :
    bodyPost Tryz.prog Tryz.f49 (fun e w' => e = .returned (ldA d) ∧ Below w.heap.size w w') Exit.ret a W := by
  obtain ⟨y0, y1, y2, y3, _⟩ := blk4 hb
  refine bodyPost_ret (v := .tuple #[.agg #[.int .i64 x, .int .i64 y, .int .i64 z, .int .i64 s], .int .i64 i, .int .i64 c]) ?_ hd ⟨by rw [he], hl⟩
  simp [results, Tryz.results49, go_sem, h2, h3, h4, y0, y1, y2, y3]
set_option maxRecDepth 100000 in
set_option maxHeartbeats 2000000 in
theorem ld_any (b : Nat) (d : Dk) (w : World) (h : DkAt w b d) (hlt : ∀ c ∈ d.bs, c < 256) :
    Calls Tryz.prog 49 #[.pointer (some ⟨b, 0, none⟩)] w fun e w' => e = .returned (ldA d) ∧ Below w.heap.size w w' := by
  obtain ⟨i0, hi, hz0, hz1, hz2⟩ := info_parts Tryz.infoByte
  have hI : LdI w b d Rc.zero ((w.alloc (.cells #[.int .i64 0, .int .i64 0, .int .i64 0, .int .i64 0] 109)).alloc (.cells #[.int .i64 0, .int .i64 0, .int .i64 0, .int .i64 0] 109)) :=
    ⟨(h.below ((Below.refl _ w).alloc (Nat.le_refl _) _)).below ((Below.refl _ _).alloc (Nat.le_refl _) _), blk_old (blk_new w _) _, b1' w _ _, ((Below.refl _ w).alloc (Nat.le_refl _) _).alloc (by simp) _⟩
  have HLT := Lib.hid hlt
  have HLEN := Lib.hid h.2
  have HBW := Lib.hid h.lt
  clear h hlt
  go_enter Tryz.func49, Tryz.ntmps49
  go_wp2_with fail
  go_loopw [6, 14] (fun av i wr => ∃ (k : Nat), i = .int .i64 k ∧ k ≤ 2 ∧ av = .int .i64 (bestK d.bs k).2 ∧ LdI w b d (bestK d.bs k).1 wr ∧ (k = 0 ∨ d.off = false)) (fun _ i _ => 2 - (intOf i).toNat)
  case atStart => exact ⟨0, rfl, by omega, rfl, hI, .inl rfl⟩
  case round =>
    obtain ⟨k, rfl, hk, rfl, hI, hoff⟩ := hrel
    by_cases hlt : k < 2
    · have i1 : (k : Int) < 2 := by omega
      have i2 : (0 : Int) ≤ (k : Int) := by omega
      have i3 : (k : Int).toNat = k := Int.toNat_natCast k
      go_wp2_with fail
      refine (read_any b d (2 * (k : Int)) wr hI.disk).mono ?_
      rintro e w1 ⟨v1, rfl, hno, hv1, hB1⟩
      have hI1 := hI.below hB1
      by_cases ho : d.off = true
      · have hm : mayV d (2 * (k : Int)) = 100 := by unfold mayV; rw [ho]; rfl
        have hvn := hno (by rw [hm]; decide)
        subst hvn
        rw [hm]
        obtain rfl : k = 0 := by rcases hoff with h | h; exact h; rw [ho] at h; cases h
        obtain ⟨z0, z1, z2, z3, f0, f1, f2, f3⟩ := blk4 hI1.res
        go_wp2_with fail
        generalize hWF : World.setCell (World.setCell (World.setCell (World.setCell _ _ _) _ _) _ _) _ _ = WF
        refine ld_end (x := 0) (y := 0) (z := 0) (s := 0) (i := -1) (c := 100) rfl rfl rfl rfl ?_ ?_ ?_
        · rw [← hWF]; exact blk_store (blk_store (blk_store (blk_store hI1.res 0 _) 1 _) 2 _) 3 _
        · rw [← hWF]; exact (((hI1.low.setCell (Nat.le_refl _) _).setCell (Nat.le_refl _) _).setCell (Nat.le_refl _) _).setCell (Nat.le_refl _) _
        · unfold ldA; rw [if_pos ho]; rfl
      · have ho : d.off = false := by simpa using ho
        have hm : mayV d (2 * (k : Int)) = 0 := by unfold mayV; rw [ho, if_neg (by decide), if_neg (by omega)]
        have hm2 : mayV d (2 * (k : Int) + 1) = 0 := by unfold mayV; rw [ho, if_neg (by decide), if_neg (by omega)]
        have hr1 := hv1 hm
        rw [hm]
        rw [show (2 * (k : Int)).toNat = 2 * k from by omega] at hr1
        have hr1 : w1.ownsRow wr.heap.size 5 1 v1 32 (bC (rowS d.bs (2 * k))) := hr1
        clear hno hv1 hm
        go_wp2_with fail
        refine (read_any b d (2 * (k : Int) + 1) w1 hI1.disk).mono ?_
        rintro e w2 ⟨v2, rfl, _, hv2, hB2⟩
        have hI2 := hI1.below hB2
        have hr2 := hv2 hm2
        rw [hm2]
        rw [show (2 * (k : Int) + 1).toNat = 2 * k + 1 from by omega] at hr2
        have hr2 : w2.ownsRow w1.heap.size 5 1 v2 32 (bC (rowS d.bs (2 * k + 1))) := hr2
        have hr1 := ownsRow_below hr1 hB2
        obtain ⟨g2, c2, rfl, hg21, hg22⟩ := ownsRow_pos hr2 (by omega)
        have hp2 := row_all hr2 (rowS_len HLEN.out (show 2 * k + 1 < 8 by omega))
        have hsz1 := hB1.size
        have hsz2 := hB2.size
        clear hv2 hm2
        go_wp2_with (at_builtin; refine wpList_append_own _ rfl _ _ 26 rfl wr.heap.size 5 i0 (.int .u8 0) 1 1 Tryz.underlying26 hi hz0 hz1 hz2 rfl (by decide) _ _ _ rfl hr1 ⟨g2, 0, none⟩ 32 c2 (bC (rowS d.bs (2 * k + 1))) rfl ?a1 ?a2 ?a3 ?a4 ?a5 ?a6 ?_)
        case a1 => rw [bC_len, rowS_len HLEN.out (by omega)]
        case a2 => intro j u hu; rw [bC_get] at hu; obtain ⟨x, hx, rfl⟩ := Option.map_eq_some_iff.1 hu; obtain ⟨q, h1, h2⟩ := hp2 j x hx; cases h1; exact h2
        case a3 => exact bC_one _
        case a4 => unfold maxLen; omega
        case a5 => omega
        case a6 => omega
        intro v3 w3 hown3 hg3 hv3
        have hb3 : Below wr.heap.size wr w3 := (below_then hB1 hB2).grown hg3 (by omega) (fun j hj => (hr1.lt _ hj).1)
        have hI3 := hI.below hb3
        have hown4 : w3.ownsRow wr.heap.size 5 1 v3 64 (bC (slotB d.bs k)) := by
          have : bC (slotB d.bs k) = bC (rowS d.bs (2 * k)) ++ bC (rowS d.bs (2 * k + 1)) := by unfold slotB bC; rw [List.map_append]
          rw [this]; exact hown3
        obtain ⟨g3, c3, rfl, hg31, hg32⟩ := ownsRow_pos hown4 (by omega)
        have hp3 := row_all hown4 (slotB_get HLEN.out (show k < 4 by omega))
        have hcp3 := row_cap hown4
        have HDE := Lib.hid (decode_any g3 0 c3 (slotB d.bs k) (slotB_get HLEN.out (by omega)) (slotB_lt HLT.out k) hcp3 w3 hp3 hg32)
        clear hown3 hown4 hg3 hp2 hr1 hr2 hI1 hI2 hI hp3
        cases hd : decL (slotB d.bs k) with
        | none =>
          rw [hd] at HDE
          unfold decA recV at HDE
          have hbk : bestK d.bs (k + 1) = bestK d.bs k := by show pick _ _ _ = _; rw [hd]; rfl
          have HBK := Lib.hid hbk
          clear hd hbk
          go_wp2_with (go_at_call 68; refine HDE.out.mono ?_; rintro e w4 ⟨rfl, hB4⟩)
          go_roundw
          case rel =>
            refine ⟨k + 1, by go_num, by omega, by rw [HBK.out], ?_, .inr ho⟩
            rw [HBK.out]
            exact (hI3.below hB4).below ((Below.refl _ _).alloc (Nat.le_refl _) _)
          case measure => simp [intOf]; omega
        | some r =>
          rw [hd] at HDE
          unfold decA recV at HDE
          obtain ⟨y0, y1, y2, y3, f0, f1, f2, f3⟩ := blk4 hI3.best
          by_cases hgt : (bestK d.bs k).1.seq < r.seq
          · have hgi : ((bestK d.bs k).1.seq : Int) < (r.seq : Int) := by omega
            have hbk : bestK d.bs (k + 1) = (r, (k : Int)) := by show pick _ _ _ = _; rw [hd]; unfold pick; simp only; rw [if_pos hgt]
            have HBK := Lib.hid hbk
            clear hd hbk hgt y0 y1 y2 y3 f0 f1 f2 f3
            go_wp2_with (go_at_call 68; refine HDE.out.mono ?_; rintro e w4 ⟨rfl, hB4⟩; obtain ⟨y0, y1, y2, y3, f0, f1, f2, f3⟩ := blk4 (hI3.below hB4).best; have hs4 := blk_lt (hI3.below hB4).best)
            have hI4 := hI3.below hB4
            go_roundw
            case rel =>
              refine ⟨k + 1, by go_num, by omega, by rw [HBK.out], ?_, .inr ho⟩
              rw [HBK.out]
              exact (hI4.put HBW.out r).below ((Below.refl _ _).alloc (Nat.le_refl _) _)
            case measure => simp [intOf]; omega
          · have hgi : ¬ ((bestK d.bs k).1.seq : Int) < (r.seq : Int) := by omega
            have hbk : bestK d.bs (k + 1) = bestK d.bs k := by show pick _ _ _ = _; rw [hd]; unfold pick; simp only; rw [if_neg hgt]
            have HBK := Lib.hid hbk
            clear hd hbk hgt y0 y1 y2 y3 f0 f1 f2 f3
            go_wp2_with (go_at_call 68; refine HDE.out.mono ?_; rintro e w4 ⟨rfl, hB4⟩; obtain ⟨y0, y1, y2, y3, f0, f1, f2, f3⟩ := blk4 (hI3.below hB4).best; have hs4 := blk_lt (hI3.below hB4).best)
            go_roundw
            case rel =>
              refine ⟨k + 1, by go_num, by omega, by rw [HBK.out], ?_, .inr ho⟩
              rw [HBK.out]
              exact (hI3.below hB4).below ((Below.refl _ _).alloc (Nat.le_refl _) _)
            case measure => simp [intOf]; omega
    · obtain rfl : k = 2 := by omega
      rw [bestK_two] at hI ⊢
      obtain ⟨z0, z1, z2, z3, f0, f1, f2, f3⟩ := blk4 hI.res
      obtain ⟨y0, y1, y2, y3, _⟩ := blk4 hI.best
      have hoff : d.off = false := by rcases hoff with h | h; cases h; exact h
      go_wp2_with fail
      generalize hWF : World.setCell (World.setCell (World.setCell (World.setCell _ _ _) _ _) _ _) _ _ = WF
      refine ld_end (x := ((bestL d.bs).1.life : Int)) (y := ((bestL d.bs).1.round : Int)) (z := ((bestL d.bs).1.tag : Int)) (s := ((bestL d.bs).1.seq : Int)) (i := (bestL d.bs).2) (c := 0) rfl rfl rfl rfl ?_ ?_ ?_
      · rw [← hWF]; exact blk_store (blk_store (blk_store (blk_store hI.res 0 _) 1 _) 2 _) 3 _
      · rw [← hWF]; exact (((hI.low.setCell (Nat.le_refl _) _).setCell (Nat.le_refl _) _).setCell (Nat.le_refl _) _).setCell (Nat.le_refl _) _
      · unfold ldA; rw [if_neg (by rw [hoff]; decide)]; rfl
end Go.Proofs.YtbjlnlgknegbnaaGreatDoor
namespace Go.Proofs.YtbjlnlgknegbnaaGreatDoor
set_option linter.unusedVariables false
set_option linter.unusedSimpArgs false
open Go.RowKit

def loadA (d : Dk) : Value := if d.off then .tuple #[recV 0 0 0, .int .i64 0, .int .i64 100] else if (bestL d.bs).2 < 0 then .tuple #[recV 0 0 0, .int .i64 0, .int .i64 40] else .tuple #[recV (bestL d.bs).1.life (bestL d.bs).1.round (bestL d.bs).1.tag, .int .i64 (bestL d.bs).1.seq, .int .i64 0]
theorem load_end {w W : World} {A : Value} {a : Act} {x y z i c : Int} (hd : a.defers = []) (h2 : a.tmps[2]?.getD undef = .pointer (some ⟨w.heap.size, 0, none⟩)) (h3 : a.tmps[3]?.getD undef = .int .i64 i) (h4 : a.tmps[4]?.getD undef = .int .i64 c)
    (hb : W.heap[w.heap.size]? = some (.cells #[.int .i64 x, .int .i64 y, .int .i64 z] 35 (0, 0))) (hl : Below w.heap.size w W)
    (he : .tuple #[.agg #[.int .i64 x, .int .i64 y, .int .i64 z], .int .i64 i, .int .i64 c] = A) :
    bodyPost Tryz.prog Tryz.f25 (fun e w' => e = .returned A ∧ Below w.heap.size w w') Exit.ret a W := by
  obtain ⟨y0, y1, y2, _⟩ := blk3 hb
  refine bodyPost_ret (v := .tuple #[.agg #[.int .i64 x, .int .i64 y, .int .i64 z], .int .i64 i, .int .i64 c]) ?_ hd ⟨by rw [he], hl⟩
  simp [results, Tryz.results25, go_sem, h2, h3, h4, y0, y1, y2]
set_option maxRecDepth 100000 in
set_option maxHeartbeats 2000000 in
theorem load_any (b : Nat) (d : Dk) (w : World) (h : DkAt w b d) (hlt : ∀ c ∈ d.bs, c < 256) :
    Calls Tryz.prog 25 #[.pointer (some ⟨b, 0, none⟩)] w fun e w' => e = .returned (loadA d) ∧ Below w.heap.size w w' := by
  obtain ⟨A, hA⟩ : ∃ A, loadA d = A := ⟨_, rfl⟩
  rw [hA]
  have hb0 : Below w.heap.size w (w.alloc (.cells #[.int .i64 0, .int .i64 0, .int .i64 0] 35)) := (Below.refl _ w).alloc (Nat.le_refl _) _
  have HL := Lib.hid (ld_any b d _ (h.below hb0) hlt)
  have hr0 := box3 w (.int .i64 0) (.int .i64 0) (.int .i64 0) 35
  unfold loadA at hA
  have HA := Lib.hid hA
  unfold ldA keptV at HL
  clear hA h hlt
  cases ho : d.off with
  | true =>
    rw [ho] at HL HA
    simp only [if_true] at HL HA
    go_enter Tryz.func25, Tryz.ntmps25
    go_wp2_with (go_at_call 49; refine HL.out.mono ?_; rintro e w1 ⟨rfl, hB1⟩; have hr1 := blk_below' hB1 hr0; have hb1 := below_then hb0 hB1; have hr2 := blk_old hr1 (.cells #[.int .i64 (Rc.zero.life : Int), .int .i64 (Rc.zero.round : Int), .int .i64 (Rc.zero.tag : Int), .int .i64 (Rc.zero.seq : Int)] 109); have hb2 := hb1.alloc hb1.size (.cells #[.int .i64 (Rc.zero.life : Int), .int .i64 (Rc.zero.round : Int), .int .i64 (Rc.zero.tag : Int), .int .i64 (Rc.zero.seq : Int)] 109); obtain ⟨z0, z1, z2, f0, f1, f2⟩ := blk3 hr1; have hlt1 := blk_lt hr1)
    generalize hWF : World.alloc (World.setCell (World.setCell (World.setCell _ _ _) _ _) _ _) _ = WF
    refine load_end (x := 0) (y := 0) (z := 0) (i := 0) (c := 100) rfl rfl rfl rfl ?_ ?_ HA.out
    · rw [← hWF]; exact blk_old (blk_store (blk_store (blk_store hr1 0 _) 1 _) 2 _) _
    · rw [← hWF]; exact (((hb1.setCell (Nat.le_refl _) _).setCell (Nat.le_refl _) _).setCell (Nat.le_refl _) _).alloc (by simpa using hb1.size) _
  | false =>
    rw [ho] at HL HA
    simp only [Bool.false_eq_true, if_false] at HL HA
    generalize bestL d.bs = B at *
    obtain ⟨r, i⟩ := B
    simp only at HL HA
    by_cases hi : i < 0
    · rw [if_pos hi] at HA
      go_enter Tryz.func25, Tryz.ntmps25
      go_wp2_with (go_at_call 49; refine HL.out.mono ?_; rintro e w1 ⟨rfl, hB1⟩; have hr1 := blk_below' hB1 hr0; have hb1 := below_then hb0 hB1; have hr2 := blk_old hr1 (.cells #[.int .i64 (r.life : Int), .int .i64 (r.round : Int), .int .i64 (r.tag : Int), .int .i64 (r.seq : Int)] 109); have hb2 := hb1.alloc hb1.size (.cells #[.int .i64 (r.life : Int), .int .i64 (r.round : Int), .int .i64 (r.tag : Int), .int .i64 (r.seq : Int)] 109); obtain ⟨z0, z1, z2, f0, f1, f2⟩ := blk3 hr1; have hlt1 := blk_lt hr1)
      generalize hWF : World.alloc (World.setCell (World.setCell (World.setCell _ _ _) _ _) _ _) _ = WF
      refine load_end (x := 0) (y := 0) (z := 0) (i := 0) (c := 40) rfl rfl rfl rfl ?_ ?_ HA.out
      · rw [← hWF]; exact blk_old (blk_store (blk_store (blk_store hr1 0 _) 1 _) 2 _) _
      · rw [← hWF]; exact (((hb1.setCell (Nat.le_refl _) _).setCell (Nat.le_refl _) _).setCell (Nat.le_refl _) _).alloc (by simpa using hb1.size) _
    · rw [if_neg hi] at HA
      go_enter Tryz.func25, Tryz.ntmps25
      go_wp2_with (go_at_call 49; refine HL.out.mono ?_; rintro e w1 ⟨rfl, hB1⟩; have hr1 := blk_below' hB1 hr0; have hb1 := below_then hb0 hB1; have hr2 := blk_old hr1 (.cells #[.int .i64 (r.life : Int), .int .i64 (r.round : Int), .int .i64 (r.tag : Int), .int .i64 (r.seq : Int)] 109); have hb2 := hb1.alloc hb1.size (.cells #[.int .i64 (r.life : Int), .int .i64 (r.round : Int), .int .i64 (r.tag : Int), .int .i64 (r.seq : Int)] 109); obtain ⟨z0, z1, z2, f0, f1, f2⟩ := blk3 hr1; have hlt1 := blk_lt hr1)
      obtain ⟨W2, hW2⟩ : ∃ W2, w1.alloc (.cells #[.int .i64 (r.life : Int), .int .i64 (r.round : Int), .int .i64 (r.tag : Int), .int .i64 (r.seq : Int)] 109) = W2 := ⟨_, rfl⟩
      have hk2 := blk_new w1 (.cells #[.int .i64 (r.life : Int), .int .i64 (r.round : Int), .int .i64 (r.tag : Int), .int .i64 (r.seq : Int)] 109)
      rw [hW2] at hr2 hb2 hk2 ⊢
      obtain ⟨y0, y1, y2, y3, _⟩ := blk4 hk2
      obtain ⟨x0, x1, x2, g0, g1, g2⟩ := blk3 hr2
      have hne : ¬ w1.heap.size = w.heap.size := by omega
      have hne2 : ¬ w.heap.size = w1.heap.size := by omega
      clear hW2 z0 z1 z2 f0 f1 f2 hr1 hb1 hk2 hr0 hb0
      go_region
      all_goals (go_wp2_with fail)
      generalize hWF : World.setCell (World.setCell (World.setCell _ _ _) _ _) _ _ = WF
      refine load_end (x := (r.life : Int)) (y := (r.round : Int)) (z := (r.tag : Int)) (i := (r.seq : Int)) (c := 0) rfl rfl rfl rfl ?_ ?_ HA.out
      · rw [← hWF]; exact blk_store (blk_store (blk_store hr2 0 _) 1 _) 2 _
      · rw [← hWF]; exact (((hb2.setCell (Nat.le_refl _) _).setCell (Nat.le_refl _) _).setCell (Nat.le_refl _) _).drew
/-- The writes of a save, one behind the other. -/
def svK (d : Dk) (q0 : Nat) (l : List Nat) : Nat → Dk × Int
  | 0 => (d, 0)
  | k + 1 => if (svK d q0 l k).2 = 0 then wrV (svK d q0 l k).1 ((2 * q0 + k : Nat) : Int) ((l.drop (k * 32)).take 32) else svK d q0 l k
theorem wrV_fuse (d : Dk) (s : Int) (l : List Nat) : (wrV d s l).1.fuse ≤ d.fuse ∧ (wrV d s l).1.writes ≤ d.writes + 1 := by
  unfold wrV
  split <;> (try split) <;> (try split) <;> (try split) <;> first | exact ⟨Nat.le_refl _, Nat.le_succ _⟩ | exact ⟨Nat.le_refl _, Nat.le_refl _⟩ | exact ⟨Nat.sub_le _ _, Nat.le_refl _⟩
theorem svK_size (d : Dk) (q0 : Nat) (l : List Nat) : ∀ k, (svK d q0 l k).1.fuse ≤ d.fuse ∧ (svK d q0 l k).1.writes ≤ d.writes + k
  | 0 => ⟨Nat.le_refl _, Nat.le_refl _⟩
  | k + 1 => by
    have h := svK_size d q0 l k
    unfold svK
    split
    · have h2 := wrV_fuse (svK d q0 l k).1 ((2 * q0 + k : Nat) : Int) ((l.drop (k * 32)).take 32)
      omega
    · omega
theorem svK_stop {d : Dk} {q0 : Nat} {l : List Nat} {k : Nat} (hk : k < 2) (h : (svK d q0 l (k + 1)).2 ≠ 0) : svK d q0 l 2 = svK d q0 l (k + 1) := by
  match k, hk with
  | 0, _ => show (if (svK d q0 l 1).2 = 0 then _ else svK d q0 l 1) = _; rw [if_neg h]
  | 1, _ => rfl
theorem svK_next {d : Dk} {q0 : Nat} {l : List Nat} {k : Nat} (h : (svK d q0 l k).2 = 0) : svK d q0 l (k + 1) = wrV (svK d q0 l k).1 ((2 * q0 + k : Nat) : Int) ((l.drop (k * 32)).take 32) := if_pos h
/-- What Save does behind its questions. -/
def svT (d : Dk) (a b c : Int) : Dk × Int := svK d (toL d.bs) (nxL d.bs a b c) 2
def saveW (d : Dk) (a b c : Int) : Dk × Int :=
  if mayR a b c then
    if d.off then (d, 100)
    else if 1099511627776 ≤ (bestL d.bs).1.seq then (d, 120)
    else svT d a b c
  else (d, 1)
theorem pick_seq (b : Rc × Int) (i : Int) (o : Option Rc) (h : b.1.seq ≤ 1099511627776) (ho : ∀ r, o = some r → r.seq ≤ 1099511627776) : (pick b i o).1.seq ≤ 1099511627776 := by
  cases o with
  | none => exact h
  | some r =>
    unfold pick
    simp only
    split
    · exact ho r rfl
    · exact h
theorem bestL_seq {bs : List Nat} {r : Rc} {i : Int} (h : bestL bs = (r, i)) : r.seq ≤ 1099511627776 := by
  have hd : ∀ l r, decL l = some r → r.seq ≤ 1099511627776 := fun l r h => (decL_some h).1.2.2.2.2.2
  have := pick_seq (pick (Rc.zero, -1) 0 (decL (slotB bs 0))) 1 (decL (slotB bs 1)) (pick_seq _ _ _ (by decide) (hd _)) (hd _)
  unfold bestL at h
  rw [h] at this
  exact this
theorem cells_blk {W : World} {g : Nat} {l : List Nat} {t : TypeId} (h : W.heap[g]? = some (.cells (bC l).toArray t (0, 0))) : CellsAt W ⟨g, 0, none⟩ l := by
  intro j x hx
  refine ⟨_, rfl, ?_⟩
  rw [Addr.add_mid, Nat.zero_add, blk_cell h, List.getElem?_toArray, bC_get, hx]; rfl
theorem CellsAt.bytes {W : World} {g q n c b : Nat} {l m : List Nat} (h : CellsAt W ⟨g, 0, none⟩ l) (hm : m = (l.drop q).take n) (hn : m.length = n) (hne : g ≠ b) : Bytes W b (.slice (some ⟨g, q, none⟩) n c) m := by
  have h1 := h.part q n
  rw [Addr.add_mid, Nat.zero_add] at h1
  refine ⟨some ⟨g, q, none⟩, c, by rw [hn], fun j x hx => ?_⟩
  rw [hm] at hx
  obtain ⟨p, h2, h3⟩ := h1 j x hx
  cases h2
  exact ⟨_, rfl, hne, h3⟩
set_option maxRecDepth 100000 in
set_option maxHeartbeats 2000000 in
theorem save_any (b : Nat) (d : Dk) (x y z : Int) (w : World) (h : DkAt w b d) (hlt : ∀ c ∈ d.bs, c < 256) (hw : d.writes ≤ 4611686018427387903) (hfu : d.fuse ≤ 9223372036854775807) :
    Calls Tryz.prog 50 #[.pointer (some ⟨b, 0, none⟩), recV x y z] w fun e w' => e = .returned (.int .i64 (saveW d x y z).2) ∧ DkAt w' b (saveW d x y z).1 ∧ w.grownBy w' (some b) := by
  obtain ⟨D, hD⟩ : ∃ D, saveW d x y z = D := ⟨_, rfl⟩
  rw [hD]
  unfold saveW at hD
  have HD := Lib.hid hD
  clear hD
  have HM := Lib.hid (fun w => mayBe_any x y z w)
  have hb0 : Below w.heap.size w (w.alloc (.cells #[.int .i64 x, .int .i64 y, .int .i64 z] 35)) := (Below.refl _ w).alloc (Nat.le_refl _) _
  have hr0 := box3 w (.int .i64 x) (.int .i64 y) (.int .i64 z) 35
  have hlt0 := h.lt
  have hd0 := h.below hb0
  unfold recV at HM ⊢
  have HSZ := Lib.hid (And.intro hw hfu)
  clear hw hfu
  by_cases hm : mayR x y z
  · rw [if_pos hm] at HD
    rw [decide_eq_true hm] at HM
    have HMR := Lib.hid hm
    clear hm
    go_enter Tryz.func50, Tryz.ntmps50
    go_wp2_with fail
    refine (HM.out _).mono ?_
    rintro e w1 ⟨rfl, hB1⟩
    have hr1 := blk_below' hB1 hr0
    have hd1 := hd0.below hB1
    have hb1 := below_then hb0 hB1
    clear hr0 hd0 hb0 hB1
    have HL := Lib.hid (ld_any b d w1 hd1 hlt)
    unfold ldA keptV at HL
    cases ho : d.off with
    | true =>
      rw [ho] at HL HD
      simp only [if_true] at HL HD
      go_wp2_with (go_at_call 49; refine HL.out.mono ?_; rintro e w2 ⟨rfl, hB2⟩)
      go_ret
      have hd2 := hd1.below hB2
      have hb2 := below_then hb1 hB2
      have hD := HD.out
      subst hD
      exact ⟨rfl, hd2.below ((Below.refl _ _).alloc (Nat.le_refl _) _), but_below (hb2.alloc hb2.size _) _⟩
    | false =>
      rw [ho] at HL HD
      simp only [Bool.false_eq_true, if_false] at HL HD
      obtain ⟨B, hB⟩ : ∃ B, bestL d.bs = B := ⟨_, rfl⟩
      rw [hB] at HL HD
      obtain ⟨r, at0⟩ := B
      simp only at HL HD
      by_cases hq : 1099511627776 ≤ r.seq
      · rw [if_pos hq] at HD
        have hno : ¬ encOk x y z ((r.seq : Int) + 1) := fun h => by have := h.2.2; omega
        have HE := Lib.hid (fun w => encode_no x y z ((r.seq : Int) + 1) hno w)
        unfold recV at HE
        have hsq := bestL_seq hB
        have hwr : IntKind.i64.wrap ((r.seq : Int) + 1) = (r.seq : Int) + 1 := by rw [IntKind.wrap_i64]; omega
        clear hno
        go_wp2_with (first
          | (go_at_call 49; refine HL.out.mono ?_; rintro e w2 ⟨rfl, hB2⟩; have hr2 := blk_below' hB2 hr1; obtain ⟨z0, z1, z2, _⟩ := blk3 hr2; have hs2 := blk_lt hr2; have hd2 := hd1.below hB2; have hb2 := below_then hb1 hB2)
          | (go_at_call 70; refine (HE.out _).mono ?_; rintro e w3 ⟨rfl, hB3⟩))
        go_ret
        have hD := HD.out
        subst hD
        have hal : Below w2.heap.size w2 (w2.alloc (.cells #[.int .i64 (r.life : Int), .int .i64 (r.round : Int), .int .i64 (r.tag : Int), .int .i64 (r.seq : Int)] 109)) := (Below.refl _ _).alloc (Nat.le_refl _) _
        exact ⟨rfl, (hd2.below hal).below hB3, but_below (below_then (below_then hb2 hal) hB3) _⟩
      · rw [if_neg hq] at HD
        have hok : encOk x y z ((r.seq : Int) + 1) := ⟨HMR.out, by omega, by omega⟩
        have HE := Lib.hid (fun w => encode_ok x y z ((r.seq : Int) + 1) hok w)
        unfold recV at HE
        have hL : encL (rcN x y z ((r.seq : Int) + 1)) = nxL d.bs x y z := by unfold nxL rcN; rw [hB]; congr 1
        rw [hL] at HE
        have hll : (nxL d.bs x y z).length = 64 := encL_len _
        have HT := Lib.hid (show svT d x y z = svK d (if at0 = 0 then 1 else 0) (nxL d.bs x y z) 2 by unfold svT toL; rw [hB])
        rw [HT.out] at HD
        have HLL := Lib.hid hll
        have hsq : r.seq < 1099511627776 := by omega
        have hwr : IntKind.i64.wrap ((r.seq : Int) + 1) = (r.seq : Int) + 1 := by rw [IntKind.wrap_i64]; omega
        generalize nxL d.bs x y z = L at *
        clear hok hq hL hll
        go_wp2_with (first
          | (go_at_call 49; refine HL.out.mono ?_; rintro e w2 ⟨rfl, hB2⟩; have hr2 := blk_below' hB2 hr1; obtain ⟨z0, z1, z2, _⟩ := blk3 hr2; have hs2 := blk_lt hr2; have hd2 := hd1.below hB2; have hb2 := below_then hb1 hB2))
        refine (HE.out _).mono ?_
        rintro e w3 ⟨v3, rfl, ⟨g, rfl, hg1, hg2⟩, hB3⟩
        have hal : Below w2.heap.size w2 (w2.alloc (.cells #[.int .i64 (r.life : Int), .int .i64 (r.round : Int), .int .i64 (r.tag : Int), .int .i64 (r.seq : Int)] 109)) := (Below.refl _ _).alloc (Nat.le_refl _) _
        have hd3 := (hd2.below hal).below hB3
        have hb3 := below_then (below_then hb2 hal) hB3
        have hgb : ¬ g = b := by have := hd2.lt; have := hal.size; omega
        have hgs : w.heap.size ≤ g := by have := hb2.size; have := hal.size; omega
        have hc3 : CellsAt w3 ⟨g, 0, none⟩ L := cells_blk hg2
        clear hr1 hd1 hb1 HL hB2 hr2 z0 z1 z2 hs2 hd2 hb2 hal hB3 hg2 HE HM HT hg1
        by_cases hat : at0 = 0
        · rw [if_pos hat] at HD
          have hat2 : (at0 == 0) = true := by simpa using hat
          go_wp2_with fail
          go_loopw [36] (fun i wr => ∃ (k : Nat), i = .int .i64 k ∧ k ≤ 2 ∧ Hid ((svK d 1 L k).2 = 0) ∧ DkAt wr b (svK d 1 L k).1 ∧ w.grownBy wr (some b) ∧ CellsAt wr ⟨g, 0, none⟩ L) (fun i _ => 2 - (intOf i).toNat)
          case atStart => exact ⟨0, rfl, by omega, rfl, hd3, but_below hb3 _, hc3⟩
          case round =>
            obtain ⟨k, rfl, hk, h0, hdk, hgk, hck⟩ := hrel
            by_cases hlt : k < 2
            · have i1 : (k : Int) < 2 := by omega
              have i2 : (0 : Int) ≤ (k : Int) := by omega
              have i3 : (k : Int).toNat = k := Int.toNat_natCast k
              have e1 : ((k : Int) + 1) * 32 ≤ 64 := by omega
              have e2 : (0 : Int) ≤ ((k : Int) + 1) * 32 := by omega
              have e3 : (0 : Int) ≤ (k : Int) * 32 := by omega
              have e4 : (k : Int) * 32 ≤ ((k : Int) + 1) * 32 := by omega
              have e5 : (k + 1) * 32 - k * 32 = 32 := by omega
              have e6 : ¬ (k + 1) * 32 = k * 32 := by omega
              have hlen : ((L.drop (k * 32)).take 32).length = 32 := by have := HLL.out; rw [List.length_take, List.length_drop]; omega
              have hnx := svK_next (d := d) (q0 := 1) (l := L) h0.out
              have hs : ((2 * 1 + k : Nat) : Int) = 2 + (k : Int) := by omega
              rw [hs] at hnx
              have hsz := svK_size d 1 L k
              have hst := svK_stop (d := d) (q0 := 1) (l := L) hlt
              have HST := Lib.hid hst
              rw [hnx] at HST
              have HNX := Lib.hid hnx
              have HSV := Lib.hid hsz
              have HLN := Lib.hid hlen
              clear hnx hsz hst hlen hs
              go_wp2_with fail
              refine (write_any b (svK d 1 L k).1 (2 + (k : Int)) _ ((L.drop (k * 32)).take 32) wr hdk (hck.bytes rfl HLN.out hgb) (by rw [HLN.out]; decide) (by have := HSV.out.2; have := HSZ.out.1; omega) (by have := HSV.out.1; have := HSZ.out.2; omega)).mono ?_
              rintro e w5 ⟨rfl, hd5, hg5⟩
              have hg6 := but_then hgk hg5
              have hc5 := hck.but hg5 hgb
              obtain ⟨F, hF⟩ : ∃ F, wrV (svK d 1 L k).1 (2 + (k : Int)) ((L.drop (k * 32)).take 32) = F := ⟨_, rfl⟩
              rw [hF] at hd5 HNX HST ⊢
              clear hdk hgk hck hg5
              obtain ⟨d5, er⟩ := F
              simp only at hd5 HST ⊢
              by_cases her : er = 0
              · subst her
                go_wp2_with fail
                go_roundw
                case rel => exact ⟨k + 1, by go_num, by omega, by show _ = _; rw [HNX.out], by rw [HNX.out]; exact hd5, hg6, hc5⟩
                case measure => simp [intOf]; omega
              · have hne : (er != 0) = true := by simpa using her
                have hfin := HST.out her
                have hD := HD.out
                have HFI := Lib.hid (hD.symm.trans hfin)
                clear her hfin hD
                go_wp2_with fail
                go_ret
                rw [HFI.out]
                exact ⟨rfl, hd5, hg6⟩
            · obtain rfl : k = 2 := by omega
              have hD := HD.out
              have h1 := h0.out
              rw [hD] at h1 hdk
              have HFI := Lib.hid h1
              clear h1 h0 hD
              go_wp2_with fail
              go_ret
              exact ⟨by rw [HFI.out]; rfl, hdk, hgk⟩
        · rw [if_neg hat] at HD
          have hat2 : (at0 == 0) = false := by simpa using hat
          go_wp2_with fail
          go_loopw [36] (fun i wr => ∃ (k : Nat), i = .int .i64 k ∧ k ≤ 2 ∧ Hid ((svK d 0 L k).2 = 0) ∧ DkAt wr b (svK d 0 L k).1 ∧ w.grownBy wr (some b) ∧ CellsAt wr ⟨g, 0, none⟩ L) (fun i _ => 2 - (intOf i).toNat)
          case atStart => exact ⟨0, rfl, by omega, rfl, hd3, but_below hb3 _, hc3⟩
          case round =>
            obtain ⟨k, rfl, hk, h0, hdk, hgk, hck⟩ := hrel
            by_cases hlt : k < 2
            · have i1 : (k : Int) < 2 := by omega
              have i2 : (0 : Int) ≤ (k : Int) := by omega
              have i3 : (k : Int).toNat = k := Int.toNat_natCast k
              have e1 : ((k : Int) + 1) * 32 ≤ 64 := by omega
              have e2 : (0 : Int) ≤ ((k : Int) + 1) * 32 := by omega
              have e3 : (0 : Int) ≤ (k : Int) * 32 := by omega
              have e4 : (k : Int) * 32 ≤ ((k : Int) + 1) * 32 := by omega
              have e5 : (k + 1) * 32 - k * 32 = 32 := by omega
              have e6 : ¬ (k + 1) * 32 = k * 32 := by omega
              have hlen : ((L.drop (k * 32)).take 32).length = 32 := by have := HLL.out; rw [List.length_take, List.length_drop]; omega
              have hnx := svK_next (d := d) (q0 := 0) (l := L) h0.out
              have hs : ((2 * 0 + k : Nat) : Int) = (k : Int) := by omega
              rw [hs] at hnx
              have hsz := svK_size d 0 L k
              have hst := svK_stop (d := d) (q0 := 0) (l := L) hlt
              have HST := Lib.hid hst
              rw [hnx] at HST
              have HNX := Lib.hid hnx
              have HSV := Lib.hid hsz
              have HLN := Lib.hid hlen
              clear hnx hsz hst hlen hs
              go_wp2_with fail
              refine (write_any b (svK d 0 L k).1 ((k : Int)) _ ((L.drop (k * 32)).take 32) wr hdk (hck.bytes rfl HLN.out hgb) (by rw [HLN.out]; decide) (by have := HSV.out.2; have := HSZ.out.1; omega) (by have := HSV.out.1; have := HSZ.out.2; omega)).mono ?_
              rintro e w5 ⟨rfl, hd5, hg5⟩
              have hg6 := but_then hgk hg5
              have hc5 := hck.but hg5 hgb
              obtain ⟨F, hF⟩ : ∃ F, wrV (svK d 0 L k).1 ((k : Int)) ((L.drop (k * 32)).take 32) = F := ⟨_, rfl⟩
              rw [hF] at hd5 HNX HST ⊢
              clear hdk hgk hck hg5
              obtain ⟨d5, er⟩ := F
              simp only at hd5 HST ⊢
              by_cases her : er = 0
              · subst her
                go_wp2_with fail
                go_roundw
                case rel => exact ⟨k + 1, by go_num, by omega, by show _ = _; rw [HNX.out], by rw [HNX.out]; exact hd5, hg6, hc5⟩
                case measure => simp [intOf]; omega
              · have hne : (er != 0) = true := by simpa using her
                have hfin := HST.out her
                have hD := HD.out
                have HFI := Lib.hid (hD.symm.trans hfin)
                clear her hfin hD
                go_wp2_with fail
                go_ret
                rw [HFI.out]
                exact ⟨rfl, hd5, hg6⟩
            · obtain rfl : k = 2 := by omega
              have hD := HD.out
              have h1 := h0.out
              rw [hD] at h1 hdk
              have HFI := Lib.hid h1
              clear h1 h0 hD
              go_wp2_with fail
              go_ret
              exact ⟨by rw [HFI.out]; rfl, hdk, hgk⟩
  · rw [if_neg hm] at HD
    rw [decide_eq_false hm] at HM
    clear hm
    have hD := HD.out
    subst hD
    go_enter Tryz.func50, Tryz.ntmps50
    go_wp2_with fail
    refine (HM.out _).mono ?_
    rintro e w1 ⟨rfl, hB1⟩
    have hd1 := hd0.below hB1
    have hb1 := below_then hb0 hB1
    go_wp2_with fail
    go_ret
    exact ⟨rfl, hd1, but_below hb1 _⟩
end Go.Proofs.YtbjlnlgknegbnaaGreatDoor
