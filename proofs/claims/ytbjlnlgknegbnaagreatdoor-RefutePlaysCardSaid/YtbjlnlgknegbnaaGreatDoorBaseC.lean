/- Lemmas of this chapter, laid one behind the other. -/
import Derived.Test.YtbjlnlgknegbnaaGreatDoorBaseB
import Derived.Laws.MakeOwn
import Derived.Deep.DeepCutAuto
import Derived.OpenShut
import Derived.Deep.Slices
import Derived.RangeFuncFrom
import Derived.Deep.RegionHeld3
import Derived.BigQuiet
import Derived.Test.YtbjlnlgknegbnaaGreatDoorChecked
import Derived.WalkKit
import Derived.LaidEql
import Derived.Stop.Asserts
import Derived.RowKitTokens
namespace Go.Proofs.YtbjlnlgknegbnaaGreatDoor
set_option linter.unusedVariables false

def zer : List Nat := List.replicate 32 0
/-- A slot that does not count beside the number n. -/
def SlO (bs : List Nat) (o n : Nat) : Prop :=
  (rowS bs (2 * o) = zer ∨ ∃ s : Rc, s.may ∧ rowS bs (2 * o) = hA s) ∧ (rowS bs (2 * o + 1) = zer ∨ ∃ s : Rc, s.may ∧ s.seq < n ∧ rowS bs (2 * o + 1) = hB s)
def SlC (bs : List Nat) (a : Nat) (cur : Rc) : Prop := cur.may ∧ rowS bs (2 * a) = hA cur ∧ rowS bs (2 * a + 1) = hB cur
/-- What a disk holds: nothing that counts, or a record in a slot. -/
def SlSt (bs : List Nat) : Option (Rc × Nat) → Prop
  | none => SlO bs 0 0 ∧ SlO bs 1 0
  | some (cur, a) => a < 2 ∧ SlC bs a cur ∧ SlO bs (1 - a) cur.seq
def stB : Option (Rc × Nat) → Rc × Int
  | none => (Rc.zero, -1)
  | some (cur, a) => (cur, (a : Int))
def stTo : Option (Rc × Nat) → Nat
  | none => 0
  | some (_, a) => 1 - a
def stSeq : Option (Rc × Nat) → Nat
  | none => 0
  | some (cur, _) => cur.seq
theorem SlO.dec {bs : List Nat} {o n : Nat} (h : SlO bs o n) : decL (slotB bs o) = none ∨ ∃ s, decL (slotB bs o) = some s ∧ s.seq < n := by
  unfold slotB
  obtain ⟨h1 | ⟨s, hs, h1⟩, h2 | ⟨t, ht, hn, h2⟩⟩ := h
  · left; rw [h1, h2]; exact blank_half _ (by decide)
  · left; rw [h1, h2]; exact blank_half _ (hB_len t)
  · left; rw [h1, h2]; exact half_blank s
  · rw [h1, h2]
    by_cases he : s.seq = t.seq
    · right
      refine ⟨⟨s.life, s.round, t.tag, s.seq⟩, ?_, by show s.seq < n; omega⟩
      rw [halves_same he]
      obtain ⟨a1, a2, a3, a4, a5, a6⟩ := hs
      obtain ⟨b1, b2, b3, b4, b5, b6⟩ := ht
      exact decL_enc ⟨a1, a2, a3, b4, a5, a6⟩
    · left; exact halves_other hs ht he
theorem SlC.dec {bs : List Nat} {a : Nat} {cur : Rc} (h : SlC bs a cur) : decL (slotB bs a) = some cur := by
  unfold slotB; rw [h.2.1, h.2.2]; exact decL_one h.1
theorem SlO.mono {bs : List Nat} {o n m : Nat} (h : SlO bs o n) (hm : n ≤ m) : SlO bs o m := ⟨h.1, h.2.imp id fun ⟨s, h1, h2, h3⟩ => ⟨s, h1, by omega, h3⟩⟩
theorem SlC.old {bs : List Nat} {a n : Nat} {cur : Rc} (h : SlC bs a cur) (hn : cur.seq < n) : SlO bs a n := ⟨.inr ⟨cur, h.1, h.2.1⟩, .inr ⟨cur, h.1, hn, h.2.2⟩⟩
theorem SlSt.best {bs : List Nat} {st : Option (Rc × Nat)} (h : SlSt bs st) : bestL bs = stB st := by
  unfold bestL
  cases st with
  | none =>
    have h0 : decL (slotB bs 0) = none := by rcases h.1.dec with h | ⟨s, _, h⟩; exact h; omega
    have h1 : decL (slotB bs 1) = none := by rcases h.2.dec with h | ⟨s, _, h⟩; exact h; omega
    rw [h0, h1]; rfl
  | some p =>
    obtain ⟨cur, a⟩ := p
    obtain ⟨ha, hc, ho⟩ := h
    have hcd := hc.dec
    have hpos := hc.1.2.2.2.2.1
    have hod := ho.dec
    obtain rfl | rfl : a = 0 ∨ a = 1 := by omega
    · rw [hcd]
      have e : pick (Rc.zero, -1) 0 (some cur) = (cur, 0) := by unfold pick; simp only; rw [if_pos (by show 0 < cur.seq; omega)]
      rw [e]
      rcases hod with h | ⟨s, h, hs⟩
      · rw [show (1 : Nat) - 0 = 1 from rfl] at h; rw [h]; rfl
      · rw [show (1 : Nat) - 0 = 1 from rfl] at h; rw [h]; unfold pick; simp only; rw [if_neg (by omega)]; rfl
    · rw [hcd]
      rcases hod with h | ⟨s, h, hs⟩
      · rw [show (1 : Nat) - 1 = 0 from rfl] at h; rw [h]
        unfold pick; simp only; rw [if_pos (by show 0 < cur.seq; omega)]; rfl
      · rw [show (1 : Nat) - 1 = 0 from rfl] at h; rw [h]
        unfold pick; simp only
        have : (if Rc.zero.seq < s.seq then (s, (0 : Int)) else (Rc.zero, -1)).1.seq < cur.seq := by
          split
          · exact hs
          · show 0 < cur.seq; omega
        rw [if_pos this]; rfl
theorem SlSt.to {bs : List Nat} {st : Option (Rc × Nat)} (h : SlSt bs st) : toL bs = stTo st ∧ (bestL bs).1.seq = stSeq st := by
  unfold toL
  rw [h.best]
  cases st with
  | none => exact ⟨rfl, rfl⟩
  | some p =>
    obtain ⟨cur, a⟩ := p
    have ha := h.1
    refine ⟨?_, rfl⟩
    show (if (a : Int) = 0 then 1 else 0) = 1 - a
    split <;> omega
theorem SlSt.toLt {bs : List Nat} {st : Option (Rc × Nat)} (h : SlSt bs st) : stTo st < 2 := by
  cases st with
  | none => decide
  | some p => show 1 - p.2 < 2; omega
/-- A write with power. -/
theorem wr_on {d : Dk} {s : Nat} {l : List Nat} (ho : d.off = false) (hs : s < 8) (hl : l.length = 32) :
    (d.fused = true ∧ d.fuse = 0 ∧ wrV d (s : Int) l = ({ d with off := true, fused := false }, 100)) ∨
    ((d.fused = true → 0 < d.fuse) ∧ wrV d (s : Int) l = (⟨putS d.bs s l, d.off, d.fused, if d.fused then d.fuse - 1 else d.fuse, d.writes + 1⟩, 0)) := by
  have hm : mayV d (s : Int) = 0 := by unfold mayV; rw [ho, if_neg (by decide), if_neg (by omega)]
  unfold wrV
  rw [if_pos hm, if_pos hl, Int.toNat_natCast]
  cases hf : d.fused with
  | true =>
    by_cases h0 : d.fuse = 0
    · left; rw [if_pos rfl, if_pos h0]; exact ⟨rfl, h0, rfl⟩
    · right; rw [if_pos rfl, if_neg h0]; exact ⟨fun _ => by omega, by simp⟩
  | false => right; rw [if_neg (by decide)]; exact ⟨fun h => absurd h (by decide), by simp⟩
theorem svT_two {d : Dk} {x y z : Int} : svT d x y z = if (wrV d ((2 * toL d.bs : Nat) : Int) ((nxL d.bs x y z).take 32)).2 = 0 then wrV (wrV d ((2 * toL d.bs : Nat) : Int) ((nxL d.bs x y z).take 32)).1 ((2 * toL d.bs + 1 : Nat) : Int) ((nxL d.bs x y z).drop 32) else wrV d ((2 * toL d.bs : Nat) : Int) ((nxL d.bs x y z).take 32) := by
  have e2 : ((nxL d.bs x y z).drop (1 * 32)).take 32 = (nxL d.bs x y z).drop 32 := by
    rw [List.take_of_length_le]
    unfold nxL; rw [List.length_drop, encL_len]; decide
  have h1 : svK d (toL d.bs) (nxL d.bs x y z) 1 = wrV d ((2 * toL d.bs : Nat) : Int) ((nxL d.bs x y z).take 32) := by
    exact if_pos rfl
  unfold svT
  show (if (svK d (toL d.bs) (nxL d.bs x y z) 1).2 = 0 then wrV (svK d (toL d.bs) (nxL d.bs x y z) 1).1 ((2 * toL d.bs + 1 : Nat) : Int) (((nxL d.bs x y z).drop (1 * 32)).take 32) else _) = _
  rw [h1, e2]
structure Saved (d D : Dk) (st : Option (Rc × Nat)) (new : Rc) : Prop where
  slots : SlSt D.bs (some (new, stTo st))
  writes : D.writes = d.writes + 2
  on : D.off = false
  fused : D.fused = d.fused
  fz : d.fused = true → 2 ≤ d.fuse ∧ D.fuse = d.fuse - 2
  un : d.fused = false → D.fuse = d.fuse
  out : ∀ j, j < 64 * stTo st ∨ 64 * stTo st + 64 ≤ j → D.bs[j]? = d.bs[j]?
  len : D.bs.length = 256
structure Failed (d D : Dk) (st : Option (Rc × Nat)) : Prop where
  slots : SlSt D.bs st
  fused : d.fused = true
  fz : d.fuse < 2
  off : D.off = true
  gone : D.fused = false
  writes : D.writes = d.writes + d.fuse
  fuse : D.fuse = 0
  len : D.bs.length = 256
theorem SlO.putA {bs : List Nat} {o n : Nat} {s : Rc} (h : SlO bs o n) (hb : bs.length = 256) (ho : o < 2) (hs : s.may) : SlO (putS bs (2 * o) (hA s)) o n := by
  unfold SlO
  rw [rowS_put hb (by omega) (by omega) (hA_len s), rowS_put hb (by omega) (by omega) (hA_len s), if_pos rfl, if_neg (by omega)]
  exact ⟨.inr ⟨s, hs, rfl⟩, h.2⟩
theorem rows_same {bs l : List Nat} {k o : Nat} (hb : bs.length = 256) (hk : k < 8) (ho : o < 4) (hl : l.length = 32) (h : 2 * o ≠ k ∧ 2 * o + 1 ≠ k) : rowS (putS bs k l) (2 * o) = rowS bs (2 * o) ∧ rowS (putS bs k l) (2 * o + 1) = rowS bs (2 * o + 1) := by
  rw [rowS_put hb hk (by omega) hl, rowS_put hb hk (by omega) hl, if_neg h.1, if_neg h.2]
  exact ⟨rfl, rfl⟩
theorem SlSt.half {bs : List Nat} {st : Option (Rc × Nat)} {s : Rc} (h : SlSt bs st) (hb : bs.length = 256) (hs : s.may) : SlSt (putS bs (2 * stTo st) (hA s)) st := by
  cases st with
  | none =>
    obtain ⟨h0, h1⟩ := h
    refine ⟨h0.putA hb (by decide) hs, ?_⟩
    have := rows_same (o := 1) hb (show 2 * stTo none < 8 by decide) (by decide) (hA_len s) (by decide)
    unfold SlO
    rw [this.1, this.2]; exact h1
  | some p =>
    obtain ⟨cur, a⟩ := p
    obtain ⟨ha, hc, ho⟩ := h
    refine ⟨ha, ?_, ho.putA hb (by omega) hs⟩
    have := rows_same (o := a) hb (show 2 * (1 - a) < 8 by omega) (by omega) (hA_len s) (by omega)
    exact ⟨hc.1, by show rowS (putS bs (2 * (1 - a)) (hA s)) _ = _; rw [this.1]; exact hc.2.1, by show rowS (putS bs (2 * (1 - a)) (hA s)) _ = _; rw [this.2]; exact hc.2.2⟩
theorem SlSt.full {bs : List Nat} {st : Option (Rc × Nat)} {s : Rc} (h : SlSt bs st) (hb : bs.length = 256) (hs : s.may) (hn : s.seq = stSeq st + 1) : SlSt (putS (putS bs (2 * stTo st) (hA s)) (2 * stTo st + 1) (hB s)) (some (s, stTo st)) := by
  have hb1 : (putS bs (2 * stTo st) (hA s)).length = 256 := putS_len hb (by have := h.toLt; omega) (hA_len s)
  have ht := h.toLt
  refine ⟨ht, ⟨hs, ?_, ?_⟩, ?_⟩
  · rw [rowS_put hb1 (by omega) (by omega) (hB_len s), if_neg (by omega), rowS_put hb (by omega) (by omega) (hA_len s), if_pos rfl]
  · rw [rowS_put hb1 (by omega) (by omega) (hB_len s), if_pos rfl]
  · have e2 := rows_same (o := 1 - stTo st) hb1 (show 2 * stTo st + 1 < 8 by omega) (by omega) (hB_len s) (by omega)
    have e1 := rows_same (o := 1 - stTo st) hb (show 2 * stTo st < 8 by omega) (by omega) (hA_len s) (by omega)
    unfold SlO
    rw [e2.1, e2.2, e1.1, e1.2]
    cases st with
    | none => exact h.2.mono (Nat.zero_le _)
    | some p =>
      obtain ⟨cur, a⟩ := p
      have ha := h.1
      have : 1 - stTo (some (cur, a)) = a := by show 1 - (1 - a) = a; omega
      rw [this]
      exact h.2.1.old (by rw [hn]; show cur.seq < cur.seq + 1; omega)
theorem save_law {d : Dk} {st : Option (Rc × Nat)} {x y z : Int} (hs : SlSt d.bs st) (hb : d.bs.length = 256) (ho : d.off = false) (hm : mayR x y z) (hq : stSeq st < 1099511627776) :
    ((saveW d x y z).2 = 0 ∧ Saved d (saveW d x y z).1 st ⟨x.toNat, y.toNat, z.toNat, stSeq st + 1⟩) ∨ ((saveW d x y z).2 = 100 ∧ Failed d (saveW d x y z).1 st) := by
  obtain ⟨e1, e2⟩ := hs.to
  obtain ⟨m1, m2, m3, m4, m5, m6⟩ := hm
  have hmay : Rc.may ⟨x.toNat, y.toNat, z.toNat, stSeq st + 1⟩ := ⟨by show 1 ≤ x.toNat; omega, by show x.toNat ≤ _; omega, by show y.toNat ≤ _; omega, by show z.toNat ≤ _; omega, by show 1 ≤ _ + 1; omega, by show _ + 1 ≤ _; omega⟩
  have hL : nxL d.bs x y z = encL ⟨x.toNat, y.toNat, z.toNat, stSeq st + 1⟩ := by unfold nxL; rw [e2]
  have hsw : saveW d x y z = svT d x y z := by
    unfold saveW
    rw [if_pos ⟨m1, m2, m3, m4, m5, m6⟩, ho, if_neg (by decide), e2, if_neg (by omega)]
  rw [hsw, svT_two, e1, hL]
  show ((if (wrV d _ (hA _)).2 = 0 then wrV (wrV d _ (hA _)).1 _ (hB _) else wrV d _ (hA _)).2 = 0 ∧ _) ∨ _
  generalize hnew : (⟨x.toNat, y.toNat, z.toNat, stSeq st + 1⟩ : Rc) = new at *
  have hseq : new.seq = stSeq st + 1 := by rw [← hnew]
  have ht := hs.toLt
  show ((if (wrV d ((2 * stTo st : Nat) : Int) (hA new)).2 = 0 then wrV (wrV d ((2 * stTo st : Nat) : Int) (hA new)).1 ((2 * stTo st + 1 : Nat) : Int) (hB new) else wrV d ((2 * stTo st : Nat) : Int) (hA new)).2 = 0 ∧ Saved d (if (wrV d ((2 * stTo st : Nat) : Int) (hA new)).2 = 0 then wrV (wrV d ((2 * stTo st : Nat) : Int) (hA new)).1 ((2 * stTo st + 1 : Nat) : Int) (hB new) else wrV d ((2 * stTo st : Nat) : Int) (hA new)).1 st new) ∨
    ((if (wrV d ((2 * stTo st : Nat) : Int) (hA new)).2 = 0 then wrV (wrV d ((2 * stTo st : Nat) : Int) (hA new)).1 ((2 * stTo st + 1 : Nat) : Int) (hB new) else wrV d ((2 * stTo st : Nat) : Int) (hA new)).2 = 100 ∧ Failed d (if (wrV d ((2 * stTo st : Nat) : Int) (hA new)).2 = 0 then wrV (wrV d ((2 * stTo st : Nat) : Int) (hA new)).1 ((2 * stTo st + 1 : Nat) : Int) (hB new) else wrV d ((2 * stTo st : Nat) : Int) (hA new)).1 st)
  rcases wr_on ho (show 2 * stTo st < 8 by omega) (hA_len new) with ⟨f1, f2, f3⟩ | ⟨f1, f3⟩
  · rw [f3, if_neg (show ¬ (100 : Int) = 0 by decide)]
    exact .inr ⟨rfl, ⟨hs, f1, by omega, rfl, rfl, by rw [f2]; rfl, f2, hb⟩⟩
  · rw [f3, if_pos rfl]
    have hb1 : (putS d.bs (2 * stTo st) (hA new)).length = 256 := putS_len hb (by omega) (hA_len new)
    rcases wr_on (d := ⟨putS d.bs (2 * stTo st) (hA new), d.off, d.fused, if d.fused then d.fuse - 1 else d.fuse, d.writes + 1⟩) ho (show 2 * stTo st + 1 < 8 by omega) (hB_len new) with ⟨g1, g2, g3⟩ | ⟨g1, g3⟩
    · rw [g3]
      simp only at g1 g2
      have f1 := f1 g1
      rw [g1, if_pos rfl] at g2
      exact .inr ⟨rfl, ⟨hs.half hb hmay, g1, by omega, rfl, rfl, by show d.writes + 1 = d.writes + d.fuse; omega, by show (if d.fused then d.fuse - 1 else d.fuse) = 0; rw [g1, if_pos rfl]; exact g2, hb1⟩⟩
    · rw [g3]
      refine .inl ⟨rfl, ⟨hs.full hb hmay hseq, rfl, ho, rfl, fun h => ?_, fun h => ?_, fun j hj => ?_, putS_len hb1 (by omega) (hB_len new)⟩⟩
      · have := f1 h
        have h2 := g1 h
        simp only at h2
        rw [h, if_pos rfl] at h2
        refine ⟨by omega, ?_⟩
        show (if d.fused then (if d.fused then d.fuse - 1 else d.fuse) - 1 else _) = _
        rw [h, if_pos rfl, if_pos rfl]; omega
      · show (if d.fused then _ else (if d.fused then _ else d.fuse)) = d.fuse
        rw [h, if_neg (by decide), if_neg (by decide)]
      · show (putS (putS d.bs (2 * stTo st) (hA new)) (2 * stTo st + 1) (hB new))[j]? = _
        rw [putS_get hb1 (by omega) (hB_len new), putS_get hb (by omega) (hA_len new)]
        by_cases c : j < 64 * stTo st
        · rw [if_pos (by omega), if_pos (by omega)]
        · rw [if_neg (by omega), if_neg (by omega), if_neg (by omega), if_neg (by omega)]
/- What can never go wrong. -/
theorem saveW_arg {d : Dk} {x y z : Int} (h : ¬ mayR x y z) : saveW d x y z = (d, 1) := if_neg h
theorem saveW_off {d : Dk} {x y z : Int} (h : mayR x y z) (ho : d.off = true) : saveW d x y z = (d, 100) := by unfold saveW; rw [if_pos h, ho, if_pos rfl]
theorem slSt_new : SlSt Dk.new.bs none := ⟨⟨.inl (by decide), .inl (by decide)⟩, ⟨.inl (by decide), .inl (by decide)⟩⟩
theorem putS_lt {bs l : List Nat} (h : ∀ c ∈ bs, c < 256) (hl : ∀ c ∈ l, c < 256) (k : Nat) : ∀ c ∈ putS bs k l, c < 256 := by
  intro c hc
  unfold putS at hc
  rcases List.mem_append.1 hc with hc | hc
  · exact h c (List.mem_of_mem_take hc)
  · rcases List.mem_append.1 hc with hc | hc
    · exact hl c hc
    · exact h c (List.mem_of_mem_drop hc)
theorem wrV_lt {d : Dk} (h : ∀ c ∈ d.bs, c < 256) {l : List Nat} (hl : ∀ c ∈ l, c < 256) (s : Int) : ∀ c ∈ (wrV d s l).1.bs, c < 256 := by
  unfold wrV
  split
  · split
    · split
      · split
        · exact h
        · exact putS_lt h hl _
      · exact putS_lt h hl _
    · exact h
  · exact h
theorem svK_lt {d : Dk} (h : ∀ c ∈ d.bs, c < 256) {l : List Nat} (hl : ∀ c ∈ l, c < 256) (q : Nat) : ∀ k, ∀ c ∈ (svK d q l k).1.bs, c < 256
  | 0 => h
  | k + 1 => by
    unfold svK
    split
    · exact wrV_lt (svK_lt h hl q k) (fun c hc => hl c (List.mem_of_mem_drop (List.mem_of_mem_take hc))) _
    · exact svK_lt h hl q k
theorem saveW_lt {d : Dk} (h : ∀ c ∈ d.bs, c < 256) (x y z : Int) : ∀ c ∈ (saveW d x y z).1.bs, c < 256 := by
  unfold saveW svT
  split
  · split
    · exact h
    · split
      · exact h
      · exact svK_lt h (encL_lt _) _ _
  · exact h
end Go.Proofs.YtbjlnlgknegbnaaGreatDoor
namespace Go.Proofs.YtbjlnlgknegbnaaGreatDoor
set_option linter.unusedVariables false
set_option linter.unusedSimpArgs false
open Go.RowKit

theorem loadA_none {d : Dk} (h : SlSt d.bs none) (ho : d.off = false) : loadA d = .tuple #[recV 0 0 0, .int .i64 0, .int .i64 40] := by
  unfold loadA; rw [ho, if_neg (by decide), h.best, if_pos (by decide)]
theorem loadA_some {d : Dk} {r : Rc} {a : Nat} (h : SlSt d.bs (some (r, a))) (ho : d.off = false) : loadA d = .tuple #[recV r.life r.round r.tag, .int .i64 r.seq, .int .i64 0] := by
  unfold loadA; rw [ho, if_neg (by decide), h.best, if_neg (by show ¬ (a : Int) < 0; omega)]; rfl
theorem loadA_off {d : Dk} (ho : d.off = true) : loadA d = .tuple #[recV 0 0 0, .int .i64 0, .int .i64 100] := by
  unfold loadA; rw [ho, if_pos rfl]
end Go.Proofs.YtbjlnlgknegbnaaGreatDoor
namespace Go.Proofs.YtbjlnlgknegbnaaGreatDoor
set_option linter.unusedVariables false
open Go.RowKit

/-- All but two blocks are as they were. -/
structure Ch2 (w w' : World) (b c : Nat) : Prop where
  os : w'.os = w.os
  tape : w'.tape = w.tape
  output : w'.output = w.output
  size : w.heap.size ≤ w'.heap.size
  block : ∀ k, k < w.heap.size → k ≠ b → k ≠ c → w'.heap[k]? = w.heap[k]?
theorem Ch2.refl (w : World) (b c : Nat) : Ch2 w w b c := ⟨rfl, rfl, rfl, Nat.le_refl _, fun _ _ _ _ => rfl⟩
theorem Ch2.then {w x y : World} {b c : Nat} (h : Ch2 w x b c) (k : Ch2 x y b c) : Ch2 w y b c :=
  ⟨k.os.trans h.os, k.tape.trans h.tape, k.output.trans h.output, Nat.le_trans h.size k.size, fun j hj h1 h2 => (k.block j (Nat.lt_of_lt_of_le hj h.size) h1 h2).trans (h.block j hj h1 h2)⟩
theorem Ch2.below {w x : World} (h : Below w.heap.size w x) (b c : Nat) : Ch2 w x b c := ⟨h.os, h.tape, h.output, h.size, fun k hk _ _ => h.block k hk⟩
theorem Ch2.one {w x : World} {b : Nat} (h : w.grownBy x (some b)) (c : Nat) : Ch2 w x b c := by
  obtain ⟨h1, h2, h3, h4, h5⟩ := h
  exact ⟨h1, h2, h3, h4, fun k hk e _ => h5 k hk (by simpa using e)⟩
theorem Ch2.two {w x : World} {c : Nat} (h : w.grownBy x (some c)) (b : Nat) : Ch2 w x b c := by
  obtain ⟨h1, h2, h3, h4, h5⟩ := h
  exact ⟨h1, h2, h3, h4, fun k hk _ e => h5 k hk (by simpa using e)⟩
theorem Ch2.drew {w x : World} {b c : Nat} (h : Ch2 w x b c) : Ch2 w x.drew b c := ⟨h.os, h.tape, h.output, h.size, h.block⟩
theorem Ch2.blk {w x : World} {b c k : Nat} {o : Obj} (h : Ch2 w x b c) (hk : w.heap[k]? = some o) (h1 : k ≠ b) (h2 : k ≠ c) : x.heap[k]? = some o := (h.block k (blk_lt hk) h1 h2).trans hk
theorem Below.chg {B : Nat} {a w x : World} {b c : Nat} (h : Below B a w) (hc : Ch2 w x b c) (hB : B ≤ w.heap.size) (h1 : B ≤ b) (h2 : B ≤ c) : Below B a x := by
  refine ⟨hc.os.trans h.os, hc.tape.trans h.tape, hc.output.trans h.output, Nat.le_trans h.size hc.size, fun k hk => ?_⟩
  rw [hc.block k (Nat.lt_of_lt_of_le hk hB) (by omega) (by omega)]
  exact h.block k hk
/-- A new block beside, of which nobody else knows. -/
theorem Ch2.of_new {w x : World} {b c : Nat} (h : Ch2 w x b c) (hb : w.heap.size ≤ b) : w.grownBy x (some c) :=
  ⟨h.os, h.tape, h.output, h.size, fun k hk hne => h.block k hk (by omega) (by simpa using hne)⟩
/-- A life: what is durable, and what has been handed out. -/
structure Bt where
  life : Nat
  kround : Nat
  ktag : Nat
  round : Nat
  tag : Nat
def btC (B : Bt) (dk : Option Addr) : Array Value := #[.int .i64 (B.life : Int), .int .i64 (B.kround : Int), .int .i64 (B.ktag : Int), .int .i64 (B.round : Int), .int .i64 (B.tag : Int), .pointer dk]
def BtB (W : World) (b : Nat) (B : Bt) (dk : Option Addr) : Prop :=
  W.heap[b]? = some (.cells #[.int .i64 (B.life : Int), .int .i64 (B.kround : Int), .int .i64 (B.ktag : Int), .int .i64 (B.round : Int), .int .i64 (B.tag : Int), .pointer dk] 84 (0, 0))
theorem BtB.cells {W : World} {b : Nat} {B : Bt} {dk : Option Addr} (h : BtB W b B dk) :
    (W.cell? ⟨b, 0, none⟩ = some (.int .i64 (B.life : Int)) ∧ W.cell? ⟨b, 1, none⟩ = some (.int .i64 (B.kround : Int)) ∧ W.cell? ⟨b, 2, none⟩ = some (.int .i64 (B.ktag : Int)) ∧ W.cell? ⟨b, 3, none⟩ = some (.int .i64 (B.round : Int)) ∧ W.cell? ⟨b, 4, none⟩ = some (.int .i64 (B.tag : Int)) ∧ W.cell? ⟨b, 5, none⟩ = some (.pointer dk)) ∧
    (W.frozen? ⟨b, 0, none⟩ = false ∧ W.frozen? ⟨b, 1, none⟩ = false ∧ W.frozen? ⟨b, 2, none⟩ = false ∧ W.frozen? ⟨b, 3, none⟩ = false ∧ W.frozen? ⟨b, 4, none⟩ = false) :=
  ⟨⟨(blk_cell h 0).trans rfl, (blk_cell h 1).trans rfl, (blk_cell h 2).trans rfl, (blk_cell h 3).trans rfl, (blk_cell h 4).trans rfl, (blk_cell h 5).trans rfl⟩, blk_free h 0, blk_free h 1, blk_free h 2, blk_free h 3, blk_free h 4⟩
theorem BtB.below {W W' : World} {b : Nat} {B : Bt} {dk : Option Addr} (h : BtB W b B dk) (hb : Below W.heap.size W W') : BtB W' b B dk := blk_below' hb h
/-- A boot and its disk. -/
structure BtAt (W : World) (b c : Nat) (B : Bt) (d : Dk) : Prop where
  boot : BtB W b B (some ⟨c, 0, none⟩)
  disk : DkAt W c d
  ne : b ≠ c
theorem BtAt.below {W W' : World} {b c : Nat} {B : Bt} {d : Dk} (h : BtAt W b c B d) (hb : Below W.heap.size W W') : BtAt W' b c B d := ⟨h.boot.below hb, h.disk.below hb, h.ne⟩
theorem BtAt.turn {W W' : World} {b c : Nat} {B : Bt} {d d' : Dk} (h : BtAt W b c B d) (hg : W.grownBy W' (some c)) (hd : DkAt W' c d') : BtAt W' b c B d' := ⟨blk_grown hg h.boot (by simpa using h.ne), hd, h.ne⟩
theorem BtAt.setRound {W : World} {b c : Nat} {B : Bt} {d : Dk} (h : BtAt W b c B d) (x : Nat) : BtAt (W.setCell ⟨b, 3, none⟩ (.int .i64 (x : Int))) b c { B with round := x } d :=
  ⟨blk_store h.boot 3 _, ⟨blk_set h.disk.1 _ _ (Ne.symm h.ne), h.disk.2⟩, h.ne⟩
theorem BtAt.setTag {W : World} {b c : Nat} {B : Bt} {d : Dk} (h : BtAt W b c B d) (x : Nat) : BtAt (W.setCell ⟨b, 4, none⟩ (.int .i64 (x : Int))) b c { B with tag := x } d :=
  ⟨blk_store h.boot 4 _, ⟨blk_set h.disk.1 _ _ (Ne.symm h.ne), h.disk.2⟩, h.ne⟩
theorem BtAt.setRec {W : World} {b c : Nat} {B : Bt} {d : Dk} (h : BtAt W b c B d) (x y z : Nat) :
    BtAt (((W.setCell ⟨b, 0, none⟩ (.int .i64 (x : Int))).setCell ⟨b, 1, none⟩ (.int .i64 (y : Int))).setCell ⟨b, 2, none⟩ (.int .i64 (z : Int))) b c { B with life := x, kround := y, ktag := z } d :=
  ⟨blk_store (blk_store (blk_store h.boot 0 _) 1 _) 2 _, ⟨blk_set (blk_set (blk_set h.disk.1 _ _ (Ne.symm h.ne)) _ _ (Ne.symm h.ne)) _ _ (Ne.symm h.ne), h.disk.2⟩, h.ne⟩
end Go.Proofs.YtbjlnlgknegbnaaGreatDoor
namespace Go.Proofs.YtbjlnlgknegbnaaGreatDoor
set_option linter.unusedVariables false
set_option linter.unusedSimpArgs false
open Go.RowKit

structure McS (w : World) (B g cp : Nat) (R : List Nat) (o t k : Int) (bx cx x : Nat) (W : World) : Prop where
  box : W.heap[w.heap.size]? = some (.cells #[.int .i64 o, .int .i64 t, .int .i64 k] 60 (0, 0))
  book : Tb W B g cp R
  bxc : W.heap[bx]? = some (.cells #[.pointer (some ⟨B, 0, none⟩)] 41 (0, 0))
  cxc : W.heap[cx]? = some (.cells (setC x) 54 (0, 0))
  chg : Ch2 w W g cx
  ne : bx ≠ g ∧ bx ≠ cx ∧ cx ≠ g ∧ cx ≠ B ∧ g < w.heap.size ∧ cx < w.heap.size
theorem McS.below {w W X : World} {B g cp : Nat} {R : List Nat} {o t k : Int} {bx cx x : Nat} (h : McS w B g cp R o t k bx cx x W) (hb : Below W.heap.size W X) : McS w B g cp R o t k bx cx x X :=
  ⟨blk_below' hb h.box, h.book.below hb, blk_below' hb h.bxc, blk_below' hb h.cxc, h.chg.then (Ch2.below hb _ _), h.ne⟩
theorem McS.drew {w W : World} {B g cp : Nat} {R : List Nat} {o t k : Int} {bx cx x : Nat} (h : McS w B g cp R o t k bx cx x W) : McS w B g cp R o t k bx cx x W.drew := h.below ((Below.refl _ W).drew)
theorem McS.take {w W X : World} {B g cp : Nat} {R R' : List Nat} {o t k : Int} {bx cx x : Nat} (h : McS w B g cp R o t k bx cx x W) (hg : W.grownBy X (some g)) (hT : Tb X B g cp R') : McS w B g cp R' o t k bx cx x X :=
  ⟨blk_grown hg h.box (by have := h.ne; simp; omega), hT, blk_grown hg h.bxc (by have := h.ne; simp; omega), blk_grown hg h.cxc (by have := h.ne; simp; omega), h.chg.then (Ch2.one hg _), h.ne⟩
theorem McS.put {w W X : World} {B g cp : Nat} {R : List Nat} {o t k : Int} {bx cx x y : Nat} (h : McS w B g cp R o t k bx cx x W) (hg : W.grownBy X (some cx)) (hy : X.heap[cx]? = some (.cells (setC y) 54 (0, 0))) : McS w B g cp R o t k bx cx y X :=
  ⟨blk_grown hg h.box (by have := h.ne; simp; omega), h.book.other hg (by have := h.ne; omega) (by have := h.ne; omega), blk_grown hg h.bxc (by have := h.ne; simp; omega), hy, h.chg.then (Ch2.two hg _), h.ne⟩
def Mc8 (p : Nat) (o t k : Int) (bx B cx x : Nat) (W : World) : Prop := Bx3 p o t k W ∧ W.cell? ⟨bx, 0, none⟩ = some (.pointer (some ⟨B, 0, none⟩)) ∧ (W.cell? ⟨cx, 0, none⟩ = some (.int .u32 (sw x 0 : Nat)) ∧ W.cell? ⟨cx, 1, none⟩ = some (.int .u32 (sw x 1 : Nat)) ∧ W.cell? ⟨cx, 2, none⟩ = some (.int .u32 (sw x 2 : Nat)) ∧ W.cell? ⟨cx, 3, none⟩ = some (.int .u32 (sw x 3 : Nat)))
theorem McS.c8 {w W : World} {B g cp : Nat} {R : List Nat} {o t k : Int} {bx cx x : Nat} (h : McS w B g cp R o t k bx cx x W) : Mc8 w.heap.size o t k bx B cx x W := by
  obtain ⟨q0, q1, q2, q3, _⟩ := set_cells h.cxc
  exact ⟨⟨blk_cell h.box 0, blk_cell h.box 1, blk_cell h.box 2⟩, blk_cell h.bxc 0, q0, q1, q2, q3⟩
set_option maxRecDepth 100000 in
set_option maxHeartbeats 1000000 in
theorem merge1_any {w : World} {B g cp : Nat} {R : List Nat} (i r bx cx x : Nat) (h : Tb w B g cp R) (hbx : w.heap[bx]? = some (.cells #[.pointer (some ⟨B, 0, none⟩)] 41 (0, 0))) (hcx : w.heap[cx]? = some (.cells (setC x) 54 (0, 0)))
    (hne : bx ≠ g ∧ bx ≠ cx ∧ cx ≠ g ∧ cx ≠ B) (hi : i < R.length) (hr : r ≤ 2097153) :
    Calls Tryz.prog 35 #[nV (i : Int) (tgN r : Nat) (kdN r : Nat), .pointer (some ⟨bx, 0, none⟩), .pointer (some ⟨cx, 0, none⟩)] w fun e w' => e = .returned (.tuple #[]) ∧ Tb w' B g cp (tkR R i r) ∧ (∃ y, w'.heap[cx]? = some (.cells (setC y) 54 (0, 0))) ∧ Ch2 w w' g cx := by
  have HS := Lib.hid (show McS w B g cp R (i : Int) (tgN r : Nat) (kdN r : Nat) bx cx x (w.alloc (.cells #[.int .i64 (i : Int), .int .i64 (tgN r : Nat), .int .i64 (kdN r : Nat)] 60)) from
    ⟨blk_new w _, h.below ((Below.refl _ _).alloc (Nat.le_refl _) _), blk_old hbx _, blk_old hcx _, Ch2.below ((Below.refl _ _).alloc (Nat.le_refl _) _) _ _, hne.1, hne.2.1, hne.2.2.1, hne.2.2.2, h.lt.2, blk_lt hcx⟩)
  have HT : Hid (∀ W, Tb W B g cp R → Calls Tryz.prog 24 #[.pointer (some ⟨B, 0, none⟩), nV (i : Int) (tgN r : Nat) (kdN r : Nat)] W fun e w' => e = .returned (.tuple #[.bool (decide (R.getD i 0 < r)), .int .i64 0]) ∧ Tb w' B g cp (tkR R i r) ∧ W.grownBy w' (some g)) := Lib.hid fun W hW => take_yes hW i r hi hr
  have HW := Lib.hid (fun w => with_yes x i (by have := h.n; omega) w)
  generalize x % 2 ^ 100 ||| 2 ^ i = y at HW
  have HNE := Lib.hid hne
  unfold nV at HT ⊢
  unfold setV setC at HW
  cases hlt : decide (R.getD i 0 < r) with
  | false =>
    rw [hlt] at HT
    clear h hbx hcx hne hi hr hlt HW
    go_enter Tryz.func35, Tryz.ntmps35
    obtain ⟨⟨k0, k1, k2⟩, k3, _⟩ := HS.out.c8
    go_upto_region 1 with fail
    generalize World.alloc w _ = W at *
    go_wp2_with (go_at_call 24; refine (HT.out _ HS.out.book).mono ?_; rintro e w1 ⟨rfl, hT1, hg1⟩; have HS := Lib.hid (HS.out.take hg1 hT1); clear hT1 hg1; obtain ⟨⟨k0, k1, k2⟩, k3, q0, q1, q2, q3⟩ := HS.out.c8)
    go_end0
    exact ⟨rfl, HS.out.book, ⟨_, HS.out.cxc⟩, HS.out.chg⟩
  | true =>
    rw [hlt] at HT
    clear h hbx hcx hne hi hr hlt
    go_enter Tryz.func35, Tryz.ntmps35
    obtain ⟨⟨k0, k1, k2⟩, k3, _⟩ := HS.out.c8
    go_upto_region 1 with fail
    generalize World.alloc w _ = W at *
    go_wp2_with (go_at_call 24; refine (HT.out _ HS.out.book).mono ?_; rintro e w1 ⟨rfl, hT1, hg1⟩; have HS := Lib.hid (HS.out.take hg1 hT1); clear hT1 hg1; obtain ⟨⟨k0, k1, k2⟩, k3, q0, q1, q2, q3⟩ := HS.out.c8)
    refine (HW.out _).mono ?_
    rintro e w3 ⟨rfl, hB⟩
    have HS := Lib.hid (HS.out.below hB)
    clear hB k0 k1 k2 k3 q0 q1 q2 q3
    obtain ⟨_, _, q0, q1, q2, q3⟩ := HS.out.c8
    obtain ⟨_, _, _, _, f0, f1, f2, f3⟩ := set_cells HS.out.cxc
    have hcl := blk_lt HS.out.cxc
    have hg := Lib.hid (but_set (but_set (but_set (but_set (but_refl w3 (some cx)) hcl 0 (.int .u32 (sw y 0 : Nat))) hcl 1 (.int .u32 (sw y 1 : Nat))) hcl 2 (.int .u32 (sw y 2 : Nat))) hcl 3 (.int .u32 (sw y 3 : Nat)))
    have hs := Lib.hid (blk_store (blk_store (blk_store (blk_store HS.out.cxc 0 (.int .u32 (sw y 0 : Nat))) 1 (.int .u32 (sw y 1 : Nat))) 2 (.int .u32 (sw y 2 : Nat))) 3 (.int .u32 (sw y 3 : Nat)))
    clear hcl
    go_wp2_with fail
    go_end0
    have HS2 := HS.out.put (y := y) hg.out (by have := hs.out; simpa [setC] using this)
    exact ⟨rfl, HS2.book, ⟨y, HS2.cxc⟩, HS2.chg⟩
end Go.Proofs.YtbjlnlgknegbnaaGreatDoor
namespace Go.Proofs.YtbjlnlgknegbnaaGreatDoor
set_option linter.unusedVariables false
set_option linter.unusedSimpArgs false
open Go.RowKit

theorem Tryz.infoNotice : (Tryz.prog.info? 60).map (fun i => (i.zero, i.size, i.bytes)) = some (some (.agg #[.int .i64 0, .int .i64 0, .int .i64 0]), 3, 24) := by kernel_rfl
theorem madeCells_nots (n : Nat) : madeCells #[Value.int .i64 0, .int .i64 0, .int .i64 0] n = (List.replicate n (Value.int .i64 0)).toArray := by
  apply Array.ext
  · simp [size_madeCells]
  · intro i h1 h2
    simp only [madeCells, Array.getElem_map, Array.getElem_range, List.getElem_toArray, List.getElem_replicate]
    have : i % 3 = 0 ∨ i % 3 = 1 ∨ i % 3 = 2 := by omega
    simp only [List.size_toArray, List.length_cons, List.length_nil, Nat.reduceAdd]
    rcases this with h | h | h <;> rw [h] <;> rfl
theorem make_nots (n : Nat) (hn : n ≤ 1000) (w : World) : (Instr.makeSlice 44 (.int .i64 (n : Int)) (.int .i64 (n : Int))).run Tryz.prog w = .ok (.slice (some ⟨w.heap.size, 0, none⟩) n n) (w.alloc (.cells (Array.replicate (n * 3) (Value.int .i64 0)) 60)) := by
  obtain ⟨i, hi, hz⟩ := Option.map_eq_some_iff.1 Tryz.infoNotice
  simp only [Prod.mk.injEq] at hz
  obtain ⟨h1, h2, h3⟩ := hz
  have := run_make (P := Tryz.prog) w 44 60 i _ Tryz.underlying44 hi h1 .i64 .i64 (n : Int) (n : Int) (by omega) (Int.le_refl _) (by rw [h3]; omega) (by omega)
  rw [h2, Int.toNat_natCast] at this
  rw [this, show (Value.agg #[Value.int .i64 0, .int .i64 0, .int .i64 0]).cells = #[Value.int .i64 0, .int .i64 0, .int .i64 0] from rfl, madeCells_nots, List.toArray_replicate]
/-- A list that is being filled with fresh notices. -/
def filC (n k : Nat) : Array Value := (ntC 0 (List.replicate k 0) ++ List.replicate ((n - k) * 3) (Value.int .i64 0)).toArray
theorem filC_step (n k : Nat) (h : k < n) : (((filC n k).setIfInBounds (k * 3) (.int .i64 (k : Int))).setIfInBounds (k * 3 + 1) (.int .i64 0)).setIfInBounds (k * 3 + 2) (.int .i64 1) = filC n (k + 1) := by
  unfold filC
  have e : (n - k) * 3 = (n - (k + 1)) * 3 + 1 + 1 + 1 := by omega
  have := ntC_next (List.replicate k 0) 0 (.int .i64 0) (.int .i64 0) (.int .i64 0) (List.replicate ((n - (k + 1)) * 3) (Value.int .i64 0))
  rw [List.length_replicate] at this
  rw [e, List.replicate_succ, List.replicate_succ, List.replicate_succ]
  rw [show List.replicate (k + 1) 0 = List.replicate k 0 ++ [0] from List.replicate_succ']
  exact this
theorem filC_zero (n : Nat) : filC n 0 = Array.replicate (n * 3) (Value.int .i64 0) := by unfold filC; simp [ntC]
theorem filC_end (n : Nat) : filC n n = (ntC 0 (List.replicate n 0) ++ []).toArray := by unfold filC; rw [Nat.sub_self]; rfl
structure FilS (w : World) (p B g n k : Nat) (o t d : Int) (W : World) : Prop where
  book : W.heap[B]? = some (.cells #[.slice (some ⟨g, 0, none⟩) n n] 93 (0, 0))
  list : W.heap[g]? = some (.cells (filC n k) 60 (0, 0))
  box : W.heap[p]? = some (.cells #[.int .i64 o, .int .i64 t, .int .i64 d] 60 (0, 0))
  low : Below w.heap.size w W
  ne : B ≠ g ∧ p ≠ g ∧ w.heap.size ≤ g ∧ w.heap.size ≤ B
theorem FilS.below {w W X : World} {p B g n k : Nat} {o t d : Int} (h : FilS w p B g n k o t d W) (hb : Below W.heap.size W X) : FilS w p B g n k o t d X :=
  ⟨blk_below' hb h.book, blk_below' hb h.list, blk_below' hb h.box, below_then h.low hb, h.ne⟩
def Fil4 (B g n p : Nat) (o t d : Int) (W : World) : Prop := W.cell? ⟨B, 0, none⟩ = some (.slice (some ⟨g, 0, none⟩) n n) ∧ Bx3 p o t d W
theorem FilS.c4 {w W : World} {p B g n k : Nat} {o t d : Int} (h : FilS w p B g n k o t d W) : Fil4 B g n p o t d W := ⟨blk_cell h.book 0, blk_cell h.box 0, blk_cell h.box 1, blk_cell h.box 2⟩
theorem FilS.at {w W : World} {p B g n k : Nat} {o t d : Int} (h : FilS w p B g n k o t d W) (j : Nat) (hj : j < n * 3) (hk : k ≤ n) : ∃ v, W.cell? ⟨g, j, none⟩ = some v := by
  rw [blk_cell h.list j]
  have hl : (filC n k).size = n * 3 := by unfold filC; simp [ntC_len]; omega
  exact ⟨_, Array.getElem?_eq_getElem (by omega)⟩
theorem FilS.step {w W : World} {p B g n k : Nat} {o t d : Int} (h : FilS w p B g n k o t d W) (hk : k < n) :
    FilS w p B g n (k + 1) o t d (((W.setCell ⟨g, k * 3, none⟩ (.int .i64 (k : Int))).setCell ⟨g, k * 3 + 1, none⟩ (.int .i64 0)).setCell ⟨g, k * 3 + 2, none⟩ (.int .i64 1)) := by
  obtain ⟨n1, n2, n3, n4⟩ := h.ne
  refine ⟨blk_set (blk_set (blk_set h.book _ _ n1) _ _ n1) _ _ n1, ?_, blk_set (blk_set (blk_set h.box _ _ n2) _ _ n2) _ _ n2, ((h.low.setCell n3 _).setCell n3 _).setCell n3 _, h.ne⟩
  have := blk_store (blk_store (blk_store h.list (k * 3) (.int .i64 (k : Int))) (k * 3 + 1) (.int .i64 0)) (k * 3 + 2) (.int .i64 1)
  rwa [filC_step n k hk] at this
theorem FilS.last {w W : World} {p B g n : Nat} {o t d : Int} (h : FilS w p B g n n o t d W) (hn : 1 ≤ n ∧ n ≤ 100) : Tb W B g n (List.replicate n 0) := by
  have hl := h.list
  rw [filC_end] at hl
  exact ⟨by rw [List.length_replicate]; exact h.book, ⟨n, [], rfl, hl⟩, h.ne.1, fun x hx => by rw [(List.mem_replicate.1 hx).2]; omega, by rw [List.length_replicate]; exact hn⟩
/-- A new book. -/
def bk0 (n s t : Nat) : List Nat := (List.replicate n 0).set s (2 * t)
theorem bk0_len (n s t : Nat) : (bk0 n s t).length = n := by unfold bk0; simp
set_option maxRecDepth 100000 in
set_option maxHeartbeats 1000000 in
theorem tnew_yes (n s t : Nat) (hn : 1 ≤ n ∧ n ≤ 100) (hs : s < n) (ht : t ≤ 1048576) (w : World) :
    Calls Tryz.prog 9 #[.int .i64 (n : Int), .int .i64 (s : Int), .int .i64 (t : Int)] w fun e w' => ∃ B g, e = .returned (.tuple #[.pointer (some ⟨B, 0, none⟩), .int .i64 0]) ∧ Tb w' B g n (bk0 n s t) ∧ w.heap.size ≤ B ∧ w.heap.size ≤ g ∧ Below w.heap.size w w' := by
  have hv : vN (n : Int) (s : Int) (t : Int) 1 = true := decide_eq_true (by omega)
  have HV := Lib.hid (fun w => valid_any (n : Int) (s : Int) (t : Int) 1 w)
  rw [hv] at HV
  have HF := Lib.hid fresh_any
  unfold nV at HV HF
  have HN := Lib.hid hn
  have HS := Lib.hid hs
  have HT := Lib.hid ht
  have hmk := make_nots n (by omega)
  have a1 : (1 : Int) ≤ (n : Int) := by omega
  have a2 : (n : Int) ≤ 100 := by omega
  have a3 : (0 : Int) ≤ (s : Int) := by omega
  have a4 : (s : Int) < (n : Int) := by omega
  have a5 : (n : Int).toNat = n := Int.toNat_natCast n
  clear hv hn hs ht
  go_enter Tryz.func9, Tryz.ntmps9
  go_upto_region 6 with fail
  obtain ⟨p, hp⟩ : ∃ p, w.heap.size = p := ⟨_, rfl⟩
  have h0 : (w.alloc (.cells #[.int .i64 (s : Int), .int .i64 (t : Int), .int .i64 1] 60)).heap[p]? = some (.cells #[.int .i64 (s : Int), .int .i64 (t : Int), .int .i64 1] 60 (0, 0)) := by rw [← hp]; exact blk_new w _
  have hb0 : Below w.heap.size w (w.alloc (.cells #[.int .i64 (s : Int), .int .i64 (t : Int), .int .i64 1] 60)) := (Below.refl _ _).alloc (Nat.le_refl _) _
  have HP := Lib.hid hp
  rw [hp]
  clear hp
  generalize World.alloc w _ = W0 at *
  have c0 := blk_cell h0 0
  have c1 := blk_cell h0 1
  have c2 := blk_cell h0 2
  go_wp2_with (go_at_call 31; refine (HV.out _).mono ?_; rintro e w1 ⟨rfl, hB1⟩)
  have hF : FilS w p (w1.heap.size + 1) w1.heap.size n 0 (s : Int) (t : Int) 1 ((w1.alloc (.cells (Array.replicate (n * 3) (Value.int .i64 0)) 60)).alloc (.cells #[.slice (some ⟨w1.heap.size, 0, none⟩) n n] 93)) := by
    have hl := blk_lt (blk_below' hB1 h0)
    have hb := below_then hb0 hB1
    have hz := hb.size
    exact ⟨b1 w1 _ _, by rw [filC_zero]; exact blk_old (blk_new w1 _) _, blk_old (blk_old (blk_below' hB1 h0) _) _, (hb.alloc hz _).alloc (by simp; omega) _, by omega, by omega, by omega, by omega⟩
  obtain ⟨g, hg⟩ : ∃ g, w1.heap.size = g := ⟨_, rfl⟩
  rw [hg] at hF
  (try rw [hg])
  clear hg h0 hb0 hB1 c0 c1 c2 hmk
  generalize World.alloc (World.alloc w1 _) _ = W2 at *
  go_wp2_with fail
  go_loopw [42] (fun iv wr => ∃ k : Nat, iv = .int .i64 k ∧ k ≤ n ∧ FilS w p (g + 1) g n k (s : Int) (t : Int) 1 wr) (fun iv _ => n - (intOf iv).toNat)
  case atStart => exact ⟨0, rfl, by omega, hF⟩
  case round =>
    obtain ⟨k, rfl, hk, hFk⟩ := hrel
    clear hF
    by_cases hlt : k < n
    · have i1 : (k : Int) < (n : Int) := by omega
      have i2 : (0 : Int) ≤ (k : Int) := by omega
      have i3 : (k : Int).toNat = k := Int.toNat_natCast k
      have HF2 := Lib.hid hFk
      have HK := Lib.hid hlt
      clear hFk hlt hk
      go_upto_region 12 with fail
      refine wp_region_early (Fil4 (g + 1) g n p (s : Int) (t : Int) 1) (fun j => j == 8) (by kernel_rfl) ?_
      simp only [List.size_toArray, List.length_cons, List.length_nil, Nat.reduceAdd, Array.replicate_succ, Array.replicate_zero, List.push_toArray, List.nil_append, List.cons_append]
      have HF2 := Lib.hid (HF2.out.below ((Below.refl _ wr).drew))
      generalize World.drew wr = W3 at *
      have hSS := HF2.out.c4
      refine wpAnyE_take (i := 0) (v := ?_) rfl (by kernel_rfl) (by kernel_rfl) (by kernel_rfl) (by kernel_rfl) (fun _ _ _ h => h) (Or.inl ⟨by rfl, ?_⟩) hSS ?_
      rotate_left
      · intro w hSw
        obtain ⟨j0, j1, j2, j3⟩ := hSw
        go_simp
        all_goals with_reducible rfl
      simp only [Act.put, List.setIfInBounds_toArray, List.set_cons_zero, List.set_cons_succ, List.getElem_toArray, List.getElem_cons_zero, List.getElem_cons_succ]
      refine wpAnyE_take (i := 1) (v := ?_) rfl (by kernel_rfl) (by kernel_rfl) (by kernel_rfl) (by kernel_rfl) (fun _ _ _ h => h) (Or.inl ⟨by rfl, ?_⟩) hSS ?_
      rotate_left
      · intro w hSw
        obtain ⟨j0, j1, j2, j3⟩ := hSw
        go_simp
        all_goals with_reducible rfl
      simp only [Act.put, List.setIfInBounds_toArray, List.set_cons_zero, List.set_cons_succ, List.getElem_toArray, List.getElem_cons_zero, List.getElem_cons_succ]
      refine wpAnyE_take (i := 2) (v := ?_) rfl (by kernel_rfl) (by kernel_rfl) (by kernel_rfl) (by kernel_rfl) (fun _ _ _ h => h) (Or.inl ⟨by rfl, ?_⟩) hSS ?_
      rotate_left
      · intro w hSw
        obtain ⟨j0, j1, j2, j3⟩ := hSw
        go_simp
        all_goals with_reducible rfl
      simp only [Act.put, List.setIfInBounds_toArray, List.set_cons_zero, List.set_cons_succ, List.getElem_toArray, List.getElem_cons_zero, List.getElem_cons_succ]
      refine wpAnyE_take (i := 3) (v := ?_) rfl (by kernel_rfl) (by kernel_rfl) (by kernel_rfl) (by kernel_rfl) (fun _ _ _ h => h) (Or.inl ⟨by rfl, ?_⟩) hSS ?_
      rotate_left
      · intro w hSw
        obtain ⟨j0, j1, j2, j3⟩ := hSw
        go_simp
        all_goals with_reducible rfl
      simp only [Act.put, List.setIfInBounds_toArray, List.set_cons_zero, List.set_cons_succ, List.getElem_toArray, List.getElem_cons_zero, List.getElem_cons_succ]
      refine wpAnyE_take (i := 4) (v := ?_) rfl (by kernel_rfl) (by kernel_rfl) (by kernel_rfl) (by kernel_rfl) (fun _ _ _ h => h) (Or.inl ⟨by rfl, ?_⟩) hSS ?_
      rotate_left
      · intro w hSw
        obtain ⟨j0, j1, j2, j3⟩ := hSw
        go_simp
        all_goals with_reducible rfl
      simp only [Act.put, List.setIfInBounds_toArray, List.set_cons_zero, List.set_cons_succ, List.getElem_toArray, List.getElem_cons_zero, List.getElem_cons_succ]
      refine wpAnyE_take (i := 5) (v := ?_) rfl (by kernel_rfl) (by kernel_rfl) (by kernel_rfl) (by kernel_rfl) (fun _ _ _ h => h) (Or.inl ⟨by rfl, ?_⟩) hSS ?_
      rotate_left
      · intro w hSw
        obtain ⟨j0, j1, j2, j3⟩ := hSw
        go_simp
        all_goals with_reducible rfl
      simp only [Act.put, List.setIfInBounds_toArray, List.set_cons_zero, List.set_cons_succ, List.getElem_toArray, List.getElem_cons_zero, List.getElem_cons_succ]
      refine wpAnyE_one (i := 6) (by kernel_rfl) rfl ?_
      change wpList _ _ (Exit.then _ _) [_] _ _
      try simp only [List.setIfInBounds_toArray, List.set_cons_zero, List.set_cons_succ, List.getElem_toArray, List.getElem_cons_zero, List.getElem_cons_succ]
      go_wp2_with (go_at_call 32; refine (HF.out _ _).mono ?_; rintro e w4 ⟨rfl, hB4⟩)
      have HF2 := Lib.hid (HF2.out.below hB4)
      clear hB4 hSS
      have hSS := HF2.out.c4
      refine ⟨fun _ => hSS, ?_⟩
      try simp only [List.setIfInBounds_toArray, List.set_cons_zero, List.set_cons_succ, List.getElem_toArray, List.getElem_cons_zero, List.getElem_cons_succ]
      refine wpAnyE_take (i := 7) (v := ?_) rfl (by kernel_rfl) (by kernel_rfl) (by kernel_rfl) (by kernel_rfl) (fun _ _ _ h => h) (Or.inl ⟨by rfl, ?_⟩) hSS ?_
      rotate_left
      · intro w hSw
        obtain ⟨j0, j1, j2, j3⟩ := hSw
        go_simp
        all_goals with_reducible rfl
      simp only [Act.put, List.setIfInBounds_toArray, List.set_cons_zero, List.set_cons_succ, List.getElem_toArray, List.getElem_cons_zero, List.getElem_cons_succ]
      refine wpAnyE_one (i := 8) (by kernel_rfl) rfl ?_
      change wpList _ _ (Exit.then _ _) [_] _ _
      try simp only [List.setIfInBounds_toArray, List.set_cons_zero, List.set_cons_succ, List.getElem_toArray, List.getElem_cons_zero, List.getElem_cons_succ]
      obtain ⟨v0, c0⟩ := HF2.out.at (k * 3) (by have := HK.out; omega) (Nat.le_of_lt HK.out)
      obtain ⟨v1, c1⟩ := HF2.out.at (k * 3 + 1) (by have := HK.out; omega) (Nat.le_of_lt HK.out)
      obtain ⟨v2, c2⟩ := HF2.out.at (k * 3 + 2) (by have := HK.out; omega) (Nat.le_of_lt HK.out)
      have f0 := blk_free HF2.out.list (k * 3)
      have f1 := blk_free HF2.out.list (k * 3 + 1)
      have f2 := blk_free HF2.out.list (k * 3 + 2)
      go_wp2_with fail
      refine ⟨(fun h => by cases h), ?_⟩
      try simp only [List.setIfInBounds_toArray, List.set_cons_zero, List.set_cons_succ, List.getElem_toArray, List.getElem_cons_zero, List.getElem_cons_succ]
      refine wpAnyE_end (by kernel_rfl) ?_
      have HF3 := Lib.hid (HF2.out.step HK.out)
      clear c0 c1 c2 f0 f1 f2 hSS
      generalize ((World.setCell w4 _ _).setCell _ _).setCell _ _ = W5 at *
      go_wp2_with fail
      go_roundw
      case rel => exact ⟨k + 1, by go_num, HK.out, HF3.out⟩
      case measure => have := HK.out; simp [intOf]; omega
    · obtain rfl : k = n := by omega
      have i1 : ¬ (k : Int) < (k : Int) := by omega
      have HT2 := Lib.hid (hFk.last HN.out)
      have HF2 := Lib.hid hFk
      clear hFk hlt hk
      go_upto_region 14 with fail
      refine wp_region_early (Fil4 (g + 1) g k p (s : Int) (t : Int) 1) (fun j => j == 7) (by kernel_rfl) ?_
      simp only [List.size_toArray, List.length_cons, List.length_nil, Nat.reduceAdd, Array.replicate_succ, Array.replicate_zero, List.push_toArray, List.nil_append, List.cons_append]
      have HF2 := Lib.hid (HF2.out.below ((Below.refl _ wr).drew))
      have HT2 := Lib.hid (HT2.out.below ((Below.refl _ wr).drew))
      generalize World.drew wr = W3 at *
      have hSS := HF2.out.c4
      have i3 : (s : Int).toNat = s := Int.toNat_natCast s
      refine wpAnyE_take (i := 0) (v := ?_) rfl (by kernel_rfl) (by kernel_rfl) (by kernel_rfl) (by kernel_rfl) (fun _ _ _ h => h) (Or.inl ⟨by rfl, ?_⟩) hSS ?_
      rotate_left
      · intro w hSw
        obtain ⟨j0, j1, j2, j3⟩ := hSw
        go_simp
        all_goals with_reducible rfl
      simp only [Act.put, List.setIfInBounds_toArray, List.set_cons_zero, List.set_cons_succ, List.getElem_toArray, List.getElem_cons_zero, List.getElem_cons_succ]
      refine wpAnyE_take (i := 1) (v := ?_) rfl (by kernel_rfl) (by kernel_rfl) (by kernel_rfl) (by kernel_rfl) (fun _ _ _ h => h) (Or.inl ⟨by rfl, ?_⟩) hSS ?_
      rotate_left
      · intro w hSw
        obtain ⟨j0, j1, j2, j3⟩ := hSw
        go_simp
        all_goals with_reducible rfl
      simp only [Act.put, List.setIfInBounds_toArray, List.set_cons_zero, List.set_cons_succ, List.getElem_toArray, List.getElem_cons_zero, List.getElem_cons_succ]
      refine wpAnyE_take (i := 2) (v := ?_) rfl (by kernel_rfl) (by kernel_rfl) (by kernel_rfl) (by kernel_rfl) (fun _ _ _ h => h) (Or.inl ⟨by rfl, ?_⟩) hSS ?_
      rotate_left
      · intro w hSw
        obtain ⟨j0, j1, j2, j3⟩ := hSw
        go_simp
        all_goals with_reducible rfl
      simp only [Act.put, List.setIfInBounds_toArray, List.set_cons_zero, List.set_cons_succ, List.getElem_toArray, List.getElem_cons_zero, List.getElem_cons_succ]
      refine wpAnyE_take (i := 3) (v := ?_) rfl (by kernel_rfl) (by kernel_rfl) (by kernel_rfl) (by kernel_rfl) (fun _ _ _ h => h) (Or.inl ⟨by rfl, ?_⟩) hSS ?_
      rotate_left
      · intro w hSw
        obtain ⟨j0, j1, j2, j3⟩ := hSw
        go_simp
        all_goals with_reducible rfl
      simp only [Act.put, List.setIfInBounds_toArray, List.set_cons_zero, List.set_cons_succ, List.getElem_toArray, List.getElem_cons_zero, List.getElem_cons_succ]
      refine wpAnyE_take (i := 4) (v := ?_) rfl (by kernel_rfl) (by kernel_rfl) (by kernel_rfl) (by kernel_rfl) (fun _ _ _ h => h) (Or.inl ⟨by rfl, ?_⟩) hSS ?_
      rotate_left
      · intro w hSw
        obtain ⟨j0, j1, j2, j3⟩ := hSw
        go_simp
        all_goals with_reducible rfl
      simp only [Act.put, List.setIfInBounds_toArray, List.set_cons_zero, List.set_cons_succ, List.getElem_toArray, List.getElem_cons_zero, List.getElem_cons_succ]
      refine wpAnyE_take (i := 5) (v := ?_) rfl (by kernel_rfl) (by kernel_rfl) (by kernel_rfl) (by kernel_rfl) (fun _ _ _ h => h) (Or.inl ⟨by rfl, ?_⟩) hSS ?_
      rotate_left
      · intro w hSw
        obtain ⟨j0, j1, j2, j3⟩ := hSw
        go_simp
        all_goals with_reducible rfl
      simp only [Act.put, List.setIfInBounds_toArray, List.set_cons_zero, List.set_cons_succ, List.getElem_toArray, List.getElem_cons_zero, List.getElem_cons_succ]
      refine wpAnyE_take (i := 6) (v := ?_) rfl (by kernel_rfl) (by kernel_rfl) (by kernel_rfl) (by kernel_rfl) (fun _ _ _ h => h) (Or.inl ⟨by rfl, ?_⟩) hSS ?_
      rotate_left
      · intro w hSw
        obtain ⟨j0, j1, j2, j3⟩ := hSw
        go_simp
        all_goals with_reducible rfl
      simp only [Act.put, List.setIfInBounds_toArray, List.set_cons_zero, List.set_cons_succ, List.getElem_toArray, List.getElem_cons_zero, List.getElem_cons_succ]
      refine wpAnyE_one (i := 7) (by kernel_rfl) rfl ?_
      change wpList _ _ (Exit.then _ _) [_] _ _
      try simp only [List.setIfInBounds_toArray, List.set_cons_zero, List.set_cons_succ, List.getElem_toArray, List.getElem_cons_zero, List.getElem_cons_succ]
      obtain ⟨v0, c0⟩ := HF2.out.at (s * 3) (by have := HS.out; omega) (Nat.le_refl _)
      obtain ⟨v1, c1⟩ := HF2.out.at (s * 3 + 1) (by have := HS.out; omega) (Nat.le_refl _)
      obtain ⟨v2, c2⟩ := HF2.out.at (s * 3 + 2) (by have := HS.out; omega) (Nat.le_refl _)
      have f0 := blk_free HF2.out.list (s * 3)
      have f1 := blk_free HF2.out.list (s * 3 + 1)
      have f2 := blk_free HF2.out.list (s * 3 + 2)
      go_wp2_with fail
      refine ⟨by kernel_rfl, ?_⟩
      obtain ⟨hs1, hs2⟩ := HT2.out.set (i := s) (r := 2 * t) (by rw [List.length_replicate]; exact HS.out) (by have := HT.out; omega)
      rw [show tgN (2 * t) = t from by unfold tgN; omega, show kdN (2 * t) = 1 from by unfold kdN; omega] at hs1 hs2
      have HF4 := Lib.hid hs1
      have HL := Lib.hid (HF2.out.low.grown hs2 HF2.out.low.size (fun j h => by cases h; exact HF2.out.ne.2.2.1))
      have HNE := Lib.hid HF2.out.ne
      clear hs1 hs2 c0 c1 c2 f0 f1 f2 hSS
      go_wp2_with fail
      go_ret2
      exact ⟨g + 1, g, rfl, HF4.out, HNE.out.2.2.2, HNE.out.2.2.1, HL.out⟩
end Go.Proofs.YtbjlnlgknegbnaaGreatDoor
namespace Go.Proofs.YtbjlnlgknegbnaaGreatDoor
set_option linter.unusedVariables false
open Go.RowKit Go.WideShapes Go.ChangeShapes Go.WideElems Go.Deep

theorem add_mid' (b o j : Nat) : (⟨b, o, none⟩ : Addr).add j = ⟨b, o + j, none⟩ := by unfold Addr.add; split <;> simp_all
theorem list1 : ∀ y : List Int, y.length = 1 → ∃ a, y = [a]
  | [a], _ => ⟨a, rfl⟩
theorem list2 : ∀ y : List Int, y.length = 2 → ∃ a b, y = [a, b]
  | [a, b], _ => ⟨a, b, rfl⟩
theorem list3 : ∀ y : List Int, y.length = 3 → ∃ a b c, y = [a, b, c]
  | [a, b, c], _ => ⟨a, b, c, rfl⟩
theorem list4 : ∀ y : List Int, y.length = 4 → ∃ a b c d, y = [a, b, c, d]
  | [a, b, c, d], _ => ⟨a, b, c, d, rfl⟩
theorem list5 : ∀ y : List Int, y.length = 5 → ∃ a b c d e, y = [a, b, c, d, e]
  | [a, b, c, d, e], _ => ⟨a, b, c, d, e, rfl⟩
theorem list6 : ∀ y : List Int, y.length = 6 → ∃ a b c d e f, y = [a, b, c, d, e, f]
  | [a, b, c, d, e, f], _ => ⟨a, b, c, d, e, f, rfl⟩
/-- A type all of whose cells are integers, one behind the other. -/
def tilesB (P : Program) (F : TypeId → Bool) : List Field → Nat → Nat → Bool
  | [], o, n => o == n
  | f :: fs, o, n => f.offset == o && F f.type && tilesB P F fs (o + P.cellsOf f.type) n
def flatB (P : Program) : Nat → TypeId → Bool
  | 0, _ => false
  | d + 1, t =>
    match P.underlying t with
    | some (.int .i64) => P.cellsOf t == 1
    | some (.struct fs) => tilesB P (flatB P d) fs.toList 0 (P.cellsOf t)
    | _ => false
def intsV (ys : List Int) : List Value := ys.map (Value.int .i64)

section
variable {H : Type} {enc : TypeId × Value → H} {P : Program} {w : World} {base : Nat} {spare : Nat → Bool} {held : Bool}
theorem tiles_open {F : TypeId → Bool} {cs : List Value} (hF : ∀ (t : TypeId) (n : Nat) (cs : List Value) (x : DataW H × List MemPlace), F t = true → DataW.trod enc P w base spare held n t cs = some x → ∃ ys : List Int, cs = intsV ys ∧ ∀ y ∈ ys, (Lit.int .i64 y).wf = true) {n : Nat} :
    ∀ (fs : List Field) (o : Nat), tilesB P F fs o cs.length = true → (∀ f ∈ fs, ∃ x, DataW.trod enc P w base spare held n f.type ((cs.drop f.offset).take (P.cellsOf f.type)) = some x) → ∃ ys : List Int, cs.drop o = intsV ys ∧ ∀ y ∈ ys, (Lit.int .i64 y).wf = true
  | [], o, ht, _ => by
    have ho : o = cs.length := by simpa [tilesB] using ht
    exact ⟨[], by rw [ho, List.drop_length]; rfl, by simp⟩
  | f :: fs, o, ht, hx => by
    simp only [tilesB, Bool.and_eq_true, beq_iff_eq] at ht
    obtain ⟨⟨h1, h2⟩, h3⟩ := ht
    obtain ⟨x, hx0⟩ := hx f (by simp)
    rw [h1] at hx0
    obtain ⟨ys, hy, hw⟩ := hF _ _ _ _ h2 hx0
    obtain ⟨zs, hz, hw2⟩ := tiles_open hF fs _ h3 (fun g hg => hx g (by simp [hg]))
    refine ⟨ys ++ zs, ?_, fun y hy => ?_⟩
    · rw [← List.take_append_drop (P.cellsOf f.type) (cs.drop o), List.drop_drop, hy, hz]
      unfold intsV; rw [List.map_append]
    · rcases List.mem_append.1 hy with h | h
      · exact hw y h
      · exact hw2 y h
theorem flat_open : ∀ (d : Nat) (t : TypeId) (n : Nat) (cs : List Value) (x : DataW H × List MemPlace), flatB P d t = true → DataW.trod enc P w base spare held n t cs = some x → ∃ ys : List Int, cs = intsV ys ∧ ∀ y ∈ ys, (Lit.int .i64 y).wf = true
  | 0, _, _, _, _, h, _ => by cases h
  | d + 1, t, n, cs, x, h, hx => by
    unfold flatB at h
    split at h
    · rename_i hu
      obtain ⟨z, rfl, _, hw⟩ := DataW.trod_int hu hx
      exact ⟨[z], rfl, by simpa using hw⟩
    · rename_i fs hu
      obtain ⟨xs, m, _, _, hl, hlen, hf⟩ := DataW.trod_struct hu hx
      rw [← hl] at h
      obtain ⟨ys, hy, hw⟩ := tiles_open (n := m) (fun t n cs x => flat_open d t n cs x) fs.toList 0 h (fun f hfm => by
        obtain ⟨i, hi, rfl⟩ := List.mem_iff_getElem.1 hfm
        have := hf i fs.toList[i] (by rw [← Array.getElem?_toList, List.getElem?_eq_getElem hi])
        refine ⟨xs[i]'(by rw [hlen]; simpa using hi), ?_⟩
        rw [this, List.getElem?_eq_getElem])
      exact ⟨ys, by simpa using hy, hw⟩
    · cases h
theorem flat_len {d : Nat} {t : TypeId} {n : Nat} {cs : List Value} {x : DataW H × List MemPlace} (h : flatB P d t = true) (hx : DataW.trod enc P w base spare held n t cs = some x) : cs.length = P.cellsOf t := by
  cases d with
  | zero => cases h
  | succ d =>
    unfold flatB at h
    split at h
    · rename_i hu
      obtain ⟨z, rfl, _, hw⟩ := DataW.trod_int hu hx
      have h2 : P.cellsOf t = 1 := by simpa using h
      exact h2.symm
    · rename_i fs hu
      obtain ⟨xs, m, _, _, hl, _⟩ := DataW.trod_struct hu hx
      exact hl
    · cases h
/-- A struct of integers that came in. -/
theorem open_flat {r : Reach} {b0 : Nat} {t : TypeId} {fs : Array Field} {v : Value} {dd : DataW H} {p : List MemPlace} (d : Nat) (ht : P.underlying t = some (.struct fs)) (hfl : flatB P d t = true)
    (hval : Value.okWide P w r b0 t v) (h : DataW.Trod enc P w 0 spare held t v dd p) : ∃ ys : List Int, v = .agg (intsV ys).toArray ∧ ys.length = P.cellsOf t ∧ ∀ y ∈ ys, (Lit.int .i64 y).wf = true := by
  obtain ⟨n, hn⟩ := h
  unfold Value.okWide at hval
  rw [ht] at hval
  obtain ⟨cs, rfl, _, _⟩ := hval
  obtain ⟨ys, hy, hw⟩ := flat_open d t n _ _ hfl hn
  have hl := flat_len hfl hn
  have hc : cs.toList = intsV ys := hy
  refine ⟨ys, by rw [← hc], ?_, hw⟩
  have h2 : (intsV ys).length = P.cellsOf t := by rw [← hc]; exact hl
  simpa [intsV] using h2
end
/-- A row of structs of n integers each that came in. -/
def RowsOf (W : World) (n : Nat) (v : Value) (xs : List (List Int)) : Prop :=
  ∃ a cap, v = .slice a xs.length cap ∧ xs.length ≤ cap ∧ cap ≤ maxLen ∧ ∀ (i : Nat) (x : List Int), xs[i]? = some x → x.length = n ∧ ∃ g o, a = some ⟨g, o, none⟩ ∧ g < W.heap.size ∧ ∀ (j : Nat) (y : Int), x[j]? = some y → W.cell? ⟨g, o + i * n + j, none⟩ = some (.int .i64 y)
theorem RowsOf.below {W W' : World} {n : Nat} {v : Value} {xs : List (List Int)} (h : RowsOf W n v xs) (hb : Below W.heap.size W W') : RowsOf W' n v xs := by
  obtain ⟨a, cap, h1, h2, h3, h4⟩ := h
  refine ⟨a, cap, h1, h2, h3, fun i x hx => ?_⟩
  obtain ⟨h5, g, o, h6, h7, h8⟩ := h4 i x hx
  exact ⟨h5, g, o, h6, Nat.lt_of_lt_of_le h7 hb.size, fun j y hy => (hb.cell h7).trans (h8 j y hy)⟩
theorem open_rows {H : Type} {enc : TypeId × Value → H} {P : Program} {W : World} {spare : Nat → Bool} {held : Bool} {r : Reach} {b0 : Nat} {t e : TypeId} {v : Value} {dd : DataW H} {p : List MemPlace} (d : Nat) (ht : P.underlying t = some (.slice e)) (hfl : flatB P d e = true) (hpos : 0 < P.cellsOf e)
    (hval : Value.okWide P W r b0 t v) (h : DataW.Trod enc P W 0 spare held t v dd p) :
    ∃ xs, RowsOf W (P.cellsOf e) v xs ∧ ∀ x ∈ xs, ∀ y ∈ x, (Lit.int .i64 y).wf = true := by
  obtain ⟨n, hn⟩ := h
  have hv : v.cells.toList = [v] := by
    cases v <;> first | rfl | (simp [Value.okWide, Cell.okWide, Cell.ok, ht] at hval)
  rw [hv] at hn
  rcases open_slice ht hn with ⟨h1, h2⟩ | ⟨a, len, cap, m, k, D, Pl, h1, hb, hl, hm, hmm, hx, hall⟩
  · obtain rfl : v = .slice none 0 0 := by simpa using h1
    exact ⟨[], ⟨none, 0, rfl, Nat.le_refl _, by unfold maxLen; omega, fun i x h => by simp at h⟩, by simp⟩
  · obtain rfl : v = .slice (some a) len cap := by simpa using h1
    have hlm : len ≤ m := by rw [hmm]; split <;> omega
    have key : ∀ i, i < len → ∃ ys : List Int, ys.length = P.cellsOf e ∧ (∀ y ∈ ys, (Lit.int .i64 y).wf = true) ∧ W.cells? 0 (a.add (i * P.cellsOf e)) (P.cellsOf e) = some (intsV ys) := by
      intro i hi
      obtain ⟨cs, hc, hd⟩ := hall i (by omega)
      obtain ⟨ys, hy, hw⟩ := flat_open d e _ _ _ hfl hd
      have hll := flat_len hfl hd
      refine ⟨ys, ?_, hw, by rw [← hy]; exact hc⟩
      rw [hy] at hll
      simpa [intsV] using hll
    obtain ⟨f, hf⟩ : ∃ f : Nat → List Int, ∀ i, i < len → (f i).length = P.cellsOf e ∧ (∀ y ∈ f i, (Lit.int .i64 y).wf = true) ∧ W.cells? 0 (a.add (i * P.cellsOf e)) (P.cellsOf e) = some (intsV (f i)) := by
      refine ⟨fun i => if h : i < len then (key i h).choose else [], fun i hi => ?_⟩
      simp only [hi, dite_true]
      exact (key i hi).choose_spec
    refine ⟨(List.range len).map f, ⟨some a, cap, by simp, by simpa using hl, hm, fun i x hx => ?_⟩, fun x hx => ?_⟩
    · rw [List.getElem?_map] at hx
      have hi : i < len := by
        rcases Nat.lt_or_ge i len with h | h
        · exact h
        · rw [List.getElem?_eq_none (by simpa using h)] at hx; cases hx
      rw [List.getElem?_range hi] at hx
      obtain rfl : f i = x := by simpa using hx
      obtain ⟨h4, h5, h6⟩ := hf i hi
      obtain ⟨_, h7, h8⟩ := World.cells?_some h6
      have hcell : ∀ j y, (f i)[j]? = some y → W.cell? ((a.add (i * P.cellsOf e)).add j) = some (.int .i64 y) := by
        intro j y hy
        have hj : j < P.cellsOf e := by have := (List.getElem?_eq_some_iff.1 hy).1; omega
        rw [h8 j hj]
        unfold intsV; rw [List.getElem?_map, hy]; rfl
      obtain ⟨g, o, spot⟩ := a
      have hspot : spot = none := by
        obtain ⟨k4, k5, k6⟩ := hf 0 (by omega)
        obtain ⟨_, k7, k8⟩ := World.cells?_some k6
        have hk := k8 0 hpos
        have hk2 : (intsV (f 0))[0]? = some (.int .i64 ((f 0)[0]'(by omega))) := by unfold intsV; rw [List.getElem?_map, List.getElem?_eq_getElem (by omega)]; rfl
        rw [hk2] at hk
        have := World.cell?_spot hk
        simpa [Addr.add] using this
      subst hspot
      have h0 := hcell 0 _ (List.getElem?_eq_getElem (by omega))
      refine ⟨h4, g, o, rfl, ?_, fun j y hy => ?_⟩
      · have := cell_lt h0
        rwa [add_mid', add_mid'] at this
      · have := hcell j y hy
        rwa [add_mid', add_mid'] at this
    · obtain ⟨i, hi, rfl⟩ := List.mem_map.1 hx
      exact (hf i (List.mem_range.1 hi)).2.1
end Go.Proofs.YtbjlnlgknegbnaaGreatDoor
namespace Go.Proofs.YtbjlnlgknegbnaaGreatDoor
set_option linter.unusedVariables false
set_option linter.unusedSimpArgs false
open Go.RowKit Go.Shelf

theorem NL.at {W : World} {v : Value} {g : Nat} {R : List Nat} (h : NL W v g R) : ∀ j u, (ntC 0 R)[j]? = some u → W.cell? ⟨g, j, none⟩ = some u := by
  obtain ⟨cap, sp, rfl, h1⟩ := h
  intro j u hu
  rw [blk_cell h1, List.getElem?_toArray, List.getElem?_append_left (List.getElem?_eq_some_iff.1 hu).1]
  exact hu
set_option maxRecDepth 100000 in
theorem nclone_any {w : World} {g c : Nat} {R : List Nat} (v0 : Value) (h : NL w v0 g R) (hn : R.length ≤ 100) :
    Calls Tryz.prog 46 #[.slice (some ⟨g, 0, none⟩) R.length c] w fun e w' => ∃ v, e = .returned v ∧ w'.ownsRow w.heap.size 60 3 v R.length (ntC 0 R) ∧ Below w.heap.size w w' := by
  obtain ⟨i0, hi, hz⟩ := Option.map_eq_some_iff.1 Tryz.infoNotice
  simp only [Prod.mk.injEq] at hz
  obtain ⟨hz0, hz1, hz2⟩ := hz
  have HC := Lib.hid h.at
  have HG := Lib.hid h.lt
  have HN := Lib.hid hn
  clear h hn
  go_enter Tryz.func46, Tryz.ntmps46
  have hnil : ∀ w, (binOp .eql 44 (.slice (some ⟨g, 0, none⟩) R.length c) (.slice none 0 0)).run Tryz.prog w = .ok (.bool false) w := fun w => by kernel_rfl
  go_wp2_with (at_builtin; refine wpList_append_own _ rfl _ _ 44 rfl w.heap.size 60 i0 (.agg #[.int .i64 0, .int .i64 0, .int .i64 0]) 3 24 Tryz.underlying44 hi hz0 hz1 hz2 rfl (by decide) _ 0 [] rfl (World.ownsRow_lit w #[] 0 (Nat.le_refl _) (by unfold maxLen; omega) rfl) ⟨g, 0, none⟩ R.length c (ntC 0 R) rfl ?a1 ?a2 ?a3 ?a4 ?a5 ?a6 ?_)
  case a1 => rw [ntC_len]
  case a2 => intro j u hu; rw [add_mid', Nat.zero_add, World.cell?_alloc_old _ _ _ (Nat.ne_of_lt HG.out)]; exact HC.out j u hu
  case a3 => exact ntC_one R 0
  case a4 => unfold maxLen; have := HN.out; omega
  case a5 => have := HN.out; omega
  case a6 => simp
  intro v' w4 hown4 hg4 hv4
  go_wp2
  go_ret
  refine ⟨_, rfl, ?_, ((Below.refl _ w).alloc (Nat.le_refl _) _).grown hg4 (by simp) (fun j hj => by cases hj; exact Nat.le_refl _)⟩
  simpa using hown4
theorem tlist_any {w : World} {B g cp : Nat} {R : List Nat} (h : Tb w B g cp R) :
    Calls Tryz.prog 19 #[.pointer (some ⟨B, 0, none⟩)] w fun e w' => ∃ v, e = .returned v ∧ w'.ownsRow w.heap.size 60 3 v R.length (ntC 0 R) ∧ Below w.heap.size w w' := by
  have HL := Lib.hid (list_any h)
  have HC := Lib.hid (nclone_any (c := cp) _ h.list h.n.2)
  clear h
  go_enter Tryz.func19, Tryz.ntmps19
  go_wp2_with fail
  refine HL.out.mono ?_
  rintro e w1 ⟨rfl, rfl⟩
  go_wp2_with fail
  refine HC.out.mono ?_
  rintro e w2 ⟨v, rfl, ho, hB⟩
  go_wp2_with fail
  go_ret
  exact ⟨v, rfl, ho, hB⟩
/-- The cells of a list, told by its block. -/
def LC (W : World) (g : Nat) (R : List Nat) : Prop := ∀ i q, R[i]? = some q → W.cell? ⟨g, i * 3, none⟩ = some (.int .i64 (i : Int)) ∧ W.cell? ⟨g, i * 3 + 1, none⟩ = some (.int .i64 (tgN q : Nat)) ∧ W.cell? ⟨g, i * 3 + 2, none⟩ = some (.int .i64 (kdN q : Nat))
theorem LC.of_own {W : World} {base g n cap : Nat} {R : List Nat} (h : W.ownsRow base 60 3 (.slice (some ⟨g, 0, none⟩) n cap) n (ntC 0 R)) : LC W g R := by
  intro i q hq
  have hc := h.cells rfl
  obtain ⟨h0, h1, h2⟩ := ntC_get R 0 i q hq
  rw [Nat.zero_add] at h0
  have e0 := hc _ _ h0
  have e1 := hc _ _ h1
  have e2 := hc _ _ h2
  rw [add_mid', Nat.zero_add] at e0 e1 e2
  exact ⟨e0, e1, e2⟩
theorem LC.same {W X : World} {g : Nat} {R : List Nat} (h : LC W g R) (he : X.heap[g]? = W.heap[g]?) : LC X g R := by
  intro i q hq
  obtain ⟨h0, h1, h2⟩ := h i q hq
  unfold World.cell? at *
  rw [he]; exact ⟨h0, h1, h2⟩
/-- The captured list. -/
structure AllS (W : World) (Bs gg cap : Nat) (R : List Nat) : Prop where
  box : W.heap[Bs]? = some (.cells #[.slice (some ⟨gg, 0, none⟩) R.length cap] 44 (0, 0))
  cells : LC W gg R
  isC : ∃ cs t f, W.heap[gg]? = some (.cells cs t f)
theorem AllS.keep {W X : World} {Bs gg cap : Nat} {R : List Nat} (h : AllS W Bs gg cap R) (h1 : X.heap[Bs]? = W.heap[Bs]?) (h2 : X.heap[gg]? = W.heap[gg]?) : AllS X Bs gg cap R :=
  ⟨h1.trans h.box, h.cells.same h2, by obtain ⟨cs, t, f, hh⟩ := h.isC; exact ⟨cs, t, f, h2.trans hh⟩⟩
theorem AllS.lt {W : World} {Bs gg cap : Nat} {R : List Nat} (h : AllS W Bs gg cap R) : Bs < W.heap.size ∧ gg < W.heap.size := by
  obtain ⟨cs, t, f, hh⟩ := h.isC
  exact ⟨blk_lt h.box, blk_lt hh⟩
theorem AllS.below {W X : World} {Bs gg cap : Nat} {R : List Nat} (h : AllS W Bs gg cap R) (hb : Below W.heap.size W X) : AllS X Bs gg cap R := h.keep (hb.block _ h.lt.1) (hb.block _ h.lt.2)
def Keep2 (b c : Nat) (A B : World) : Prop := (∀ o, A.heap[b]? = some o → B.heap[b]? = some o) ∧ (∀ o, A.heap[c]? = some o → B.heap[c]? = some o)
theorem Keep2.trans {b c : Nat} {A B C : World} (h : Keep2 b c A B) (k : Keep2 b c B C) : Keep2 b c A C := ⟨fun o ho => k.1 o (h.1 o ho), fun o ho => k.2 o (h.2 o ho)⟩
theorem Keep2.put {b c : Nat} {w : World} (hb : b < w.heap.size) (hc : c < w.heap.size) (W : World) (l : Nat) (o o' : Obj) (hl : w.heap.size ≤ l) (h : W.heap[l]? = some o) (_ : o.isCells = false) (_ : o.isWalk = false) : Keep2 b c W (W.putObj l o') := by
  have h1 : l ≠ b := by omega
  have h2 : l ≠ c := by omega
  refine ⟨fun q hq => ?_, fun q hq => ?_⟩
  · simp only [World.putObj]; rw [Array.getElem?_setIfInBounds_ne h1]; exact hq
  · simp only [World.putObj]; rw [Array.getElem?_setIfInBounds_ne h2]; exact hq
theorem AllS.keep2 {W X : World} {Bs gg cap : Nat} {R : List Nat} (h : AllS W Bs gg cap R) (hk : Keep2 Bs gg W X) : AllS X Bs gg cap R := by
  obtain ⟨cs, t, f, hh⟩ := h.isC
  exact h.keep ((hk.1 _ h.box).trans h.box.symm) ((hk.2 _ hh).trans hh.symm)
theorem AllS.abide {W X : World} {Bs gg cap : Nat} {R : List Nat} (h : AllS W Bs gg cap R) {row : Option Nat} (hg : W.grownBy X row) (hr : ∀ r, row = some r → ∃ o : Obj, W.heap[r]? = some o ∧ o.isCells = false) : AllS X Bs gg cap R := by
  obtain ⟨cs, t, f, hh⟩ := h.isC
  have n1 : some Bs ≠ row := fun e => by obtain ⟨o, ho, hc⟩ := hr Bs e.symm; rw [h.box] at ho; cases ho; cases hc
  have n2 : some gg ≠ row := fun e => by obtain ⟨o, ho, hc⟩ := hr gg e.symm; rw [hh] at ho; cases ho; cases hc
  exact h.keep (hg.5 _ h.lt.1 n1) (hg.5 _ h.lt.2 n2)
theorem range_pre {k n : Nat} (h : k < n) : List.range k ++ [k] <+: List.range n := by
  rw [← List.range_succ]
  obtain ⟨d, rfl⟩ : ∃ d, n = k + 1 + d := ⟨n - (k + 1), by omega⟩
  rw [List.range_add]
  exact List.prefix_append _ _
def rkAt (R : List Nat) (i : Nat) : Nat := R.getD i 0
abbrev ntEnc (R : List Nat) (i : { i : Nat // i < R.length }) : Array Value := #[.agg #[.int .i64 (i.1 : Int), .int .i64 (tgN (rkAt R i.1) : Nat), .int .i64 (kdN (rkAt R i.1) : Nat)]]
end Go.Proofs.YtbjlnlgknegbnaaGreatDoor
namespace Go.Proofs.YtbjlnlgknegbnaaGreatDoor
set_option linter.unusedVariables false
set_option linter.unusedSimpArgs false
open Go.RowKit

/-- New's error. -/
def nwE (n s t : Int) : Int := if 1 ≤ n ∧ n ≤ 100 then if 0 ≤ s ∧ s < n then if 0 ≤ t ∧ t ≤ 1048576 then 0 else 50 else 30 else 1
set_option maxRecDepth 100000 in
theorem tnew_no (n s t : Int) (h : nwE n s t ≠ 0) (w : World) :
    Calls Tryz.prog 9 #[.int .i64 n, .int .i64 s, .int .i64 t] w fun e w' => e = .returned (.tuple #[.pointer none, .int .i64 (nwE n s t)]) ∧ Below w.heap.size w w' := by
  by_cases hn1 : n < 1
  · rw [show nwE n s t = 1 from if_neg (by omega)]
    clear h
    go_enter Tryz.func9, Tryz.ntmps9
    go_wp2_with fail
    go_ret2
    exact ⟨rfl, Below.refl _ _⟩
  by_cases hn2 : 100 < n
  · rw [show nwE n s t = 1 from if_neg (by omega)]
    clear h
    go_enter Tryz.func9, Tryz.ntmps9
    go_wp2_with fail
    go_ret2
    exact ⟨rfl, Below.refl _ _⟩
  by_cases hs1 : s < 0
  · rw [show nwE n s t = 30 from by unfold nwE; rw [if_pos (by omega), if_neg (by omega)]]
    clear h
    go_enter Tryz.func9, Tryz.ntmps9
    go_wp2_with fail
    go_ret2
    exact ⟨rfl, Below.refl _ _⟩
  by_cases hs2 : n ≤ s
  · rw [show nwE n s t = 30 from by unfold nwE; rw [if_pos (by omega), if_neg (by omega)]]
    clear h
    have a1 : 0 ≤ s := by omega
    have a2 : 1 ≤ n := by omega
    have a3 : n ≤ 100 := by omega
    clear hn1 hn2 hs1
    go_enter Tryz.func9, Tryz.ntmps9
    go_wp2_with fail
    go_ret2
    exact ⟨rfl, Below.refl _ _⟩
  have ht : ¬ (0 ≤ t ∧ t ≤ 1048576) := by
    intro ht; apply h
    unfold nwE
    rw [if_pos (by omega), if_pos (by omega), if_pos ht]
  rw [show nwE n s t = 50 from by unfold nwE; rw [if_pos (by omega), if_pos (by omega), if_neg ht]]
  have hv : vN n s t 1 = false := decide_eq_false (by omega)
  have HV := Lib.hid (fun w => valid_any n s t 1 w)
  rw [hv] at HV
  unfold nV at HV
  have a0 : 0 ≤ s := by omega
  have a1 : s < n := by omega
  have a2 : 1 ≤ n := by omega
  have a3 : n ≤ 100 := by omega
  clear h hv ht hn1 hn2 hs1 hs2
  have c0 := blk_cell (blk_new w (.cells #[.int .i64 s, .int .i64 t, .int .i64 1] 60)) 0
  have c1 := blk_cell (blk_new w (.cells #[.int .i64 s, .int .i64 t, .int .i64 1] 60)) 1
  have c2 := blk_cell (blk_new w (.cells #[.int .i64 s, .int .i64 t, .int .i64 1] 60)) 2
  go_enter Tryz.func9, Tryz.ntmps9
  go_wp2_with (go_at_call 31; refine (HV.out _).mono ?_; rintro e w1 ⟨rfl, hB1⟩)
  go_ret2
  exact ⟨rfl, below_then ((Below.refl _ _).alloc (Nat.le_refl _) _) hB1⟩
/-- At's answer. -/
def atV (R : List Nat) (id : Int) : Value := if 0 ≤ id ∧ id < (R.length : Int) then .tuple #[nV id (tgN (R.getD id.toNat 0) : Nat) (kdN (R.getD id.toNat 0) : Nat), .int .i64 0] else .tuple #[nV 0 0 0, .int .i64 30]
set_option maxRecDepth 100000 in
theorem at_nil (id : Int) (w : World) :
    Calls Tryz.prog 80 #[.pointer none, .int .i64 id] w fun e w' => e = .returned (.tuple #[nV 0 0 0, .int .i64 30]) ∧ Below w.heap.size w w' := by
  have HZ : Hid (∀ W : World, True → Calls Tryz.prog 34 #[.pointer none] W fun e w' => e = .returned (.int .i64 0) ∧ w' = W) := Lib.hid fun W _ => size_nil W
  by_cases h : id < 0
  · skip
    have b0 := blk_new w (.cells #[.int .i64 0, .int .i64 0, .int .i64 0] 60)
    have k0 := blk_cell b0 0
    have k1 := blk_cell b0 1
    have k2 := blk_cell b0 2
    have f0 := blk_free b0 0
    have f1 := blk_free b0 1
    have f2 := blk_free b0 2
    unfold nV
    go_enter Tryz.func80, Tryz.ntmps80
    go_wp2_with (go_at_call 34; refine (HZ.out _ trivial).mono ?_; rintro e w1 ⟨rfl, rfl⟩)
    refine bodyPost_ret (v := .tuple #[.agg #[.int .i64 0, .int .i64 0, .int .i64 0], .int .i64 30]) ?_ rfl ⟨rfl, (Below.refl _ _).alloc (Nat.le_refl _) _⟩
    simp [results, Tryz.results80, go_sem, k0, k1, k2, f0, f1, f2]
  · have h1 : 0 ≤ id := by omega
    clear h
    have b0 := blk_new w (.cells #[.int .i64 0, .int .i64 0, .int .i64 0] 60)
    have k0 := blk_cell b0 0
    have k1 := blk_cell b0 1
    have k2 := blk_cell b0 2
    have f0 := blk_free b0 0
    have f1 := blk_free b0 1
    have f2 := blk_free b0 2
    unfold nV
    go_enter Tryz.func80, Tryz.ntmps80
    go_wp2_with (go_at_call 34; refine (HZ.out _ trivial).mono ?_; rintro e w1 ⟨rfl, rfl⟩)
    refine bodyPost_ret (v := .tuple #[.agg #[.int .i64 0, .int .i64 0, .int .i64 0], .int .i64 30]) ?_ rfl ⟨rfl, (Below.refl _ _).alloc (Nat.le_refl _) _⟩
    simp [results, Tryz.results80, go_sem, k0, k1, k2, f0, f1, f2]
set_option maxRecDepth 100000 in
theorem at_any {w : World} {B g cp : Nat} {R : List Nat} (h : Tb w B g cp R) (id : Int) :
    Calls Tryz.prog 80 #[.pointer (some ⟨B, 0, none⟩), .int .i64 id] w fun e w' => e = .returned (atV R id) ∧ Below w.heap.size w w' := by
  have HZ : Hid (∀ W, Tb W B g cp R → Calls Tryz.prog 34 #[.pointer (some ⟨B, 0, none⟩)] W fun e w' => e = .returned (.int .i64 (R.length : Int)) ∧ w' = W) := Lib.hid fun W hW => size_any hW
  have HT := Lib.hid (h.below ((Below.refl _ _).alloc (Nat.le_refl _) (.cells #[.int .i64 0, .int .i64 0, .int .i64 0] 60)))
  by_cases hlo : id < 0
  · rw [show atV R id = .tuple #[nV 0 0 0, .int .i64 30] from if_neg (by omega)]
    clear h
    have b0 := blk_new w (.cells #[.int .i64 0, .int .i64 0, .int .i64 0] 60)
    have k0 := blk_cell b0 0
    have k1 := blk_cell b0 1
    have k2 := blk_cell b0 2
    have f0 := blk_free b0 0
    have f1 := blk_free b0 1
    have f2 := blk_free b0 2
    unfold nV
    go_enter Tryz.func80, Tryz.ntmps80
    go_wp2_with (go_at_call 34; refine (HZ.out _ HT.out).mono ?_; rintro e w1 ⟨rfl, rfl⟩)
    refine bodyPost_ret (v := .tuple #[.agg #[.int .i64 0, .int .i64 0, .int .i64 0], .int .i64 30]) ?_ rfl ⟨rfl, (Below.refl _ _).alloc (Nat.le_refl _) _⟩
    simp [results, Tryz.results80, go_sem, k0, k1, k2, f0, f1, f2]
  by_cases hhi : (R.length : Int) ≤ id
  · rw [show atV R id = .tuple #[nV 0 0 0, .int .i64 30] from if_neg (by omega)]
    have h1 : 0 ≤ id := by omega
    clear h hlo
    have b0 := blk_new w (.cells #[.int .i64 0, .int .i64 0, .int .i64 0] 60)
    have k0 := blk_cell b0 0
    have k1 := blk_cell b0 1
    have k2 := blk_cell b0 2
    have f0 := blk_free b0 0
    have f1 := blk_free b0 1
    have f2 := blk_free b0 2
    unfold nV
    go_enter Tryz.func80, Tryz.ntmps80
    go_wp2_with (go_at_call 34; refine (HZ.out _ HT.out).mono ?_; rintro e w1 ⟨rfl, rfl⟩)
    refine bodyPost_ret (v := .tuple #[.agg #[.int .i64 0, .int .i64 0, .int .i64 0], .int .i64 30]) ?_ rfl ⟨rfl, (Below.refl _ _).alloc (Nat.le_refl _) _⟩
    simp [results, Tryz.results80, go_sem, k0, k1, k2, f0, f1, f2]
  obtain ⟨i, rfl⟩ : ∃ i : Nat, id = (i : Int) := ⟨id.toNat, by omega⟩
  have hi : i < R.length := by omega
  obtain ⟨q, hq, hqd, hql⟩ := h.get hi
  have hv : atV R (i : Int) = .tuple #[nV (i : Int) (tgN q : Nat) (kdN q : Nat), .int .i64 0] := by unfold atV; rw [if_pos (by omega), Int.toNat_natCast, hqd]
  rw [hv]
  have i1 : (i : Int) < (R.length : Int) := by omega
  have i2 : (0 : Int) ≤ (i : Int) := by omega
  have i3 : (i : Int).toNat = i := Int.toNat_natCast i
  obtain ⟨⟨g0, g1, g2⟩, _⟩ := HT.out.list.cells hq
  have c0 := blk_cell HT.out.cell 0
  have b0 := blk_new w (.cells #[.int .i64 0, .int .i64 0, .int .i64 0] 60)
  have k0 := blk_cell b0 0
  have k1 := blk_cell b0 1
  have k2 := blk_cell b0 2
  have f0 := blk_free b0 0
  have f1 := blk_free b0 1
  have f2 := blk_free b0 2
  have hb : Below w.heap.size w (w.alloc (.cells #[.int .i64 0, .int .i64 0, .int .i64 0] 60)) := (Below.refl _ _).alloc (Nat.le_refl _) _
  unfold nV
  clear h hv hq hqd hql hlo hhi hi b0
  go_enter Tryz.func80, Tryz.ntmps80
  go_upto_region 1 with fail
  generalize World.alloc w _ = W at *
  go_wp2_with (go_at_call 34; refine (HZ.out _ HT.out).mono ?_; rintro e w1 ⟨rfl, rfl⟩)
  refine bodyPost_ret (v := .tuple #[.agg #[.int .i64 (i : Int), .int .i64 (tgN q : Nat), .int .i64 (kdN q : Nat)], .int .i64 0]) ?_ rfl ⟨rfl, ((hb.setCell (Nat.le_refl _) _).setCell (Nat.le_refl _) _).setCell (Nat.le_refl _) _⟩
  simp [results, Tryz.results80, go_sem, k0, k1, k2]
end Go.Proofs.YtbjlnlgknegbnaaGreatDoor
namespace Go.Proofs.YtbjlnlgknegbnaaGreatDoor
set_option linter.unusedVariables false
set_option linter.unusedSimpArgs false
open Go.RowKit

/-- The document's list of ranks in the block g. -/
structure Nb (W : World) (g cp : Nat) (R : List Nat) : Prop where
  list : NL W (.slice (some ⟨g, 0, none⟩) R.length cp) g R
  le : ∀ x ∈ R, x ≤ 2097153
  n : 1 ≤ R.length ∧ R.length ≤ 100
theorem Nb.below {W X : World} {g cp : Nat} {R : List Nat} (h : Nb W g cp R) (hb : Below W.heap.size W X) : Nb X g cp R := ⟨h.list.below hb, h.le, h.n⟩
theorem Nb.other {W X : World} {g cp k : Nat} {R : List Nat} (h : Nb W g cp R) (hg : W.grownBy X (some k)) (h2 : g ≠ k) : Nb X g cp R := ⟨h.list.other hg h2, h.le, h.n⟩
theorem Nb.get {W : World} {g cp : Nat} {R : List Nat} (h : Nb W g cp R) {i : Nat} (hi : i < R.length) : ∃ q, R[i]? = some q ∧ R.getD i 0 = q ∧ q ≤ 2097153 :=
  ⟨R[i], List.getElem?_eq_getElem hi, by simp [List.getD, List.getElem?_eq_getElem hi], h.le _ (List.getElem_mem hi)⟩
theorem Nb.set {W : World} {g cp : Nat} {R : List Nat} (h : Nb W g cp R) {i r : Nat} (hi : i < R.length) (hr : r ≤ 2097153) :
    Nb (((W.setCell ⟨g, i * 3, none⟩ (.int .i64 (i : Int))).setCell ⟨g, i * 3 + 1, none⟩ (.int .i64 (tgN r : Nat))).setCell ⟨g, i * 3 + 2, none⟩ (.int .i64 (kdN r : Nat))) g cp (R.set i r) ∧
    W.grownBy (((W.setCell ⟨g, i * 3, none⟩ (.int .i64 (i : Int))).setCell ⟨g, i * 3 + 1, none⟩ (.int .i64 (tgN r : Nat))).setCell ⟨g, i * 3 + 2, none⟩ (.int .i64 (kdN r : Nat))) (some g) := by
  refine ⟨⟨by rw [List.length_set]; exact h.list.set hi r, fun x hx => ?_, by rw [List.length_set]; exact h.n⟩, ?_⟩
  · rcases List.mem_or_eq_of_mem_set hx with h' | rfl
    · exact h.le x h'
    · exact hr
  · have hl := h.list.lt
    exact but_set (but_set (but_set (but_refl W _) hl _ _) hl _ _) hl _ _
/-- Out of what is owned. -/
theorem nl_own {W : World} {base : Nat} {v : Value} {R : List Nat} (h : W.ownsRow base 60 3 v R.length (ntC 0 R)) (hn : 1 ≤ R.length) : ∃ g cap, v = .slice (some ⟨g, 0, none⟩) R.length cap ∧ base ≤ g ∧ NL W (.slice (some ⟨g, 0, none⟩) R.length cap) g R := by
  rcases h.2 with ⟨_, h0⟩ | ⟨g, cap, cur, rfl, hb, hh, hnc, _, hsz, htk⟩
  · omega
  · refine ⟨g, cap, rfl, hb, cap, cur.toList.drop (R.length * 3), rfl, ?_⟩
    rw [hh]
    congr 2
    apply Array.ext'
    show cur.toList = ntC 0 R ++ cur.toList.drop (R.length * 3)
    rw [← htk, List.take_append_drop]
set_option maxRecDepth 100000 in
theorem refNew_no (n s t : Int) (h : nwE n s t ≠ 0) (w : World) :
    Calls Tryz.prog 10 #[.int .i64 n, .int .i64 s, .int .i64 t] w fun e w' => e = .returned (.tuple #[.agg #[.slice none 0 0], .int .i64 (nwE n s t)]) ∧ Below w.heap.size w w' := by
  have hb := (Below.refl w.heap.size w).alloc (Nat.le_refl _) (.cells #[.slice none 0 0] 46)
  have b0 := blk_new w (.cells #[.slice none 0 0] 46)
  have k0 := blk_cell b0 0
  have f0 := blk_free b0 0
  clear b0
  by_cases hn1 : n < 1
  · rw [show nwE n s t = 1 from if_neg (by omega)]
    clear h
    go_enter Tryz.func10, Tryz.ntmps10
    go_wp2_with fail
    refine bodyPost_ret (v := .tuple #[.agg #[.slice none 0 0], .int .i64 1]) ?_ rfl ⟨rfl, by first | exact hb | exact hb.setCell (Nat.le_refl _) _⟩
    simp [results, Tryz.results10, go_sem, k0]
  by_cases hn2 : 100 < n
  · rw [show nwE n s t = 1 from if_neg (by omega)]
    clear h
    go_enter Tryz.func10, Tryz.ntmps10
    go_wp2_with fail
    refine bodyPost_ret (v := .tuple #[.agg #[.slice none 0 0], .int .i64 1]) ?_ rfl ⟨rfl, by first | exact hb | exact hb.setCell (Nat.le_refl _) _⟩
    simp [results, Tryz.results10, go_sem, k0]
  by_cases hs1 : s < 0
  · rw [show nwE n s t = 30 from by unfold nwE; rw [if_pos (by omega), if_neg (by omega)]]
    have d1 : 1 ≤ n := by omega
    have d2 : n ≤ 100 := by omega
    clear hn1 hn2
    clear h
    go_enter Tryz.func10, Tryz.ntmps10
    go_wp2_with fail
    refine bodyPost_ret (v := .tuple #[.agg #[.slice none 0 0], .int .i64 30]) ?_ rfl ⟨rfl, by first | exact hb | exact hb.setCell (Nat.le_refl _) _⟩
    simp [results, Tryz.results10, go_sem, k0]
  by_cases hs2 : n ≤ s
  · rw [show nwE n s t = 30 from by unfold nwE; rw [if_pos (by omega), if_neg (by omega)]]
    have a1 : 0 ≤ s := by omega
    have a2 : 1 ≤ n := by omega
    have a3 : n ≤ 100 := by omega
    clear hn1 hn2 hs1
    clear h
    go_enter Tryz.func10, Tryz.ntmps10
    go_wp2_with fail
    refine bodyPost_ret (v := .tuple #[.agg #[.slice none 0 0], .int .i64 30]) ?_ rfl ⟨rfl, by first | exact hb | exact hb.setCell (Nat.le_refl _) _⟩
    simp [results, Tryz.results10, go_sem, k0]
  have ht : ¬ (0 ≤ t ∧ t ≤ 1048576) := by
    intro ht; apply h
    unfold nwE
    rw [if_pos (by omega), if_pos (by omega), if_pos ht]
  rw [show nwE n s t = 50 from by unfold nwE; rw [if_pos (by omega), if_pos (by omega), if_neg ht]]
  have a0 : 0 ≤ s := by omega
  have a1 : s < n := by omega
  have a2 : 1 ≤ n := by omega
  have a3 : n ≤ 100 := by omega
  by_cases ht1 : t < 0
  · clear hn1 hn2 hs1 hs2 ht
    clear h
    go_enter Tryz.func10, Tryz.ntmps10
    go_wp2_with fail
    refine bodyPost_ret (v := .tuple #[.agg #[.slice none 0 0], .int .i64 50]) ?_ rfl ⟨rfl, by first | exact hb | exact hb.setCell (Nat.le_refl _) _⟩
    simp [results, Tryz.results10, go_sem, k0]
  · have ht2 : 1048576 < t := by omega
    clear hn1 hn2 hs1 hs2 ht ht1
    clear h
    go_enter Tryz.func10, Tryz.ntmps10
    go_wp2_with fail
    refine bodyPost_ret (v := .tuple #[.agg #[.slice none 0 0], .int .i64 50]) ?_ rfl ⟨rfl, by first | exact hb | exact hb.setCell (Nat.le_refl _) _⟩
    simp [results, Tryz.results10, go_sem, k0]
theorem own_ge {W : World} {base : Nat} {e : TypeId} {size : Nat} {v : Value} {n : Nat} {xs : List Value} (h : W.ownsRow base e size v n xs) {j : Nat} (hj : v.ownBlock = some j) : base ≤ j := by
  rcases h.2 with ⟨rfl, _⟩ | ⟨g, cap, cur, rfl, hb, _⟩
  · simp [Value.ownBlock] at hj
  · have : g = j := by simpa [Value.ownBlock] using hj
    omega
theorem ntC_tag : ∀ (R : List Nat) (i k r q : Nat), R[k]? = some r → kdN q = kdN r → (ntC i R).set (k * 3 + 1) (.int .i64 (tgN q : Nat)) = ntC i (R.set k q)
  | [], _, _, _, _, h, _ => by simp at h
  | r' :: R, i, 0, r, q, h, hk => by
    obtain rfl : r' = r := by simpa using h
    simp only [ntC, List.set_cons_zero, Nat.zero_mul, Nat.zero_add, List.set_cons_succ, hk]
  | r' :: R, i, k + 1, r, q, h, hk => by
    have := ntC_tag R (i + 1) k r q (by simpa using h) hk
    have e : (k + 1) * 3 + 1 = k * 3 + 1 + 1 + 1 + 1 := by omega
    rw [e]
    simp only [ntC, List.set_cons_succ] at this ⊢
    rw [← this]
theorem ntC_snoc (k : Nat) : ntC 0 (List.replicate k 0) ++ [.int .i64 (k : Int), .int .i64 0, .int .i64 1] = ntC 0 (List.replicate (k + 1) 0) := by
  rw [List.replicate_succ', ntC_app, List.length_replicate, Nat.zero_add]; rfl
theorem cells3 (W : World) (a b c : Value) (t : TypeId) : ∀ j u, [a, b, c][j]? = some u → (W.alloc (.cells #[a, b, c] t)).cell? ((⟨W.heap.size, 0, none⟩ : Addr).add j) = some u := by
  intro j u hu
  rw [add_mid', Nat.zero_add, blk_cell (blk_new W _)]
  rw [← hu]; simp
set_option maxRecDepth 100000 in
set_option maxHeartbeats 1000000 in
theorem refNew_yes (n s t : Nat) (hn : 1 ≤ n ∧ n ≤ 100) (hs : s < n) (ht : t ≤ 1048576) (w : World) :
    Calls Tryz.prog 10 #[.int .i64 (n : Int), .int .i64 (s : Int), .int .i64 (t : Int)] w fun e w' => ∃ g cp, e = .returned (.tuple #[.agg #[.slice (some ⟨g, 0, none⟩) n cp], .int .i64 0]) ∧ Nb w' g cp (bk0 n s t) ∧ w.heap.size ≤ g ∧ Below w.heap.size w w' := by
  obtain ⟨i0, hi, hz⟩ := Option.map_eq_some_iff.1 Tryz.infoNotice
  simp only [Prod.mk.injEq] at hz
  obtain ⟨hz0, hz1, hz2⟩ := hz
  have HF := Lib.hid refFresh_any
  unfold nV at HF
  have HN := Lib.hid hn
  have HS := Lib.hid hs
  have HT := Lib.hid ht
  have a1 : (1 : Int) ≤ (n : Int) := by omega
  have a2 : (n : Int) ≤ 100 := by omega
  have a3 : (0 : Int) ≤ (s : Int) := by omega
  have a4 : (s : Int) < (n : Int) := by omega
  have a6 : (0 : Int) ≤ (t : Int) := by omega
  obtain ⟨T, hTe⟩ : ∃ T : Int, (t : Int) = T := ⟨_, rfl⟩
  have a7 : T ≤ 1048576 := by omega
  rw [hTe] at a6 ⊢
  have HTE := Lib.hid hTe
  have hb0 := (Below.refl w.heap.size w).alloc (Nat.le_refl _) (.cells #[.slice none 0 0] 46)
  have r0 := blk_new w (.cells #[.slice none 0 0] 46)
  clear hn hs ht hTe
  go_enter Tryz.func10, Tryz.ntmps10
  go_wp2_with fail
  generalize World.alloc w _ = W0 at *
  go_loopw [8, 9] (fun lv iv wr => ∃ k : Nat, iv = .int .i64 k ∧ k ≤ n ∧ wr.ownsRow (w.heap.size + 1) 60 3 lv k (ntC 0 (List.replicate k 0)) ∧ wr.heap[w.heap.size]? = some (.cells #[.slice none 0 0] 46 (0, 0)) ∧ Below w.heap.size w wr) (fun _ iv _ => n - (intOf iv).toNat)
  case atStart => exact ⟨0, rfl, by omega, World.ownsRow_nil _ _ _ _, r0, hb0⟩
  case round =>
    obtain ⟨k, rfl, hk, hown, hr, hb⟩ := hrel
    clear r0 hb0
    by_cases hlt : k < n
    · have i1 : (k : Int) < (n : Int) := by omega
      have HO := Lib.hid hown
      have HR := Lib.hid hr
      have HB := Lib.hid hb
      have HK := Lib.hid hlt
      clear hown hr hb hlt hk
      go_wp2_with fail
      refine (HF.out _ _).mono ?_
      rintro e w1 ⟨rfl, hB1⟩
      have HO1 := Lib.hid (ownsRow_below HO.out hB1)
      have HR1 := Lib.hid (blk_below' hB1 HR.out)
      have HB1 := Lib.hid (below_then HB.out hB1)
      clear HO HR HB hB1
      go_wp2_with (at_builtin; refine wpList_append_own _ rfl _ _ 44 rfl (w.heap.size + 1) 60 i0 (.agg #[.int .i64 0, .int .i64 0, .int .i64 0]) 3 24 Tryz.underlying44 hi hz0 hz1 hz2 rfl (by decide) _ _ _ rfl (HO1.out.alloc _) ⟨w1.heap.size, 0, none⟩ 1 1 [.int .i64 (k : Int), .int .i64 0, .int .i64 1] rfl rfl ?a2 ?a3 ?a4 ?a5 ?a6 ?_)
      case a2 => exact cells3 w1 _ _ _ _
      case a3 => intro u hu; simp only [List.mem_cons, List.not_mem_nil, or_false] at hu; rcases hu with rfl | rfl | rfl <;> rfl
      case a4 => unfold maxLen; have := HN.out; have := HK.out; omega
      case a5 => have := HN.out; have := HK.out; omega
      case a6 => have := blk_lt HR1.out; simp; omega
      intro v' w4 hown4 hg4 hv4
      have hown5 : w4.ownsRow (w.heap.size + 1) 60 3 v' (k + 1) (ntC 0 (List.replicate (k + 1) 0)) := by rw [← ntC_snoc]; exact hown4
      have HO4 := Lib.hid hown5
      have HR4 : Hid (w4.heap[w.heap.size]? = some (.cells #[.slice none 0 0] 46 (0, 0))) := by
        refine Lib.hid (blk_grown hg4 (blk_old HR1.out _) fun e => ?_)
        have := own_ge HO1.out e.symm
        omega
      have HB4 := Lib.hid ((HB1.out.alloc HB1.out.size (.cells #[.int .i64 (k : Int), .int .i64 0, .int .i64 1] 60)).grown hg4 (by have := HB1.out.size; simp; omega) (fun j hj => by have := own_ge HO1.out hj; omega))
      clear HO1 HR1 HB1 hown4 hown5 hg4 hv4
      go_wp2_with fail
      go_roundw
      case rel => exact ⟨k + 1, by go_num, HK.out, HO4.out, HR4.out, HB4.out⟩
      case measure => have := HK.out; simp [intOf]; omega
    · obtain rfl : k = n := by omega
      have i1 : ¬ (k : Int) < (k : Int) := by omega
      obtain ⟨g, cp, rfl, hg1, hNL⟩ := nl_own (R := List.replicate k 0) (by rw [List.length_replicate]; exact hown) (by rw [List.length_replicate]; exact HN.out.1)
      rw [List.length_replicate] at hNL ⊢
      obtain ⟨cp', sp, he, hblk⟩ := hNL
      rw [List.length_replicate] at he
      injection he with e1 e2 e3
      subst e3
      obtain ⟨⟨g0, g1, g2⟩, ⟨f0, f1, f2⟩⟩ := NL.cells (R := List.replicate k 0) (v := .slice (some ⟨g, 0, none⟩) k cp) ⟨cp, sp, by rw [List.length_replicate], hblk⟩ (k := s) (r := 0) (by simp [HS.out])
      have i3 : (s : Int).toNat = s := Int.toNat_natCast s
      have HBK := Lib.hid hblk
      have HR := Lib.hid hr
      have HB := Lib.hid hb
      have HG := Lib.hid hg1
      have hr0 := blk_set hr ⟨g, s * 3 + 1, none⟩ (.int .i64 T) (by simp; omega)
      have fr0 := blk_free hr0 0
      have cr0 := blk_cell hr0 0
      clear hown hr hb hblk hg1 hlt hk hr0
      go_wp2_with fail
      have hfin : Nb (((wr.setCell ⟨g, s * 3 + 1, none⟩ (.int .i64 T)).setCell ⟨w.heap.size, 0, none⟩ (.slice (some ⟨g, 0, none⟩) k cp))) g cp (bk0 k s t) := by
        refine ⟨⟨cp, sp, by rw [bk0_len], ?_⟩, fun x hx => ?_, by rw [bk0_len]; exact HN.out⟩
        · have h1 := blk_store HBK.out (s * 3 + 1) (.int .i64 T)
          have h2 := blk_set h1 ⟨w.heap.size, 0, none⟩ (.slice (some ⟨g, 0, none⟩) k cp) (by have := HG.out; simp; omega)
          rw [h2]
          congr 2
          have hl := ntC_len (List.replicate k 0) 0
          rw [List.length_replicate] at hl
          simp only [List.setIfInBounds_toArray]
          rw [List.set_append_left _ _ (by have := HS.out; omega)]
          congr 2
          have h3 := ntC_tag (List.replicate k 0) 0 s 0 (2 * t) (by simp [HS.out]) (by unfold kdN; omega)
          rw [show tgN (2 * t) = t from by unfold tgN; omega, HTE.out] at h3
          exact h3
        · unfold bk0 at hx
          rcases List.mem_or_eq_of_mem_set hx with h' | rfl
          · rw [(List.mem_replicate.1 h').2]; omega
          · have := HT.out; omega
      refine bodyPost_ret (v := .tuple #[.agg #[.slice (some ⟨g, 0, none⟩) k cp], .int .i64 0]) ?_ rfl ⟨g, cp, rfl, hfin, by have := HG.out; omega, (HB.out.setCell (by have := HG.out; simp; omega) _).setCell (Nat.le_refl _) _⟩
      simp [results, Tryz.results10, go_sem, cr0]
/-- A copy of a book of the document's. -/
theorem refCopy_any {w : World} {g cp : Nat} {R : List Nat} (h : Nb w g cp R) :
    Calls Tryz.prog 38 #[.agg #[.slice (some ⟨g, 0, none⟩) R.length cp]] w fun e w' => ∃ g' cp', e = .returned (.agg #[.slice (some ⟨g', 0, none⟩) R.length cp']) ∧ Nb w' g' cp' R ∧ w.heap.size ≤ g' ∧ Below w.heap.size w w' := by
  obtain ⟨i0, hi, hz⟩ := Option.map_eq_some_iff.1 Tryz.infoNotice
  simp only [Prod.mk.injEq] at hz
  obtain ⟨hz0, hz1, hz2⟩ := hz
  have HC := Lib.hid h.list.at
  have HG := Lib.hid h.list.lt
  have HN := Lib.hid h.n
  have HLE := Lib.hid h.le
  have hb := ((Below.refl w.heap.size w).alloc (Nat.le_refl _) (.cells #[.slice (some ⟨g, 0, none⟩) R.length cp] 46)).alloc (by simp) (.cells #[.slice none 0 0] 46)
  have hx := blk_old (blk_new w (.cells #[.slice (some ⟨g, 0, none⟩) R.length cp] 46)) (.cells #[.slice none 0 0] 46)
  have hr := b1 w (.cells #[.slice (some ⟨g, 0, none⟩) R.length cp] 46) (.cells #[.slice none 0 0] 46)
  clear h
  go_enter Tryz.func38, Tryz.ntmps38
  go_upto_region 1 with fail
  generalize World.alloc (World.alloc w _) _ = W at *
  have x0 := blk_cell hx 0
  have HB := Lib.hid hb
  have HR := Lib.hid hr
  clear hb hr hx
  go_wp2_with (at_builtin; refine wpList_append_own _ rfl _ _ 44 rfl (w.heap.size + 2) 60 i0 (.agg #[.int .i64 0, .int .i64 0, .int .i64 0]) 3 24 Tryz.underlying44 hi hz0 hz1 hz2 rfl (by decide) _ 0 [] rfl (World.ownsRow_nil _ _ _ _) ⟨g, 0, none⟩ R.length cp (ntC 0 R) rfl ?a1 ?a2 ?a3 ?a4 ?a5 ?a6 ?_)
  case a1 => rw [ntC_len]
  case a2 => intro j u hu; rw [add_mid', Nat.zero_add]; exact (HB.out.cell HG.out).trans (HC.out j u hu)
  case a3 => exact ntC_one R 0
  case a4 => unfold maxLen; have := HN.out; omega
  case a5 => have := HN.out; omega
  case a6 => have := blk_lt HR.out; omega
  intro v' w4 hown4 hg4 hv4
  have hown5 : w4.ownsRow (w.heap.size + 2) 60 3 v' R.length (ntC 0 R) := by simpa using hown4
  obtain ⟨g', cp', rfl, hge, hNL⟩ := nl_own hown5 HN.out.1
  have hr4 := blk_grown hg4 HR.out (by simp [Value.ownBlock])
  have HB4 := HB.out.grown hg4 HB.out.size (fun j hj => by simp [Value.ownBlock] at hj)
  have fr0 := blk_free hr4 0
  have cr0 := blk_cell hr4 0
  have HNL := Lib.hid hNL
  clear hown4 hown5 hg4 hv4 hNL hr4
  go_wp2_with fail
  have hfin : Nb (w4.setCell ⟨w.heap.size + 1, 0, none⟩ (.slice (some ⟨g', 0, none⟩) R.length cp')) g' cp' R := by
    obtain ⟨c, sp, he, hblk⟩ := HNL.out
    exact ⟨⟨c, sp, he, blk_set hblk _ _ (by simp; omega)⟩, HLE.out, HN.out⟩
  refine bodyPost_ret (v := .agg #[.slice (some ⟨g', 0, none⟩) R.length cp']) ?_ rfl ⟨g', cp', rfl, hfin, by omega, HB4.setCell (Nat.le_succ _) _⟩
  simp [results, Tryz.results38, go_sem, cr0]
end Go.Proofs.YtbjlnlgknegbnaaGreatDoor
namespace Go.Proofs.YtbjlnlgknegbnaaGreatDoor
set_option linter.unusedVariables false
set_option linter.unusedSimpArgs false
open Go.RowKit

theorem on_eq (b : Nat) (d : Dk) (w : World) (h : DkAt w b d) : Calls Tryz.prog 82 #[.pointer (some ⟨b, 0, none⟩)] w fun e w' => e = .returned (.bool (!d.off)) ∧ w' = w := by
  obtain ⟨c0, c1, c2, c3⟩ := h.cells
  go_enter Tryz.func82, Tryz.ntmps82
  go_wp2_with fail
  go_ret
  exact ⟨rfl, rfl⟩
end Go.Proofs.YtbjlnlgknegbnaaGreatDoor
namespace Go.Proofs.YtbjlnlgknegbnaaGreatDoor
set_option linter.unusedVariables false
set_option linter.unusedSimpArgs false
open Go.RowKit

/-- The disk behind n saves that were done. -/
structure TnS (d : Dk) (n : Nat) : Prop where
  lt : ∀ c ∈ d.bs, c < 256
  on : d.off = false
  plain : d.fused = false
  fz : d.fuse = 0
  wr : d.writes = 2 * n
  st : ∃ st, SlSt d.bs st ∧ stSeq st = n ∧ stTo st = n % 2
theorem tnS_step {d : Dk} {n : Nat} {x y z : Int} (h : TnS d n) (hb : d.bs.length = 256) (hm : mayR x y z) (hn : n ≤ 40) :
    (saveW d x y z).2 = 0 ∧ TnS (saveW d x y z).1 (n + 1) ∧ loadA (saveW d x y z).1 = .tuple #[recV x y z, .int .i64 ((n + 1 : Nat) : Int), .int .i64 0] ∧
      ∀ j, j < 64 * (n % 2) ∨ 64 * (n % 2) + 64 ≤ j → (saveW d x y z).1.bs[j]? = d.bs[j]? := by
  obtain ⟨h1, h2, h3, h4, h5, st, h6, h7, h8⟩ := h
  rcases save_law h6 hb h2 hm (by omega) with ⟨h0, hs⟩ | ⟨_, hf⟩
  · have hl := loadA_some hs.slots hs.on
    obtain ⟨m1, m2, m3, m4, m5, m6⟩ := hm
    refine ⟨h0, ⟨saveW_lt h1 x y z, hs.on, hs.fused.trans h3, (hs.un h3).trans h4, by rw [hs.writes, h5]; omega, some (⟨x.toNat, y.toNat, z.toNat, stSeq st + 1⟩, stTo st), hs.slots, by show stSeq st + 1 = _; omega, ?_⟩, ?_, ?_⟩
    · show 1 - stTo st = _; omega
    · rw [hl]
      show Value.tuple #[recV ((x.toNat : Nat) : Int) ((y.toNat : Nat) : Int) ((z.toNat : Nat) : Int), .int .i64 ((stSeq st + 1 : Nat) : Int), .int .i64 0] = _
      rw [Int.toNat_of_nonneg (by omega), Int.toNat_of_nonneg (by omega), Int.toNat_of_nonneg (by omega), h7]
    · rw [← h8]; exact hs.out
  · have := hf.fused; rw [h3] at this; cases this
theorem tnS_new : TnS Dk.new 0 := ⟨by decide +kernel, rfl, rfl, rfl, rfl, none, slSt_new, rfl, rfl⟩
/-- What is known behind a save. -/
structure KT (w : World) (b g9 g o : Nat) (a c e : Int) (d : Dk) (W : World) : Prop where
  disk : DkAt W b d
  bx : W.heap[g9]? = some (.cells #[.int .i64 a, .int .i64 c, .int .i64 e] 35 (0, 0))
  r0 : W.cell? ⟨g, o, none⟩ = some (.int .i64 a)
  r1 : W.cell? ⟨g, o + 1, none⟩ = some (.int .i64 c)
  r2 : W.cell? ⟨g, o + 2, none⟩ = some (.int .i64 e)
  low : Below w.heap.size w W
theorem KT.below {w W W' : World} {b g9 g o : Nat} {a c e : Int} {d : Dk} (h : KT w b g9 g o a c e d W) (hb : Below W.heap.size W W') : KT w b g9 g o a c e d W' :=
  ⟨h.disk.below hb, blk_below' hb h.bx, (hb.cell (cell_lt h.r0)).trans h.r0, (hb.cell (cell_lt h.r1)).trans h.r1, (hb.cell (cell_lt h.r2)).trans h.r2, below_then h.low hb⟩
theorem KT.drew {w W : World} {b g9 g o : Nat} {a c e : Int} {d : Dk} (h : KT w b g9 g o a c e d W) : KT w b g9 g o a c e d W.drew := ⟨h.disk, h.bx, h.r0, h.r1, h.r2, h.low.drew⟩
theorem KT.all {w W : World} {b g9 g o : Nat} {a c e : Int} {d : Dk} (h : KT w b g9 g o a c e d W) :
    (W.cell? ⟨g9, 0, none⟩ = some (.int .i64 a) ∧ W.cell? ⟨g9, 1, none⟩ = some (.int .i64 c) ∧ W.cell? ⟨g9, 2, none⟩ = some (.int .i64 e)) ∧ (W.cell? ⟨g, o, none⟩ = some (.int .i64 a) ∧ W.cell? ⟨g, o + 1, none⟩ = some (.int .i64 c) ∧ W.cell? ⟨g, o + 2, none⟩ = some (.int .i64 e)) ∧ KT w b g9 g o a c e d W :=
  ⟨⟨(blk3 h.bx).1, (blk3 h.bx).2.1, (blk3 h.bx).2.2.1⟩, ⟨h.r0, h.r1, h.r2⟩, h⟩
theorem cell_but {W W' : World} {b g : Nat} (hg : W.grownBy W' (some b)) (hne : ¬ g = b) (o : Nat) (x : Value) (h : W.cell? ⟨g, o, none⟩ = some x) : W'.cell? ⟨g, o, none⟩ = some x := by
  obtain ⟨_, _, _, _, hgb⟩ := hg
  have hk := hgb g (cell_lt h) (by simpa using hne)
  unfold World.cell? at h ⊢
  rw [hk]; exact h
theorem rows3 {W : World} {v : Value} {xs : List (List Int)} (h : RowsOf W 3 v xs) {i : Nat} (hi : i < xs.length) :
    ∃ a c e g o cap, xs[i]? = some [a, c, e] ∧ v = .slice (some ⟨g, o, none⟩) xs.length cap ∧ W.cell? ⟨g, o + i * 3, none⟩ = some (.int .i64 a) ∧ W.cell? ⟨g, o + i * 3 + 1, none⟩ = some (.int .i64 c) ∧ W.cell? ⟨g, o + i * 3 + 2, none⟩ = some (.int .i64 e) := by
  obtain ⟨p, cap, rfl, _, _, hx⟩ := h
  obtain ⟨h1, g, o, rfl, _, h2⟩ := hx i _ (List.getElem?_eq_getElem hi)
  obtain ⟨a, c, e, hq⟩ := list3 _ h1
  have h3 := List.getElem?_eq_getElem hi
  rw [hq] at h2 h3
  exact ⟨a, c, e, g, o, cap, h3, rfl, h2 0 a rfl, h2 1 c rfl, h2 2 e rfl⟩
end Go.Proofs.YtbjlnlgknegbnaaGreatDoor
namespace Go.Proofs.YtbjlnlgknegbnaaGreatDoor
set_option linter.unusedVariables false
set_option linter.unusedSimpArgs false
open Go.RowKit

def vX (n : Nat) (x : List Int) : Bool := vN (n : Int) (x.getD 0 0) (x.getD 1 0) (x.getD 2 0)
def tX (R : List Nat) (x : List Int) : List Nat := tkR R (x.getD 0 0).toNat (rkI (x.getD 1 0) (x.getD 2 0)).toNat
/-- What Merge makes of a book. -/
def mgR (R : List Nat) (xs : List (List Int)) : List Nat := if xs.all (vX R.length) then xs.foldl tX R else R
theorem tX_len (R : List Nat) (x : List Int) : (tX R x).length = R.length := tkR_len _ _ _
theorem foldX_len (xs : List (List Int)) : ∀ R : List Nat, (xs.foldl tX R).length = R.length := by
  induction xs with
  | nil => intro R; rfl
  | cons x xs ih => intro R; rw [List.foldl_cons, ih, tX_len]
theorem mgR_len (R : List Nat) (xs : List (List Int)) : (mgR R xs).length = R.length := by unfold mgR; split; exact foldX_len _ _; rfl
theorem take_succ3 {xs : List (List Int)} {k : Nat} {x : List Int} (h : xs[k]? = some x) : xs.take (k + 1) = xs.take k ++ [x] := by rw [List.take_add_one, h]; rfl

/-- What is known in Merge's first loop. -/
structure MgA (w : World) (B g cp : Nat) (R : List Nat) (W : World) : Prop where
  box : W.heap[w.heap.size]? = some (.cells #[.pointer (some ⟨B, 0, none⟩)] 41 (0, 0))
  res : W.heap[w.heap.size + 1]? = some (.cells (setC 0) 54 (0, 0))
  book : Tb W B g cp R
  low : w.grownBy W (some g)
  lt : B < w.heap.size ∧ g < w.heap.size
theorem MgA.below {w W X : World} {B g cp : Nat} {R : List Nat} (h : MgA w B g cp R W) (hb : Below W.heap.size W X) : MgA w B g cp R X :=
  ⟨blk_below' hb h.box, blk_below' hb h.res, h.book.below hb, but_then h.low (but_below hb _), h.lt⟩
theorem MgA.chg {w W X : World} {B g cp cx : Nat} {R R' : List Nat} (h : MgA w B g cp R W) (hc : Ch2 W X g cx) (hT : Tb X B g cp R') (hcx : w.heap.size + 1 < cx) : MgA w B g cp R' X :=
  ⟨hc.blk h.box (by have := h.lt; omega) (by omega), hc.blk h.res (by have := h.lt; omega) (by omega), hT,
    ⟨hc.os.trans h.low.1, hc.tape.trans h.low.2, hc.output.trans h.low.3, Nat.le_trans h.low.4 hc.size, fun k hk hne => (hc.block k (Nat.lt_of_lt_of_le hk h.low.4) (by simpa using hne) (by omega)).trans (h.low.5 k hk hne)⟩, h.lt⟩
theorem MgA.res4 {w W : World} {B g cp : Nat} {R : List Nat} (h : MgA w B g cp R W) (a b c d : Value) : W.grownBy ((((W.setCell ⟨w.heap.size + 1, 0, none⟩ a).setCell ⟨w.heap.size + 1, 1, none⟩ b).setCell ⟨w.heap.size + 1, 2, none⟩ c).setCell ⟨w.heap.size + 1, 3, none⟩ d) (some (w.heap.size + 1)) := by
  have hl := blk_lt h.res
  exact but_set (but_set (but_set (but_set (but_refl W _) hl _ _) hl _ _) hl _ _) hl _ _
theorem res_keep {w W : World} {B g cp : Nat} {R : List Nat} (h : MgA w B g cp R W) (a b c d : Value) : Tb ((((W.setCell ⟨w.heap.size + 1, 0, none⟩ a).setCell ⟨w.heap.size + 1, 1, none⟩ b).setCell ⟨w.heap.size + 1, 2, none⟩ c).setCell ⟨w.heap.size + 1, 3, none⟩ d) B g cp R :=
  h.book.other (h.res4 a b c d) (by have := h.lt; omega) (by have := h.lt; omega)
theorem res_keep' {w W : World} {B g cp : Nat} {R : List Nat} (h : MgA w B g cp R W) (a b c d : Value) : w.grownBy ((((W.setCell ⟨w.heap.size + 1, 0, none⟩ a).setCell ⟨w.heap.size + 1, 1, none⟩ b).setCell ⟨w.heap.size + 1, 2, none⟩ c).setCell ⟨w.heap.size + 1, 3, none⟩ d) (some g) := by
  obtain ⟨h1, h2, h3, h4, h5⟩ := h.res4 a b c d
  exact ⟨h1.trans h.low.1, h2.trans h.low.2, h3.trans h.low.3, Nat.le_trans h.low.4 h4, fun k hk hne => (h5 k (Nat.lt_of_lt_of_le hk h.low.4) (by simp; omega)).trans (h.low.5 k hk hne)⟩
/-- A box with a notice beside. -/
structure MgB (w : World) (B g cp : Nat) (R : List Nat) (p : Nat) (o t k : Int) (W : World) : Prop where
  a : MgA w B g cp R W
  x : W.heap[p]? = some (.cells #[.int .i64 o, .int .i64 t, .int .i64 k] 60 (0, 0))
theorem MgB.below {w W X : World} {B g cp p : Nat} {R : List Nat} {o t k : Int} (h : MgB w B g cp R p o t k W) (hb : Below W.heap.size W X) : MgB w B g cp R p o t k X := ⟨h.a.below hb, blk_below' hb h.x⟩
def Mb4 (b p B : Nat) (o t k : Int) (W : World) : Prop := W.cell? ⟨b, 0, none⟩ = some (.pointer (some ⟨B, 0, none⟩)) ∧ Bx3 p o t k W
theorem MgB.c4 {w W : World} {B g cp p : Nat} {R : List Nat} {o t k : Int} (h : MgB w B g cp R p o t k W) : Mb4 w.heap.size p B o t k W := ⟨blk_cell h.a.box 0, blk_cell h.x 0, blk_cell h.x 1, blk_cell h.x 2⟩
theorem MgB.frees {w W : World} {B g cp p : Nat} {R : List Nat} {o t k : Int} (h : MgB w B g cp R p o t k W) : W.frozen? ⟨p, 0, none⟩ = false ∧ W.frozen? ⟨p, 1, none⟩ = false ∧ W.frozen? ⟨p, 2, none⟩ = false := ⟨blk_free h.x _, blk_free h.x _, blk_free h.x _⟩
set_option maxRecDepth 100000 in
set_option maxHeartbeats 1000000 in
theorem merge_any {w : World} {B g cp : Nat} {R : List Nat} (v : Value) (xs : List (List Int)) (h : Tb w B g cp R) (hrow : ∀ W, w.grownBy W (some g) → RowsOf W 3 v xs) :
    Calls Tryz.prog 14 #[.pointer (some ⟨B, 0, none⟩), v] w fun e w' => (∃ (y : Nat) (er : Int), e = .returned (.tuple #[setV y, .int .i64 er])) ∧ Tb w' B g cp (mgR R xs) ∧ w.grownBy w' (some g) := by
  have HRW := Lib.hid hrow
  obtain ⟨p, cap, rfl, hm1, hm2, _⟩ := hrow w (but_refl _ _)
  have hmax : xs.length ≤ 9223372036854775807 := by unfold maxLen at hm2; omega
  clear hm1 hm2
  have hA : MgA w B g cp R ((w.alloc (.cells #[.pointer (some ⟨B, 0, none⟩)] 41)).alloc (.cells (setC 0) 54)) := by
    have hb := ((Below.refl w.heap.size w).alloc (Nat.le_refl _) (.cells #[.pointer (some ⟨B, 0, none⟩)] 41)).alloc (by simp) (.cells (setC 0) 54)
    exact ⟨blk_old (blk_new w _) _, b1 w _ _, h.below hb, but_below hb _, h.lt⟩
  have hn := h.n
  rw [← setC_zero] at hA
  clear h hrow
  go_enter Tryz.func14, Tryz.ntmps14
  go_wp2_with fail
  generalize (w.alloc (.cells #[.pointer (some ⟨B, 0, none⟩)] 41)).alloc _ = W0 at *
  go_loopw [14] (fun iv wr => ∃ k : Nat, iv = .int .i64 k ∧ k ≤ xs.length ∧ (xs.take k).all (vX R.length) = true ∧ MgA w B g cp R wr) (fun iv _ => xs.length - (intOf iv).toNat)
  case atStart => exact ⟨0, rfl, by omega, rfl, hA⟩
  case round =>
    obtain ⟨k, rfl, hk, hall, hM⟩ := hrel
    clear hA
    by_cases hlt : k < xs.length
    · obtain ⟨o, t, d, gx, ox, cap', hx, hv, r0, r1, r2⟩ := rows3 (HRW.out _ hM.low) hlt
      injection hv with hv1 hv2 hv3
      subst hv1 hv3
      have i1 : (k : Int) < (xs.length : Int) := by omega
      have i2 : (0 : Int) ≤ (k : Int) := by omega
      have i3 : (k : Int).toNat = k := Int.toNat_natCast k
      have HM := Lib.hid (show MgB w B g cp R wr.heap.size o t d (wr.alloc (.cells #[.int .i64 o, .int .i64 t, .int .i64 d] 60)) from ⟨hM.below ((Below.refl _ _).alloc (Nat.le_refl _) _), blk_new wr _⟩)
      have HX := Lib.hid hx
      have HALL := Lib.hid hall
      clear hM hx hall
      have HV := Lib.hid (fun w => valid_any (R.length : Int) o t d w)
      unfold nV at HV
      have HZ : Hid (∀ W, Tb W B g cp R → Calls Tryz.prog 34 #[.pointer (some ⟨B, 0, none⟩)] W fun e w' => e = .returned (.int .i64 (R.length : Int)) ∧ w' = W) := Lib.hid fun W hW => size_any hW
      go_upto_region 4 with fail
      clear r0 r1 r2
      generalize World.alloc wr _ = W1 at *
      refine wp_region_early (Mb4 w.heap.size wr.heap.size B o t d) (fun _ => false) (by kernel_rfl) ?_
      simp only [List.size_toArray, List.length_cons, List.length_nil, Nat.reduceAdd, Array.replicate_succ, Array.replicate_zero, List.push_toArray, List.nil_append, List.cons_append]
      have HM := Lib.hid (HM.out.below ((Below.refl _ W1).drew))
      generalize World.drew W1 = W2 at *
      have hSS := HM.out.c4
      refine wpAnyE_take (i := 0) (v := ?_) rfl (by kernel_rfl) (by kernel_rfl) (by kernel_rfl) (by kernel_rfl) (fun _ _ _ h => h) (Or.inl ⟨by rfl, ?_⟩) hSS ?_
      rotate_left
      · intro w hSw
        obtain ⟨j0, j1, j2, j3⟩ := hSw
        go_simp
        all_goals with_reducible rfl
      simp only [Act.put, List.setIfInBounds_toArray, List.set_cons_zero, List.set_cons_succ, List.getElem_toArray, List.getElem_cons_zero, List.getElem_cons_succ]
      refine wpAnyE_take (i := 2) (v := ?_) rfl (by kernel_rfl) (by kernel_rfl) (by kernel_rfl) (by kernel_rfl) (fun _ _ _ h => h) (Or.inl ⟨by rfl, ?_⟩) hSS ?_
      rotate_left
      · intro w hSw
        obtain ⟨j0, j1, j2, j3⟩ := hSw
        go_simp
        all_goals with_reducible rfl
      simp only [Act.put, List.setIfInBounds_toArray, List.set_cons_zero, List.set_cons_succ, List.getElem_toArray, List.getElem_cons_zero, List.getElem_cons_succ]
      refine wpAnyE_one (i := 1) (by kernel_rfl) rfl ?_
      change wpList _ _ (Exit.then _ _) [_] _ _
      try simp only [List.setIfInBounds_toArray, List.set_cons_zero, List.set_cons_succ, List.getElem_toArray, List.getElem_cons_zero, List.getElem_cons_succ]
      go_wp2_with (go_at_call 34; refine (HZ.out _ HM.out.a.book).mono ?_; rintro e w1 ⟨rfl, rfl⟩)
      refine ⟨fun _ => hSS, ?_⟩
      try simp only [List.setIfInBounds_toArray, List.set_cons_zero, List.set_cons_succ, List.getElem_toArray, List.getElem_cons_zero, List.getElem_cons_succ]
      refine wpAnyE_one (i := 3) (by kernel_rfl) rfl ?_
      change wpList _ _ (Exit.then _ _) [_] _ _
      try simp only [List.setIfInBounds_toArray, List.set_cons_zero, List.set_cons_succ, List.getElem_toArray, List.getElem_cons_zero, List.getElem_cons_succ]
      cases hv : vN (R.length : Int) o t d with
      | true =>
        rw [hv] at HV
        have HALL2 := Lib.hid (show (xs.take (k + 1)).all (vX R.length) = true by rw [take_succ3 HX.out, List.all_append, HALL.out]; simp [vX, hv])
        clear hv
        go_wp2_with (go_at_call 31; refine (HV.out _).mono ?_; rintro e w2 ⟨rfl, hB⟩)
        have HM := Lib.hid (HM.out.below hB)
        clear hB hSS
        have hSS := HM.out.c4
        refine ⟨fun _ => hSS, ?_⟩
        try simp only [List.setIfInBounds_toArray, List.set_cons_zero, List.set_cons_succ, List.getElem_toArray, List.getElem_cons_zero, List.getElem_cons_succ]
        refine wpAnyE_take (i := 4) (v := ?_) rfl (by kernel_rfl) (by kernel_rfl) (by kernel_rfl) (by kernel_rfl) (fun _ _ _ h => h) (Or.inl ⟨by rfl, ?_⟩) hSS ?_
        rotate_left
        · intro w hSw
          obtain ⟨j0, j1, j2, j3⟩ := hSw
          go_simp
          all_goals with_reducible rfl
        simp only [Act.put, List.setIfInBounds_toArray, List.set_cons_zero, List.set_cons_succ, List.getElem_toArray, List.getElem_cons_zero, List.getElem_cons_succ]
        refine wpAnyE_end (by kernel_rfl) ?_
        go_wp2_with fail
        go_roundw
        case rel => exact ⟨k + 1, by go_num, by omega, HALL2.out, HM.out.a⟩
        case measure => simp [intOf]; omega
      | false =>
        rw [hv] at HV
        have HALL2 := Lib.hid (show ¬ (xs.all (vX R.length) = true) by
          intro hh
          have := List.all_eq_true.1 hh _ (List.mem_of_getElem? HX.out)
          rw [show vX R.length [o, t, d] = vN (R.length : Int) o t d from rfl, hv] at this
          cases this)
        clear hv
        go_wp2_with (go_at_call 31; refine (HV.out _).mono ?_; rintro e w2 ⟨rfl, hB⟩)
        have HM := Lib.hid (HM.out.below hB)
        clear hB hSS
        have hSS := HM.out.c4
        refine ⟨fun _ => hSS, ?_⟩
        try simp only [List.setIfInBounds_toArray, List.set_cons_zero, List.set_cons_succ, List.getElem_toArray, List.getElem_cons_zero, List.getElem_cons_succ]
        refine wpAnyE_take (i := 4) (v := ?_) rfl (by kernel_rfl) (by kernel_rfl) (by kernel_rfl) (by kernel_rfl) (fun _ _ _ h => h) (Or.inl ⟨by rfl, ?_⟩) hSS ?_
        rotate_left
        · intro w hSw
          obtain ⟨j0, j1, j2, j3⟩ := hSw
          go_simp
          all_goals with_reducible rfl
        simp only [Act.put, List.setIfInBounds_toArray, List.set_cons_zero, List.set_cons_succ, List.getElem_toArray, List.getElem_cons_zero, List.getElem_cons_succ]
        refine wpAnyE_end (by kernel_rfl) ?_
        have e0 := HM.out.a.res
        obtain ⟨q0, q1, q2, q3, f0, f1, f2, f3⟩ := set_cells e0
        clear e0
        go_wp2_with fail
        have hb4 := fun (W : World) (hW : w.grownBy W (some g)) => W
        refine bodyPost_ret (v := .tuple #[.agg (setC 0), .int .i64 50]) ?_ rfl ?_
        · rw [← setC_zero]
          simp [results, Tryz.results14, go_sem, q0, q1, q2, q3]
        · have hz : w2.heap.size ≥ w.heap.size + 2 := by have := blk_lt HM.out.a.res; omega
          have hh := HM.out.a
          refine ⟨⟨0, 50, rfl⟩, ?_, ?_⟩
          · rw [show mgR R xs = R from if_neg HALL2.out]
            exact res_keep hh _ _ _ _
          · exact res_keep' hh _ _ _ _
    · have HR := Lib.hid (show mgR R xs = xs.foldl tX R by
        unfold mgR; rw [if_pos]
        rw [List.take_of_length_le (by omega)] at hall; exact hall)
      obtain rfl : k = xs.length := by omega
      have HALL := Lib.hid (show xs.all (vX R.length) = true by rw [List.take_of_length_le (Nat.le_refl _)] at hall; exact hall)
      have i1 : ¬ (xs.length : Int) < (xs.length : Int) := by omega
      clear hall hlt hk
      have hmf : ∀ (fn : Fn) (first cap : Array Value) (w : World), (Instr.makeFunc fn first cap).run Tryz.prog w = .ok (.func fn first cap) w := fun _ _ _ _ => rfl
      go_upto_region 9 with fail
      obtain ⟨cx, hcx⟩ : ∃ cx, wr.heap.size = cx := ⟨_, rfl⟩
      have hM2 : MgA w B g cp R (wr.alloc (.cells (setC 0) 54)) := hM.below ((Below.refl _ _).alloc (Nat.le_refl _) _)
      have hC2 : (wr.alloc (.cells (setC 0) 54)).heap[cx]? = some (.cells (setC 0) 54 (0, 0)) := by rw [← hcx]; exact blk_new wr _
      have HCX := Lib.hid (show w.heap.size + 1 < cx by have := blk_lt hM.res; omega)
      rw [← setC_zero] at hM2 hC2
      rw [hcx]
      clear hM hcx
      generalize World.alloc wr _ = W1 at *
      go_wp2_with fail
      go_loopw [28] (fun iv wr => ∃ (k y : Nat), iv = .int .i64 k ∧ k ≤ xs.length ∧ MgA w B g cp ((xs.take k).foldl tX R) wr ∧ wr.heap[cx]? = some (.cells (setC y) 54 (0, 0))) (fun iv _ => xs.length - (intOf iv).toNat)
      case atStart => exact ⟨0, 0, rfl, by omega, hM2, by have := hC2; rwa [setC_zero] at this⟩
      case round =>
        obtain ⟨k, y, rfl, hk, hM, hC⟩ := hrel
        clear hM2 hC2
        by_cases hlt : k < xs.length
        · obtain ⟨o, t, d, gx, ox, cap', hx, hv, r0, r1, r2⟩ := rows3 (HRW.out _ hM.low) hlt
          injection hv with hv1 hv2 hv3
          subst hv1 hv3
          have i1 : (k : Int) < (xs.length : Int) := by omega
          have i2 : (0 : Int) ≤ (k : Int) := by omega
          have i3 : (k : Int).toNat = k := Int.toNat_natCast k
          have hvx : vN (R.length : Int) o t d = true := by
            have := List.all_eq_true.1 HALL.out _ (List.mem_of_getElem? hx)
            exact this
          obtain ⟨i, r, rfl, rfl, rfl, hi, hr, _⟩ := vN_nat hvx
          have HT := Lib.hid (show (xs.take (k + 1)).foldl tX R = tkR ((xs.take k).foldl tX R) i r by
            rw [take_succ3 hx, List.foldl_append]
            show tkR _ (i : Int).toNat (rkI (tgN r : Nat) (kdN r : Nat)).toNat = _
            rw [rkI_nat hr, Int.toNat_natCast, Int.toNat_natCast])
          have HRL := Lib.hid (foldX_len (xs.take k) R)
          generalize (xs.take k).foldl tX R = S at *
          have hi2 : i < S.length := by have := HRL.out; omega
          have HI2 := Lib.hid hi2
          have HR2 := Lib.hid hr
          have HM := Lib.hid hM
          have HC := Lib.hid hC
          clear hM hC hx hvx hi hr hi2
          go_upto_region 12 with fail
          have HB : Hid (MgB w B g cp S wr.heap.size (i : Int) (tgN r : Nat) (kdN r : Nat) (wr.alloc (.cells #[.int .i64 (i : Int), .int .i64 (tgN r : Nat), .int .i64 (kdN r : Nat)] 60))) := Lib.hid ⟨HM.out.below ((Below.refl _ _).alloc (Nat.le_refl _) _), blk_new wr _⟩
          have HC := Lib.hid (blk_old HC.out (.cells #[.int .i64 (i : Int), .int .i64 (tgN r : Nat), .int .i64 (kdN r : Nat)] 60))
          clear HM r0 r1 r2
          generalize World.alloc wr _ = W3 at *
          obtain ⟨m0, m1, m2, m3⟩ := HB.out.c4
          go_wp2_with fail
          have HN : Hid (w.heap.size ≠ g ∧ w.heap.size ≠ cx ∧ cx ≠ g ∧ cx ≠ B) := by have := HB.out.a.lt; have := HCX.out; exact Lib.hid ⟨by omega, by omega, by omega, by omega⟩
          refine (merge1_any i r w.heap.size cx y HB.out.a.book HB.out.a.box HC.out HN.out HI2.out HR2.out).mono ?_
          rintro e w5 ⟨rfl, hT5, ⟨y5, hC5⟩, hch⟩
          have HA := Lib.hid (HB.out.a.chg hch hT5 HCX.out)
          rw [← HT.out] at HA
          have HC := Lib.hid hC5
          clear hT5 hch hC5 m0 m1 m2 m3
          go_wp2_with fail
          go_roundw
          case rel => exact ⟨k + 1, y5, by go_num, by omega, HA.out, HC.out⟩
          case measure => simp [intOf]; omega
        · obtain rfl : k = xs.length := by omega
          rw [List.take_of_length_le (Nat.le_refl _), ← HR.out] at hM
          have i1 : ¬ (xs.length : Int) < (xs.length : Int) := by omega
          obtain ⟨q0, q1, q2, q3, _⟩ := set_cells hC
          obtain ⟨u0, u1, u2, u3, f0, f1, f2, f3⟩ := set_cells hM.res
          have HM := Lib.hid hM
          clear hM hC hlt hk
          go_wp2_with fail
          refine bodyPost_ret (v := .tuple #[.agg (setC y), .int .i64 0]) ?_ rfl ⟨⟨y, 0, rfl⟩, res_keep HM.out _ _ _ _, res_keep' HM.out _ _ _ _⟩
          simp [results, Tryz.results14, go_sem, setC, q0, q1, q2, q3, u0, u1, u2, u3]
end Go.Proofs.YtbjlnlgknegbnaaGreatDoor
namespace Go.Proofs.YtbjlnlgknegbnaaGreatDoor
open Go.RowKit Go.Extern.Stop Go.Stop Go.Extern

theorem isTypeOf (v : Value) (w : World) : (Extern.ReflectliteType.typeOf #[.iface 165 v]).run Tryz.prog w = .ok (.iface 155 (.agg #[.pointer (some ⟨1, 165, none⟩)])) w := by kernel_rfl
def compF : TypeId → Sem Value := fun t => do Go.Extern.Rtype.noPackHeld "Comparable" t; pure (.bool (← typeInfo t).comparable)
theorem isComparable (w : World) : (Extern.ReflectliteType.method compF #[.agg #[.pointer (some ⟨1, 165, none⟩)]]).run Tryz.prog w = .ok (.bool true) w := by kernel_rfl
theorem isMethod (n : Nat) (v : Value) (w : World) : (Go.method (n + 1) 155 v "Comparable").run Tryz.prog w = .ok (114, v) w := by kernel_rfl
theorem isComp : (Tryz.prog.info? 165).map (·.comparable) = some true := by kernel_rfl
theorem isSize : (Tryz.prog.info? 190).map (·.size) = some 1 := by kernel_rfl
set_option maxRecDepth 100000 in
/-- errors.Is(x, x), x a pointer to an errors.errorString. -/
theorem is_same (a : Addr) (w : World) :
    Calls Tryz.prog 79 #[.iface 165 (.pointer (some a)), .iface 165 (.pointer (some a))] w fun e w' => e = .returned (.bool true) ∧ w' = w := by
  obtain ⟨i, hi, hcmp⟩ := Option.map_eq_some_iff.1 isComp
  obtain ⟨j, hj, hjs⟩ := Option.map_eq_some_iff.1 isSize
  have h8 := @run_callFunc_extern Tryz.prog 89 _ Extern.ReflectliteType.typeOf Tryz.func89 (by kernel_rfl) (by kernel_rfl) (by kernel_rfl) (by kernel_rfl)
  have h32 := @run_callFunc_extern Tryz.prog 114 _ (Extern.ReflectliteType.method compF) Tryz.func114 (by kernel_rfl) (by kernel_rfl) (by kernel_rfl) (by kernel_rfl)
  have tT := isTypeOf
  have cT := isComparable
  have mR := isMethod
  have heq := run_eql_iface_ptr_same (P := Tryz.prog) w a Tryz.underlying137 Tryz.underlying165 hi hcmp hj
  go_enter Tryz.func79, Tryz.ntmps79
  go_wp2
  refine wp_loop_rounds 1 ?_
  rw [rounds_succ]
  go_wp2
  go_ret
  exact ⟨rfl, rfl⟩
/-- errors.Is(nil, x). -/
theorem is_nil (b : Addr) (w : World) :
    Calls Tryz.prog 79 #[.nilIface, .iface 165 (.pointer (some b))] w fun e w' => e = .returned (.bool false) ∧ w' = w := by
  have hn := run_eql_iface_nil_left (P := Tryz.prog) w 165 (.pointer (some b)) Tryz.underlying137
  go_enter Tryz.func79, Tryz.ntmps79
  go_wp2
  go_ret
  exact ⟨rfl, rfl⟩
end Go.Proofs.YtbjlnlgknegbnaaGreatDoor
namespace Go.Proofs.YtbjlnlgknegbnaaGreatDoor
set_option linter.unusedVariables false
set_option linter.unusedSimpArgs false
open Go.RowKit

/-- The sentinel. -/
def Gl (a : Addr) (W : World) : Prop := W.cell? ⟨0, 0, none⟩ = some (.iface 165 (.pointer (some a)))
theorem Gl.lt {a : Addr} {W : World} (h : Gl a W) : 0 < W.heap.size := cell_lt h
theorem Gl.below {a : Addr} {W X : World} (h : Gl a W) (hb : Below W.heap.size W X) : Gl a X := (hb.cell (cell_lt h)).trans h
theorem Gl.of {a : Addr} {w W : World} (h : Gl a w) (hb : Below w.heap.size w W) : Gl a W := h.below hb
/-- What is due: the rank of the mistake. -/
def dueN (R : List Nat) (sf : Int) : Option Nat := if 0 ≤ sf ∧ sf < (R.length : Int) then if kdN (R.getD sf.toNat 0) = 2 ∧ tgN (R.getD sf.toNat 0) ≠ 1048576 then some (R.getD sf.toNat 0 + 1) else none else none
def dueV (o : Option Nat) (sf : Int) : Value := match o with | some r => nV sf (tgN r : Nat) (kdN r : Nat) | none => nV 0 0 0
def errV (a : Addr) (o : Option Nat) : Value := match o with | some _ => .nilIface | none => .iface 165 (.pointer (some a))
/-- Frames of due. -/
structure DuS (w : World) (a : Addr) (bp : Option Addr) (sf : Int) (W : World) : Prop where
  d : W.heap[w.heap.size]? = some (.cells #[.pointer bp, .int .i64 sf] 123 (0, 0))
  r : W.heap[w.heap.size + 1]? = some (.cells #[.int .i64 0, .int .i64 0, .int .i64 0] 60 (0, 0))
  gl : Gl a W
  low : Below w.heap.size w W
  pos : 0 < w.heap.size
theorem DuS.below {w W X : World} {a : Addr} {bp : Option Addr} {sf : Int} (h : DuS w a bp sf W) (hb : Below W.heap.size W X) : DuS w a bp sf X :=
  ⟨blk_below' hb h.d, blk_below' hb h.r, h.gl.below hb, below_then h.low hb, h.pos⟩
theorem DuS.new {w : World} {a : Addr} (h : Gl a w) (bp : Option Addr) (sf : Int) : DuS w a bp sf ((w.alloc (.cells #[.pointer bp, .int .i64 sf] 123)).alloc (.cells #[.int .i64 0, .int .i64 0, .int .i64 0] 60)) := by
  have hb := ((Below.refl w.heap.size w).alloc (Nat.le_refl _) (.cells #[.pointer bp, .int .i64 sf] 123)).alloc (by simp) (.cells #[.int .i64 0, .int .i64 0, .int .i64 0] 60)
  exact ⟨blk_old (blk_new w _) _, b1 w _ _, h.below hb, hb, h.lt⟩
theorem gl_set {a : Addr} {W : World} (h : Gl a W) {b : Nat} (hb : 0 ≠ b) (o : Nat) (v : Value) : Gl a (W.setCell ⟨b, o, none⟩ v) := by
  obtain ⟨cs, hcs⟩ : ∃ cs, W.heap[0]? = some cs := ⟨_, Array.getElem?_eq_getElem h.lt⟩
  have h2 := blk_set hcs ⟨b, o, none⟩ v hb
  unfold Gl World.cell? at h ⊢
  rw [h2]
  rw [hcs] at h
  exact h
/-- .. with the box of x. -/
structure DuX (w : World) (a : Addr) (bp : Option Addr) (sf : Int) (p : Nat) (o t k : Int) (W : World) : Prop where
  s : DuS w a bp sf W
  x : W.heap[p]? = some (.cells #[.int .i64 o, .int .i64 t, .int .i64 k] 60 (0, 0))
  p : w.heap.size + 1 < p
theorem DuX.below {w W X : World} {a : Addr} {bp : Option Addr} {sf : Int} {p : Nat} {o t k : Int} (h : DuX w a bp sf p o t k W) (hb : Below W.heap.size W X) : DuX w a bp sf p o t k X := ⟨h.s.below hb, blk_below' hb h.x, h.p⟩
theorem DuX.cells {w W : World} {a : Addr} {bp : Option Addr} {sf : Int} {p : Nat} {o t k : Int} (h : DuX w a bp sf p o t k W) : Bx3 p o t k W ∧ (W.frozen? ⟨p, 0, none⟩ = false ∧ W.frozen? ⟨p, 1, none⟩ = false ∧ W.frozen? ⟨p, 2, none⟩ = false) :=
  ⟨⟨blk_cell h.x 0, blk_cell h.x 1, blk_cell h.x 2⟩, blk_free h.x 0, blk_free h.x 1, blk_free h.x 2⟩
theorem DuX.set {w W : World} {a : Addr} {bp : Option Addr} {sf : Int} {p : Nat} {o t k : Int} (h : DuX w a bp sf p o t k W) (o' t' k' : Int) : DuX w a bp sf p o' t' k' (((W.setCell ⟨p, 0, none⟩ (.int .i64 o')).setCell ⟨p, 1, none⟩ (.int .i64 t')).setCell ⟨p, 2, none⟩ (.int .i64 k')) := by
  have hp := h.p
  have hp1 : w.heap.size ≠ p := by omega
  have hp2 : w.heap.size + 1 ≠ p := by omega
  have hp3 : w.heap.size ≤ p := by omega
  exact ⟨⟨blk_set (blk_set (blk_set h.s.d _ _ hp1) _ _ hp1) _ _ hp1, blk_set (blk_set (blk_set h.s.r _ _ hp2) _ _ hp2) _ _ hp2, gl_set (gl_set (gl_set h.s.gl (by omega) _ _) (by omega) _ _) (by omega) _ _, ((h.s.low.setCell hp3 _).setCell hp3 _).setCell hp3 _, h.s.pos⟩,
    blk_store (blk_store (blk_store h.x 0 (.int .i64 o')) 1 (.int .i64 t')) 2 (.int .i64 k'), h.p⟩
theorem due_at (w : World) (a : Addr) (bp : Option Addr) (sf : Int) (o t k er : Int) (hg : Gl a w) (her : (er != 0) = true)
    (hAt : ∀ W, Below w.heap.size w W → Calls Tryz.prog 80 #[.pointer bp, .int .i64 sf] W fun e w' => e = .returned (.tuple #[nV o t k, .int .i64 er]) ∧ Below W.heap.size W w') :
    Calls Tryz.prog 62 #[.agg #[.pointer bp, .int .i64 sf]] w fun e w' => e = .returned (.tuple #[nV 0 0 0, .iface 165 (.pointer (some a))]) ∧ Below w.heap.size w w' := by
  have HS := Lib.hid (DuS.new hg bp sf)
  have HA := Lib.hid hAt
  unfold nV at HA ⊢
  clear hg hAt
  go_enter Tryz.func62, Tryz.ntmps62
  go_upto_region 1 with fail
  generalize World.alloc (World.alloc w _) _ = W at *
  have d0 := blk_cell HS.out.d 0
  have d1 := blk_cell HS.out.d 1
  go_upto_region 3 with (go_at_call 80; refine (HA.out _ HS.out.low).mono ?_; rintro e w1 ⟨rfl, hB1⟩; have HS := Lib.hid (HS.out.below hB1); clear hB1 d0 d1)
  have HX := Lib.hid (show DuX w a bp sf (w1).heap.size o t k ((w1).alloc (.cells #[.int .i64 o, .int .i64 t, .int .i64 k] 60)) from ⟨HS.out.below ((Below.refl _ _).alloc (Nat.le_refl _) _), blk_new _ _, blk_lt HS.out.r⟩)
  clear HS
  obtain ⟨p, hp⟩ : ∃ p, (w1).heap.size = p := ⟨_, rfl⟩
  rw [hp] at HX
  (try rw [hp])
  clear hp
  generalize World.alloc w1 _ = W2 at *
  obtain ⟨⟨m0, m1, m2⟩, _⟩ := HX.out.cells
  have HS := Lib.hid HX.out.s
  clear m0 m1 m2
  refine wp_region_early (fun w' => w'.cell? ⟨0, 0, none⟩ = some (.iface 165 (.pointer (some a)))) (fun _ => false) (by kernel_rfl) ?_
  simp only [List.size_toArray, List.length_cons, List.length_nil, Nat.reduceAdd, Array.replicate_succ, Array.replicate_zero, List.push_toArray, List.nil_append, List.cons_append]
  have HS := Lib.hid (HS.out.below ((Below.refl _ _).drew))
  generalize World.drew _ = WD at *
  have hSS : World.cell? _ ⟨0, 0, none⟩ = some (.iface 165 (.pointer (some a))) := HS.out.gl
  refine wpAnyE_take (i := 0) (v := ?_) rfl (by kernel_rfl) (by kernel_rfl) (by kernel_rfl) (by kernel_rfl) (fun _ _ _ h => h) (Or.inl ⟨by rfl, ?_⟩) hSS ?_
  rotate_left
  · intro w hSw
    obtain j0 := hSw
    go_simp
    all_goals with_reducible rfl
  simp only [Act.put, List.setIfInBounds_toArray, List.set_cons_zero, List.set_cons_succ, List.getElem_toArray, List.getElem_cons_zero, List.getElem_cons_succ]
  refine wpAnyE_take (i := 1) (v := ?_) rfl (by kernel_rfl) (by kernel_rfl) (by kernel_rfl) (by kernel_rfl) (fun _ _ _ h => h) (Or.inl ⟨by rfl, ?_⟩) hSS ?_
  rotate_left
  · intro w hSw
    obtain j0 := hSw
    go_simp
    all_goals with_reducible rfl
  simp only [Act.put, List.setIfInBounds_toArray, List.set_cons_zero, List.set_cons_succ, List.getElem_toArray, List.getElem_cons_zero, List.getElem_cons_succ]
  refine wpAnyE_one (i := 2) (by kernel_rfl) rfl ?_
  change wpList _ _ (Exit.then _ _) [_] _ _
  try simp only [List.setIfInBounds_toArray, List.set_cons_zero, List.set_cons_succ, List.getElem_toArray, List.getElem_cons_zero, List.getElem_cons_succ]
  have c0 := blk_cell HS.out.r 0
  have c1 := blk_cell HS.out.r 1
  have c2 := blk_cell HS.out.r 2
  have f0 := blk_free HS.out.r 0
  have f1 := blk_free HS.out.r 1
  have f2 := blk_free HS.out.r 2
  have hS3 := gl_set (gl_set (gl_set hSS (b := w.heap.size + 1) (Nat.succ_ne_zero _).symm 0 (.int .i64 0)) (b := w.heap.size + 1) (Nat.succ_ne_zero _).symm 1 (.int .i64 0)) (b := w.heap.size + 1) (Nat.succ_ne_zero _).symm 2 (.int .i64 0)
  go_wp2_with fail
  refine ⟨fun _ => hS3, ?_⟩
  try simp only [List.setIfInBounds_toArray, List.set_cons_zero, List.set_cons_succ, List.getElem_toArray, List.getElem_cons_zero, List.getElem_cons_succ]
  refine wpAnyE_one (i := 3) (by kernel_rfl) rfl ?_
  change wpList _ _ (Exit.then _ _) [_] _ _
  try simp only [List.setIfInBounds_toArray, List.set_cons_zero, List.set_cons_succ, List.getElem_toArray, List.getElem_cons_zero, List.getElem_cons_succ]
  go_wp2_with fail
  refine ⟨fun _ => hS3, ?_⟩
  try simp only [List.setIfInBounds_toArray, List.set_cons_zero, List.set_cons_succ, List.getElem_toArray, List.getElem_cons_zero, List.getElem_cons_succ]
  refine wpAnyE_end (by kernel_rfl) ?_
  go_wp2_with fail
  refine bodyPost_ret (v := .tuple #[.agg #[.int .i64 0, .int .i64 0, .int .i64 0], .iface 165 (.pointer (some a))]) ?_ rfl ⟨rfl, ((HS.out.low.setCell (Nat.le_succ _) _).setCell (Nat.le_succ _) _).setCell (Nat.le_succ _) _⟩
  simp [results, Tryz.results62, go_sem, c0, c1, c2]
theorem due_reply_no (w : World) (a : Addr) (bp : Option Addr) (sf : Int) (o t k er : Int) (v : Value) (hg : Gl a w) (her : (er != 0) = true)
    (hAt : ∀ W, Below w.heap.size w W → Calls Tryz.prog 80 #[.pointer bp, .int .i64 sf] W fun e w' => e = .returned (.tuple #[nV o t k, .int .i64 0]) ∧ Below W.heap.size W w')
    (hRp : ∀ W, Calls Tryz.prog 81 #[nV o t k] W fun e w' => e = .returned (.tuple #[nV 0 0 0, .int .i64 er]) ∧ Below W.heap.size W w') :
    Calls Tryz.prog 62 #[.agg #[.pointer bp, .int .i64 sf]] w fun e w' => e = .returned (.tuple #[nV 0 0 0, .iface 165 (.pointer (some a))]) ∧ Below w.heap.size w w' := by
  have HS := Lib.hid (DuS.new hg bp sf)
  have HA := Lib.hid hAt
  have HP := Lib.hid hRp
  unfold nV at HA HP ⊢
  clear hg hAt hRp
  go_enter Tryz.func62, Tryz.ntmps62
  go_upto_region 1 with fail
  generalize World.alloc (World.alloc w _) _ = W at *
  have d0 := blk_cell HS.out.d 0
  have d1 := blk_cell HS.out.d 1
  go_upto_region 4 with (go_at_call 80; refine (HA.out _ HS.out.low).mono ?_; rintro e w1 ⟨rfl, hB1⟩; have HS := Lib.hid (HS.out.below hB1); clear hB1 d0 d1)
  have HX := Lib.hid (show DuX w a bp sf (w1).heap.size o t k ((w1).alloc (.cells #[.int .i64 o, .int .i64 t, .int .i64 k] 60)) from ⟨HS.out.below ((Below.refl _ _).alloc (Nat.le_refl _) _), blk_new _ _, blk_lt HS.out.r⟩)
  clear HS
  obtain ⟨p, hp⟩ : ∃ p, (w1).heap.size = p := ⟨_, rfl⟩
  rw [hp] at HX
  (try rw [hp])
  clear hp
  generalize World.alloc w1 _ = W2 at *
  obtain ⟨⟨m0, m1, m2⟩, _⟩ := HX.out.cells
  go_upto_region 6 with (go_at_call 81; refine (HP.out _).mono ?_; rintro e w3 ⟨rfl, hB3⟩; have HX := Lib.hid (HX.out.below hB3); clear hB3 m0 m1 m2; obtain ⟨⟨m0, m1, m2⟩, ⟨f0, f1, f2⟩⟩ := HX.out.cells)
  have HX := Lib.hid (HX.out.set 0 0 0)
  clear m0 m1 m2 f0 f1 f2
  generalize ((World.setCell w3 _ _).setCell _ _).setCell _ _ = W3 at *
  have HS := Lib.hid HX.out.s
  refine wp_region_early (fun w' => w'.cell? ⟨0, 0, none⟩ = some (.iface 165 (.pointer (some a)))) (fun _ => false) (by kernel_rfl) ?_
  simp only [List.size_toArray, List.length_cons, List.length_nil, Nat.reduceAdd, Array.replicate_succ, Array.replicate_zero, List.push_toArray, List.nil_append, List.cons_append]
  have HS := Lib.hid (HS.out.below ((Below.refl _ _).drew))
  generalize World.drew _ = WD at *
  have hSS : World.cell? _ ⟨0, 0, none⟩ = some (.iface 165 (.pointer (some a))) := HS.out.gl
  refine wpAnyE_take (i := 0) (v := ?_) rfl (by kernel_rfl) (by kernel_rfl) (by kernel_rfl) (by kernel_rfl) (fun _ _ _ h => h) (Or.inl ⟨by rfl, ?_⟩) hSS ?_
  rotate_left
  · intro w hSw
    obtain j0 := hSw
    go_simp
    all_goals with_reducible rfl
  simp only [Act.put, List.setIfInBounds_toArray, List.set_cons_zero, List.set_cons_succ, List.getElem_toArray, List.getElem_cons_zero, List.getElem_cons_succ]
  refine wpAnyE_take (i := 1) (v := ?_) rfl (by kernel_rfl) (by kernel_rfl) (by kernel_rfl) (by kernel_rfl) (fun _ _ _ h => h) (Or.inl ⟨by rfl, ?_⟩) hSS ?_
  rotate_left
  · intro w hSw
    obtain j0 := hSw
    go_simp
    all_goals with_reducible rfl
  simp only [Act.put, List.setIfInBounds_toArray, List.set_cons_zero, List.set_cons_succ, List.getElem_toArray, List.getElem_cons_zero, List.getElem_cons_succ]
  refine wpAnyE_one (i := 2) (by kernel_rfl) rfl ?_
  change wpList _ _ (Exit.then _ _) [_] _ _
  try simp only [List.setIfInBounds_toArray, List.set_cons_zero, List.set_cons_succ, List.getElem_toArray, List.getElem_cons_zero, List.getElem_cons_succ]
  have c0 := blk_cell HS.out.r 0
  have c1 := blk_cell HS.out.r 1
  have c2 := blk_cell HS.out.r 2
  have f0 := blk_free HS.out.r 0
  have f1 := blk_free HS.out.r 1
  have f2 := blk_free HS.out.r 2
  have hS3 := gl_set (gl_set (gl_set hSS (b := w.heap.size + 1) (Nat.succ_ne_zero _).symm 0 (.int .i64 0)) (b := w.heap.size + 1) (Nat.succ_ne_zero _).symm 1 (.int .i64 0)) (b := w.heap.size + 1) (Nat.succ_ne_zero _).symm 2 (.int .i64 0)
  go_wp2_with fail
  refine ⟨fun _ => hS3, ?_⟩
  try simp only [List.setIfInBounds_toArray, List.set_cons_zero, List.set_cons_succ, List.getElem_toArray, List.getElem_cons_zero, List.getElem_cons_succ]
  refine wpAnyE_one (i := 3) (by kernel_rfl) rfl ?_
  change wpList _ _ (Exit.then _ _) [_] _ _
  try simp only [List.setIfInBounds_toArray, List.set_cons_zero, List.set_cons_succ, List.getElem_toArray, List.getElem_cons_zero, List.getElem_cons_succ]
  go_wp2_with fail
  refine ⟨fun _ => hS3, ?_⟩
  try simp only [List.setIfInBounds_toArray, List.set_cons_zero, List.set_cons_succ, List.getElem_toArray, List.getElem_cons_zero, List.getElem_cons_succ]
  refine wpAnyE_end (by kernel_rfl) ?_
  go_wp2_with fail
  refine bodyPost_ret (v := .tuple #[.agg #[.int .i64 0, .int .i64 0, .int .i64 0], .iface 165 (.pointer (some a))]) ?_ rfl ⟨rfl, ((HS.out.low.setCell (Nat.le_succ _) _).setCell (Nat.le_succ _) _).setCell (Nat.le_succ _) _⟩
  simp [results, Tryz.results62, go_sem, c0, c1, c2]
theorem due_reply_yes (w : World) (a : Addr) (bp : Option Addr) (sf : Int) (o t k o' t' k' : Int) (hg : Gl a w)
    (hAt : ∀ W, Below w.heap.size w W → Calls Tryz.prog 80 #[.pointer bp, .int .i64 sf] W fun e w' => e = .returned (.tuple #[nV o t k, .int .i64 0]) ∧ Below W.heap.size W w')
    (hRp : ∀ W, Calls Tryz.prog 81 #[nV o t k] W fun e w' => e = .returned (.tuple #[nV o' t' k', .int .i64 0]) ∧ Below W.heap.size W w') :
    Calls Tryz.prog 62 #[.agg #[.pointer bp, .int .i64 sf]] w fun e w' => e = .returned (.tuple #[nV o' t' k', .nilIface]) ∧ Below w.heap.size w w' := by
  have HS := Lib.hid (DuS.new hg bp sf)
  have HA := Lib.hid hAt
  have HP := Lib.hid hRp
  unfold nV at HA HP ⊢
  clear hg hAt hRp
  go_enter Tryz.func62, Tryz.ntmps62
  go_upto_region 1 with fail
  generalize World.alloc (World.alloc w _) _ = W at *
  have d0 := blk_cell HS.out.d 0
  have d1 := blk_cell HS.out.d 1
  go_upto_region 4 with (go_at_call 80; refine (HA.out _ HS.out.low).mono ?_; rintro e w1 ⟨rfl, hB1⟩; have HS := Lib.hid (HS.out.below hB1); clear hB1 d0 d1)
  have HX := Lib.hid (show DuX w a bp sf (w1).heap.size o t k ((w1).alloc (.cells #[.int .i64 o, .int .i64 t, .int .i64 k] 60)) from ⟨HS.out.below ((Below.refl _ _).alloc (Nat.le_refl _) _), blk_new _ _, blk_lt HS.out.r⟩)
  clear HS
  obtain ⟨p, hp⟩ : ∃ p, (w1).heap.size = p := ⟨_, rfl⟩
  rw [hp] at HX
  (try rw [hp])
  clear hp
  generalize World.alloc w1 _ = W2 at *
  obtain ⟨⟨m0, m1, m2⟩, _⟩ := HX.out.cells
  go_upto_region 7 with (go_at_call 81; refine (HP.out _).mono ?_; rintro e w3 ⟨rfl, hB3⟩; have HX := Lib.hid (HX.out.below hB3); clear hB3 m0 m1 m2; obtain ⟨⟨m0, m1, m2⟩, ⟨f0, f1, f2⟩⟩ := HX.out.cells)
  have HX := Lib.hid (HX.out.set o' t' k')
  clear m0 m1 m2 f0 f1 f2
  generalize ((World.setCell w3 _ _).setCell _ _).setCell _ _ = W3 at *
  obtain ⟨⟨m0, m1, m2⟩, _⟩ := HX.out.cells
  have c0 := blk_cell HX.out.s.r 0
  have c1 := blk_cell HX.out.s.r 1
  have c2 := blk_cell HX.out.s.r 2
  have f0 := blk_free HX.out.s.r 0
  have f1 := blk_free HX.out.s.r 1
  have f2 := blk_free HX.out.s.r 2
  go_wp2_with fail
  refine bodyPost_ret (v := .tuple #[.agg #[.int .i64 o', .int .i64 t', .int .i64 k'], .nilIface]) ?_ rfl ⟨rfl, ((HX.out.s.low.setCell (Nat.le_succ _) _).setCell (Nat.le_succ _) _).setCell (Nat.le_succ _) _⟩
  simp [results, Tryz.results62, go_sem, c0, c1, c2]
end Go.Proofs.YtbjlnlgknegbnaaGreatDoor
namespace Go.Proofs.YtbjlnlgknegbnaaGreatDoor
set_option linter.unusedVariables false
set_option linter.unusedSimpArgs false
open Go.RowKit

theorem due_any {w : World} {B g cp : Nat} {R : List Nat} {a : Addr} (h : Tb w B g cp R) (hg : Gl a w) (sf : Int) :
    Calls Tryz.prog 62 #[.agg #[.pointer (some ⟨B, 0, none⟩), .int .i64 sf]] w fun e w' => e = .returned (.tuple #[dueV (dueN R sf) sf, errV a (dueN R sf)]) ∧ Below w.heap.size w w' := by
  by_cases hin : 0 ≤ sf ∧ sf < (R.length : Int)
  · obtain ⟨i, rfl⟩ : ∃ i : Nat, sf = (i : Int) := ⟨sf.toNat, by omega⟩
    have hi : i < R.length := by omega
    obtain ⟨q, hq, hqd, hql⟩ := h.get hi
    have hA : ∀ W, Below w.heap.size w W → Calls Tryz.prog 80 #[.pointer (some ⟨B, 0, none⟩), .int .i64 (i : Int)] W fun e w' => e = .returned (.tuple #[nV (i : Int) (tgN q : Nat) (kdN q : Nat), .int .i64 0]) ∧ Below W.heap.size W w' := by
      intro W hW
      have := at_any (h.below hW) (i : Int)
      unfold atV at this
      rwa [if_pos hin, Int.toNat_natCast, hqd] at this
    by_cases hk : kdN q = 2
    · by_cases ht : tgN q = 1048576
      · have hd : dueN R (i : Int) = none := by unfold dueN; rw [if_pos hin, Int.toNat_natCast, hqd, if_neg (fun hh => hh.2 ht)]
        rw [hd]
        exact due_reply_no w a _ (i : Int) _ _ _ 120 undef hg (by decide) hA (fun W => by have := reply_nat i q hql W; rwa [show rpV i q = .tuple #[nV 0 0 0, .int .i64 120] from by unfold rpV; rw [if_pos hk, if_pos ht]] at this)
      · have hd : dueN R (i : Int) = some (q + 1) := by unfold dueN; rw [if_pos hin, Int.toNat_natCast, hqd, if_pos ⟨hk, ht⟩]
        rw [hd]
        have e1 : ((tgN (q + 1) : Nat) : Int) = ((tgN q : Nat) : Int) + 1 := by unfold tgN kdN at *; omega
        have e2 : ((kdN (q + 1) : Nat) : Int) = 1 := by unfold tgN kdN at *; omega
        show Calls _ _ _ _ fun e w' => e = .returned (.tuple #[nV (i : Int) (tgN (q + 1) : Nat) (kdN (q + 1) : Nat), .nilIface]) ∧ _
        rw [e1, e2]
        exact due_reply_yes w a _ (i : Int) _ _ _ _ _ _ hg hA (fun W => by have := reply_nat i q hql W; rwa [show rpV i q = .tuple #[nV (i : Int) (((tgN q : Nat) : Int) + 1) 1, .int .i64 0] from by unfold rpV; rw [if_pos hk, if_neg ht]] at this)
    · have hd : dueN R (i : Int) = none := by unfold dueN; rw [if_pos hin, Int.toNat_natCast, hqd, if_neg (fun hh => hk hh.1)]
      rw [hd]
      exact due_reply_no w a _ (i : Int) _ _ _ 50 undef hg (by decide) hA (fun W => by have := reply_nat i q hql W; rwa [show rpV i q = .tuple #[nV 0 0 0, .int .i64 50] from by unfold rpV; rw [if_neg hk]] at this)
  · have hd : dueN R sf = none := if_neg hin
    rw [hd]
    exact due_at w a _ sf 0 0 0 30 hg (by decide) (fun W hW => by have := at_any (h.below hW) sf; unfold atV at this; rwa [if_neg hin] at this)
theorem due_nil {w : World} {a : Addr} (hg : Gl a w) (sf : Int) :
    Calls Tryz.prog 62 #[.agg #[.pointer none, .int .i64 sf]] w fun e w' => e = .returned (.tuple #[nV 0 0 0, .iface 165 (.pointer (some a))]) ∧ Below w.heap.size w w' :=
  due_at w a _ sf 0 0 0 30 hg (by decide) (fun W _ => at_nil sf W)
structure FoS (w : World) (a : Addr) (p : Nat) (o t k : Int) (W : World) : Prop where
  r : W.heap[w.heap.size]? = some (.cells #[.int .i64 0, .int .i64 0, .int .i64 0] 60 (0, 0))
  x : W.heap[p]? = some (.cells #[.int .i64 o, .int .i64 t, .int .i64 k] 60 (0, 0))
  gl : Gl a W
  low : Below w.heap.size w W
  pos : 0 < w.heap.size ∧ w.heap.size < p
theorem FoS.below {w W X : World} {a : Addr} {p : Nat} {o t k : Int} (h : FoS w a p o t k W) (hb : Below W.heap.size W X) : FoS w a p o t k X :=
  ⟨blk_below' hb h.r, blk_below' hb h.x, h.gl.below hb, below_then h.low hb, h.pos⟩
def Fo4 (a : Addr) (p : Nat) (o t k : Int) (W : World) : Prop := W.cell? ⟨0, 0, none⟩ = some (.iface 165 (.pointer (some a))) ∧ Bx3 p o t k W
theorem FoS.c4 {w W : World} {a : Addr} {p : Nat} {o t k : Int} (h : FoS w a p o t k W) : Fo4 a p o t k W := ⟨h.gl, blk_cell h.x 0, blk_cell h.x 1, blk_cell h.x 2⟩
theorem FoS.set {w W : World} {a : Addr} {p : Nat} {o t k : Int} (h : FoS w a p o t k W) (a' b' c' : Value) : Fo4 a p o t k (((W.setCell ⟨w.heap.size, 0, none⟩ a').setCell ⟨w.heap.size, 1, none⟩ b').setCell ⟨w.heap.size, 2, none⟩ c') := by
  have hp := h.pos
  have hp1 : p ≠ w.heap.size := by omega
  have hp2 : 0 ≠ w.heap.size := by omega
  have hx := blk_set (blk_set (blk_set h.x ⟨w.heap.size, 0, none⟩ a' hp1) ⟨w.heap.size, 1, none⟩ b' hp1) ⟨w.heap.size, 2, none⟩ c' hp1
  exact ⟨gl_set (gl_set (gl_set h.gl hp2 _ _) hp2 _ _) hp2 _ _, blk_cell hx 0, blk_cell hx 1, blk_cell hx 2⟩
set_option maxRecDepth 100000 in
theorem found_yes {w : World} {a : Addr} (hg : Gl a w) (bp : Option Addr) (sf o t k : Int)
    (hD : ∀ W, Below w.heap.size w W → Calls Tryz.prog 62 #[.agg #[.pointer bp, .int .i64 sf]] W fun e w' => e = .returned (.tuple #[nV o t k, .nilIface]) ∧ Below W.heap.size W w') :
    Calls Tryz.prog 61 #[.func (.func 62) #[.agg #[.pointer bp, .int .i64 sf]] #[]] w fun e w' => e = .returned (.tuple #[nV o t k, .bool true]) ∧ Below w.heap.size w w' := by
  have HI := Lib.hid (fun w => is_nil a w)
  have b0 := blk_new w (.cells #[.int .i64 0, .int .i64 0, .int .i64 0] 60)
  have HB0 := Lib.hid ((Below.refl w.heap.size w).alloc (Nat.le_refl _) (.cells #[.int .i64 0, .int .i64 0, .int .i64 0] 60))
  have HR := Lib.hid b0
  have HG := Lib.hid hg
  have HD := Lib.hid hD
  have HP := Lib.hid hg.lt
  clear hg b0 hD
  unfold nV at HD ⊢
  go_enter Tryz.func61, Tryz.ntmps61
  go_upto_region 1 with fail
  generalize World.alloc w _ = W at *
  go_upto_region 2 with (go_at_call 62; refine (HD.out _ HB0.out).mono ?_; rintro e w1 ⟨rfl, hB1⟩)
  have HS := Lib.hid (show FoS w a w1.heap.size o t k (w1.alloc (.cells #[.int .i64 o, .int .i64 t, .int .i64 k] 60)) from by
    have hb := below_then HB0.out hB1
    have hl := blk_lt (blk_below' hB1 HR.out)
    exact ⟨blk_old (blk_below' hB1 HR.out) _, blk_new _ _, HG.out.of (hb.alloc hb.size _), hb.alloc hb.size _, HP.out, hl⟩)
  obtain ⟨p, hp⟩ : ∃ p, w1.heap.size = p := ⟨_, rfl⟩
  rw [hp] at HS
  (try rw [hp])
  clear hp hB1
  generalize World.alloc w1 _ = W2 at *
  refine wp_region_early (Fo4 a p o t k) (fun _ => false) (by kernel_rfl) ?_
  simp only [List.size_toArray, List.length_cons, List.length_nil, Nat.reduceAdd, Array.replicate_succ, Array.replicate_zero, List.push_toArray, List.nil_append, List.cons_append]
  have HS := Lib.hid (HS.out.below ((Below.refl _ W2).drew))
  generalize World.drew W2 = W3 at *
  have hSS := HS.out.c4
  refine wpAnyE_take (i := 0) (v := ?_) rfl (by kernel_rfl) (by kernel_rfl) (by kernel_rfl) (by kernel_rfl) (fun _ _ _ h => h) (Or.inl ⟨by rfl, ?_⟩) hSS ?_
  rotate_left
  · intro w hSw
    obtain ⟨j0, j1, j2, j3⟩ := hSw
    go_simp
    all_goals with_reducible rfl
  simp only [Act.put, List.setIfInBounds_toArray, List.set_cons_zero, List.set_cons_succ, List.getElem_toArray, List.getElem_cons_zero, List.getElem_cons_succ]
  refine wpAnyE_take (i := 1) (v := ?_) rfl (by kernel_rfl) (by kernel_rfl) (by kernel_rfl) (by kernel_rfl) (fun _ _ _ h => h) (Or.inl ⟨by rfl, ?_⟩) hSS ?_
  rotate_left
  · intro w hSw
    obtain ⟨j0, j1, j2, j3⟩ := hSw
    go_simp
    all_goals with_reducible rfl
  simp only [Act.put, List.setIfInBounds_toArray, List.set_cons_zero, List.set_cons_succ, List.getElem_toArray, List.getElem_cons_zero, List.getElem_cons_succ]
  refine wpAnyE_take (i := 2) (v := ?_) rfl (by kernel_rfl) (by kernel_rfl) (by kernel_rfl) (by kernel_rfl) (fun _ _ _ h => h) (Or.inl ⟨by rfl, ?_⟩) hSS ?_
  rotate_left
  · intro w hSw
    obtain ⟨j0, j1, j2, j3⟩ := hSw
    go_simp
    all_goals with_reducible rfl
  simp only [Act.put, List.setIfInBounds_toArray, List.set_cons_zero, List.set_cons_succ, List.getElem_toArray, List.getElem_cons_zero, List.getElem_cons_succ]
  refine wpAnyE_one (i := 3) (by kernel_rfl) rfl ?_
  change wpList _ _ (Exit.then _ _) [_] _ _
  try simp only [List.setIfInBounds_toArray, List.set_cons_zero, List.set_cons_succ, List.getElem_toArray, List.getElem_cons_zero, List.getElem_cons_succ]
  go_wp2_with (go_at_call 79; refine (HI.out _).mono ?_; rintro e w4 ⟨rfl, rfl⟩)
  refine ⟨fun _ => hSS, ?_⟩
  try simp only [List.setIfInBounds_toArray, List.set_cons_zero, List.set_cons_succ, List.getElem_toArray, List.getElem_cons_zero, List.getElem_cons_succ]
  refine wpAnyE_take (i := 4) (v := ?_) rfl (by kernel_rfl) (by kernel_rfl) (by kernel_rfl) (by kernel_rfl) (fun _ _ _ h => h) (Or.inl ⟨by rfl, ?_⟩) hSS ?_
  rotate_left
  · intro w hSw
    obtain ⟨j0, j1, j2, j3⟩ := hSw
    go_simp
    all_goals with_reducible rfl
  simp only [Act.put, List.setIfInBounds_toArray, List.set_cons_zero, List.set_cons_succ, List.getElem_toArray, List.getElem_cons_zero, List.getElem_cons_succ]
  refine wpAnyE_one (i := 5) (by kernel_rfl) rfl ?_
  change wpList _ _ (Exit.then _ _) [_] _ _
  try simp only [List.setIfInBounds_toArray, List.set_cons_zero, List.set_cons_succ, List.getElem_toArray, List.getElem_cons_zero, List.getElem_cons_succ]
  have c0 := blk_cell HS.out.r 0
  have c1 := blk_cell HS.out.r 1
  have c2 := blk_cell HS.out.r 2
  have f0 := blk_free HS.out.r 0
  have f1 := blk_free HS.out.r 1
  have f2 := blk_free HS.out.r 2
  have hS2 := HS.out.set (.int .i64 o) (.int .i64 t) (.int .i64 k)
  go_wp2_with fail
  refine ⟨fun _ => hS2, ?_⟩
  try simp only [List.setIfInBounds_toArray, List.set_cons_zero, List.set_cons_succ, List.getElem_toArray, List.getElem_cons_zero, List.getElem_cons_succ]
  refine wpAnyE_one (i := 6) (by kernel_rfl) rfl ?_
  change wpList _ _ (Exit.then _ _) [_] _ _
  try simp only [List.setIfInBounds_toArray, List.set_cons_zero, List.set_cons_succ, List.getElem_toArray, List.getElem_cons_zero, List.getElem_cons_succ]
  go_wp2_with fail
  refine ⟨fun _ => hS2, ?_⟩
  try simp only [List.setIfInBounds_toArray, List.set_cons_zero, List.set_cons_succ, List.getElem_toArray, List.getElem_cons_zero, List.getElem_cons_succ]
  refine wpAnyE_end (by kernel_rfl) ?_
  go_wp2_with fail
  refine bodyPost_ret (v := .tuple #[.agg #[.int .i64 o, .int .i64 t, .int .i64 k], .bool true]) ?_ rfl ⟨rfl, ((HS.out.low.setCell (Nat.le_refl _) _).setCell (Nat.le_refl _) _).setCell (Nat.le_refl _) _⟩
  simp [results, Tryz.results61, go_sem, c0, c1, c2]
set_option maxRecDepth 100000 in
theorem found_no {w : World} {a : Addr} (hg : Gl a w) (bp : Option Addr) (sf o t k : Int)
    (hD : ∀ W, Below w.heap.size w W → Calls Tryz.prog 62 #[.agg #[.pointer bp, .int .i64 sf]] W fun e w' => e = .returned (.tuple #[nV o t k, .iface 165 (.pointer (some a))]) ∧ Below W.heap.size W w') :
    Calls Tryz.prog 61 #[.func (.func 62) #[.agg #[.pointer bp, .int .i64 sf]] #[]] w fun e w' => e = .returned (.tuple #[nV o t k, .bool false]) ∧ Below w.heap.size w w' := by
  have HI := Lib.hid (fun w => is_same a w)
  have b0 := blk_new w (.cells #[.int .i64 0, .int .i64 0, .int .i64 0] 60)
  have HB0 := Lib.hid ((Below.refl w.heap.size w).alloc (Nat.le_refl _) (.cells #[.int .i64 0, .int .i64 0, .int .i64 0] 60))
  have HR := Lib.hid b0
  have HG := Lib.hid hg
  have HD := Lib.hid hD
  have HP := Lib.hid hg.lt
  clear hg b0 hD
  unfold nV at HD ⊢
  go_enter Tryz.func61, Tryz.ntmps61
  go_upto_region 1 with fail
  generalize World.alloc w _ = W at *
  go_upto_region 2 with (go_at_call 62; refine (HD.out _ HB0.out).mono ?_; rintro e w1 ⟨rfl, hB1⟩)
  have HS := Lib.hid (show FoS w a w1.heap.size o t k (w1.alloc (.cells #[.int .i64 o, .int .i64 t, .int .i64 k] 60)) from by
    have hb := below_then HB0.out hB1
    have hl := blk_lt (blk_below' hB1 HR.out)
    exact ⟨blk_old (blk_below' hB1 HR.out) _, blk_new _ _, HG.out.of (hb.alloc hb.size _), hb.alloc hb.size _, HP.out, hl⟩)
  obtain ⟨p, hp⟩ : ∃ p, w1.heap.size = p := ⟨_, rfl⟩
  rw [hp] at HS
  (try rw [hp])
  clear hp hB1
  generalize World.alloc w1 _ = W2 at *
  refine wp_region_early (Fo4 a p o t k) (fun _ => false) (by kernel_rfl) ?_
  simp only [List.size_toArray, List.length_cons, List.length_nil, Nat.reduceAdd, Array.replicate_succ, Array.replicate_zero, List.push_toArray, List.nil_append, List.cons_append]
  have HS := Lib.hid (HS.out.below ((Below.refl _ W2).drew))
  generalize World.drew W2 = W3 at *
  have hSS := HS.out.c4
  refine wpAnyE_take (i := 0) (v := ?_) rfl (by kernel_rfl) (by kernel_rfl) (by kernel_rfl) (by kernel_rfl) (fun _ _ _ h => h) (Or.inl ⟨by rfl, ?_⟩) hSS ?_
  rotate_left
  · intro w hSw
    obtain ⟨j0, j1, j2, j3⟩ := hSw
    go_simp
    all_goals with_reducible rfl
  simp only [Act.put, List.setIfInBounds_toArray, List.set_cons_zero, List.set_cons_succ, List.getElem_toArray, List.getElem_cons_zero, List.getElem_cons_succ]
  refine wpAnyE_take (i := 1) (v := ?_) rfl (by kernel_rfl) (by kernel_rfl) (by kernel_rfl) (by kernel_rfl) (fun _ _ _ h => h) (Or.inl ⟨by rfl, ?_⟩) hSS ?_
  rotate_left
  · intro w hSw
    obtain ⟨j0, j1, j2, j3⟩ := hSw
    go_simp
    all_goals with_reducible rfl
  simp only [Act.put, List.setIfInBounds_toArray, List.set_cons_zero, List.set_cons_succ, List.getElem_toArray, List.getElem_cons_zero, List.getElem_cons_succ]
  refine wpAnyE_take (i := 2) (v := ?_) rfl (by kernel_rfl) (by kernel_rfl) (by kernel_rfl) (by kernel_rfl) (fun _ _ _ h => h) (Or.inl ⟨by rfl, ?_⟩) hSS ?_
  rotate_left
  · intro w hSw
    obtain ⟨j0, j1, j2, j3⟩ := hSw
    go_simp
    all_goals with_reducible rfl
  simp only [Act.put, List.setIfInBounds_toArray, List.set_cons_zero, List.set_cons_succ, List.getElem_toArray, List.getElem_cons_zero, List.getElem_cons_succ]
  refine wpAnyE_one (i := 3) (by kernel_rfl) rfl ?_
  change wpList _ _ (Exit.then _ _) [_] _ _
  try simp only [List.setIfInBounds_toArray, List.set_cons_zero, List.set_cons_succ, List.getElem_toArray, List.getElem_cons_zero, List.getElem_cons_succ]
  go_wp2_with (go_at_call 79; refine (HI.out _).mono ?_; rintro e w4 ⟨rfl, rfl⟩)
  refine ⟨fun _ => hSS, ?_⟩
  try simp only [List.setIfInBounds_toArray, List.set_cons_zero, List.set_cons_succ, List.getElem_toArray, List.getElem_cons_zero, List.getElem_cons_succ]
  refine wpAnyE_take (i := 4) (v := ?_) rfl (by kernel_rfl) (by kernel_rfl) (by kernel_rfl) (by kernel_rfl) (fun _ _ _ h => h) (Or.inl ⟨by rfl, ?_⟩) hSS ?_
  rotate_left
  · intro w hSw
    obtain ⟨j0, j1, j2, j3⟩ := hSw
    go_simp
    all_goals with_reducible rfl
  simp only [Act.put, List.setIfInBounds_toArray, List.set_cons_zero, List.set_cons_succ, List.getElem_toArray, List.getElem_cons_zero, List.getElem_cons_succ]
  refine wpAnyE_one (i := 5) (by kernel_rfl) rfl ?_
  change wpList _ _ (Exit.then _ _) [_] _ _
  try simp only [List.setIfInBounds_toArray, List.set_cons_zero, List.set_cons_succ, List.getElem_toArray, List.getElem_cons_zero, List.getElem_cons_succ]
  have c0 := blk_cell HS.out.r 0
  have c1 := blk_cell HS.out.r 1
  have c2 := blk_cell HS.out.r 2
  have f0 := blk_free HS.out.r 0
  have f1 := blk_free HS.out.r 1
  have f2 := blk_free HS.out.r 2
  have hS2 := HS.out.set (.int .i64 o) (.int .i64 t) (.int .i64 k)
  go_wp2_with fail
  refine ⟨fun _ => hS2, ?_⟩
  try simp only [List.setIfInBounds_toArray, List.set_cons_zero, List.set_cons_succ, List.getElem_toArray, List.getElem_cons_zero, List.getElem_cons_succ]
  refine wpAnyE_one (i := 6) (by kernel_rfl) rfl ?_
  change wpList _ _ (Exit.then _ _) [_] _ _
  try simp only [List.setIfInBounds_toArray, List.set_cons_zero, List.set_cons_succ, List.getElem_toArray, List.getElem_cons_zero, List.getElem_cons_succ]
  go_wp2_with fail
  refine ⟨fun _ => hS2, ?_⟩
  try simp only [List.setIfInBounds_toArray, List.set_cons_zero, List.set_cons_succ, List.getElem_toArray, List.getElem_cons_zero, List.getElem_cons_succ]
  refine wpAnyE_end (by kernel_rfl) ?_
  go_wp2_with fail
  refine bodyPost_ret (v := .tuple #[.agg #[.int .i64 o, .int .i64 t, .int .i64 k], .bool false]) ?_ rfl ⟨rfl, ((HS.out.low.setCell (Nat.le_refl _) _).setCell (Nat.le_refl _) _).setCell (Nat.le_refl _) _⟩
  simp [results, Tryz.results61, go_sem, c0, c1, c2]
set_option maxRecDepth 100000 in
theorem rdue_of {w : World} (bp : Option Addr) (sf o t k : Int) (b : Bool)
    (hF : ∀ W, Below w.heap.size w W → Calls Tryz.prog 61 #[.func (.func 62) #[.agg #[.pointer bp, .int .i64 sf]] #[]] W fun e w' => e = .returned (.tuple #[nV o t k, .bool b]) ∧ Below W.heap.size W w') :
    Calls Tryz.prog 41 #[.pointer bp, .int .i64 sf] w fun e w' => e = .returned (.tuple #[nV o t k, .bool b]) ∧ Below w.heap.size w w' := by
  have hmf : ∀ (fn : Fn) (first cap : Array Value) (w : World), (Instr.makeFunc fn first cap).run Tryz.prog w = .ok (.func fn first cap) w := fun _ _ _ _ => rfl
  have HF := Lib.hid hF
  clear hF
  unfold nV at HF ⊢
  have hb := ((Below.refl w.heap.size w).alloc (Nat.le_refl _) (.cells #[.int .i64 0, .int .i64 0, .int .i64 0] 60)).alloc (by simp) (.cells #[.pointer bp, .int .i64 sf] 123)
  have b0 := blk_old (blk_new w (.cells #[.int .i64 0, .int .i64 0, .int .i64 0] 60)) (.cells #[.pointer bp, .int .i64 sf] 123)
  have d0 := blk_cell (b1 w (.cells #[.int .i64 0, .int .i64 0, .int .i64 0] 60) (.cells #[.pointer bp, .int .i64 sf] 123))
  go_enter Tryz.func41, Tryz.ntmps41
  go_upto_region 2 with fail
  generalize World.alloc (World.alloc w _) _ = W at *
  have q0 := d0 0
  have q1 := d0 1
  clear d0
  have HB := Lib.hid hb
  have HR := Lib.hid b0
  clear hb b0
  go_wp2_with fail
  refine (HF.out _ HB.out).mono ?_
  rintro e w1 ⟨rfl, hB1⟩
  have r0 := blk_below' hB1 HR.out
  have c0 := blk_cell r0 0
  have c1 := blk_cell r0 1
  have c2 := blk_cell r0 2
  have f0 := blk_free r0 0
  have f1 := blk_free r0 1
  have f2 := blk_free r0 2
  have hb2 := below_then HB.out hB1
  clear r0 hB1 q0 q1
  go_wp2_with fail
  refine bodyPost_ret (v := .tuple #[.agg #[.int .i64 o, .int .i64 t, .int .i64 k], .bool b]) ?_ rfl ⟨rfl, ((hb2.setCell (Nat.le_refl _) _).setCell (Nat.le_refl _) _).setCell (Nat.le_refl _) _⟩
  simp [results, Tryz.results41, go_sem, c0, c1, c2]
/-- Due's answer. -/
theorem rdue_any {w : World} {B g cp : Nat} {R : List Nat} {a : Addr} (h : Tb w B g cp R) (hg : Gl a w) (sf : Int) :
    Calls Tryz.prog 41 #[.pointer (some ⟨B, 0, none⟩), .int .i64 sf] w fun e w' => e = .returned (.tuple #[dueV (dueN R sf) sf, .bool (dueN R sf).isSome]) ∧ Below w.heap.size w w' := by
  have hD : ∀ W, Below w.heap.size w W → Calls Tryz.prog 62 #[.agg #[.pointer (some ⟨B, 0, none⟩), .int .i64 sf]] W fun e w' => e = .returned (.tuple #[dueV (dueN R sf) sf, errV a (dueN R sf)]) ∧ Below W.heap.size W w' := fun W hW => due_any (h.below hW) (hg.of hW) sf
  cases hd : dueN R sf with
  | none =>
    rw [hd] at hD
    exact rdue_of _ sf 0 0 0 false fun W hW => found_no (hg.of hW) _ sf 0 0 0 fun X hX => hD X (below_then hW hX)
  | some r =>
    rw [hd] at hD
    exact rdue_of _ sf sf (tgN r : Nat) (kdN r : Nat) true fun W hW => found_yes (hg.of hW) _ sf _ _ _ fun X hX => hD X (below_then hW hX)
theorem rdue_nil {w : World} {a : Addr} (hg : Gl a w) (sf : Int) :
    Calls Tryz.prog 41 #[.pointer none, .int .i64 sf] w fun e w' => e = .returned (.tuple #[nV 0 0 0, .bool false]) ∧ Below w.heap.size w w' :=
  rdue_of _ sf 0 0 0 false fun W hW => found_no (hg.of hW) _ sf 0 0 0 fun X hX => due_nil (hg.of (below_then hW hX)) sf
end Go.Proofs.YtbjlnlgknegbnaaGreatDoor
namespace Go.Proofs.YtbjlnlgknegbnaaGreatDoor
set_option linter.unusedVariables false
set_option linter.unusedSimpArgs false
open Go.RowKit

/-- A book without a list. -/
def Zb (W : World) (B : Nat) : Prop := W.heap[B]? = some (.cells #[.slice none 0 0] 93 (0, 0))
theorem list_zero {w : World} {B : Nat} (h : Zb w B) : Calls Tryz.prog 47 #[.pointer (some ⟨B, 0, none⟩)] w fun e w' => e = .returned (.slice none 0 0) ∧ w' = w := by
  have b0 := blk_cell h 0
  clear h
  go_enter Tryz.func47, Tryz.ntmps47
  go_wp2
  go_ret
  exact ⟨rfl, rfl⟩
theorem size_zero {w : World} {B : Nat} (h : Zb w B) : Calls Tryz.prog 34 #[.pointer (some ⟨B, 0, none⟩)] w fun e w' => e = .returned (.int .i64 0) ∧ w' = w := by
  have HL := Lib.hid (list_zero h)
  clear h
  go_enter Tryz.func34, Tryz.ntmps34
  go_wp2_with (go_at_call 47; refine HL.out.mono ?_; rintro e w1 ⟨rfl, rfl⟩)
  go_ret
  exact ⟨rfl, rfl⟩
set_option maxRecDepth 100000 in
theorem at_zero {w : World} {B : Nat} (h : Zb w B) (id : Int) :
    Calls Tryz.prog 80 #[.pointer (some ⟨B, 0, none⟩), .int .i64 id] w fun e w' => e = .returned (.tuple #[nV 0 0 0, .int .i64 30]) ∧ Below w.heap.size w w' := by
  have HZ : Hid (∀ W : World, Zb W B → Calls Tryz.prog 34 #[.pointer (some ⟨B, 0, none⟩)] W fun e w' => e = .returned (.int .i64 0) ∧ w' = W) := Lib.hid fun W hW => size_zero hW
  have HT : Hid (Zb (w.alloc (.cells #[.int .i64 0, .int .i64 0, .int .i64 0] 60)) B) := Lib.hid (blk_old h _)
  clear h
  by_cases h : id < 0
  · skip
    have b0 := blk_new w (.cells #[.int .i64 0, .int .i64 0, .int .i64 0] 60)
    have k0 := blk_cell b0 0
    have k1 := blk_cell b0 1
    have k2 := blk_cell b0 2
    have f0 := blk_free b0 0
    have f1 := blk_free b0 1
    have f2 := blk_free b0 2
    unfold nV
    go_enter Tryz.func80, Tryz.ntmps80
    go_wp2_with (go_at_call 34; refine (HZ.out _ HT.out).mono ?_; rintro e w1 ⟨rfl, rfl⟩)
    refine bodyPost_ret (v := .tuple #[.agg #[.int .i64 0, .int .i64 0, .int .i64 0], .int .i64 30]) ?_ rfl ⟨rfl, (Below.refl _ _).alloc (Nat.le_refl _) _⟩
    simp [results, Tryz.results80, go_sem, k0, k1, k2, f0, f1, f2]
  · have h1 : 0 ≤ id := by omega
    clear h
    have b0 := blk_new w (.cells #[.int .i64 0, .int .i64 0, .int .i64 0] 60)
    have k0 := blk_cell b0 0
    have k1 := blk_cell b0 1
    have k2 := blk_cell b0 2
    have f0 := blk_free b0 0
    have f1 := blk_free b0 1
    have f2 := blk_free b0 2
    unfold nV
    go_enter Tryz.func80, Tryz.ntmps80
    go_wp2_with (go_at_call 34; refine (HZ.out _ HT.out).mono ?_; rintro e w1 ⟨rfl, rfl⟩)
    refine bodyPost_ret (v := .tuple #[.agg #[.int .i64 0, .int .i64 0, .int .i64 0], .int .i64 30]) ?_ rfl ⟨rfl, (Below.refl _ _).alloc (Nat.le_refl _) _⟩
    simp [results, Tryz.results80, go_sem, k0, k1, k2, f0, f1, f2]
theorem rdue_zero {w : World} {B : Nat} {a : Addr} (h : Zb w B) (hg : Gl a w) (sf : Int) :
    Calls Tryz.prog 41 #[.pointer (some ⟨B, 0, none⟩), .int .i64 sf] w fun e w' => e = .returned (.tuple #[nV 0 0 0, .bool false]) ∧ Below w.heap.size w w' :=
  rdue_of _ sf 0 0 0 false fun W hW => found_no (hg.of hW) _ sf 0 0 0 fun X hX => due_at X a _ sf 0 0 0 30 (hg.of (below_then hW hX)) (by decide) fun Y hY => at_zero (blk_below' (below_then (below_then hW hX) hY) h) sf
set_option maxRecDepth 100000 in
set_option maxHeartbeats 1000000 in
theorem merge_nil {w : World} (v : Value) (xs : List (List Int)) (hrow : RowsOf w 3 v xs) :
    Calls Tryz.prog 14 #[.pointer none, v] w fun e w' => (∃ (y : Nat) (er : Int), e = .returned (.tuple #[setV y, .int .i64 er])) ∧ Below w.heap.size w w' := by
  have hb0 := ((Below.refl w.heap.size w).alloc (Nat.le_refl _) (.cells #[.pointer none] 41)).alloc (by simp) (.cells (setC 0) 54)
  have hx0 := blk_old (blk_new w (.cells #[.pointer none] 41)) (.cells (setC 0) 54)
  have hr0 := b1 w (.cells #[.pointer none] 41) (.cells (setC 0) 54)
  rw [← setC_zero] at hb0 hx0 hr0
  cases xs with
  | nil =>
    obtain ⟨p, cap, rfl, hm1, hm2, _⟩ := hrow
    clear hm1 hm2
    have hmf : ∀ (fn : Fn) (first cap : Array Value) (w : World), (Instr.makeFunc fn first cap).run Tryz.prog w = .ok (.func fn first cap) w := fun _ _ _ _ => rfl
    go_enter Tryz.func14, Tryz.ntmps14
    go_wp2_with fail
    generalize World.alloc (World.alloc w _) _ = W0 at *
    go_loopw [14] (fun iv wr => iv = .int .i64 0 ∧ wr = W0) (fun iv _ => 0)
    case atStart => exact ⟨rfl, rfl⟩
    case round =>
      obtain ⟨rfl, rfl⟩ := hrel
      have hal := blk_old hr0 (.cells #[.int .u32 0, .int .u32 0, .int .u32 0, .int .u32 0] 54)
      have hs := blk_new wr (.cells #[.int .u32 0, .int .u32 0, .int .u32 0, .int .u32 0] 54)
      have hbl := hb0.alloc hb0.size (.cells #[.int .u32 0, .int .u32 0, .int .u32 0, .int .u32 0] 54)
      clear hx0 hr0 hb0
      go_upto_region 9 with fail
      obtain ⟨cx, hcx⟩ : ∃ cx, wr.heap.size = cx := ⟨_, rfl⟩
      rw [hcx] at hs
      (try rw [hcx])
      clear hcx
      generalize World.alloc wr _ = W1 at *
      go_wp2_with fail
      go_loopw [28] (fun iv wr => iv = .int .i64 0 ∧ wr = W1) (fun iv _ => 0)
      case atStart => exact ⟨rfl, rfl⟩
      case round =>
        obtain ⟨rfl, rfl⟩ := hrel
        rw [setC_zero] at hal hs
        obtain ⟨q0, q1, q2, q3, _⟩ := set_cells hs
        obtain ⟨u0, u1, u2, u3, f0, f1, f2, f3⟩ := set_cells hal
        have HBL := Lib.hid hbl
        clear hbl hs hal
        go_wp2_with fail
        refine bodyPost_ret (v := .tuple #[.agg (setC 0), .int .i64 0]) ?_ rfl ⟨⟨0, 0, rfl⟩, (((HBL.out.setCell (Nat.le_succ _) _).setCell (Nat.le_succ _) _).setCell (Nat.le_succ _) _).setCell (Nat.le_succ _) _⟩
        simp [results, Tryz.results14, go_sem, setC, q0, q1, q2, q3, u0, u1, u2, u3]
  | cons x xs =>
    obtain ⟨o, t, d, gx, ox, cap', hx, hv, r0, r1, r2⟩ := rows3 (hrow.below hb0) (show 0 < (x :: xs).length by simp)
    obtain ⟨p, cap, rfl, hm1, hm2, _⟩ := hrow
    injection hv with hv1 hv2 hv3
    subst hv1 hv3
    clear hm1 hm2 hx
    have hlen : (0 : Int) < ((x :: xs).length : Int) := Int.natCast_pos.2 (by simp)
    generalize (x :: xs).length = N at *
    have HZ := Lib.hid size_nil
    have HV := Lib.hid (fun w => valid_any 0 o t d w)
    rw [show vN 0 o t d = false from decide_eq_false (by omega)] at HV
    unfold nV at HV
    go_enter Tryz.func14, Tryz.ntmps14
    go_wp2_with fail
    generalize World.alloc (World.alloc w _) _ = W0 at *
    go_loopw [14] (fun iv wr => iv = .int .i64 0 ∧ wr = W0) (fun iv _ => 0)
    case atStart => exact ⟨rfl, rfl⟩
    case round =>
      obtain ⟨rfl, rfl⟩ := hrel
      simp only [Nat.zero_mul, Nat.add_zero] at r0 r1 r2
      have hal := (Below.refl wr.heap.size wr).alloc (Nat.le_refl _) (.cells #[.int .i64 o, .int .i64 t, .int .i64 d] 60)
      have hxb := blk_old hx0 (.cells #[.int .i64 o, .int .i64 t, .int .i64 d] 60)
      have hrb := blk_old hr0 (.cells #[.int .i64 o, .int .i64 t, .int .i64 d] 60)
      have hnb := blk_new wr (.cells #[.int .i64 o, .int .i64 t, .int .i64 d] 60)
      have HB := Lib.hid (below_then hb0 hal)
      go_upto_region 4 with fail
      obtain ⟨px, hpx⟩ : ∃ px, wr.heap.size = px := ⟨_, rfl⟩
      rw [hpx] at hnb
      (try rw [hpx])
      clear hpx r0 r1 r2 hx0 hr0 hb0 hal
      generalize World.alloc wr _ = W1 at *
      refine wp_region_early (fun w' => w'.cell? ⟨w.heap.size, 0, none⟩ = some (.pointer none) ∧ Bx3 px o t d w') (fun _ => false) (by kernel_rfl) ?_
      simp only [List.size_toArray, List.length_cons, List.length_nil, Nat.reduceAdd, Array.replicate_succ, Array.replicate_zero, List.push_toArray, List.nil_append, List.cons_append]
      have HB := Lib.hid (below_then HB.out ((Below.refl _ W1).drew))
      have HX := Lib.hid (blk_below' ((Below.refl _ W1).drew) hxb)
      have HR := Lib.hid (blk_below' ((Below.refl _ W1).drew) hrb)
      have HN := Lib.hid (blk_below' ((Below.refl _ W1).drew) hnb)
      clear hxb hrb hnb
      generalize World.drew W1 = W2 at *
      have hSS : W2.cell? ⟨w.heap.size, 0, none⟩ = some (.pointer none) ∧ Bx3 px o t d W2 := ⟨blk_cell HX.out 0, blk_cell HN.out 0, blk_cell HN.out 1, blk_cell HN.out 2⟩
      refine wpAnyE_take (i := 0) (v := ?_) rfl (by kernel_rfl) (by kernel_rfl) (by kernel_rfl) (by kernel_rfl) (fun _ _ _ h => h) (Or.inl ⟨by rfl, ?_⟩) hSS ?_
      rotate_left
      · intro w hSw
        obtain ⟨j0, j1, j2, j3⟩ := hSw
        go_simp
        all_goals with_reducible rfl
      simp only [Act.put, List.setIfInBounds_toArray, List.set_cons_zero, List.set_cons_succ, List.getElem_toArray, List.getElem_cons_zero, List.getElem_cons_succ]
      refine wpAnyE_take (i := 2) (v := ?_) rfl (by kernel_rfl) (by kernel_rfl) (by kernel_rfl) (by kernel_rfl) (fun _ _ _ h => h) (Or.inl ⟨by rfl, ?_⟩) hSS ?_
      rotate_left
      · intro w hSw
        obtain ⟨j0, j1, j2, j3⟩ := hSw
        go_simp
        all_goals with_reducible rfl
      simp only [Act.put, List.setIfInBounds_toArray, List.set_cons_zero, List.set_cons_succ, List.getElem_toArray, List.getElem_cons_zero, List.getElem_cons_succ]
      refine wpAnyE_one (i := 1) (by kernel_rfl) rfl ?_
      change wpList _ _ (Exit.then _ _) [_] _ _
      try simp only [List.setIfInBounds_toArray, List.set_cons_zero, List.set_cons_succ, List.getElem_toArray, List.getElem_cons_zero, List.getElem_cons_succ]
      go_wp2_with (go_at_call 34; refine (HZ.out _).mono ?_; rintro e w1 ⟨rfl, rfl⟩)
      refine ⟨fun _ => hSS, ?_⟩
      try simp only [List.setIfInBounds_toArray, List.set_cons_zero, List.set_cons_succ, List.getElem_toArray, List.getElem_cons_zero, List.getElem_cons_succ]
      refine wpAnyE_one (i := 3) (by kernel_rfl) rfl ?_
      change wpList _ _ (Exit.then _ _) [_] _ _
      try simp only [List.setIfInBounds_toArray, List.set_cons_zero, List.set_cons_succ, List.getElem_toArray, List.getElem_cons_zero, List.getElem_cons_succ]
      go_wp2_with (go_at_call 31; refine (HV.out _).mono ?_; rintro e w3 ⟨rfl, hB⟩)
      have HB := Lib.hid (below_then HB.out hB)
      have HR := Lib.hid (blk_below' hB HR.out)
      have hSS : w3.cell? ⟨w.heap.size, 0, none⟩ = some (.pointer none) ∧ Bx3 px o t d w3 := ⟨blk_cell (blk_below' hB HX.out) 0, blk_cell (blk_below' hB HN.out) 0, blk_cell (blk_below' hB HN.out) 1, blk_cell (blk_below' hB HN.out) 2⟩
      clear hB
      refine ⟨fun _ => hSS, ?_⟩
      try simp only [List.setIfInBounds_toArray, List.set_cons_zero, List.set_cons_succ, List.getElem_toArray, List.getElem_cons_zero, List.getElem_cons_succ]
      refine wpAnyE_take (i := 4) (v := ?_) rfl (by kernel_rfl) (by kernel_rfl) (by kernel_rfl) (by kernel_rfl) (fun _ _ _ h => h) (Or.inl ⟨by rfl, ?_⟩) hSS ?_
      rotate_left
      · intro w hSw
        obtain ⟨j0, j1, j2, j3⟩ := hSw
        go_simp
        all_goals with_reducible rfl
      simp only [Act.put, List.setIfInBounds_toArray, List.set_cons_zero, List.set_cons_succ, List.getElem_toArray, List.getElem_cons_zero, List.getElem_cons_succ]
      refine wpAnyE_end (by kernel_rfl) ?_
      have hr := HR.out
      rw [setC_zero] at hr
      obtain ⟨q0, q1, q2, q3, f0, f1, f2, f3⟩ := set_cells hr
      clear hr hSS
      go_wp2_with fail
      refine bodyPost_ret (v := .tuple #[.agg (setC 0), .int .i64 50]) ?_ rfl ⟨⟨0, 50, rfl⟩, (((HB.out.setCell (Nat.le_succ _) _).setCell (Nat.le_succ _) _).setCell (Nat.le_succ _) _).setCell (Nat.le_succ _) _⟩
      rw [← setC_zero]
      simp [results, Tryz.results14, go_sem, q0, q1, q2, q3]
theorem due_one {R : List Nat} {s : Nat} (hs : s < R.length) (h : kdN (R.getD s 0) = 1 ∨ tgN (R.getD s 0) = 1048576) : dueN R (s : Int) = none := by
  unfold dueN
  rw [if_pos ⟨by omega, by omega⟩, Int.toNat_natCast, if_neg]
  rintro ⟨h1, h2⟩
  rcases h with h | h <;> omega
theorem due_two {R : List Nat} {s q : Nat} (hs : s < R.length) (hq : R.getD s 0 = q) (h : kdN q = 2) (ht : tgN q ≠ 1048576) : dueN R (s : Int) = some (q + 1) := by
  unfold dueN
  rw [if_pos ⟨by omega, by omega⟩, Int.toNat_natCast, hq, if_pos ⟨h, ht⟩]
/-- The frame of the document's Due. -/
structure R15 (w : World) (g cp : Nat) (R : List Nat) (W : World) : Prop where
  b : W.heap[w.heap.size]? = some (.cells #[.slice (some ⟨g, 0, none⟩) R.length cp] 46 (0, 0))
  r : W.heap[w.heap.size + 1]? = some (.cells #[.int .i64 0, .int .i64 0, .int .i64 0] 60 (0, 0))
  nb : Nb W g cp R
  low : Below w.heap.size w W
theorem R15.new {w : World} {g cp : Nat} {R : List Nat} (h : Nb w g cp R) : R15 w g cp R ((w.alloc (.cells #[.slice (some ⟨g, 0, none⟩) R.length cp] 46)).alloc (.cells #[.int .i64 0, .int .i64 0, .int .i64 0] 60)) := by
  have hb := ((Below.refl w.heap.size w).alloc (Nat.le_refl _) (.cells #[.slice (some ⟨g, 0, none⟩) R.length cp] 46)).alloc (by simp) (.cells #[.int .i64 0, .int .i64 0, .int .i64 0] 60)
  exact ⟨blk_old (blk_new w _) _, b1 w _ _, h.below hb, hb⟩
theorem R15.below {w W X : World} {g cp : Nat} {R : List Nat} (h : R15 w g cp R W) (hb : Below W.heap.size W X) : R15 w g cp R X := ⟨blk_below' hb h.b, blk_below' hb h.r, h.nb.below hb, below_then h.low hb⟩
set_option maxRecDepth 100000 in
theorem r15_any {w : World} {g cp : Nat} {R : List Nat} (h : Nb w g cp R) (sf : Int) :
    Calls Tryz.prog 43 #[.agg #[.slice (some ⟨g, 0, none⟩) R.length cp], .int .i64 sf] w fun e w' => e = .returned (.tuple #[dueV (dueN R sf) sf, .bool (dueN R sf).isSome]) ∧ Below w.heap.size w w' := by
  have HS := Lib.hid (R15.new h)
  by_cases h1 : sf < 0
  · have hd : dueN R sf = none := if_neg (by omega)
    rw [hd]
    show Calls _ _ _ _ fun e w' => e = .returned (.tuple #[nV 0 0 0, .bool false]) ∧ _
    clear h hd
    have k0 := blk_cell HS.out.b 0
    have c0 := blk_cell HS.out.r 0
    have c1 := blk_cell HS.out.r 1
    have c2 := blk_cell HS.out.r 2
    have f0 := blk_free HS.out.r 0
    have f1 := blk_free HS.out.r 1
    have f2 := blk_free HS.out.r 2
    unfold nV
    go_enter Tryz.func43, Tryz.ntmps43
    go_upto_region 1 with fail
    generalize World.alloc (World.alloc w _) _ = W at *
    go_wp2_with fail
    refine bodyPost_ret (v := .tuple #[.agg #[.int .i64 0, .int .i64 0, .int .i64 0], .bool false]) ?_ rfl ⟨rfl, ((HS.out.low.setCell (Nat.le_succ _) _).setCell (Nat.le_succ _) _).setCell (Nat.le_succ _) _⟩
    simp [results, Tryz.results43, go_sem, c0, c1, c2]
  by_cases h2 : (R.length : Int) ≤ sf
  · have hd : dueN R sf = none := if_neg (by omega)
    rw [hd]
    show Calls _ _ _ _ fun e w' => e = .returned (.tuple #[nV 0 0 0, .bool false]) ∧ _
    have a1 : 0 ≤ sf := by omega
    clear h hd h1
    have k0 := blk_cell HS.out.b 0
    have c0 := blk_cell HS.out.r 0
    have c1 := blk_cell HS.out.r 1
    have c2 := blk_cell HS.out.r 2
    have f0 := blk_free HS.out.r 0
    have f1 := blk_free HS.out.r 1
    have f2 := blk_free HS.out.r 2
    unfold nV
    go_enter Tryz.func43, Tryz.ntmps43
    go_upto_region 1 with fail
    generalize World.alloc (World.alloc w _) _ = W at *
    go_wp2_with fail
    refine bodyPost_ret (v := .tuple #[.agg #[.int .i64 0, .int .i64 0, .int .i64 0], .bool false]) ?_ rfl ⟨rfl, ((HS.out.low.setCell (Nat.le_succ _) _).setCell (Nat.le_succ _) _).setCell (Nat.le_succ _) _⟩
    simp [results, Tryz.results43, go_sem, c0, c1, c2]
  obtain ⟨i, rfl⟩ : ∃ i : Nat, sf = (i : Int) := ⟨sf.toNat, by omega⟩
  have hi : i < R.length := by omega
  obtain ⟨q, hq, hqd, hql⟩ := h.get hi
  have HQ := Lib.hid hq
  have i1 : (i : Int) < (R.length : Int) := by omega
  have i2 : (0 : Int) ≤ (i : Int) := by omega
  have i3 : (i : Int).toNat = i := Int.toNat_natCast i
  have htl := tg_le hql
  have htI : ((tgN q : Nat) : Int) ≤ 1048576 := by omega
  have htI0 : (0 : Int) ≤ ((tgN q : Nat) : Int) := by omega
  by_cases hk : kdN q = 2
  · have c0 : (((kdN q : Nat) : Int) != 2) = false := by simp; omega
    by_cases ht : tgN q = 1048576
    · have hd : dueN R (i : Int) = none := due_one hi (.inr (by rw [hqd]; exact ht))
      rw [hd]
      show Calls _ _ _ _ fun e w' => e = .returned (.tuple #[nV 0 0 0, .bool false]) ∧ _
      have e1 : (1048576 : Int) ≤ ((tgN q : Nat) : Int) := by omega
      clear hk ht hd h hq hqd hql h1 h2 hi htl
      generalize hT : ((tgN q : Nat) : Int) = T at *
      generalize hK : ((kdN q : Nat) : Int) = K at *
      have k0 := blk_cell HS.out.b 0
      obtain ⟨⟨g0, g1, g2⟩, _⟩ := HS.out.nb.list.cells HQ.out
      unfold nV
      go_enter Tryz.func43, Tryz.ntmps43
      go_upto_region 1 with fail
      generalize World.alloc (World.alloc w _) _ = W at *
      go_upto_region 4 with fail
      have hal := (Below.refl W.heap.size W).alloc (Nat.le_refl _) (.cells #[.int .i64 (i : Int), .int .i64 T, .int .i64 K] 60)
      have HS := Lib.hid (HS.out.below hal)
      have hx := blk_new W (.cells #[.int .i64 (i : Int), .int .i64 T, .int .i64 K] 60)
      have x1 := blk_cell hx 1
      have x2 := blk_cell hx 2
      have c0 := blk_cell HS.out.r 0
      have c1 := blk_cell HS.out.r 1
      have c2 := blk_cell HS.out.r 2
      have f0 := blk_free HS.out.r 0
      have f1 := blk_free HS.out.r 1
      have f2 := blk_free HS.out.r 2
      clear hal hx k0 g0 g1 g2
      generalize World.alloc W _ = W2 at *
      go_wp2_with fail
      refine bodyPost_ret (v := .tuple #[.agg #[.int .i64 0, .int .i64 0, .int .i64 0], .bool false]) ?_ rfl ⟨rfl, ((HS.out.low.setCell (Nat.le_succ _) _).setCell (Nat.le_succ _) _).setCell (Nat.le_succ _) _⟩
      simp [results, Tryz.results43, go_sem, c0, c1, c2]
    · have hd : dueN R (i : Int) = some (q + 1) := due_two hi hqd hk ht
      rw [hd]
      have e1 : ((tgN (q + 1) : Nat) : Int) = ((tgN q : Nat) : Int) + 1 := by unfold tgN kdN at *; omega
      have e2 : ((kdN (q + 1) : Nat) : Int) = 1 := by unfold tgN kdN at *; omega
      show Calls _ _ _ _ fun e w' => e = .returned (.tuple #[nV (i : Int) (tgN (q + 1) : Nat) (kdN (q + 1) : Nat), .bool true]) ∧ _
      rw [e1, e2]
      have e3 : ¬ (1048576 : Int) ≤ ((tgN q : Nat) : Int) := by omega
      clear e1 e2 hk ht hd h hq hqd hql h1 h2 hi htl
      generalize hT : ((tgN q : Nat) : Int) = T at *
      generalize hK : ((kdN q : Nat) : Int) = K at *
      have e5 : IntKind.i64.wrap (T + 1) = T + 1 := IntWalk.i64_in _ (by omega)
      have k0 := blk_cell HS.out.b 0
      obtain ⟨⟨g0, g1, g2⟩, _⟩ := HS.out.nb.list.cells HQ.out
      unfold nV
      go_enter Tryz.func43, Tryz.ntmps43
      go_upto_region 1 with fail
      generalize World.alloc (World.alloc w _) _ = W at *
      go_upto_region 4 with fail
      have hal := (Below.refl W.heap.size W).alloc (Nat.le_refl _) (.cells #[.int .i64 (i : Int), .int .i64 T, .int .i64 K] 60)
      have HS := Lib.hid (HS.out.below hal)
      have hx := blk_new W (.cells #[.int .i64 (i : Int), .int .i64 T, .int .i64 K] 60)
      have x1 := blk_cell hx 1
      have x2 := blk_cell hx 2
      have c0 := blk_cell HS.out.r 0
      have c1 := blk_cell HS.out.r 1
      have c2 := blk_cell HS.out.r 2
      have f0 := blk_free HS.out.r 0
      have f1 := blk_free HS.out.r 1
      have f2 := blk_free HS.out.r 2
      clear hal hx k0 g0 g1 g2
      generalize World.alloc W _ = W2 at *
      go_wp2_with fail
      refine bodyPost_ret (v := .tuple #[.agg #[.int .i64 (i : Int), .int .i64 (T + 1), .int .i64 1], .bool true]) ?_ rfl ⟨rfl, ((HS.out.low.setCell (Nat.le_succ _) _).setCell (Nat.le_succ _) _).setCell (Nat.le_succ _) _⟩
      simp [results, Tryz.results43, go_sem, c0, c1, c2]
  · have hd : dueN R (i : Int) = none := due_one hi (.inl (by have := kd_le q; rw [hqd]; omega))
    rw [hd]
    show Calls _ _ _ _ fun e w' => e = .returned (.tuple #[nV 0 0 0, .bool false]) ∧ _
    have c0 : (((kdN q : Nat) : Int) != 2) = true := by simp; omega
    clear hk hd h hq hqd hql h1 h2 hi htl
    generalize hT : ((tgN q : Nat) : Int) = T at *
    generalize hK : ((kdN q : Nat) : Int) = K at *
    have k0 := blk_cell HS.out.b 0
    obtain ⟨⟨g0, g1, g2⟩, _⟩ := HS.out.nb.list.cells HQ.out
    unfold nV
    go_enter Tryz.func43, Tryz.ntmps43
    go_upto_region 1 with fail
    generalize World.alloc (World.alloc w _) _ = W at *
    go_upto_region 4 with fail
    have hal := (Below.refl W.heap.size W).alloc (Nat.le_refl _) (.cells #[.int .i64 (i : Int), .int .i64 T, .int .i64 K] 60)
    have HS := Lib.hid (HS.out.below hal)
    have hx := blk_new W (.cells #[.int .i64 (i : Int), .int .i64 T, .int .i64 K] 60)
    have x1 := blk_cell hx 1
    have x2 := blk_cell hx 2
    have c0 := blk_cell HS.out.r 0
    have c1 := blk_cell HS.out.r 1
    have c2 := blk_cell HS.out.r 2
    have f0 := blk_free HS.out.r 0
    have f1 := blk_free HS.out.r 1
    have f2 := blk_free HS.out.r 2
    clear hal hx k0 g0 g1 g2
    generalize World.alloc W _ = W2 at *
    go_wp2_with fail
    refine bodyPost_ret (v := .tuple #[.agg #[.int .i64 0, .int .i64 0, .int .i64 0], .bool false]) ?_ rfl ⟨rfl, ((HS.out.low.setCell (Nat.le_succ _) _).setCell (Nat.le_succ _) _).setCell (Nat.le_succ _) _⟩
    simp [results, Tryz.results43, go_sem, c0, c1, c2]
set_option maxRecDepth 100000 in
theorem r15_zero (sf : Int) (w : World) :
    Calls Tryz.prog 43 #[.agg #[.slice none 0 0], .int .i64 sf] w fun e w' => e = .returned (.tuple #[nV 0 0 0, .bool false]) ∧ Below w.heap.size w w' := by
  have hb := ((Below.refl w.heap.size w).alloc (Nat.le_refl _) (.cells #[.slice none 0 0] 46)).alloc (by simp) (.cells #[.int .i64 0, .int .i64 0, .int .i64 0] 60)
  have h0 := blk_old (blk_new w (.cells #[.slice none 0 0] 46)) (.cells #[.int .i64 0, .int .i64 0, .int .i64 0] 60)
  have h1 := b1 w (.cells #[.slice none 0 0] 46) (.cells #[.int .i64 0, .int .i64 0, .int .i64 0] 60)
  have k0 := blk_cell h0 0
  have c0 := blk_cell h1 0
  have c1 := blk_cell h1 1
  have c2 := blk_cell h1 2
  have f0 := blk_free h1 0
  have f1 := blk_free h1 1
  have f2 := blk_free h1 2
  have HB := Lib.hid hb
  clear hb h0 h1
  unfold nV
  by_cases h1 : sf < 0
  · go_enter Tryz.func43, Tryz.ntmps43
    go_upto_region 1 with fail
    generalize World.alloc (World.alloc w _) _ = W at *
    go_wp2_with fail
    refine bodyPost_ret (v := .tuple #[.agg #[.int .i64 0, .int .i64 0, .int .i64 0], .bool false]) ?_ rfl ⟨rfl, ((HB.out.setCell (Nat.le_succ _) _).setCell (Nat.le_succ _) _).setCell (Nat.le_succ _) _⟩
    simp [results, Tryz.results43, go_sem, c0, c1, c2]
  · have h2 : 0 ≤ sf := by omega
    clear h1
    go_enter Tryz.func43, Tryz.ntmps43
    go_upto_region 1 with fail
    generalize World.alloc (World.alloc w _) _ = W at *
    go_wp2_with fail
    refine bodyPost_ret (v := .tuple #[.agg #[.int .i64 0, .int .i64 0, .int .i64 0], .bool false]) ?_ rfl ⟨rfl, ((HB.out.setCell (Nat.le_succ _) _).setCell (Nat.le_succ _) _).setCell (Nat.le_succ _) _⟩
    simp [results, Tryz.results43, go_sem, c0, c1, c2]
end Go.Proofs.YtbjlnlgknegbnaaGreatDoor
namespace Go.Proofs.YtbjlnlgknegbnaaGreatDoor
set_option linter.unusedVariables false
set_option linter.unusedSimpArgs false
open Go.RowKit

/-- All but three blocks are as they were. -/
structure Ch3 (w w' : World) (b c g : Nat) : Prop where
  os : w'.os = w.os
  tape : w'.tape = w.tape
  output : w'.output = w.output
  size : w.heap.size ≤ w'.heap.size
  block : ∀ k, k < w.heap.size → k ≠ b → k ≠ c → k ≠ g → w'.heap[k]? = w.heap[k]?
theorem Ch3.two {w x : World} {b c : Nat} (h : Ch2 w x b c) (g : Nat) : Ch3 w x b c g := ⟨h.os, h.tape, h.output, h.size, fun k hk h1 h2 _ => h.block k hk h1 h2⟩
theorem Ch3.one {w x : World} {g : Nat} (h : w.grownBy x (some g)) (b c : Nat) : Ch3 w x b c g := ⟨h.1, h.2, h.3, h.4, fun k hk _ _ hne => h.5 k hk (by simpa using hne)⟩
theorem Ch3.below {w x : World} (h : Below w.heap.size w x) (b c g : Nat) : Ch3 w x b c g := Ch3.two (Ch2.below h b c) g
theorem Ch3.then {w x y : World} {b c g : Nat} (h : Ch3 w x b c g) (k : Ch3 x y b c g) : Ch3 w y b c g :=
  ⟨k.os.trans h.os, k.tape.trans h.tape, k.output.trans h.output, Nat.le_trans h.size k.size, fun j hj h1 h2 h3 => (k.block j (Nat.lt_of_lt_of_le hj h.size) h1 h2 h3).trans (h.block j hj h1 h2 h3)⟩
theorem Ch3.blk {w x : World} {b c g k : Nat} {o : Obj} (h : Ch3 w x b c g) (hk : w.heap[k]? = some o) (h1 : k ≠ b) (h2 : k ≠ c) (h3 : k ≠ g) : x.heap[k]? = some o := (h.block k (blk_lt hk) h1 h2 h3).trans hk
theorem Ch3.back {w x : World} {b c g : Nat} (h : Ch3 w x b c g) {B : Nat} {a : World} (ha : Below B a w) (hB : B ≤ w.heap.size) (h1 : B ≤ b) (h2 : B ≤ c) (h3 : B ≤ g) : Below B a x := by
  refine ⟨h.os.trans ha.os, h.tape.trans ha.tape, h.output.trans ha.output, Nat.le_trans ha.size h.size, fun k hk => ?_⟩
  rw [h.block k (Nat.lt_of_lt_of_le hk hB) (by omega) (by omega) (by omega)]
  exact ha.block k hk
/-- The frame of Defend: the result's box p0, the notice's box p. -/
structure DeS (w : World) (B g cp : Nat) (R : List Nat) (b c p : Nat) (o t k : Int) (W : World) : Prop where
  r : W.heap[w.heap.size]? = some (.cells #[.int .i64 0, .int .i64 0, .int .i64 0] 60 (0, 0))
  x : W.heap[p]? = some (.cells #[.int .i64 o, .int .i64 t, .int .i64 k] 60 (0, 0))
  book : Tb W B g cp R
  ch : Ch3 w W b c g
  p : w.heap.size < p
  lt : B < w.heap.size ∧ g < w.heap.size ∧ b < w.heap.size ∧ c < w.heap.size
  ne : b ≠ B ∧ b ≠ g ∧ c ≠ B ∧ c ≠ g
theorem DeS.chg {w W X : World} {B g cp : Nat} {R : List Nat} {b c p : Nat} {o t k : Int} (h : DeS w B g cp R b c p o t k W) (hc : Ch2 W X b c) : DeS w B g cp R b c p o t k X := by
  obtain ⟨l1, l2, l3, l4⟩ := h.lt
  obtain ⟨n1, n2, n3, n4⟩ := h.ne
  have hp := h.p
  refine ⟨hc.blk h.r (by omega) (by omega), hc.blk h.x (by omega) (by omega), ⟨hc.blk h.book.cell (by omega) (by omega), ?_, h.book.ne, h.book.le, h.book.n⟩, h.ch.then (Ch3.two hc g), h.p, h.lt, h.ne⟩
  obtain ⟨cap, sp, e, h1⟩ := h.book.list
  exact ⟨cap, sp, e, hc.blk h1 (by omega) (by omega)⟩
theorem DeS.turn {w W X : World} {B g cp : Nat} {R R' : List Nat} {b c p : Nat} {o t k : Int} (h : DeS w B g cp R b c p o t k W) (hg : W.grownBy X (some g)) (hT : Tb X B g cp R') : DeS w B g cp R' b c p o t k X := by
  obtain ⟨l1, l2, l3, l4⟩ := h.lt
  have hp := h.p
  exact ⟨blk_grown hg h.r (by simp; omega), blk_grown hg h.x (by simp; omega), hT, h.ch.then (Ch3.one hg b c), h.p, h.lt, h.ne⟩
theorem DeS.c3 {w W : World} {B g cp : Nat} {R : List Nat} {b c p : Nat} {o t k : Int} (h : DeS w B g cp R b c p o t k W) : Bx3 p o t k W ∧ (W.frozen? ⟨w.heap.size, 0, none⟩ = false ∧ W.frozen? ⟨w.heap.size, 1, none⟩ = false ∧ W.frozen? ⟨w.heap.size, 2, none⟩ = false) ∧ Bx3 w.heap.size 0 0 0 W :=
  ⟨⟨blk_cell h.x 0, blk_cell h.x 1, blk_cell h.x 2⟩, ⟨blk_free h.r 0, blk_free h.r 1, blk_free h.r 2⟩, ⟨blk_cell h.r 0, blk_cell h.r 1, blk_cell h.r 2⟩⟩
/-- The result's box is filled: nothing else turns. -/
theorem DeS.fill {w W : World} {B g cp : Nat} {R : List Nat} {b c p : Nat} {o t k : Int} (h : DeS w B g cp R b c p o t k W) (x y z : Value) :
    Tb (((W.setCell ⟨w.heap.size, 0, none⟩ x).setCell ⟨w.heap.size, 1, none⟩ y).setCell ⟨w.heap.size, 2, none⟩ z) B g cp R ∧ Ch3 w (((W.setCell ⟨w.heap.size, 0, none⟩ x).setCell ⟨w.heap.size, 1, none⟩ y).setCell ⟨w.heap.size, 2, none⟩ z) b c g ∧
    ∀ j, j < w.heap.size → (((W.setCell ⟨w.heap.size, 0, none⟩ x).setCell ⟨w.heap.size, 1, none⟩ y).setCell ⟨w.heap.size, 2, none⟩ z).heap[j]? = W.heap[j]? := by
  obtain ⟨l1, l2, l3, l4⟩ := h.lt
  have hl := blk_lt h.r
  have hg := but_set (but_set (but_set (but_refl W (some w.heap.size)) hl 0 x) hl 1 y) hl 2 z
  have hj : ∀ j, j < w.heap.size → (((W.setCell ⟨w.heap.size, 0, none⟩ x).setCell ⟨w.heap.size, 1, none⟩ y).setCell ⟨w.heap.size, 2, none⟩ z).heap[j]? = W.heap[j]? := fun j hj => hg.5 j (by omega) (by simp; omega)
  exact ⟨h.book.other hg (by omega) (by omega), ⟨hg.1.trans h.ch.os, hg.2.trans h.ch.tape, hg.3.trans h.ch.output, Nat.le_trans h.ch.size hg.4, fun k hk h1 h2 h3 => (hj k hk).trans (h.ch.block k hk h1 h2 h3)⟩, hj⟩
set_option maxRecDepth 100000 in
theorem defend_no {w : World} (bp : Option Addr) (sf : Int) (mp : Option Addr) (hD : ∀ W, Below w.heap.size w W → Calls Tryz.prog 41 #[.pointer bp, .int .i64 sf] W fun e w' => e = .returned (.tuple #[nV 0 0 0, .bool false]) ∧ Below W.heap.size W w') :
    Calls Tryz.prog 16 #[.pointer bp, .int .i64 sf, .pointer mp] w fun e w' => e = .returned (.tuple #[nV 0 0 0, .bool false, .int .i64 0]) ∧ Below w.heap.size w w' := by
  have HD := Lib.hid hD
  have r0 := blk_new w (.cells #[.int .i64 0, .int .i64 0, .int .i64 0] 60)
  have hb0 := (Below.refl w.heap.size w).alloc (Nat.le_refl _) (.cells #[.int .i64 0, .int .i64 0, .int .i64 0] 60)
  unfold nV at HD ⊢
  clear hD
  go_enter Tryz.func16, Tryz.ntmps16
  go_upto_region 1 with fail
  generalize World.alloc w _ = W at *
  have HB := Lib.hid hb0
  clear hb0
  go_wp2_with (go_at_call 41; refine (HD.out _ HB.out).mono ?_; rintro e w1 ⟨rfl, hB1⟩; have r1 := blk_old (blk_below' hB1 r0) (.cells #[.int .i64 0, .int .i64 0, .int .i64 0] 60); have c0 := blk_cell r1 0; have c1 := blk_cell r1 1; have c2 := blk_cell r1 2; have f0 := blk_free r1 0; have f1 := blk_free r1 1; have f2 := blk_free r1 2)
  have hb := (below_then HB.out hB1)
  refine bodyPost_ret (v := .tuple #[.agg #[.int .i64 0, .int .i64 0, .int .i64 0], .bool false, .int .i64 0]) ?_ rfl ⟨rfl, (((hb.alloc hb.size _).setCell (Nat.le_refl _) _).setCell (Nat.le_refl _) _).setCell (Nat.le_refl _) _⟩
  simp [results, Tryz.results16, go_sem, c0, c1, c2]
theorem defend_none {w : World} {B g cp : Nat} {R : List Nat} {a : Addr} (h : Tb w B g cp R) (hg : Gl a w) (sf : Int) (mp : Option Addr) (hd : dueN R sf = none) :
    Calls Tryz.prog 16 #[.pointer (some ⟨B, 0, none⟩), .int .i64 sf, .pointer mp] w fun e w' => e = .returned (.tuple #[nV 0 0 0, .bool false, .int .i64 0]) ∧ Below w.heap.size w w' :=
  defend_no _ sf mp fun W hW => by
    have := rdue_any (h.below hW) (hg.of hW) sf
    rwa [hd] at this
theorem defend_nil {w : World} {a : Addr} (hg : Gl a w) (sf : Int) (mp : Option Addr) :
    Calls Tryz.prog 16 #[.pointer none, .int .i64 sf, .pointer mp] w fun e w' => e = .returned (.tuple #[nV 0 0 0, .bool false, .int .i64 0]) ∧ Below w.heap.size w w' :=
  defend_no _ sf mp fun W hW => rdue_nil (hg.of hW) sf
set_option maxRecDepth 100000 in
theorem defend_some {w : World} {B g cp : Nat} {R : List Nat} {a : Addr} (h : Tb w B g cp R) (hg : Gl a w) (sf : Int) (mp : Option Addr) (r : Nat) (hd : dueN R sf = some r) (b c : Nat) (Q : Int → World → Prop)
    (hlt : b < w.heap.size ∧ c < w.heap.size) (hne : b ≠ B ∧ b ≠ g ∧ c ≠ B ∧ c ≠ g)
    (hR : ∀ W, Below w.heap.size w W → Calls Tryz.prog 42 #[.pointer mp, .int .i64 (tgN r : Nat)] W fun e w' => ∃ er : Int, e = .returned (.int .i64 er) ∧ Ch2 W w' b c ∧ Q er w')
    (hst : ∀ er W X, X.heap[b]? = W.heap[b]? → X.heap[c]? = W.heap[c]? → Q er W → Q er X) :
    Calls Tryz.prog 16 #[.pointer (some ⟨B, 0, none⟩), .int .i64 sf, .pointer mp] w fun e w' => ∃ er : Int, Q er w' ∧ Ch3 w w' b c g ∧
      ((er ≠ 0 ∧ e = .returned (.tuple #[nV 0 0 0, .bool false, .int .i64 er]) ∧ Tb w' B g cp R) ∨ (er = 0 ∧ e = .returned (.tuple #[nV sf (tgN r : Nat) (kdN r : Nat), .bool true, .int .i64 0]) ∧ Tb w' B g cp (R.set sf.toNat r))) := by
  have HD : Hid (∀ W, Below w.heap.size w W → Calls Tryz.prog 41 #[.pointer (some ⟨B, 0, none⟩), .int .i64 sf] W fun e w' => e = .returned (.tuple #[nV sf (tgN r : Nat) (kdN r : Nat), .bool true]) ∧ Below W.heap.size W w') := Lib.hid fun W hW => by
    have := rdue_any (h.below hW) (hg.of hW) sf
    rwa [hd] at this
  have r0 := blk_new w (.cells #[.int .i64 0, .int .i64 0, .int .i64 0] 60)
  have hb0 := (Below.refl w.heap.size w).alloc (Nat.le_refl _) (.cells #[.int .i64 0, .int .i64 0, .int .i64 0] 60)
  have HT0 := Lib.hid h
  have HLT := Lib.hid hlt
  have HNE := Lib.hid hne
  have HRS := Lib.hid hR
  have HST := Lib.hid hst
  unfold nV at HD ⊢
  have hir : ∃ i : Nat, sf = (i : Int) ∧ i < R.length ∧ R.getD i 0 < r ∧ r ≤ 2097153 := by
    unfold dueN at hd
    split at hd
    · rename_i hin
      split at hd
      · rename_i h2
        injection hd with hd
        obtain ⟨i, rfl⟩ : ∃ i : Nat, sf = (i : Int) := ⟨sf.toNat, by omega⟩
        obtain ⟨q, hq, hqd, hql⟩ := h.get (i := i) (by omega)
        rw [Int.toNat_natCast, hqd] at hd h2
        exact ⟨i, rfl, by omega, by omega, by unfold kdN tgN at h2; omega⟩
      · cases hd
    · cases hd
  obtain ⟨i, rfl, hi, hq, hr⟩ := hir
  have HI := Lib.hid hi
  have HRR := Lib.hid hr
  have HQ := Lib.hid hq
  clear h hg hd hlt hne hR hst hi hr hq
  go_enter Tryz.func16, Tryz.ntmps16
  go_upto_region 1 with fail
  generalize World.alloc w _ = W at *
  have HB := Lib.hid hb0
  clear hb0
  go_upto_region 4 with (go_at_call 41; refine (HD.out _ HB.out).mono ?_; rintro e w1 ⟨rfl, hB1⟩)
  have HS := Lib.hid (show DeS w B g cp R b c w1.heap.size (i : Int) (tgN r : Nat) (kdN r : Nat) (w1.alloc (.cells #[.int .i64 (i : Int), .int .i64 (tgN r : Nat), .int .i64 (kdN r : Nat)] 60)) from by
    have hb := below_then HB.out hB1
    have hb2 := hb.alloc hb.size (.cells #[.int .i64 (i : Int), .int .i64 (tgN r : Nat), .int .i64 (kdN r : Nat)] 60)
    exact ⟨blk_old (blk_below' hB1 r0) _, blk_new _ _, HT0.out.below hb2, Ch3.below hb2 _ _ _, blk_lt (blk_below' hB1 r0), ⟨HT0.out.lt.1, HT0.out.lt.2, HLT.out.1, HLT.out.2⟩, HNE.out⟩)
  have HBW := Lib.hid (show Below w.heap.size w (w1.alloc (.cells #[.int .i64 (i : Int), .int .i64 (tgN r : Nat), .int .i64 (kdN r : Nat)] 60)) from by have hb := below_then HB.out hB1; exact hb.alloc hb.size _)
  obtain ⟨p, hp⟩ : ∃ p, w1.heap.size = p := ⟨_, rfl⟩
  rw [hp] at HS
  (try rw [hp])
  clear hp hB1 r0
  generalize World.alloc w1 _ = W2 at *
  obtain ⟨⟨m0, m1, m2⟩, _⟩ := HS.out.c3
  go_upto_region 5 with (go_at_call 42; refine (HRS.out _ HBW.out).mono ?_; rintro e w3 ⟨er, rfl, hC, hQ⟩)
  have HS := Lib.hid (HS.out.chg hC)
  have HQ3 := Lib.hid hQ
  have HBC := Lib.hid (show b < w3.heap.size ∧ c < w3.heap.size from ⟨Nat.lt_of_lt_of_le HS.out.lt.2.2.1 HS.out.ch.size, Nat.lt_of_lt_of_le HS.out.lt.2.2.2 HS.out.ch.size⟩)
  clear hC hQ m0 m1 m2
  obtain ⟨⟨m0, m1, m2⟩, ⟨f0, f1, f2⟩, ⟨c0, c1, c2⟩⟩ := HS.out.c3
  by_cases her : er = 0
  · subst her
    clear c0 c1 c2 f0 f1 f2
    go_wp2_with fail
    refine (take_yes HS.out.book i r HI.out HRR.out).mono ?_
    rintro e w4 ⟨rfl, hT4, hg4⟩
    rw [show tkR R i r = R.set i r from if_pos HQ.out] at hT4
    have HS := Lib.hid (HS.out.turn hg4 hT4)
    have HQ4 := Lib.hid (HST.out 0 w3 w4 (hg4.5 b HBC.out.1 (by have := HNE.out; simp; omega)) (hg4.5 c HBC.out.2 (by have := HNE.out; simp; omega)) HQ3.out)
    clear hT4 hg4 m0 m1 m2
    obtain ⟨⟨m0, m1, m2⟩, ⟨f0, f1, f2⟩, ⟨c0, c1, c2⟩⟩ := HS.out.c3
    go_wp2_with fail
    obtain ⟨hf1, hf2, hf3⟩ := HS.out.fill (.int .i64 (i : Int)) (.int .i64 (tgN r : Nat)) (.int .i64 (kdN r : Nat))
    refine bodyPost_ret (v := .tuple #[.agg #[.int .i64 (i : Int), .int .i64 (tgN r : Nat), .int .i64 (kdN r : Nat)], .bool true, .int .i64 0]) ?_ rfl ⟨0, HST.out 0 w4 _ (hf3 b HS.out.lt.2.2.1) (hf3 c HS.out.lt.2.2.2) HQ4.out, hf2, .inr ⟨rfl, rfl, hf1⟩⟩
    simp [results, Tryz.results16, go_sem, c0, c1, c2]
  · have her2 : (er != 0) = true := by simpa using her
    go_wp2_with fail
    obtain ⟨hf1, hf2, hf3⟩ := HS.out.fill (.int .i64 0) (.int .i64 0) (.int .i64 0)
    refine bodyPost_ret (v := .tuple #[.agg #[.int .i64 0, .int .i64 0, .int .i64 0], .bool false, .int .i64 er]) ?_ rfl ⟨er, HST.out er w3 _ (hf3 b HS.out.lt.2.2.1) (hf3 c HS.out.lt.2.2.2) HQ3.out, hf2, .inl ⟨her, rfl, hf1⟩⟩
    simp [results, Tryz.results16, go_sem, c0, c1, c2]
end Go.Proofs.YtbjlnlgknegbnaaGreatDoor
