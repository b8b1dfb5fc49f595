/- Plain laws: what the two slots hold behind saves, whenever the power fails. -/
import Derived.Test.YtpfiaepoibablaaSlotE
namespace Go.Proofs.Ytpfiaepoibablaa
set_option linter.unusedVariables false

def zer : List Nat := List.replicate 32 0
/-- A slot that does not count beside the number n. -/
def SlO (bs : List Nat) (o n : Nat) : Prop :=
  (rowS bs (2 * o) = zer ∨ ∃ s : Rc, s.may ∧ rowS bs (2 * o) = hA s) ∧ (rowS bs (2 * o + 1) = zer ∨ ∃ s : Rc, s.may ∧ s.seq < n ∧ rowS bs (2 * o + 1) = hB s)
def SlC (bs : List Nat) (a : Nat) (cur : Rc) : Prop := cur.may ∧ rowS bs (2 * a) = hA cur ∧ rowS bs (2 * a + 1) = hB cur
/-- What a disk holds: nothing that counts, or a record in a slot. -/
def SlSt (bs : List Nat) : Option (Rc × Nat) → Prop
  | none => SlO bs 0 0 ∧ SlO bs 1 0
  | some (cur, a) => a < 2 ∧ SlC bs a cur ∧ SlO bs (1 - a) cur.seq
def stB : Option (Rc × Nat) → Rc × Int
  | none => (Rc.zero, -1)
  | some (cur, a) => (cur, (a : Int))
def stTo : Option (Rc × Nat) → Nat
  | none => 0
  | some (_, a) => 1 - a
def stSeq : Option (Rc × Nat) → Nat
  | none => 0
  | some (cur, _) => cur.seq
theorem SlO.dec {bs : List Nat} {o n : Nat} (h : SlO bs o n) : decL (slotB bs o) = none ∨ ∃ s, decL (slotB bs o) = some s ∧ s.seq < n := by
  unfold slotB
  obtain ⟨h1 | ⟨s, hs, h1⟩, h2 | ⟨t, ht, hn, h2⟩⟩ := h
  · left; rw [h1, h2]; exact blank_half _ (by decide)
  · left; rw [h1, h2]; exact blank_half _ (hB_len t)
  · left; rw [h1, h2]; exact half_blank s
  · rw [h1, h2]
    by_cases he : s.seq = t.seq
    · right
      refine ⟨⟨s.life, s.round, t.tag, s.seq⟩, ?_, by show s.seq < n; omega⟩
      rw [halves_same he]
      obtain ⟨a1, a2, a3, a4, a5, a6⟩ := hs
      obtain ⟨b1, b2, b3, b4, b5, b6⟩ := ht
      exact decL_enc ⟨a1, a2, a3, b4, a5, a6⟩
    · left; exact halves_other hs ht he
theorem SlC.dec {bs : List Nat} {a : Nat} {cur : Rc} (h : SlC bs a cur) : decL (slotB bs a) = some cur := by
  unfold slotB; rw [h.2.1, h.2.2]; exact decL_one h.1
theorem SlO.mono {bs : List Nat} {o n m : Nat} (h : SlO bs o n) (hm : n ≤ m) : SlO bs o m := ⟨h.1, h.2.imp id fun ⟨s, h1, h2, h3⟩ => ⟨s, h1, by omega, h3⟩⟩
theorem SlC.old {bs : List Nat} {a n : Nat} {cur : Rc} (h : SlC bs a cur) (hn : cur.seq < n) : SlO bs a n := ⟨.inr ⟨cur, h.1, h.2.1⟩, .inr ⟨cur, h.1, hn, h.2.2⟩⟩
theorem SlSt.best {bs : List Nat} {st : Option (Rc × Nat)} (h : SlSt bs st) : bestL bs = stB st := by
  unfold bestL
  cases st with
  | none =>
    have h0 : decL (slotB bs 0) = none := by rcases h.1.dec with h | ⟨s, _, h⟩; exact h; omega
    have h1 : decL (slotB bs 1) = none := by rcases h.2.dec with h | ⟨s, _, h⟩; exact h; omega
    rw [h0, h1]; rfl
  | some p =>
    obtain ⟨cur, a⟩ := p
    obtain ⟨ha, hc, ho⟩ := h
    have hcd := hc.dec
    have hpos := hc.1.2.2.2.2.1
    have hod := ho.dec
    obtain rfl | rfl : a = 0 ∨ a = 1 := by omega
    · rw [hcd]
      have e : pick (Rc.zero, -1) 0 (some cur) = (cur, 0) := by unfold pick; simp only; rw [if_pos (by show 0 < cur.seq; omega)]
      rw [e]
      rcases hod with h | ⟨s, h, hs⟩
      · rw [show (1 : Nat) - 0 = 1 from rfl] at h; rw [h]; rfl
      · rw [show (1 : Nat) - 0 = 1 from rfl] at h; rw [h]; unfold pick; simp only; rw [if_neg (by omega)]; rfl
    · rw [hcd]
      rcases hod with h | ⟨s, h, hs⟩
      · rw [show (1 : Nat) - 1 = 0 from rfl] at h; rw [h]
        unfold pick; simp only; rw [if_pos (by show 0 < cur.seq; omega)]; rfl
      · rw [show (1 : Nat) - 1 = 0 from rfl] at h; rw [h]
        unfold pick; simp only
        have : (if Rc.zero.seq < s.seq then (s, (0 : Int)) else (Rc.zero, -1)).1.seq < cur.seq := by
          split
          · exact hs
          · show 0 < cur.seq; omega
        rw [if_pos this]; rfl
theorem SlSt.to {bs : List Nat} {st : Option (Rc × Nat)} (h : SlSt bs st) : toL bs = stTo st ∧ (bestL bs).1.seq = stSeq st := by
  unfold toL
  rw [h.best]
  cases st with
  | none => exact ⟨rfl, rfl⟩
  | some p =>
    obtain ⟨cur, a⟩ := p
    have ha := h.1
    refine ⟨?_, rfl⟩
    show (if (a : Int) = 0 then 1 else 0) = 1 - a
    split <;> omega
theorem SlSt.toLt {bs : List Nat} {st : Option (Rc × Nat)} (h : SlSt bs st) : stTo st < 2 := by
  cases st with
  | none => decide
  | some p => show 1 - p.2 < 2; omega
/-- A write with power. -/
theorem wr_on {d : Dk} {s : Nat} {l : List Nat} (ho : d.off = false) (hs : s < 8) (hl : l.length = 32) :
    (d.fused = true ∧ d.fuse = 0 ∧ wrV d (s : Int) l = ({ d with off := true, fused := false }, 100)) ∨
    ((d.fused = true → 0 < d.fuse) ∧ wrV d (s : Int) l = (⟨putS d.bs s l, d.off, d.fused, if d.fused then d.fuse - 1 else d.fuse, d.writes + 1⟩, 0)) := by
  have hm : mayV d (s : Int) = 0 := by unfold mayV; rw [ho, if_neg (by decide), if_neg (by omega)]
  unfold wrV
  rw [if_pos hm, if_pos hl, Int.toNat_natCast]
  cases hf : d.fused with
  | true =>
    by_cases h0 : d.fuse = 0
    · left; rw [if_pos rfl, if_pos h0]; exact ⟨rfl, h0, rfl⟩
    · right; rw [if_pos rfl, if_neg h0]; exact ⟨fun _ => by omega, by simp⟩
  | false => right; rw [if_neg (by decide)]; exact ⟨fun h => absurd h (by decide), by simp⟩
theorem svT_two {d : Dk} {x y z : Int} : svT d x y z = if (wrV d ((2 * toL d.bs : Nat) : Int) ((nxL d.bs x y z).take 32)).2 = 0 then wrV (wrV d ((2 * toL d.bs : Nat) : Int) ((nxL d.bs x y z).take 32)).1 ((2 * toL d.bs + 1 : Nat) : Int) ((nxL d.bs x y z).drop 32) else wrV d ((2 * toL d.bs : Nat) : Int) ((nxL d.bs x y z).take 32) := by
  have e2 : ((nxL d.bs x y z).drop (1 * 32)).take 32 = (nxL d.bs x y z).drop 32 := by
    rw [List.take_of_length_le]
    unfold nxL; rw [List.length_drop, encL_len]; decide
  have h1 : svK d (toL d.bs) (nxL d.bs x y z) 1 = wrV d ((2 * toL d.bs : Nat) : Int) ((nxL d.bs x y z).take 32) := by
    exact if_pos rfl
  unfold svT
  show (if (svK d (toL d.bs) (nxL d.bs x y z) 1).2 = 0 then wrV (svK d (toL d.bs) (nxL d.bs x y z) 1).1 ((2 * toL d.bs + 1 : Nat) : Int) (((nxL d.bs x y z).drop (1 * 32)).take 32) else _) = _
  rw [h1, e2]
structure Saved (d D : Dk) (st : Option (Rc × Nat)) (new : Rc) : Prop where
  slots : SlSt D.bs (some (new, stTo st))
  writes : D.writes = d.writes + 2
  on : D.off = false
  fused : D.fused = d.fused
  fz : d.fused = true → 2 ≤ d.fuse ∧ D.fuse = d.fuse - 2
  un : d.fused = false → D.fuse = d.fuse
  out : ∀ j, j < 64 * stTo st ∨ 64 * stTo st + 64 ≤ j → D.bs[j]? = d.bs[j]?
  len : D.bs.length = 256
structure Failed (d D : Dk) (st : Option (Rc × Nat)) : Prop where
  slots : SlSt D.bs st
  fused : d.fused = true
  fz : d.fuse < 2
  off : D.off = true
  gone : D.fused = false
  writes : D.writes = d.writes + d.fuse
  fuse : D.fuse = 0
  len : D.bs.length = 256
theorem SlO.putA {bs : List Nat} {o n : Nat} {s : Rc} (h : SlO bs o n) (hb : bs.length = 256) (ho : o < 2) (hs : s.may) : SlO (putS bs (2 * o) (hA s)) o n := by
  unfold SlO
  rw [rowS_put hb (by omega) (by omega) (hA_len s), rowS_put hb (by omega) (by omega) (hA_len s), if_pos rfl, if_neg (by omega)]
  exact ⟨.inr ⟨s, hs, rfl⟩, h.2⟩
theorem rows_same {bs l : List Nat} {k o : Nat} (hb : bs.length = 256) (hk : k < 8) (ho : o < 4) (hl : l.length = 32) (h : 2 * o ≠ k ∧ 2 * o + 1 ≠ k) : rowS (putS bs k l) (2 * o) = rowS bs (2 * o) ∧ rowS (putS bs k l) (2 * o + 1) = rowS bs (2 * o + 1) := by
  rw [rowS_put hb hk (by omega) hl, rowS_put hb hk (by omega) hl, if_neg h.1, if_neg h.2]
  exact ⟨rfl, rfl⟩
theorem SlSt.half {bs : List Nat} {st : Option (Rc × Nat)} {s : Rc} (h : SlSt bs st) (hb : bs.length = 256) (hs : s.may) : SlSt (putS bs (2 * stTo st) (hA s)) st := by
  cases st with
  | none =>
    obtain ⟨h0, h1⟩ := h
    refine ⟨h0.putA hb (by decide) hs, ?_⟩
    have := rows_same (o := 1) hb (show 2 * stTo none < 8 by decide) (by decide) (hA_len s) (by decide)
    unfold SlO
    rw [this.1, this.2]; exact h1
  | some p =>
    obtain ⟨cur, a⟩ := p
    obtain ⟨ha, hc, ho⟩ := h
    refine ⟨ha, ?_, ho.putA hb (by omega) hs⟩
    have := rows_same (o := a) hb (show 2 * (1 - a) < 8 by omega) (by omega) (hA_len s) (by omega)
    exact ⟨hc.1, by show rowS (putS bs (2 * (1 - a)) (hA s)) _ = _; rw [this.1]; exact hc.2.1, by show rowS (putS bs (2 * (1 - a)) (hA s)) _ = _; rw [this.2]; exact hc.2.2⟩
theorem SlSt.full {bs : List Nat} {st : Option (Rc × Nat)} {s : Rc} (h : SlSt bs st) (hb : bs.length = 256) (hs : s.may) (hn : s.seq = stSeq st + 1) : SlSt (putS (putS bs (2 * stTo st) (hA s)) (2 * stTo st + 1) (hB s)) (some (s, stTo st)) := by
  have hb1 : (putS bs (2 * stTo st) (hA s)).length = 256 := putS_len hb (by have := h.toLt; omega) (hA_len s)
  have ht := h.toLt
  refine ⟨ht, ⟨hs, ?_, ?_⟩, ?_⟩
  · rw [rowS_put hb1 (by omega) (by omega) (hB_len s), if_neg (by omega), rowS_put hb (by omega) (by omega) (hA_len s), if_pos rfl]
  · rw [rowS_put hb1 (by omega) (by omega) (hB_len s), if_pos rfl]
  · have e2 := rows_same (o := 1 - stTo st) hb1 (show 2 * stTo st + 1 < 8 by omega) (by omega) (hB_len s) (by omega)
    have e1 := rows_same (o := 1 - stTo st) hb (show 2 * stTo st < 8 by omega) (by omega) (hA_len s) (by omega)
    unfold SlO
    rw [e2.1, e2.2, e1.1, e1.2]
    cases st with
    | none => exact h.2.mono (Nat.zero_le _)
    | some p =>
      obtain ⟨cur, a⟩ := p
      have ha := h.1
      have : 1 - stTo (some (cur, a)) = a := by show 1 - (1 - a) = a; omega
      rw [this]
      exact h.2.1.old (by rw [hn]; show cur.seq < cur.seq + 1; omega)
theorem save_law {d : Dk} {st : Option (Rc × Nat)} {x y z : Int} (hs : SlSt d.bs st) (hb : d.bs.length = 256) (ho : d.off = false) (hm : mayR x y z) (hq : stSeq st < 1099511627776) :
    ((saveW d x y z).2 = 0 ∧ Saved d (saveW d x y z).1 st ⟨x.toNat, y.toNat, z.toNat, stSeq st + 1⟩) ∨ ((saveW d x y z).2 = 100 ∧ Failed d (saveW d x y z).1 st) := by
  obtain ⟨e1, e2⟩ := hs.to
  obtain ⟨m1, m2, m3, m4, m5, m6⟩ := hm
  have hmay : Rc.may ⟨x.toNat, y.toNat, z.toNat, stSeq st + 1⟩ := ⟨by show 1 ≤ x.toNat; omega, by show x.toNat ≤ _; omega, by show y.toNat ≤ _; omega, by show z.toNat ≤ _; omega, by show 1 ≤ _ + 1; omega, by show _ + 1 ≤ _; omega⟩
  have hL : nxL d.bs x y z = encL ⟨x.toNat, y.toNat, z.toNat, stSeq st + 1⟩ := by unfold nxL; rw [e2]
  have hsw : saveW d x y z = svT d x y z := by
    unfold saveW
    rw [if_pos ⟨m1, m2, m3, m4, m5, m6⟩, ho, if_neg (by decide), e2, if_neg (by omega)]
  rw [hsw, svT_two, e1, hL]
  show ((if (wrV d _ (hA _)).2 = 0 then wrV (wrV d _ (hA _)).1 _ (hB _) else wrV d _ (hA _)).2 = 0 ∧ _) ∨ _
  generalize hnew : (⟨x.toNat, y.toNat, z.toNat, stSeq st + 1⟩ : Rc) = new at *
  have hseq : new.seq = stSeq st + 1 := by rw [← hnew]
  have ht := hs.toLt
  show ((if (wrV d ((2 * stTo st : Nat) : Int) (hA new)).2 = 0 then wrV (wrV d ((2 * stTo st : Nat) : Int) (hA new)).1 ((2 * stTo st + 1 : Nat) : Int) (hB new) else wrV d ((2 * stTo st : Nat) : Int) (hA new)).2 = 0 ∧ Saved d (if (wrV d ((2 * stTo st : Nat) : Int) (hA new)).2 = 0 then wrV (wrV d ((2 * stTo st : Nat) : Int) (hA new)).1 ((2 * stTo st + 1 : Nat) : Int) (hB new) else wrV d ((2 * stTo st : Nat) : Int) (hA new)).1 st new) ∨
    ((if (wrV d ((2 * stTo st : Nat) : Int) (hA new)).2 = 0 then wrV (wrV d ((2 * stTo st : Nat) : Int) (hA new)).1 ((2 * stTo st + 1 : Nat) : Int) (hB new) else wrV d ((2 * stTo st : Nat) : Int) (hA new)).2 = 100 ∧ Failed d (if (wrV d ((2 * stTo st : Nat) : Int) (hA new)).2 = 0 then wrV (wrV d ((2 * stTo st : Nat) : Int) (hA new)).1 ((2 * stTo st + 1 : Nat) : Int) (hB new) else wrV d ((2 * stTo st : Nat) : Int) (hA new)).1 st)
  rcases wr_on ho (show 2 * stTo st < 8 by omega) (hA_len new) with ⟨f1, f2, f3⟩ | ⟨f1, f3⟩
  · rw [f3, if_neg (show ¬ (100 : Int) = 0 by decide)]
    exact .inr ⟨rfl, ⟨hs, f1, by omega, rfl, rfl, by rw [f2]; rfl, f2, hb⟩⟩
  · rw [f3, if_pos rfl]
    have hb1 : (putS d.bs (2 * stTo st) (hA new)).length = 256 := putS_len hb (by omega) (hA_len new)
    rcases wr_on (d := ⟨putS d.bs (2 * stTo st) (hA new), d.off, d.fused, if d.fused then d.fuse - 1 else d.fuse, d.writes + 1⟩) ho (show 2 * stTo st + 1 < 8 by omega) (hB_len new) with ⟨g1, g2, g3⟩ | ⟨g1, g3⟩
    · rw [g3]
      simp only at g1 g2
      have f1 := f1 g1
      rw [g1, if_pos rfl] at g2
      exact .inr ⟨rfl, ⟨hs.half hb hmay, g1, by omega, rfl, rfl, by show d.writes + 1 = d.writes + d.fuse; omega, by show (if d.fused then d.fuse - 1 else d.fuse) = 0; rw [g1, if_pos rfl]; exact g2, hb1⟩⟩
    · rw [g3]
      refine .inl ⟨rfl, ⟨hs.full hb hmay hseq, rfl, ho, rfl, fun h => ?_, fun h => ?_, fun j hj => ?_, putS_len hb1 (by omega) (hB_len new)⟩⟩
      · have := f1 h
        have h2 := g1 h
        simp only at h2
        rw [h, if_pos rfl] at h2
        refine ⟨by omega, ?_⟩
        show (if d.fused then (if d.fused then d.fuse - 1 else d.fuse) - 1 else _) = _
        rw [h, if_pos rfl, if_pos rfl]; omega
      · show (if d.fused then _ else (if d.fused then _ else d.fuse)) = d.fuse
        rw [h, if_neg (by decide), if_neg (by decide)]
      · show (putS (putS d.bs (2 * stTo st) (hA new)) (2 * stTo st + 1) (hB new))[j]? = _
        rw [putS_get hb1 (by omega) (hB_len new), putS_get hb (by omega) (hA_len new)]
        by_cases c : j < 64 * stTo st
        · rw [if_pos (by omega), if_pos (by omega)]
        · rw [if_neg (by omega), if_neg (by omega), if_neg (by omega), if_neg (by omega)]
/- What can never go wrong. -/
theorem saveW_arg {d : Dk} {x y z : Int} (h : ¬ mayR x y z) : saveW d x y z = (d, 1) := if_neg h
theorem saveW_off {d : Dk} {x y z : Int} (h : mayR x y z) (ho : d.off = true) : saveW d x y z = (d, 100) := by unfold saveW; rw [if_pos h, ho, if_pos rfl]
theorem slSt_new : SlSt Dk.new.bs none := ⟨⟨.inl (by decide), .inl (by decide)⟩, ⟨.inl (by decide), .inl (by decide)⟩⟩
theorem putS_lt {bs l : List Nat} (h : ∀ c ∈ bs, c < 256) (hl : ∀ c ∈ l, c < 256) (k : Nat) : ∀ c ∈ putS bs k l, c < 256 := by
  intro c hc
  unfold putS at hc
  rcases List.mem_append.1 hc with hc | hc
  · exact h c (List.mem_of_mem_take hc)
  · rcases List.mem_append.1 hc with hc | hc
    · exact hl c hc
    · exact h c (List.mem_of_mem_drop hc)
theorem wrV_lt {d : Dk} (h : ∀ c ∈ d.bs, c < 256) {l : List Nat} (hl : ∀ c ∈ l, c < 256) (s : Int) : ∀ c ∈ (wrV d s l).1.bs, c < 256 := by
  unfold wrV
  split
  · split
    · split
      · split
        · exact h
        · exact putS_lt h hl _
      · exact putS_lt h hl _
    · exact h
  · exact h
theorem svK_lt {d : Dk} (h : ∀ c ∈ d.bs, c < 256) {l : List Nat} (hl : ∀ c ∈ l, c < 256) (q : Nat) : ∀ k, ∀ c ∈ (svK d q l k).1.bs, c < 256
  | 0 => h
  | k + 1 => by
    unfold svK
    split
    · exact wrV_lt (svK_lt h hl q k) (fun c hc => hl c (List.mem_of_mem_drop (List.mem_of_mem_take hc))) _
    · exact svK_lt h hl q k
theorem saveW_lt {d : Dk} (h : ∀ c ∈ d.bs, c < 256) (x y z : Int) : ∀ c ∈ (saveW d x y z).1.bs, c < 256 := by
  unfold saveW svT
  split
  · split
    · exact h
    · split
      · exact h
      · exact svK_lt h (encL_lt _) _ _
  · exact h
end Go.Proofs.Ytpfiaepoibablaa
