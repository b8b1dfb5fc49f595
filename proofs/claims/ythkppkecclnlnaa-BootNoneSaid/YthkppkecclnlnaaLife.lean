/- A life over its disk: what each call leaves true. -/
import Derived.Test.YthkppkecclnlnaaRaise
import Derived.Test.YthkppkecclnlnaaWalkCut
namespace Go.Proofs.Ythkppkecclnlnaa
set_option linter.unusedVariables false
open Go.RowKit

theorem cuS_save {d : Dk} {st : Option (Rc × Nat)} {i : Nat} {x y z : Nat} (h : CuS d st i false) (hb : d.bs.length = 256) (hi : i ≤ 1000000) (hm : mayR x y z) :
    ((saveW d x y z).2 = 0 ∧ ∃ a s, CuS (saveW d x y z).1 (some (⟨x, y, z, s⟩, a)) (i + 1) false) ∨ ((saveW d x y z).2 = 100 ∧ CuS (saveW d x y z).1 st (i + 1) true) := by
  obtain ⟨h1, h2, h3, h4, h5, h6⟩ := h
  rcases save_law h1 hb h3 hm (by omega) with ⟨h0, hs⟩ | ⟨h0, hf⟩
  · refine .inl ⟨h0, stTo st, stSeq st + 1, ⟨?_, saveW_lt h2 x y z, hs.on, by show stSeq st + 1 ≤ _; omega, by rw [hs.writes]; omega, ?_⟩⟩
    · have := hs.slots
      rw [Int.toNat_natCast, Int.toNat_natCast, Int.toNat_natCast] at this
      exact this
    · cases hfu : d.fused with
      | true => rw [(hs.fz hfu).2]; omega
      | false => rw [hs.un hfu]; exact h6
  · exact .inr ⟨h0, ⟨hf.slots, saveW_lt h2 x y z, hf.off, by omega, by rw [hf.writes]; have := hf.fz; omega, by rw [hf.fuse]; decide⟩⟩
theorem CuS.more {d : Dk} {st : Option (Rc × Nat)} {i j : Nat} {c : Bool} (h : CuS d st i c) (hj : i ≤ j) : CuS d st j c := ⟨h.slots, h.lt, h.on, by have := h.seq; omega, by have := h.wr; omega, h.fz⟩
/-- What is durable covers what was handed out. -/
structure LifeI (B : Bt) (d : Dk) (n : Nat) : Prop where
  disk : ∃ s a, CuS d (some (⟨B.life, B.kround, B.ktag, s⟩, a)) n d.off
  rnd : B.round ≤ B.kround
  tg : B.tag ≤ B.ktag
theorem LifeI.may {B : Bt} {d : Dk} {n : Nat} (h : LifeI B d n) : 1 ≤ B.life ∧ B.life ≤ 1073741824 ∧ B.kround ≤ 1099511627775 ∧ B.ktag ≤ 1048576 := by
  obtain ⟨s, a, hc⟩ := h.disk
  have := hc.slots.2.1.1
  exact ⟨this.1, this.2.1, this.2.2.1, this.2.2.2.1⟩
theorem LifeI.lt {B : Bt} {d : Dk} {n : Nat} (h : LifeI B d n) : ∀ c ∈ d.bs, c < 256 := by obtain ⟨s, a, hc⟩ := h.disk; exact hc.lt
theorem LifeI.wr {B : Bt} {d : Dk} {n : Nat} (h : LifeI B d n) : d.writes ≤ 2 * n ∧ d.fuse ≤ 9223372036854775807 := by obtain ⟨s, a, hc⟩ := h.disk; exact ⟨hc.wr, hc.fz⟩
theorem LifeI.more {B : Bt} {d : Dk} {i j : Nat} (h : LifeI B d i) (hj : i ≤ j) : LifeI B d j := by
  obtain ⟨⟨s, a, hc⟩, h2, h3⟩ := h
  exact ⟨⟨s, a, hc.more hj⟩, h2, h3⟩
/-- A save from within a life. -/
theorem life_save {B : Bt} {d : Dk} {n : Nat} (h : LifeI B d n) (hb : d.bs.length = 256) (hn : n ≤ 1000000) (ho : d.off = false) {y z : Nat} (hy : y ≤ 1099511627775) (hz : z ≤ 1048576) :
    ((saveW d B.life y z).2 = 0 ∧ ∃ a s, CuS (saveW d B.life y z).1 (some (⟨B.life, y, z, s⟩, a)) (n + 1) (saveW d B.life y z).1.off) ∨ ((saveW d B.life y z).2 = 100 ∧ LifeI B (saveW d B.life y z).1 (n + 1)) := by
  obtain ⟨⟨s, a, hc⟩, h2, h3⟩ := h
  rw [ho] at hc
  have hm := hc.slots.2.1.1
  have h1 : 1 ≤ B.life := hm.1
  have h4 : B.life ≤ 1073741824 := hm.2.1
  rcases cuS_save hc hb hn (x := B.life) (y := y) (z := z) ⟨by omega, by omega, by omega, by omega, by omega, by omega⟩ with ⟨h0, a', s', h5⟩ | ⟨h0, h5⟩
  · exact .inl ⟨h0, a', s', by rw [h5.on]; exact h5⟩
  · exact .inr ⟨h0, ⟨⟨s, a, by rw [h5.on]; exact h5⟩, h2, h3⟩⟩
theorem capR_le (n : Nat) : capR n ≤ 1099511627775 := by unfold capR; omega
theorem capR_ge {n : Nat} (h : n ≤ 1099511627775) : n ≤ capR n := by unfold capR; omega
theorem capR_gt {n : Nat} (h : n < 1099511627775) : n < capR n := by unfold capR; omega
theorem capT_le (n : Nat) : capT n ≤ 1048576 := by unfold capT; omega
theorem capT_ge {n : Nat} (h : n ≤ 1048576) : n ≤ capT n := by unfold capT; omega
theorem capZ_le (n : Nat) : capZ n ≤ 1048576 := by unfold capZ; omega
theorem capZ_ge {n : Nat} (h : n ≤ 1048576) : n ≤ capZ n := by unfold capZ; omega
/-- What Next tells, in one. -/
structure NextR (B B' : Bt) (rv er : Int) : Prop where
  ok : er = 0 → rv = ((B.round + 1 : Nat) : Int) ∧ B'.round = B.round + 1
  no : er ≠ 0 → B' = B
  tag : B'.tag = B.tag
  ktag : B'.ktag = B.ktag
  life : B'.life = B.life
  kr : B.kround ≤ B'.kround
theorem next_sum (b c : Nat) (B : Bt) (d : Dk) (n : Nat) (w : World) (h : BtAt w b c B d) (hL : LifeI B d n) (hn : n ≤ 1000000) :
    Calls Try.prog 50 #[.pointer (some ⟨b, 0, none⟩)] w fun e w' => ∃ (rv er : Int) (B' : Bt) (d' : Dk), e = .returned (.tuple #[.int .i64 rv, .int .i64 er]) ∧ NextR B B' rv er ∧ LifeI B' d' (n + 1) ∧ BtAt w' b c B' d' ∧ Chg w w' b c := by
  obtain ⟨m1, m2, m3, m4⟩ := hL.may
  have hr := hL.rnd
  cases ho : d.off with
  | true =>
    refine (bnext_off b c B d w h ho).mono ?_
    rintro e w' ⟨rfl, hB⟩
    exact ⟨0, 100, B, d, rfl, ⟨fun h => absurd h (by decide), fun _ => rfl, rfl, rfl, rfl, Nat.le_refl _⟩, hL.more (by omega), h.below hB, Chg.below hB b c⟩
  | false =>
    by_cases he : B.round = 1099511627775
    · refine (bnext_end b c B d w h ho he).mono ?_
      rintro e w' ⟨rfl, hB⟩
      exact ⟨0, 120, B, d, rfl, ⟨fun h => absurd h (by decide), fun _ => rfl, rfl, rfl, rfl, Nat.le_refl _⟩, hL.more (by omega), h.below hB, Chg.below hB b c⟩
    · by_cases hk : B.round = B.kround
      · have hsv := life_save hL h.disk.2 hn ho (y := capR B.kround) (z := B.ktag) (capR_le _) m4
        refine (bnext_save b c B d w h ho he (by omega) hk hL.lt (by have := hL.wr.1; omega) hL.wr.2).mono ?_
        rintro e w' ⟨h0, h1, hC⟩
        rcases hsv with ⟨s0, a, s, hc⟩ | ⟨s0, hl⟩
        · obtain ⟨rfl, hT⟩ := h0 s0
          exact ⟨_, 0, { B with kround := capR B.kround, round := B.round + 1 }, _, rfl, ⟨fun _ => ⟨rfl, rfl⟩, fun h => absurd rfl h, rfl, rfl, rfl, capR_ge m3⟩, ⟨⟨s, a, hc⟩, by show B.round + 1 ≤ capR B.kround; have := capR_gt (n := B.kround) (by omega); omega, hL.tg⟩, hT, hC⟩
        · obtain ⟨rfl, hT⟩ := h1 (by rw [s0]; decide)
          exact ⟨0, _, B, _, rfl, ⟨fun h => absurd h (by rw [s0]; decide), fun _ => rfl, rfl, rfl, rfl, Nat.le_refl _⟩, hl, hT, hC⟩
      · refine (bnext_plain b c B d w h ho he (by omega) hk).mono ?_
        rintro e w' ⟨rfl, hT, hC⟩
        obtain ⟨⟨s, a, hc⟩, h2, h3⟩ := hL.more (Nat.le_succ n)
        exact ⟨_, 0, { B with round := B.round + 1 }, d, rfl, ⟨fun _ => ⟨rfl, rfl⟩, fun h => absurd rfl h, rfl, rfl, rfl, Nat.le_refl _⟩, ⟨⟨s, a, hc⟩, by show B.round + 1 ≤ B.kround; omega, h3⟩, hT, hC⟩
/-- What Raise tells, in one. -/
structure RaiseR (B B' : Bt) (t : Nat) (er : Int) : Prop where
  round : B'.round = B.round
  kround : B'.kround = B.kround
  life : B'.life = B.life
  kt : B.ktag ≤ B'.ktag
  tg : B.tag ≤ B'.tag
  ok : er = 0 → t ≤ B'.tag
theorem raise_sum (b c : Nat) (B : Bt) (d : Dk) (n t : Nat) (w : World) (h : BtAt w b c B d) (hL : LifeI B d n) (hn : n ≤ 1000000) :
    Calls Try.prog 53 #[.pointer (some ⟨b, 0, none⟩), .int .i64 (t : Int)] w fun e w' => ∃ (er : Int) (B' : Bt) (d' : Dk), e = .returned (.int .i64 er) ∧ RaiseR B B' t er ∧ LifeI B' d' (n + 1) ∧ BtAt w' b c B' d' ∧ Chg w w' b c := by
  obtain ⟨m1, m2, m3, m4⟩ := hL.may
  have hr := hL.tg
  cases ho : d.off with
  | true =>
    refine (raise_off b c B d t w h ho).mono ?_
    rintro e w' ⟨rfl, hB⟩
    exact ⟨100, B, d, rfl, ⟨rfl, rfl, rfl, Nat.le_refl _, Nat.le_refl _, fun h => absurd h (by decide)⟩, hL.more (by omega), h.below hB, Chg.below hB b c⟩
  | false =>
    by_cases hb : t ≤ 1048576
    · by_cases hlo : t ≤ B.tag
      · refine (raise_low b c B d t w h ho hb hlo).mono ?_
        rintro e w' ⟨rfl, hB⟩
        exact ⟨0, B, d, rfl, ⟨rfl, rfl, rfl, Nat.le_refl _, Nat.le_refl _, fun _ => hlo⟩, hL.more (by omega), h.below hB, Chg.below hB b c⟩
      · by_cases hk : t ≤ B.ktag
        · refine (raise_covered b c B d t w h ho hb (by omega) hk).mono ?_
          rintro e w' ⟨rfl, hT, hC⟩
          obtain ⟨⟨s, a, hc⟩, h2, h3⟩ := hL.more (Nat.le_succ n)
          exact ⟨0, { B with tag := t }, d, rfl, ⟨rfl, rfl, rfl, Nat.le_refl _, by show B.tag ≤ t; omega, fun _ => Nat.le_refl _⟩, ⟨⟨s, a, hc⟩, h2, hk⟩, hT, hC⟩
        · have hsv := life_save hL h.disk.2 hn ho (y := B.kround) (z := capZ t) m3 (capZ_le _)
          refine (raise_save b c B d t w h ho hb (by omega) hk hL.lt (by have := hL.wr.1; omega) hL.wr.2).mono ?_
          rintro e w' ⟨h0, h1, hC⟩
          rcases hsv with ⟨s0, a, s, hc⟩ | ⟨s0, hl⟩
          · obtain ⟨rfl, hT⟩ := h0 s0
            exact ⟨0, { B with ktag := capZ t, tag := t }, _, rfl, ⟨rfl, rfl, rfl, by show B.ktag ≤ capZ t; have := capZ_ge hb; omega, by show B.tag ≤ t; omega, fun _ => Nat.le_refl _⟩, ⟨⟨s, a, hc⟩, hL.rnd, capZ_ge hb⟩, hT, hC⟩
          · obtain ⟨rfl, hT⟩ := h1 (by rw [s0]; decide)
            exact ⟨_, B, _, rfl, ⟨rfl, rfl, rfl, Nat.le_refl _, Nat.le_refl _, fun h => absurd h (by rw [s0]; decide)⟩, hl, hT, hC⟩
    · refine (raise_big b c B d t w h ho (by omega)).mono ?_
      rintro e w' ⟨rfl, hB⟩
      exact ⟨120, B, d, rfl, ⟨rfl, rfl, rfl, Nat.le_refl _, Nat.le_refl _, fun h => absurd h (by decide)⟩, hL.more (by omega), h.below hB, Chg.below hB b c⟩
/-- What Open tells, in one. -/
theorem open_sum (c : Nat) (d : Dk) (st : Option (Rc × Nat)) (n : Nat) (w : World) (h : DkAt w c d) (hC : CuS d st n d.off) (hn : n ≤ 1000000) (hl : (stRec st).life < 1073741824) :
    Calls Try.prog 49 #[.pointer (some ⟨c, 0, none⟩)] w fun e w' =>
      (∃ (b : Nat) (B : Bt) (d' : Dk), e = .returned (.tuple #[.pointer (some ⟨b, 0, none⟩), .int .i64 0]) ∧ w.heap.size ≤ b ∧ BtAt w' b c B d' ∧ LifeI B d' (n + 1) ∧ B.round = (stRec st).round ∧ B.tag = (stRec st).tag ∧ B.life = (stRec st).life + 1 ∧ w.grownBy w' (some c)) ∨
      (∃ d', e = .returned (.tuple #[.pointer none, .int .i64 100]) ∧ DkAt w' c d' ∧ CuS d' st (n + 1) d'.off ∧ w.grownBy w' (some c)) := by
  cases ho : d.off with
  | true =>
    refine (open_off c d w h hC.lt ho).mono ?_
    rintro e w' ⟨rfl, hB⟩
    exact .inr ⟨d, rfl, h.below hB, hC.more (by omega), but_below hB _⟩
  | false =>
    rw [ho] at hC
    have key : ∀ (l1 y z r t : Nat), l1 = (stRec st).life + 1 → r = (stRec st).round → t = (stRec st).tag → r ≤ y → y ≤ 1099511627775 → t ≤ z → z ≤ 1048576 → ∀ (e : Ending) (w' : World), OpenPost w c ⟨l1, y, z, r, t⟩ (saveW d l1 y z) e w' →
        (∃ (b : Nat) (B : Bt) (d' : Dk), e = .returned (.tuple #[.pointer (some ⟨b, 0, none⟩), .int .i64 0]) ∧ w.heap.size ≤ b ∧ BtAt w' b c B d' ∧ LifeI B d' (n + 1) ∧ B.round = (stRec st).round ∧ B.tag = (stRec st).tag ∧ B.life = (stRec st).life + 1 ∧ w.grownBy w' (some c)) ∨
        (∃ d', e = .returned (.tuple #[.pointer none, .int .i64 100]) ∧ DkAt w' c d' ∧ CuS d' st (n + 1) d'.off ∧ w.grownBy w' (some c)) := by
      intro l1 y z r t e1 e2 e3 hy hy2 hz hz2 e w' ⟨h0, h1, hg⟩
      rcases cuS_save hC h.2 hn (x := l1) (y := y) (z := z) ⟨by omega, by omega, by omega, by omega, by omega, by omega⟩ with ⟨s0, a, s, hc⟩ | ⟨s0, hc⟩
      · obtain ⟨b, rfl, hb, hT⟩ := h0 s0
        exact .inl ⟨b, _, _, rfl, hb, hT, ⟨⟨s, a, by rw [hc.on]; exact hc⟩, hy, hz⟩, e2, e3, e1, hg⟩
      · obtain ⟨rfl, hD⟩ := h1 (by rw [s0]; decide)
        exact .inr ⟨_, by rw [s0], hD, by rw [hc.on]; exact hc, hg⟩
    cases st with
    | none =>
      exact (open_none c d w h hC.lt (by have := hC.wr; omega) hC.fz (loadA_none hC.slots ho)).mono
        (key 1 (capR 0) (capT 0) 0 0 rfl rfl rfl (Nat.zero_le _) (capR_le _) (Nat.zero_le _) (capT_le _))
    | some p =>
      obtain ⟨q, a⟩ := p
      have hm := hC.slots.2.1.1
      obtain ⟨m1, m2, m3, m4, _⟩ := hm
      have hl' : q.life < 1073741824 := hl
      exact (open_some c d w h hC.lt (by have := hC.wr; omega) hC.fz q.life q.round q.tag (q.life + 1) q.seq (loadA_some hC.slots ho) rfl (by omega) (by omega) (by omega) (by omega)).mono
        (key (q.life + 1) (capR q.round) (capT q.tag) q.round q.tag rfl rfl rfl (capR_ge m3) (capR_le _) (capT_ge m4) (capT_le _))
end Go.Proofs.Ythkppkecclnlnaa
