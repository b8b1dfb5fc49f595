/- Lemmas of this claim, laid one behind the other. -/
import Derived.Test.YthkppkecclnlnaaSlotAl
import Derived.Test.YthkppkecclnlnaaMBootPlays0
import Derived.Test.YthkppkecclnlnaaMBootPlays2
import Derived.Deep.RegionHeld3
import Derived.BigQuiet
import Derived.Test.YthkppkecclnlnaaRaise
namespace Go.Proofs.Ythkppkecclnlnaa
set_option linter.unusedVariables false
set_option linter.unusedSimpArgs false
open Go.RowKit

/-- The disk behind n saves that were done. -/
structure TnS (d : Dk) (n : Nat) : Prop where
  lt : ∀ c ∈ d.bs, c < 256
  on : d.off = false
  plain : d.fused = false
  fz : d.fuse = 0
  wr : d.writes = 2 * n
  st : ∃ st, SlSt d.bs st ∧ stSeq st = n ∧ stTo st = n % 2
theorem tnS_step {d : Dk} {n : Nat} {x y z : Int} (h : TnS d n) (hb : d.bs.length = 256) (hm : mayR x y z) (hn : n ≤ 40) :
    (saveW d x y z).2 = 0 ∧ TnS (saveW d x y z).1 (n + 1) ∧ loadA (saveW d x y z).1 = .tuple #[recV x y z, .int .i64 ((n + 1 : Nat) : Int), .int .i64 0] ∧
      ∀ j, j < 64 * (n % 2) ∨ 64 * (n % 2) + 64 ≤ j → (saveW d x y z).1.bs[j]? = d.bs[j]? := by
  obtain ⟨h1, h2, h3, h4, h5, st, h6, h7, h8⟩ := h
  rcases save_law h6 hb h2 hm (by omega) with ⟨h0, hs⟩ | ⟨_, hf⟩
  · have hl := loadA_some hs.slots hs.on
    obtain ⟨m1, m2, m3, m4, m5, m6⟩ := hm
    refine ⟨h0, ⟨saveW_lt h1 x y z, hs.on, hs.fused.trans h3, (hs.un h3).trans h4, by rw [hs.writes, h5]; omega, some (⟨x.toNat, y.toNat, z.toNat, stSeq st + 1⟩, stTo st), hs.slots, by show stSeq st + 1 = _; omega, ?_⟩, ?_, ?_⟩
    · show 1 - stTo st = _; omega
    · rw [hl]
      show Value.tuple #[recV ((x.toNat : Nat) : Int) ((y.toNat : Nat) : Int) ((z.toNat : Nat) : Int), .int .i64 ((stSeq st + 1 : Nat) : Int), .int .i64 0] = _
      rw [Int.toNat_of_nonneg (by omega), Int.toNat_of_nonneg (by omega), Int.toNat_of_nonneg (by omega), h7]
    · rw [← h8]; exact hs.out
  · have := hf.fused; rw [h3] at this; cases this
theorem tnS_new : TnS Dk.new 0 := ⟨by decide +kernel, rfl, rfl, rfl, rfl, none, slSt_new, rfl, rfl⟩
/-- What is known behind a save. -/
structure KT (w : World) (b g9 g o : Nat) (a c e : Int) (d : Dk) (W : World) : Prop where
  disk : DkAt W b d
  bx : W.heap[g9]? = some (.cells #[.int .i64 a, .int .i64 c, .int .i64 e] 47 (0, 0))
  r0 : W.cell? ⟨g, o, none⟩ = some (.int .i64 a)
  r1 : W.cell? ⟨g, o + 1, none⟩ = some (.int .i64 c)
  r2 : W.cell? ⟨g, o + 2, none⟩ = some (.int .i64 e)
  low : Below w.heap.size w W
theorem KT.below {w W W' : World} {b g9 g o : Nat} {a c e : Int} {d : Dk} (h : KT w b g9 g o a c e d W) (hb : Below W.heap.size W W') : KT w b g9 g o a c e d W' :=
  ⟨h.disk.below hb, blk_below' hb h.bx, (hb.cell (cell_lt h.r0)).trans h.r0, (hb.cell (cell_lt h.r1)).trans h.r1, (hb.cell (cell_lt h.r2)).trans h.r2, below_then h.low hb⟩
theorem KT.drew {w W : World} {b g9 g o : Nat} {a c e : Int} {d : Dk} (h : KT w b g9 g o a c e d W) : KT w b g9 g o a c e d W.drew := ⟨h.disk, h.bx, h.r0, h.r1, h.r2, h.low.drew⟩
theorem KT.all {w W : World} {b g9 g o : Nat} {a c e : Int} {d : Dk} (h : KT w b g9 g o a c e d W) :
    (W.cell? ⟨g9, 0, none⟩ = some (.int .i64 a) ∧ W.cell? ⟨g9, 1, none⟩ = some (.int .i64 c) ∧ W.cell? ⟨g9, 2, none⟩ = some (.int .i64 e)) ∧ (W.cell? ⟨g, o, none⟩ = some (.int .i64 a) ∧ W.cell? ⟨g, o + 1, none⟩ = some (.int .i64 c) ∧ W.cell? ⟨g, o + 2, none⟩ = some (.int .i64 e)) ∧ KT w b g9 g o a c e d W :=
  ⟨⟨(blk3 h.bx).1, (blk3 h.bx).2.1, (blk3 h.bx).2.2.1⟩, ⟨h.r0, h.r1, h.r2⟩, h⟩
theorem cell_but {W W' : World} {b g : Nat} (hg : W.grownBy W' (some b)) (hne : ¬ g = b) (o : Nat) (x : Value) (h : W.cell? ⟨g, o, none⟩ = some x) : W'.cell? ⟨g, o, none⟩ = some x := by
  obtain ⟨_, _, _, _, hgb⟩ := hg
  have hk := hgb g (cell_lt h) (by simpa using hne)
  unfold World.cell? at h ⊢
  rw [hk]; exact h
theorem rows3 {W : World} {v : Value} {xs : List (List Int)} (h : RowsOf W 3 v xs) {i : Nat} (hi : i < xs.length) :
    ∃ a c e g o cap, xs[i]? = some [a, c, e] ∧ v = .slice (some ⟨g, o, none⟩) xs.length cap ∧ W.cell? ⟨g, o + i * 3, none⟩ = some (.int .i64 a) ∧ W.cell? ⟨g, o + i * 3 + 1, none⟩ = some (.int .i64 c) ∧ W.cell? ⟨g, o + i * 3 + 2, none⟩ = some (.int .i64 e) := by
  obtain ⟨p, cap, rfl, _, _, hx⟩ := h
  obtain ⟨h1, g, o, rfl, _, h2⟩ := hx i _ (List.getElem?_eq_getElem hi)
  obtain ⟨a, c, e, hq⟩ := list3 _ h1
  have h3 := List.getElem?_eq_getElem hi
  rw [hq] at h2 h3
  exact ⟨a, c, e, g, o, cap, h3, rfl, h2 0 a rfl, h2 1 c rfl, h2 2 e rfl⟩
set_option maxRecDepth 100000 in
set_option maxHeartbeats 4000000 in
theorem slotTurns_walk (w : World) (v : Value) (xs : List (List Int)) (hrow : RowsOf w 3 v xs) (hwf : ∀ x ∈ xs, ∀ y ∈ x, (Lit.int .i64 y).wf = true) :
    Calls Try.prog 10 #[v] w fun e w' => e = .returned (.bool true) ∧ Below w.heap.size w w' := by
  have HR := Lib.hid hrow
  obtain ⟨p, cap, rfl, _, _, _⟩ := hrow
  clear hwf
  by_cases hout : 40 < xs.length
  · have b0 : (40 : Int) < (xs.length : Int) := by omega
    clear hout
    go_enter Try.func10, Try.ntmps10
    go_wp2_with (go_at_call 37; refine (alive11_any _).mono ?_; rintro e w9 ⟨rfl, hB9⟩)
    all_goals (go_ret; exact ⟨rfl, hB9⟩)
  · have b0 : ¬ (40 : Int) < (xs.length : Int) := by omega
    have HN := Lib.hid hout
    clear hout
    go_enter Try.func10, Try.ntmps10
    go_wp2_with (go_at_call 21; refine (new_any _).mono ?_; rintro e w1 ⟨rfl, hD1, hB1⟩)
    go_loopw [4, 5] (fun nv iv wr => ∃ (n i : Nat) (d : Dk), nv = .int .i64 n ∧ iv = .int .i64 i ∧ i ≤ xs.length ∧ n ≤ i ∧ TnS d n ∧ DkAt wr w.heap.size d ∧ Below w.heap.size w wr) (fun _ iv _ => xs.length - (intOf iv).toNat)
    case atStart => exact ⟨0, 0, Dk.new, rfl, rfl, by omega, by omega, tnS_new, hD1, hB1⟩
    case round =>
      obtain ⟨n, i, d, rfl, rfl, hi, hni, hT, hD, hb⟩ := hrel
      clear hD1 hB1
      by_cases hlt : i < xs.length
      · obtain ⟨a, c, e0, g, o, cap', hx, hv, r0, r1, r2⟩ := rows3 HR.out hlt
        injection hv with hv1 hv2 hv3
        subst hv1 hv3
        have i1 : (i : Int) < (xs.length : Int) := by omega
        have i2 : (0 : Int) ≤ (i : Int) := by omega
        have i3 : (i : Int).toNat = i := Int.toNat_natCast i
        have hlt0 := hD.lt
        have hgb : ¬ g = w.heap.size := by have := cell_lt r0; simp at this; omega
        have r0 := (hb.cell (cell_lt r0)).trans r0
        have r1 := (hb.cell (cell_lt r1)).trans r1
        have r2 := (hb.cell (cell_lt r2)).trans r2
        go_wp2_with fail
        refine (image_any _ d wr hD).mono ?_
        rintro e w2 ⟨v2, rfl, ho2, hB2⟩
        obtain ⟨gw, cw, rfl, hgw1, hgw2⟩ := ownsRow_pos ho2 (by omega)
        have hcw := row_cap ho2
        have hw2 := row_all ho2 hD.2
        have hD2 := hD.below hB2
        have hb2 := below_then hb hB2
        have r0 := (hB2.cell (cell_lt r0)).trans r0
        have r1 := (hB2.cell (cell_lt r1)).trans r1
        have r2 := (hB2.cell (cell_lt r2)).trans r2
        clear ho2 hD hb
        go_wp2_with fail
        by_cases hm : mayR a c e0
        · obtain ⟨s0, sT, sL, sO⟩ := tnS_step hT hD2.2 hm (by have := HN.out; omega)
          obtain ⟨D, hDe⟩ : ∃ D, saveW d a c e0 = D := ⟨_, rfl⟩
          rw [hDe] at s0 sT sL sO
          have HDE := Lib.hid hDe
          obtain ⟨d', er⟩ := D
          simp only at s0 sT sL sO
          subst s0
          have HT := Lib.hid sT
          have HO := Lib.hid sO
          have hwv : (d'.writes : Int) = 2 * ((n : Int) + 1) := by have := sT.wr; omega
          have hwz : ((n + 1 : Nat) : Int) = (n : Int) + 1 := by omega
          unfold recV at sL
          have HL := Lib.hid sL
          have hdw : d.writes ≤ 4611686018427387903 := by rw [hT.wr]; have := HN.out; omega
          have hdf : d.fuse ≤ 9223372036854775807 := by rw [hT.fz]; decide
          have HLT := Lib.hid hT.lt
          have hn40 : (n : Int) < 40 := by have := HN.out; omega
          clear hDe sT sO sL hT hm
          refine (save_any _ d a c e0 w2 hD2 HLT.out hdw hdf).mono ?_
          rintro e w3 ⟨rfl, hD3, hg3⟩
          rw [HDE.out] at hD3 ⊢
          have hD2len := hD2.2
          have hb3 := hb2.grown hg3 hb2.size (fun j h => by cases h; exact Nat.le_refl _)
          have hw3 := hw2.but hg3 (by show gw ≠ _; omega)
          have cb : ∀ (o : Nat) (x : Value), w2.cell? ⟨g, o, none⟩ = some x → w3.cell? ⟨g, o, none⟩ = some x := cell_but hg3 hgb
          have r0 := cb _ _ r0
          have r1 := cb _ _ r1
          have r2 := cb _ _ r2
          clear cb hw2 hD2 hb2 hg3 hdw hdf HDE
          go_wp2_with fail
          refine (image_any _ d' w3 hD3).mono ?_
          rintro e w4 ⟨v4, rfl, ho4, hB4⟩
          obtain ⟨gn, cn, rfl, hgn1, hgn2⟩ := ownsRow_pos ho4 (by omega)
          have hcn := row_cap ho4
          have hw4 := row_all ho4 hD3.2
          have hD4 := hD3.below hB4
          have hb4 := below_then hb3 hB4
          have hu4 := hw3.below hB4
          have r0 := (hB4.cell (cell_lt r0)).trans r0
          have r1 := (hB4.cell (cell_lt r1)).trans r1
          have r2 := (hB4.cell (cell_lt r2)).trans r2
          clear ho4 hD3 hb3 hw3
          go_wp2_with fail
          refine (load_any _ d' w4 hD4 HT.out.lt).mono ?_
          rintro e w5 ⟨rfl, hB5⟩
          rw [HL.out]
          have hD5 := hD4.below hB5
          have hb5 := below_then hb4 hB5
          have hu5 := hu4.below hB5
          have hw5 := hw4.below hB5
          have r0 := (hB5.cell (cell_lt r0)).trans r0
          have r1 := (hB5.cell (cell_lt r1)).trans r1
          have r2 := (hB5.cell (cell_lt r2)).trans r2
          obtain ⟨W6, hW6⟩ : ∃ W6, w5.alloc (.cells #[.int .i64 a, .int .i64 c, .int .i64 e0] 47) = W6 := ⟨_, rfl⟩
          have hal : Below w5.heap.size w5 W6 := by rw [← hW6]; exact (Below.refl _ _).alloc (Nat.le_refl _) _
          have hbx : W6.heap[w5.heap.size]? = some (.cells #[.int .i64 a, .int .i64 c, .int .i64 e0] 47 (0, 0)) := by rw [← hW6]; exact box3 w5 _ _ _ _
          have hK : KT w w.heap.size w5.heap.size g (o + i * 3) a c e0 d' W6 := ⟨hD5.below hal, hbx, (hal.cell (cell_lt r0)).trans r0, (hal.cell (cell_lt r1)).trans r1, (hal.cell (cell_lt r2)).trans r2, below_then hb5 hal⟩
          have hu6 := hu5.below hal
          have hw6 := hw5.below hal
          clear r0 r1 r2 hal hbx hD4 hb4 hu4 hw4 hD5 hb5 hu5 hw5
          go_wp2_with fail
          clear hW6
          have HKT := Lib.hid hK
          obtain ⟨⟨x0, x1, x2⟩, ⟨y0, y1, y2⟩, _⟩ := hK.all
          have hwr := fun m => writes_eq w.heap.size d' (W6.drewN m) ⟨hK.disk.1, hK.disk.2⟩
          rw [hwv] at hwr
          have HWR := Lib.hid hwr
          clear hwr hwv hK
          go_quiet (exact Calls.quiet_of_same (HWR.out _))
          have hK : KT w w.heap.size w5.heap.size g (o + i * 3) a c e0 d' (W6.drewN nq) := ⟨HKT.out.disk, HKT.out.bx, HKT.out.r0, HKT.out.r1, HKT.out.r2, below_drewN HKT.out.low nq⟩
          have hu7 : CellsAt (W6.drewN nq) ⟨gw, 0, none⟩ d.bs := hu6
          have hw7 : CellsAt (W6.drewN nq) ⟨gn, 0, none⟩ d'.bs := hw6
          have HLD := Lib.hid hD2len
          generalize W6.drewN nq = W7 at *
          obtain ⟨f, hf⟩ : ∃ f, n % 2 = f := ⟨_, rfl⟩
          rw [hf] at HO
          have hf2 : f < 2 := by omega
          have hf3 : Int.tmod (n : Int) 2 = (f : Int) := by rw [Int.tmod_eq_emod_of_nonneg (by omega)]; omega
          clear x0 x1 x2 y0 y1 y2 HWR HKT hu6 hw6 hf HL
          go_wp2_with fail
          go_loopw [13] (fun kv wr2 => ∃ (k : Nat), kv = .int .i64 k ∧ k ≤ 256 ∧ KT w w.heap.size w5.heap.size g (o + i * 3) a c e0 d' wr2 ∧ CellsAt wr2 ⟨gw, 0, none⟩ d.bs ∧ CellsAt wr2 ⟨gn, 0, none⟩ d'.bs) (fun kv _ => 256 - (intOf kv).toNat)
          case atStart => exact ⟨0, rfl, by omega, hK, hu7, hw7⟩
          case round =>
            obtain ⟨k, rfl, hk, hK2, hu2, hw2⟩ := hrel
            clear hK hu7 hw7
            by_cases hlt2 : k < 256
            · obtain ⟨x, hx⟩ : ∃ x, d.bs[k]? = some x := ⟨_, List.getElem?_eq_getElem (by rw [HLD.out]; exact hlt2)⟩
              obtain ⟨y, hy⟩ : ∃ y, d'.bs[k]? = some y := ⟨_, List.getElem?_eq_getElem (by rw [hK2.disk.2]; exact hlt2)⟩
              obtain ⟨p1, hp1, c1⟩ := hu2 k x hx
              cases hp1
              obtain ⟨p2, hp2, c2⟩ := hw2 k y hy
              cases hp2
              rw [Addr.add_mid, Nat.zero_add] at c1 c2
              have j1 : (k : Int) < 256 := by omega
              have j2 : (0 : Int) ≤ (k : Int) := by omega
              have j3 : (k : Int).toNat = k := Int.toNat_natCast k
              have HK2 := Lib.hid hK2
              have HU2 := Lib.hid hu2
              have HW2 := Lib.hid hw2
              clear hK2 hu2 hw2
              by_cases k1 : (k : Int) < 64 * (f : Int)
              · obtain rfl : x = y := by
                  have := HO.out k (.inl (by omega)); rw [hx, hy] at this; exact (Option.some.inj this).symm
                clear hx hy
                go_wp2_with fail
                go_quiet (fail)
                go_wp2_with fail
                go_roundw
                case rel => exact ⟨k + 1, by go_num, by omega, ⟨HK2.out.disk, HK2.out.bx, HK2.out.r0, HK2.out.r1, HK2.out.r2, below_drewN HK2.out.low nq⟩, HU2.out, HW2.out⟩
                case measure => simp [intOf]; omega
              · by_cases k2 : 64 * (f : Int) + 64 ≤ (k : Int)
                · obtain rfl : x = y := by
                    have := HO.out k (.inr (by omega)); rw [hx, hy] at this; exact (Option.some.inj this).symm
                  clear hx hy
                  have d1 : decide ((k : Int) < 64 * (f : Int)) = false := by simpa using k1
                  have d2 : decide (64 * (f : Int) + 64 ≤ (k : Int)) = true := by simpa using k2
                  clear k1
                  go_wp2_with fail
                  go_quiet (fail)
                  go_wp2_with fail
                  go_roundw
                  case rel => exact ⟨k + 1, by go_num, by omega, ⟨HK2.out.disk, HK2.out.bx, HK2.out.r0, HK2.out.r1, HK2.out.r2, below_drewN HK2.out.low nq⟩, HU2.out, HW2.out⟩
                  case measure => simp [intOf]; omega
                · clear hx hy
                  have d1 : decide ((k : Int) < 64 * (f : Int)) = false := by simpa using k1
                  have d2 : decide (64 * (f : Int) + 64 ≤ (k : Int)) = false := by simpa using k2
                  clear k1 k2
                  go_wp2_with fail
                  go_quiet (fail)
                  go_wp2_with fail
                  go_roundw
                  case rel => exact ⟨k + 1, by go_num, by omega, ⟨HK2.out.disk, HK2.out.bx, HK2.out.r0, HK2.out.r1, HK2.out.r2, below_drewN HK2.out.low nq⟩, HU2.out, HW2.out⟩
                  case measure => simp [intOf]; omega
            · obtain rfl : k = 256 := by omega
              have HK2 := Lib.hid hK2
              clear hK2 hu2 hw2
              go_wp2_with fail
              go_roundw
              case rel => exact ⟨n + 1, i + 1, d', by go_num, by go_num, by omega, by omega, HT.out, HK2.out.disk, HK2.out.low⟩
              case measure => simp [intOf]; omega
        · have hsv := saveW_arg (d := d) hm
          clear hm
          refine (save_any _ d a c e0 w2 hD2 hT.lt (by rw [hT.wr]; have := HN.out; omega) (by rw [hT.fz]; decide)).mono ?_
          rintro e w3 ⟨rfl, hD3, hg3⟩
          rw [hsv] at hD3 ⊢
          have hb3 := hb2.grown hg3 hb2.size (fun j h => by cases h; exact Nat.le_refl _)
          have HT := Lib.hid hT
          clear hT hsv
          go_wp2_with fail
          go_roundw
          case rel => exact ⟨n, i + 1, d, by go_num, by go_num, by omega, by omega, HT.out, hD3, hb3⟩
          case measure => simp [intOf]; omega
      · obtain rfl : i = xs.length := by omega
        have i1 : ¬ (xs.length : Int) < (xs.length : Int) := by omega
        go_wp2_with fail
        refine (alive11_any _).mono ?_
        rintro e w9 ⟨rfl, hB9⟩
        go_wp2_with fail
        go_ret
        exact ⟨rfl, below_then hb hB9⟩
end Go.Proofs.Ythkppkecclnlnaa
namespace Go.Proofs.Ythkppkecclnlnaa
set_option linter.unusedVariables false
set_option linter.unusedSimpArgs false
open Go.RowKit

/-- The disk behind saves, with the power that may have failed at the last one. -/
structure CuS (d : Dk) (st : Option (Rc × Nat)) (i : Nat) (cut : Bool) : Prop where
  slots : SlSt d.bs st
  lt : ∀ c ∈ d.bs, c < 256
  on : d.off = cut
  seq : stSeq st ≤ i
  wr : d.writes ≤ 2 * i
  fz : d.fuse ≤ 9223372036854775807
def stRec : Option (Rc × Nat) → Rc
  | none => Rc.zero
  | some (r, _) => r
theorem cuS_step {d : Dk} {st : Option (Rc × Nat)} {i : Nat} {x y z : Int} (h : CuS d st i false) (hb : d.bs.length = 256) (hi : i ≤ 40) (hm : mayR x y z) :
    ((saveW d x y z).2 = 0 ∧ ∃ a, CuS (saveW d x y z).1 (some (⟨x.toNat, y.toNat, z.toNat, stSeq st + 1⟩, a)) (i + 1) false) ∨ ((saveW d x y z).2 = 100 ∧ CuS (saveW d x y z).1 st (i + 1) true) := by
  obtain ⟨h1, h2, h3, h4, h5, h6⟩ := h
  rcases save_law h1 hb h3 hm (by omega) with ⟨h0, hs⟩ | ⟨h0, hf⟩
  · refine .inl ⟨h0, stTo st, ⟨hs.slots, saveW_lt h2 x y z, hs.on, by show stSeq st + 1 ≤ _; omega, by rw [hs.writes]; omega, ?_⟩⟩
    cases hfu : d.fused with
    | true => rw [(hs.fz hfu).2]; omega
    | false => rw [hs.un hfu]; exact h6
  · exact .inr ⟨h0, ⟨hf.slots, saveW_lt h2 x y z, hf.off, by omega, by rw [hf.writes]; have := hf.fz; omega, by rw [hf.fuse]; decide⟩⟩
theorem loadA_st {d : Dk} {st : Option (Rc × Nat)} (h : SlSt d.bs st) (ho : d.off = false) :
    loadA d = match st with | none => .tuple #[recV 0 0 0, .int .i64 0, .int .i64 40] | some (r, _) => .tuple #[recV r.life r.round r.tag, .int .i64 r.seq, .int .i64 0] := by
  cases st with
  | none => exact loadA_none h ho
  | some p => exact loadA_some h ho
structure CuW (w : World) (s2 : Nat) (d : Dk) (st : Option (Rc × Nat)) (p q r : Int) (W : World) : Prop where
  disk : DkAt W w.heap.size d
  last : W.heap[s2]? = some (.cells #[.int .i64 ((stRec st).life : Int), .int .i64 ((stRec st).round : Int), .int .i64 ((stRec st).tag : Int)] 47 (0, 0))
  try_ : W.heap[s2 + 1]? = some (.cells #[.int .i64 p, .int .i64 q, .int .i64 r] 47 (0, 0))
  low : Below w.heap.size w W
  far : w.heap.size < s2
theorem CuW.below {w W W' : World} {s2 : Nat} {d : Dk} {st : Option (Rc × Nat)} {p q r : Int} (h : CuW w s2 d st p q r W) (hb : Below W.heap.size W W') : CuW w s2 d st p q r W' :=
  ⟨h.disk.below hb, blk_below' hb h.last, blk_below' hb h.try_, below_then h.low hb, h.far⟩
theorem CuW.turn {w W W' : World} {s2 : Nat} {d d' : Dk} {st : Option (Rc × Nat)} {p q r : Int} (h : CuW w s2 d st p q r W) (hg : W.grownBy W' (some w.heap.size)) (hd : DkAt W' w.heap.size d') : CuW w s2 d' st p q r W' :=
  ⟨hd, blk_grown hg h.last (by simp; have := h.far; omega), blk_grown hg h.try_ (by simp; have := h.far; omega), h.low.grown hg h.low.size (fun j hj => by cases hj; exact Nat.le_refl _), h.far⟩
theorem CuW.setLast {w W : World} {s2 : Nat} {d : Dk} {st st' : Option (Rc × Nat)} {p q r : Int} (h : CuW w s2 d st p q r W) :
    CuW w s2 d st' p q r (((W.setCell ⟨s2, 0, none⟩ (.int .i64 ((stRec st').life : Int))).setCell ⟨s2, 1, none⟩ (.int .i64 ((stRec st').round : Int))).setCell ⟨s2, 2, none⟩ (.int .i64 ((stRec st').tag : Int))) := by
  have hlt := blk_lt h.last
  have hf := h.far
  have hgr : W.grownBy (((W.setCell ⟨s2, 0, none⟩ (.int .i64 ((stRec st').life : Int))).setCell ⟨s2, 1, none⟩ (.int .i64 ((stRec st').round : Int))).setCell ⟨s2, 2, none⟩ (.int .i64 ((stRec st').tag : Int))) (some s2) :=
    but_set (but_set (but_set (but_refl _ _) hlt _ _) hlt _ _) hlt _ _
  exact ⟨h.disk.but hgr (by omega), blk_store (blk_store (blk_store h.last 0 _) 1 _) 2 _, blk_grown hgr h.try_ (by simp), h.low.grown hgr h.low.size (fun j hj => by cases hj; omega), hf⟩
theorem CuW.setTry {w W : World} {s2 : Nat} {d : Dk} {st : Option (Rc × Nat)} {p q r p' q' r' : Int} (h : CuW w s2 d st p q r W) :
    CuW w s2 d st p' q' r' (((W.setCell ⟨s2 + 1, 0, none⟩ (.int .i64 p')).setCell ⟨s2 + 1, 1, none⟩ (.int .i64 q')).setCell ⟨s2 + 1, 2, none⟩ (.int .i64 r')) := by
  have hlt := blk_lt h.try_
  have hf := h.far
  have hgr : W.grownBy (((W.setCell ⟨s2 + 1, 0, none⟩ (.int .i64 p')).setCell ⟨s2 + 1, 1, none⟩ (.int .i64 q')).setCell ⟨s2 + 1, 2, none⟩ (.int .i64 r')) (some (s2 + 1)) :=
    but_set (but_set (but_set (but_refl _ _) hlt _ _) hlt _ _) hlt _ _
  exact ⟨h.disk.but hgr (by omega), blk_grown hgr h.last (by simp), blk_store (blk_store (blk_store h.try_ 0 _) 1 _) 2 _, h.low.grown hgr h.low.size (fun j hj => by cases hj; omega), hf⟩
set_option maxRecDepth 100000 in
set_option maxHeartbeats 4000000 in
theorem slotCut_walk (w : World) (v : Value) (k : Int) (xs : List (List Int)) (hrow : RowsOf w 3 v xs) (hwf : ∀ x ∈ xs, ∀ y ∈ x, (Lit.int .i64 y).wf = true) (hk : (Lit.int .i64 k).wf = true) :
    Calls Try.prog 11 #[v, .int .i64 k] w fun e w' => e = .returned (.bool true) ∧ Below w.heap.size w w' := by
  have HR := Lib.hid hrow
  obtain ⟨p, cap, rfl, _, _, _⟩ := hrow
  clear hwf
  have HK := Lib.hid (show k.toNat ≤ 9223372036854775807 by
    simp only [Lit.wf, Bool.and_eq_true, decide_eq_true_eq] at hk
    have h5 : IntKind.i64.max = 9223372036854775807 := by decide
    omega)
  clear hk
  by_cases hout : 40 < xs.length
  · have b0 : (40 : Int) < (xs.length : Int) := by omega
    clear hout
    go_enter Try.func11, Try.ntmps11
    go_wp2_with (go_at_call 37; refine (alive11_any _).mono ?_; rintro e w9 ⟨rfl, hB9⟩)
    all_goals (go_ret; exact ⟨rfl, hB9⟩)
  · have b0 : ¬ (40 : Int) < (xs.length : Int) := by omega
    have HN := Lib.hid hout
    clear hout
    by_cases hk0 : k < 0
    · go_enter Try.func11, Try.ntmps11
      go_wp2_with (go_at_call 37; refine (alive11_any _).mono ?_; rintro e w9 ⟨rfl, hB9⟩)
      all_goals (go_ret; exact ⟨rfl, hB9⟩)
    · obtain ⟨K, rfl⟩ : ∃ K : Nat, k = K := ⟨k.toNat, by omega⟩
      clear hk0
      have b1 : ¬ (K : Int) < 0 := by omega
      have hD0 : (decide (0 ≤ (K : Int))) = true := by simp
      go_enter Try.func11, Try.ntmps11
      go_wp2_with (first
        | (go_at_call 21; refine (new_any _).mono ?_; rintro e w1 ⟨rfl, hD1, hB1⟩)
        | (go_at_call 22; refine (fuse_any _ _ _ _ hD1).mono ?_; rintro e w2 ⟨rfl, hD2, hg2⟩; have hb2 := hB1.grown hg2 hB1.size (fun j h => by cases h; exact Nat.le_refl _)))
      rw [hD0, Int.toNat_natCast] at hD2
      have hC0 : CuS { Dk.new with fused := true, fuse := K } none 0 false := ⟨slSt_new, tnS_new.lt, rfl, Nat.le_refl _, Nat.zero_le _, by have := HK.out; simpa using this⟩
      obtain ⟨d0, hd0⟩ : ∃ d0, ({ Dk.new with fused := true, fuse := K } : Dk) = d0 := ⟨_, rfl⟩
      have hD2 : DkAt w2 w.heap.size d0 := by rw [← hd0]; exact hD2
      rw [hd0] at hC0
      have hlt2 := hD2.lt
      have hW0 : CuW w w2.heap.size d0 none 0 0 0 ((w2.alloc (.cells #[.int .i64 0, .int .i64 0, .int .i64 0] 47)).alloc (.cells #[.int .i64 0, .int .i64 0, .int .i64 0] 47)) :=
        ⟨(hD2.below ((Below.refl _ _).alloc (Nat.le_refl _) _)).below ((Below.refl _ _).alloc (Nat.le_refl _) _), blk_old (blk_new _ _) _, b1' _ _ _, (hb2.alloc hb2.size _).alloc (by simp; have := hb2.size; omega) _, hlt2⟩
      clear hd0 hD1 hB1 hg2 hD2 hb2
      go_loopw [8, 9, 10] (fun sv cv iv wr => ∃ (i : Nat) (cut : Bool) (d : Dk) (st : Option (Rc × Nat)) (p q r : Int), iv = .int .i64 i ∧ i ≤ xs.length ∧ cv = .bool cut ∧ sv = .bool st.isSome ∧ CuS d st i cut ∧ CuW w w2.heap.size d st p q r wr) (fun _ _ iv _ => xs.length - (intOf iv).toNat)
      case atStart => exact ⟨0, false, d0, none, 0, 0, 0, rfl, by omega, rfl, rfl, hC0, hW0⟩
      case round =>
        obtain ⟨i, cut, d, st, p', q', r', rfl, hi, rfl, rfl, hC, hW⟩ := hrel
        clear hC0 hW0
        cases cut with
        | true =>
          by_cases hlt : i < xs.length
          · have i1 : (i : Int) < (xs.length : Int) := by omega
            have hl := loadA_st (d := { d with off := false }) (st := st) hC.slots rfl
            have HLT := Lib.hid hC.lt
            cases st with
            | none =>
              simp only at hl
              unfold recV at hl
              have HL := Lib.hid hl
              clear hl
              go_wp2_with fail
              refine (restore_any _ d _ hW.disk).mono ?_
              rintro e w3 ⟨rfl, hD3, hg3⟩
              have hW3 := hW.turn hg3 hD3
              go_wp2_with fail
              refine (load_any _ _ w3 hW3.disk HLT.out).mono ?_
              rintro e w4 ⟨rfl, hB4⟩
              rw [HL.out]
              have hW4 := hW3.below hB4
              have hW5 := hW4.below ((Below.refl _ w4).alloc (Nat.le_refl _) (.cells #[.int .i64 0, .int .i64 0, .int .i64 0] 47))
              go_wp2_with fail
              refine (alive11_any _).mono ?_
              rintro e w6 ⟨rfl, hB6⟩
              have hW6 := hW5.below hB6
              go_wp2_with fail
              go_ret
              exact ⟨rfl, hW6.low⟩
            | some s =>
              obtain ⟨r, a⟩ := s
              simp only at hl
              unfold recV at hl
              have HL := Lib.hid hl
              clear hl
              go_wp2_with fail
              refine (restore_any _ d _ hW.disk).mono ?_
              rintro e w3 ⟨rfl, hD3, hg3⟩
              have hW3 := hW.turn hg3 hD3
              go_wp2_with fail
              refine (load_any _ _ w3 hW3.disk HLT.out).mono ?_
              rintro e w4 ⟨rfl, hB4⟩
              rw [HL.out]
              have hW4 := hW3.below hB4
              have hW5 := hW4.below ((Below.refl _ w4).alloc (Nat.le_refl _) (.cells #[.int .i64 (r.life : Int), .int .i64 (r.round : Int), .int .i64 (r.tag : Int)] 47))
              have hn5 := box3 w4 (.int .i64 (r.life : Int)) (.int .i64 (r.round : Int)) (.int .i64 (r.tag : Int)) 47
              obtain ⟨W5, hWW⟩ : ∃ W5, w4.alloc (.cells #[.int .i64 (r.life : Int), .int .i64 (r.round : Int), .int .i64 (r.tag : Int)] 47) = W5 := ⟨_, rfl⟩
              rw [hWW] at hW5 hn5
              go_wp2_with fail
              (try rw [hWW])
              refine (alive11_any _).mono ?_
              rintro e w6 ⟨rfl, hB6⟩
              have hW6 := hW5.below hB6
              obtain ⟨x0, x1, x2, _⟩ := blk3 (blk_below' hB6 hn5)
              obtain ⟨y0, y1, y2, _⟩ := blk3 hW6.last
              simp only [stRec] at y0 y1 y2
              obtain ⟨z0, z1, z2, _⟩ := blk3 hW6.try_
              have HLO := Lib.hid hW6.low
              clear hWW hW hW3 hW4 hW5 hW6 hn5 hB6
              go_wp2_with fail
              go_ret
              exact ⟨rfl, HLO.out⟩
          · have i1 : ¬ (i : Int) < (xs.length : Int) := by omega
            have hl := loadA_st (d := { d with off := false }) (st := st) hC.slots rfl
            have HLT := Lib.hid hC.lt
            cases st with
            | none =>
              simp only at hl
              unfold recV at hl
              have HL := Lib.hid hl
              clear hl
              go_wp2_with fail
              refine (restore_any _ d _ hW.disk).mono ?_
              rintro e w3 ⟨rfl, hD3, hg3⟩
              have hW3 := hW.turn hg3 hD3
              go_wp2_with fail
              refine (load_any _ _ w3 hW3.disk HLT.out).mono ?_
              rintro e w4 ⟨rfl, hB4⟩
              rw [HL.out]
              have hW4 := hW3.below hB4
              have hW5 := hW4.below ((Below.refl _ w4).alloc (Nat.le_refl _) (.cells #[.int .i64 0, .int .i64 0, .int .i64 0] 47))
              go_wp2_with fail
              refine (alive11_any _).mono ?_
              rintro e w6 ⟨rfl, hB6⟩
              have hW6 := hW5.below hB6
              go_wp2_with fail
              go_ret
              exact ⟨rfl, hW6.low⟩
            | some s =>
              obtain ⟨r, a⟩ := s
              simp only at hl
              unfold recV at hl
              have HL := Lib.hid hl
              clear hl
              go_wp2_with fail
              refine (restore_any _ d _ hW.disk).mono ?_
              rintro e w3 ⟨rfl, hD3, hg3⟩
              have hW3 := hW.turn hg3 hD3
              go_wp2_with fail
              refine (load_any _ _ w3 hW3.disk HLT.out).mono ?_
              rintro e w4 ⟨rfl, hB4⟩
              rw [HL.out]
              have hW4 := hW3.below hB4
              have hW5 := hW4.below ((Below.refl _ w4).alloc (Nat.le_refl _) (.cells #[.int .i64 (r.life : Int), .int .i64 (r.round : Int), .int .i64 (r.tag : Int)] 47))
              have hn5 := box3 w4 (.int .i64 (r.life : Int)) (.int .i64 (r.round : Int)) (.int .i64 (r.tag : Int)) 47
              obtain ⟨W5, hWW⟩ : ∃ W5, w4.alloc (.cells #[.int .i64 (r.life : Int), .int .i64 (r.round : Int), .int .i64 (r.tag : Int)] 47) = W5 := ⟨_, rfl⟩
              rw [hWW] at hW5 hn5
              go_wp2_with fail
              (try rw [hWW])
              refine (alive11_any _).mono ?_
              rintro e w6 ⟨rfl, hB6⟩
              have hW6 := hW5.below hB6
              obtain ⟨x0, x1, x2, _⟩ := blk3 (blk_below' hB6 hn5)
              obtain ⟨y0, y1, y2, _⟩ := blk3 hW6.last
              simp only [stRec] at y0 y1 y2
              obtain ⟨z0, z1, z2, _⟩ := blk3 hW6.try_
              have HLO := Lib.hid hW6.low
              clear hWW hW hW3 hW4 hW5 hW6 hn5 hB6
              go_wp2_with fail
              go_ret
              exact ⟨rfl, HLO.out⟩
        | false =>
          by_cases hlt : i < xs.length
          · obtain ⟨a, c, e0, g, o, cap', hx, hv, r0, r1, r2⟩ := rows3 HR.out hlt
            injection hv with hv1 hv2 hv3
            subst hv1 hv3
            have i1 : (i : Int) < (xs.length : Int) := by omega
            have i2 : (0 : Int) ≤ (i : Int) := by omega
            have i3 : (i : Int).toNat = i := Int.toNat_natCast i
            have hgb : ¬ g = w.heap.size := by have := cell_lt r0; simp at this; omega
            have r0 := (hW.low.cell (cell_lt r0)).trans r0
            have r1 := (hW.low.cell (cell_lt r1)).trans r1
            have r2 := (hW.low.cell (cell_lt r2)).trans r2
            have HSV := Lib.hid (save_any w.heap.size d a c e0 wr hW.disk hC.lt (by have := hC.wr; have := HN.out; omega) hC.fz)
            unfold recV at HSV
            by_cases hm : mayR a c e0
            · have hst := cuS_step hC hW.disk.2 (by have := HN.out; omega) hm
              obtain ⟨D, hDe⟩ : ∃ D, saveW d a c e0 = D := ⟨_, rfl⟩
              rw [hDe] at hst HSV
              obtain ⟨d', er⟩ := D
              simp only at hst HSV
              have HMR := Lib.hid hm
              rcases hst with ⟨h0, ac, hC'⟩ | ⟨h0, hC'⟩
              · subst h0
                have HC := Lib.hid hC'
                clear hC hC' hm hDe
                go_wp2_with fail
                refine HSV.out.mono ?_
                rintro e w3 ⟨rfl, hD3, hg3⟩
                have hW3 := hW.turn hg3 hD3
                have cb : ∀ (o : Nat) (x : Value), wr.cell? ⟨g, o, none⟩ = some x → w3.cell? ⟨g, o, none⟩ = some x := cell_but hg3 hgb
                have r0 := cb _ _ r0
                have r1 := cb _ _ r1
                have r2 := cb _ _ r2
                obtain ⟨y0, y1, y2, f0, f1, f2⟩ := blk3 hW3.last
                have HW3 := Lib.hid hW3
                clear cb hg3 hD3 hW3 hW HSV
                go_wp2_with fail
                go_roundw
                case rel =>
                  refine ⟨i + 1, false, d', _, p', q', r', by go_num, by omega, rfl, by rfl, HC.out, ?_⟩
                  have hm := HMR.out
                  have := HW3.out.setLast (st' := some (⟨a.toNat, c.toNat, e0.toNat, stSeq st + 1⟩, ac))
                  obtain ⟨m1, m2, m3, m4, m5, m6⟩ := hm
                  simp only [stRec] at this
                  rw [Int.toNat_of_nonneg (by omega), Int.toNat_of_nonneg (by omega), Int.toNat_of_nonneg (by omega)] at this
                  exact this
                case measure => simp [intOf]; omega
              · subst h0
                have HC := Lib.hid hC'
                clear hC hC' hm hDe
                go_wp2_with fail
                refine HSV.out.mono ?_
                rintro e w3 ⟨rfl, hD3, hg3⟩
                have hW3 := hW.turn hg3 hD3
                have cb : ∀ (o : Nat) (x : Value), wr.cell? ⟨g, o, none⟩ = some x → w3.cell? ⟨g, o, none⟩ = some x := cell_but hg3 hgb
                have r0 := cb _ _ r0
                have r1 := cb _ _ r1
                have r2 := cb _ _ r2
                obtain ⟨y0, y1, y2, f0, f1, f2⟩ := blk3 hW3.try_
                have HW3 := Lib.hid hW3
                clear cb hg3 hD3 hW3 hW HSV
                go_wp2_with fail
                go_roundw
                case rel => exact ⟨i + 1, true, d', st, a, c, e0, by go_num, by omega, rfl, rfl, HC.out, HW3.out.setTry⟩
                case measure => simp [intOf]; omega
            · rw [saveW_arg hm] at HSV
              simp only at HSV
              clear hm
              have HC := Lib.hid hC
              clear hC
              go_wp2_with fail
              refine HSV.out.mono ?_
              rintro e w3 ⟨rfl, hD3, hg3⟩
              have HW3 := Lib.hid (hW.turn hg3 hD3)
              clear hg3 hD3 hW HSV r0 r1 r2
              go_wp2_with fail
              go_roundw
              case rel => exact ⟨i + 1, false, d, st, p', q', r', by go_num, by omega, rfl, rfl, ⟨HC.out.slots, HC.out.lt, HC.out.on, by have := HC.out.seq; omega, by have := HC.out.wr; omega, HC.out.fz⟩, HW3.out⟩
              case measure => simp [intOf]; omega
          · have i1 : ¬ (i : Int) < (xs.length : Int) := by omega
            have hl := loadA_st (d := { d with off := false }) (st := st) hC.slots rfl
            have HLT := Lib.hid hC.lt
            cases st with
            | none =>
              simp only at hl
              unfold recV at hl
              have HL := Lib.hid hl
              clear hl
              go_wp2_with fail
              refine (restore_any _ d _ hW.disk).mono ?_
              rintro e w3 ⟨rfl, hD3, hg3⟩
              have hW3 := hW.turn hg3 hD3
              go_wp2_with fail
              refine (load_any _ _ w3 hW3.disk HLT.out).mono ?_
              rintro e w4 ⟨rfl, hB4⟩
              rw [HL.out]
              have hW4 := hW3.below hB4
              have hW5 := hW4.below ((Below.refl _ w4).alloc (Nat.le_refl _) (.cells #[.int .i64 0, .int .i64 0, .int .i64 0] 47))
              go_wp2_with fail
              refine (alive11_any _).mono ?_
              rintro e w6 ⟨rfl, hB6⟩
              have hW6 := hW5.below hB6
              go_wp2_with fail
              go_ret
              exact ⟨rfl, hW6.low⟩
            | some s =>
              obtain ⟨r, a⟩ := s
              simp only at hl
              unfold recV at hl
              have HL := Lib.hid hl
              clear hl
              go_wp2_with fail
              refine (restore_any _ d _ hW.disk).mono ?_
              rintro e w3 ⟨rfl, hD3, hg3⟩
              have hW3 := hW.turn hg3 hD3
              go_wp2_with fail
              refine (load_any _ _ w3 hW3.disk HLT.out).mono ?_
              rintro e w4 ⟨rfl, hB4⟩
              rw [HL.out]
              have hW4 := hW3.below hB4
              have hW5 := hW4.below ((Below.refl _ w4).alloc (Nat.le_refl _) (.cells #[.int .i64 (r.life : Int), .int .i64 (r.round : Int), .int .i64 (r.tag : Int)] 47))
              have hn5 := box3 w4 (.int .i64 (r.life : Int)) (.int .i64 (r.round : Int)) (.int .i64 (r.tag : Int)) 47
              obtain ⟨W5, hWW⟩ : ∃ W5, w4.alloc (.cells #[.int .i64 (r.life : Int), .int .i64 (r.round : Int), .int .i64 (r.tag : Int)] 47) = W5 := ⟨_, rfl⟩
              rw [hWW] at hW5 hn5
              go_wp2_with fail
              (try rw [hWW])
              refine (alive11_any _).mono ?_
              rintro e w6 ⟨rfl, hB6⟩
              have hW6 := hW5.below hB6
              obtain ⟨x0, x1, x2, _⟩ := blk3 (blk_below' hB6 hn5)
              obtain ⟨y0, y1, y2, _⟩ := blk3 hW6.last
              simp only [stRec] at y0 y1 y2
              obtain ⟨z0, z1, z2, _⟩ := blk3 hW6.try_
              have HLO := Lib.hid hW6.low
              clear hWW hW hW3 hW4 hW5 hW6 hn5 hB6
              go_wp2_with fail
              go_ret
              exact ⟨rfl, HLO.out⟩
end Go.Proofs.Ythkppkecclnlnaa
namespace Go.Proofs.Ythkppkecclnlnaa
set_option linter.unusedVariables false
open Go.RowKit

theorem cuS_save {d : Dk} {st : Option (Rc × Nat)} {i : Nat} {x y z : Nat} (h : CuS d st i false) (hb : d.bs.length = 256) (hi : i ≤ 1000000) (hm : mayR x y z) :
    ((saveW d x y z).2 = 0 ∧ ∃ a s, CuS (saveW d x y z).1 (some (⟨x, y, z, s⟩, a)) (i + 1) false) ∨ ((saveW d x y z).2 = 100 ∧ CuS (saveW d x y z).1 st (i + 1) true) := by
  obtain ⟨h1, h2, h3, h4, h5, h6⟩ := h
  rcases save_law h1 hb h3 hm (by omega) with ⟨h0, hs⟩ | ⟨h0, hf⟩
  · refine .inl ⟨h0, stTo st, stSeq st + 1, ⟨?_, saveW_lt h2 x y z, hs.on, by show stSeq st + 1 ≤ _; omega, by rw [hs.writes]; omega, ?_⟩⟩
    · have := hs.slots
      rw [Int.toNat_natCast, Int.toNat_natCast, Int.toNat_natCast] at this
      exact this
    · cases hfu : d.fused with
      | true => rw [(hs.fz hfu).2]; omega
      | false => rw [hs.un hfu]; exact h6
  · exact .inr ⟨h0, ⟨hf.slots, saveW_lt h2 x y z, hf.off, by omega, by rw [hf.writes]; have := hf.fz; omega, by rw [hf.fuse]; decide⟩⟩
theorem CuS.more {d : Dk} {st : Option (Rc × Nat)} {i j : Nat} {c : Bool} (h : CuS d st i c) (hj : i ≤ j) : CuS d st j c := ⟨h.slots, h.lt, h.on, by have := h.seq; omega, by have := h.wr; omega, h.fz⟩
/-- What is durable covers what was handed out. -/
structure LifeI (B : Bt) (d : Dk) (n : Nat) : Prop where
  disk : ∃ s a, CuS d (some (⟨B.life, B.kround, B.ktag, s⟩, a)) n d.off
  rnd : B.round ≤ B.kround
  tg : B.tag ≤ B.ktag
theorem LifeI.may {B : Bt} {d : Dk} {n : Nat} (h : LifeI B d n) : 1 ≤ B.life ∧ B.life ≤ 1073741824 ∧ B.kround ≤ 1099511627775 ∧ B.ktag ≤ 1048576 := by
  obtain ⟨s, a, hc⟩ := h.disk
  have := hc.slots.2.1.1
  exact ⟨this.1, this.2.1, this.2.2.1, this.2.2.2.1⟩
theorem LifeI.lt {B : Bt} {d : Dk} {n : Nat} (h : LifeI B d n) : ∀ c ∈ d.bs, c < 256 := by obtain ⟨s, a, hc⟩ := h.disk; exact hc.lt
theorem LifeI.wr {B : Bt} {d : Dk} {n : Nat} (h : LifeI B d n) : d.writes ≤ 2 * n ∧ d.fuse ≤ 9223372036854775807 := by obtain ⟨s, a, hc⟩ := h.disk; exact ⟨hc.wr, hc.fz⟩
theorem LifeI.more {B : Bt} {d : Dk} {i j : Nat} (h : LifeI B d i) (hj : i ≤ j) : LifeI B d j := by
  obtain ⟨⟨s, a, hc⟩, h2, h3⟩ := h
  exact ⟨⟨s, a, hc.more hj⟩, h2, h3⟩
/-- A save from within a life. -/
theorem life_save {B : Bt} {d : Dk} {n : Nat} (h : LifeI B d n) (hb : d.bs.length = 256) (hn : n ≤ 1000000) (ho : d.off = false) {y z : Nat} (hy : y ≤ 1099511627775) (hz : z ≤ 1048576) :
    ((saveW d B.life y z).2 = 0 ∧ ∃ a s, CuS (saveW d B.life y z).1 (some (⟨B.life, y, z, s⟩, a)) (n + 1) (saveW d B.life y z).1.off) ∨ ((saveW d B.life y z).2 = 100 ∧ LifeI B (saveW d B.life y z).1 (n + 1)) := by
  obtain ⟨⟨s, a, hc⟩, h2, h3⟩ := h
  rw [ho] at hc
  have hm := hc.slots.2.1.1
  have h1 : 1 ≤ B.life := hm.1
  have h4 : B.life ≤ 1073741824 := hm.2.1
  rcases cuS_save hc hb hn (x := B.life) (y := y) (z := z) ⟨by omega, by omega, by omega, by omega, by omega, by omega⟩ with ⟨h0, a', s', h5⟩ | ⟨h0, h5⟩
  · exact .inl ⟨h0, a', s', by rw [h5.on]; exact h5⟩
  · exact .inr ⟨h0, ⟨⟨s, a, by rw [h5.on]; exact h5⟩, h2, h3⟩⟩
theorem capR_le (n : Nat) : capR n ≤ 1099511627775 := by unfold capR; omega
theorem capR_ge {n : Nat} (h : n ≤ 1099511627775) : n ≤ capR n := by unfold capR; omega
theorem capR_gt {n : Nat} (h : n < 1099511627775) : n < capR n := by unfold capR; omega
theorem capT_le (n : Nat) : capT n ≤ 1048576 := by unfold capT; omega
theorem capT_ge {n : Nat} (h : n ≤ 1048576) : n ≤ capT n := by unfold capT; omega
theorem capZ_le (n : Nat) : capZ n ≤ 1048576 := by unfold capZ; omega
theorem capZ_ge {n : Nat} (h : n ≤ 1048576) : n ≤ capZ n := by unfold capZ; omega
/-- What Next tells, in one. -/
structure NextR (B B' : Bt) (rv er : Int) : Prop where
  ok : er = 0 → rv = ((B.round + 1 : Nat) : Int) ∧ B'.round = B.round + 1
  no : er ≠ 0 → B' = B
  tag : B'.tag = B.tag
  ktag : B'.ktag = B.ktag
  life : B'.life = B.life
  kr : B.kround ≤ B'.kround
theorem next_sum (b c : Nat) (B : Bt) (d : Dk) (n : Nat) (w : World) (h : BtAt w b c B d) (hL : LifeI B d n) (hn : n ≤ 1000000) :
    Calls Try.prog 50 #[.pointer (some ⟨b, 0, none⟩)] w fun e w' => ∃ (rv er : Int) (B' : Bt) (d' : Dk), e = .returned (.tuple #[.int .i64 rv, .int .i64 er]) ∧ NextR B B' rv er ∧ LifeI B' d' (n + 1) ∧ BtAt w' b c B' d' ∧ Ch2 w w' b c := by
  obtain ⟨m1, m2, m3, m4⟩ := hL.may
  have hr := hL.rnd
  cases ho : d.off with
  | true =>
    refine (bnext_off b c B d w h ho).mono ?_
    rintro e w' ⟨rfl, hB⟩
    exact ⟨0, 100, B, d, rfl, ⟨fun h => absurd h (by decide), fun _ => rfl, rfl, rfl, rfl, Nat.le_refl _⟩, hL.more (by omega), h.below hB, Ch2.below hB b c⟩
  | false =>
    by_cases he : B.round = 1099511627775
    · refine (bnext_end b c B d w h ho he).mono ?_
      rintro e w' ⟨rfl, hB⟩
      exact ⟨0, 120, B, d, rfl, ⟨fun h => absurd h (by decide), fun _ => rfl, rfl, rfl, rfl, Nat.le_refl _⟩, hL.more (by omega), h.below hB, Ch2.below hB b c⟩
    · by_cases hk : B.round = B.kround
      · have hsv := life_save hL h.disk.2 hn ho (y := capR B.kround) (z := B.ktag) (capR_le _) m4
        refine (bnext_save b c B d w h ho he (by omega) hk hL.lt (by have := hL.wr.1; omega) hL.wr.2).mono ?_
        rintro e w' ⟨h0, h1, hC⟩
        rcases hsv with ⟨s0, a, s, hc⟩ | ⟨s0, hl⟩
        · obtain ⟨rfl, hT⟩ := h0 s0
          exact ⟨_, 0, { B with kround := capR B.kround, round := B.round + 1 }, _, rfl, ⟨fun _ => ⟨rfl, rfl⟩, fun h => absurd rfl h, rfl, rfl, rfl, capR_ge m3⟩, ⟨⟨s, a, hc⟩, by show B.round + 1 ≤ capR B.kround; have := capR_gt (n := B.kround) (by omega); omega, hL.tg⟩, hT, hC⟩
        · obtain ⟨rfl, hT⟩ := h1 (by rw [s0]; decide)
          exact ⟨0, _, B, _, rfl, ⟨fun h => absurd h (by rw [s0]; decide), fun _ => rfl, rfl, rfl, rfl, Nat.le_refl _⟩, hl, hT, hC⟩
      · refine (bnext_plain b c B d w h ho he (by omega) hk).mono ?_
        rintro e w' ⟨rfl, hT, hC⟩
        obtain ⟨⟨s, a, hc⟩, h2, h3⟩ := hL.more (Nat.le_succ n)
        exact ⟨_, 0, { B with round := B.round + 1 }, d, rfl, ⟨fun _ => ⟨rfl, rfl⟩, fun h => absurd rfl h, rfl, rfl, rfl, Nat.le_refl _⟩, ⟨⟨s, a, hc⟩, by show B.round + 1 ≤ B.kround; omega, h3⟩, hT, hC⟩
/-- What Raise tells, in one. -/
structure RaiseR (B B' : Bt) (t : Nat) (er : Int) : Prop where
  round : B'.round = B.round
  kround : B'.kround = B.kround
  life : B'.life = B.life
  kt : B.ktag ≤ B'.ktag
  tg : B.tag ≤ B'.tag
  ok : er = 0 → t ≤ B'.tag
theorem raise_sum (b c : Nat) (B : Bt) (d : Dk) (n t : Nat) (w : World) (h : BtAt w b c B d) (hL : LifeI B d n) (hn : n ≤ 1000000) :
    Calls Try.prog 53 #[.pointer (some ⟨b, 0, none⟩), .int .i64 (t : Int)] w fun e w' => ∃ (er : Int) (B' : Bt) (d' : Dk), e = .returned (.int .i64 er) ∧ RaiseR B B' t er ∧ LifeI B' d' (n + 1) ∧ BtAt w' b c B' d' ∧ Ch2 w w' b c := by
  obtain ⟨m1, m2, m3, m4⟩ := hL.may
  have hr := hL.tg
  cases ho : d.off with
  | true =>
    refine (raise_off b c B d t w h ho).mono ?_
    rintro e w' ⟨rfl, hB⟩
    exact ⟨100, B, d, rfl, ⟨rfl, rfl, rfl, Nat.le_refl _, Nat.le_refl _, fun h => absurd h (by decide)⟩, hL.more (by omega), h.below hB, Ch2.below hB b c⟩
  | false =>
    by_cases hb : t ≤ 1048576
    · by_cases hlo : t ≤ B.tag
      · refine (raise_low b c B d t w h ho hb hlo).mono ?_
        rintro e w' ⟨rfl, hB⟩
        exact ⟨0, B, d, rfl, ⟨rfl, rfl, rfl, Nat.le_refl _, Nat.le_refl _, fun _ => hlo⟩, hL.more (by omega), h.below hB, Ch2.below hB b c⟩
      · by_cases hk : t ≤ B.ktag
        · refine (raise_covered b c B d t w h ho hb (by omega) hk).mono ?_
          rintro e w' ⟨rfl, hT, hC⟩
          obtain ⟨⟨s, a, hc⟩, h2, h3⟩ := hL.more (Nat.le_succ n)
          exact ⟨0, { B with tag := t }, d, rfl, ⟨rfl, rfl, rfl, Nat.le_refl _, by show B.tag ≤ t; omega, fun _ => Nat.le_refl _⟩, ⟨⟨s, a, hc⟩, h2, hk⟩, hT, hC⟩
        · have hsv := life_save hL h.disk.2 hn ho (y := B.kround) (z := capZ t) m3 (capZ_le _)
          refine (raise_save b c B d t w h ho hb (by omega) hk hL.lt (by have := hL.wr.1; omega) hL.wr.2).mono ?_
          rintro e w' ⟨h0, h1, hC⟩
          rcases hsv with ⟨s0, a, s, hc⟩ | ⟨s0, hl⟩
          · obtain ⟨rfl, hT⟩ := h0 s0
            exact ⟨0, { B with ktag := capZ t, tag := t }, _, rfl, ⟨rfl, rfl, rfl, by show B.ktag ≤ capZ t; have := capZ_ge hb; omega, by show B.tag ≤ t; omega, fun _ => Nat.le_refl _⟩, ⟨⟨s, a, hc⟩, hL.rnd, capZ_ge hb⟩, hT, hC⟩
          · obtain ⟨rfl, hT⟩ := h1 (by rw [s0]; decide)
            exact ⟨_, B, _, rfl, ⟨rfl, rfl, rfl, Nat.le_refl _, Nat.le_refl _, fun h => absurd h (by rw [s0]; decide)⟩, hl, hT, hC⟩
    · refine (raise_big b c B d t w h ho (by omega)).mono ?_
      rintro e w' ⟨rfl, hB⟩
      exact ⟨120, B, d, rfl, ⟨rfl, rfl, rfl, Nat.le_refl _, Nat.le_refl _, fun h => absurd h (by decide)⟩, hL.more (by omega), h.below hB, Ch2.below hB b c⟩
/-- What Open tells, in one. -/
theorem open_sum (c : Nat) (d : Dk) (st : Option (Rc × Nat)) (n : Nat) (w : World) (h : DkAt w c d) (hC : CuS d st n d.off) (hn : n ≤ 1000000) (hl : (stRec st).life < 1073741824) :
    Calls Try.prog 49 #[.pointer (some ⟨c, 0, none⟩)] w fun e w' =>
      (∃ (b : Nat) (B : Bt) (d' : Dk), e = .returned (.tuple #[.pointer (some ⟨b, 0, none⟩), .int .i64 0]) ∧ w.heap.size ≤ b ∧ BtAt w' b c B d' ∧ LifeI B d' (n + 1) ∧ B.round = (stRec st).round ∧ B.tag = (stRec st).tag ∧ B.life = (stRec st).life + 1 ∧ w.grownBy w' (some c)) ∨
      (∃ d', e = .returned (.tuple #[.pointer none, .int .i64 100]) ∧ DkAt w' c d' ∧ CuS d' st (n + 1) d'.off ∧ w.grownBy w' (some c)) := by
  cases ho : d.off with
  | true =>
    refine (open_off c d w h hC.lt ho).mono ?_
    rintro e w' ⟨rfl, hB⟩
    exact .inr ⟨d, rfl, h.below hB, hC.more (by omega), but_below hB _⟩
  | false =>
    rw [ho] at hC
    have key : ∀ (l1 y z r t : Nat), l1 = (stRec st).life + 1 → r = (stRec st).round → t = (stRec st).tag → r ≤ y → y ≤ 1099511627775 → t ≤ z → z ≤ 1048576 → ∀ (e : Ending) (w' : World), OpenPost w c ⟨l1, y, z, r, t⟩ (saveW d l1 y z) e w' →
        (∃ (b : Nat) (B : Bt) (d' : Dk), e = .returned (.tuple #[.pointer (some ⟨b, 0, none⟩), .int .i64 0]) ∧ w.heap.size ≤ b ∧ BtAt w' b c B d' ∧ LifeI B d' (n + 1) ∧ B.round = (stRec st).round ∧ B.tag = (stRec st).tag ∧ B.life = (stRec st).life + 1 ∧ w.grownBy w' (some c)) ∨
        (∃ d', e = .returned (.tuple #[.pointer none, .int .i64 100]) ∧ DkAt w' c d' ∧ CuS d' st (n + 1) d'.off ∧ w.grownBy w' (some c)) := by
      intro l1 y z r t e1 e2 e3 hy hy2 hz hz2 e w' ⟨h0, h1, hg⟩
      rcases cuS_save hC h.2 hn (x := l1) (y := y) (z := z) ⟨by omega, by omega, by omega, by omega, by omega, by omega⟩ with ⟨s0, a, s, hc⟩ | ⟨s0, hc⟩
      · obtain ⟨b, rfl, hb, hT⟩ := h0 s0
        exact .inl ⟨b, _, _, rfl, hb, hT, ⟨⟨s, a, by rw [hc.on]; exact hc⟩, hy, hz⟩, e2, e3, e1, hg⟩
      · obtain ⟨rfl, hD⟩ := h1 (by rw [s0]; decide)
        exact .inr ⟨_, by rw [s0], hD, by rw [hc.on]; exact hc, hg⟩
    cases st with
    | none =>
      exact (open_none c d w h hC.lt (by have := hC.wr; omega) hC.fz (loadA_none hC.slots ho)).mono
        (key 1 (capR 0) (capT 0) 0 0 rfl rfl rfl (Nat.zero_le _) (capR_le _) (Nat.zero_le _) (capT_le _))
    | some p =>
      obtain ⟨q, a⟩ := p
      have hm := hC.slots.2.1.1
      obtain ⟨m1, m2, m3, m4, _⟩ := hm
      have hl' : q.life < 1073741824 := hl
      exact (open_some c d w h hC.lt (by have := hC.wr; omega) hC.fz q.life q.round q.tag (q.life + 1) q.seq (loadA_some hC.slots ho) rfl (by omega) (by omega) (by omega) (by omega)).mono
        (key (q.life + 1) (capR q.round) (capT q.tag) q.round q.tag rfl rfl rfl (capR_ge m3) (capR_le _) (capT_ge m4) (capT_le _))
end Go.Proofs.Ythkppkecclnlnaa
namespace Go.Proofs.Ythkppkecclnlnaa
set_option linter.unusedVariables false
set_option linter.unusedSimpArgs false
open Go.RowKit

theorem first_save : (saveW Dk.new ((1 : Nat) : Int) (capR 0 : Nat) (capT 0 : Nat)).2 = 0 ∧ Saved Dk.new (saveW Dk.new ((1 : Nat) : Int) (capR 0 : Nat) (capT 0 : Nat)).1 none ⟨1, 16, 4, 1⟩ :=
  (save_law (x := ((1 : Nat) : Int)) (y := (capR 0 : Nat)) (z := (capT 0 : Nat)) slSt_new (by decide +kernel) rfl (by decide) (by decide)).resolve_right (fun h => by have := h.2.fused; cases this)
set_option maxRecDepth 100000 in
set_option maxHeartbeats 1000000 in
theorem alive12_any (w : World) : Calls Try.prog 48 #[] w fun e w' => e = .returned (.bool true) ∧ Below w.heap.size w w' := by
  have hlt0 : ∀ c ∈ Dk.new.bs, c < 256 := tnS_new.lt
  obtain ⟨s0, hs⟩ := first_save
  obtain ⟨D, hDe⟩ : ∃ D, saveW Dk.new ((1 : Nat) : Int) (capR 0 : Nat) (capT 0 : Nat) = D := ⟨_, rfl⟩
  rw [hDe] at s0 hs
  have HDE := Lib.hid hDe
  obtain ⟨d1, er⟩ := D
  simp only at s0 hs
  subst s0
  have hwr : d1.writes = 2 := hs.writes
  have hon := hs.on
  clear hDe
  go_enter Try.func48, Try.ntmps48
  go_wp2_with fail
  refine (new_any _).mono ?_
  rintro e w1 ⟨rfl, hD1, hB1⟩
  go_wp2_with fail
  refine (open_none w.heap.size Dk.new w1 hD1 hlt0 (by decide) (by decide) (loadA_none slSt_new rfl)).mono ?_
  rintro e w2 ⟨h0, _, hg2⟩
  rw [HDE.out] at h0
  obtain ⟨b, rfl, hb, hT2⟩ := h0 rfl
  have hb2 := hB1.grown hg2 hB1.size (fun j h => by cases h; exact Nat.le_refl _)
  have hbw : w.heap.size ≤ b := Nat.le_trans hB1.size hb
  clear h0
  go_wp2_with fail
  refine (bnext_plain b w.heap.size _ d1 w2 hT2 hon (by decide) (by decide) (by decide)).mono ?_
  rintro e w3 ⟨rfl, hT3, hC3⟩
  have hb3 := Below.chg hb2 hC3 hb2.size hbw (Nat.le_refl _)
  go_wp2_with fail
  refine (life_eq b _ _ w3 hT3.boot).mono ?_
  rintro e w4 ⟨rfl, rfl⟩
  go_wp2_with fail
  refine (durable_any b _ _ _ hT3.boot).mono ?_
  rintro e w5 ⟨he, hB5⟩
  have he : e = .returned (.agg #[.int .i64 1, .int .i64 16, .int .i64 4]) := he
  subst he
  have hT5 := hT3.below hB5
  have hb5 := below_then hb3 hB5
  go_wp2_with fail
  refine (writes_any _ _ _ hT5.disk).mono ?_
  rintro e w6 ⟨rfl, hB6⟩
  rw [hwr]
  go_wp2_with fail
  go_ret
  exact ⟨rfl, below_then hb5 hB6⟩
/-- What look answers: 1 rounds, 2 tags, 3 the record. -/
def LookOk (what : Int) (B : Bt) (round tag : Nat) : Prop := if what = 1 then round ≤ B.round else if what = 2 then tag ≤ B.tag else True
set_option maxRecDepth 100000 in
set_option maxHeartbeats 1000000 in
theorem look_any (what : Int) (b c : Nat) (B : Bt) (d : Dk) (n round tag : Nat) (w : World) (h : BtAt w b c B d) (hL : LifeI B d n) (hr : round ≤ B.round) (ht : tag ≤ B.tag) :
    Calls Try.prog 79 #[.int .i64 what, .pointer (some ⟨b, 0, none⟩), .pointer (some ⟨c, 0, none⟩), .int .i64 (round : Int), .int .i64 (tag : Int)] w fun e w' => e = .returned (.bool true) ∧ Below w.heap.size w w' := by
  by_cases h1 : what = 1
  · subst h1
    have HR := Lib.hid (round_eq b B _ w h.boot)
    have hl : (round : Int) ≤ (B.round : Int) := by omega
    clear hr ht h
    go_enter Try.func79, Try.ntmps79
    go_wp2_with (go_at_call 55; refine HR.out.mono ?_; rintro e w1 ⟨rfl, rfl⟩)
    go_ret
    exact ⟨rfl, Below.refl _ _⟩
  · by_cases h2 : what = 2
    · subst h2
      have HR := Lib.hid (tag_eq b B _ w h.boot)
      have hl : (tag : Int) ≤ (B.tag : Int) := by omega
      clear hr ht h h1
      go_enter Try.func79, Try.ntmps79
      go_wp2_with (go_at_call 52; refine HR.out.mono ?_; rintro e w1 ⟨rfl, rfl⟩)
      go_ret
      exact ⟨rfl, Below.refl _ _⟩
    · have e1 : (what == 1) = false := by simpa using h1
      have e2 : (what == 2) = false := by simpa using h2
      clear hr ht h1 h2
      go_enter Try.func79, Try.ntmps79
      go_wp2_with fail
      refine (durable_any b B _ w h.boot).mono ?_
      rintro e w1 ⟨rfl, hB1⟩
      unfold recV
      have h1 := h.below hB1
      obtain ⟨W2, hW2⟩ : ∃ W2, w1.alloc (.cells #[.int .i64 (B.life : Int), .int .i64 (B.kround : Int), .int .i64 (B.ktag : Int)] 47) = W2 := ⟨_, rfl⟩
      have hal : Below w1.heap.size w1 W2 := by rw [← hW2]; exact (Below.refl _ _).alloc (Nat.le_refl _) _
      have hn2 : W2.heap[w1.heap.size]? = some (.cells #[.int .i64 (B.life : Int), .int .i64 (B.kround : Int), .int .i64 (B.ktag : Int)] 47 (0, 0)) := by rw [← hW2]; exact box3 w1 (.int .i64 (B.life : Int)) (.int .i64 (B.kround : Int)) (.int .i64 (B.ktag : Int)) 47
      have h2 := h1.below hal
      have hb2 := below_then hB1 hal
      obtain ⟨x0, x1, x2, _⟩ := blk3 hn2
      have HRD := Lib.hid (fun m => round_eq b B _ (W2.drewN m) h2.boot)
      have HTG := Lib.hid (fun m => tag_eq b B _ (W2.drewN m) h2.boot)
      have HLF := Lib.hid (fun m => life_eq b B _ (W2.drewN m) h2.boot)
      have d1 : decide ((B.kround : Int) < (B.round : Int)) = false := by have := hL.rnd; simp; omega
      have d1' : decide (B.kround < B.round) = false := by have := hL.rnd; simp; omega
      have d2 : decide ((B.ktag : Int) < (B.tag : Int)) = false := by have := hL.tg; simp; omega
      have d2' : decide (B.ktag < B.tag) = false := by have := hL.tg; simp; omega
      have HL := Lib.hid hL
      clear h h1 hB1 hal hL
      go_wp2_with fail
      go_quiet (first | exact Calls.quiet_of_same (HRD.out _) | exact Calls.quiet_of_same (HTG.out _) | exact Calls.quiet_of_same (HLF.out _))
      have h3 : BtAt (W2.drewN nq) b c B d := ⟨h2.boot, h2.disk, h2.ne⟩
      have hb3 := below_drewN hb2 nq
      have hn3 : (W2.drewN nq).heap[w1.heap.size]? = some (.cells #[.int .i64 (B.life : Int), .int .i64 (B.kround : Int), .int .i64 (B.ktag : Int)] 47 (0, 0)) := hn2
      generalize W2.drewN nq = W3 at *
      clear h2 hb2 hn2 hW2 x0 x1 x2 HRD HTG HLF
      cases ho : d.off with
      | true =>
        go_wp2_with fail
        refine (on_any c d W3 h3.disk).mono ?_
        rintro e w4 ⟨rfl, hB4⟩
        rw [ho]
        go_wp2_with fail
        go_ret
        exact ⟨rfl, below_then hb3 hB4⟩
      | false =>
        obtain ⟨s, a, hc⟩ := HL.out.disk
        have hld := loadA_some hc.slots ho
        unfold recV at hld
        have HLD := Lib.hid hld
        clear hld
        go_wp2_with fail
        refine (on_any c d W3 h3.disk).mono ?_
        rintro e w4 ⟨rfl, hB4⟩
        rw [ho]
        have h4 := h3.below hB4
        have hb4 := below_then hb3 hB4
        have hn4 := blk_below' hB4 hn3
        go_wp2_with fail
        refine (load_any c d w4 h4.disk hc.lt).mono ?_
        rintro e w5 ⟨rfl, hB5⟩
        rw [HLD.out]
        have hb5 := below_then hb4 hB5
        obtain ⟨y0, y1, y2, _⟩ := blk3 (blk_below' hB5 hn4)
        have hs5 := blk_lt (blk_below' hB5 hn4)
        have hne5 : ¬ w1.heap.size = w5.heap.size := by omega
        clear hc
        go_wp2_with fail
        go_ret
        exact ⟨rfl, hb5.alloc hb5.size _⟩
end Go.Proofs.Ythkppkecclnlnaa
