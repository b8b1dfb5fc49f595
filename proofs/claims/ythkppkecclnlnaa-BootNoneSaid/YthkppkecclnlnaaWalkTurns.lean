/- The walk of the law SlotTurns. -/
import Derived.Test.YthkppkecclnlnaaSlotAl
import Derived.Test.YthkppkecclnlnaaFlat
import Derived.Test.YthkppkecclnlnaaOpsQ
import Derived.Deep.RegionHeld3
import Derived.BigQuiet
namespace Go.Proofs.Ythkppkecclnlnaa
set_option linter.unusedVariables false
set_option linter.unusedSimpArgs false
open Go.RowKit

/-- The disk behind n saves that were done. -/
structure TnS (d : Dk) (n : Nat) : Prop where
  lt : ∀ c ∈ d.bs, c < 256
  on : d.off = false
  plain : d.fused = false
  fz : d.fuse = 0
  wr : d.writes = 2 * n
  st : ∃ st, SlSt d.bs st ∧ stSeq st = n ∧ stTo st = n % 2
theorem tnS_step {d : Dk} {n : Nat} {x y z : Int} (h : TnS d n) (hb : d.bs.length = 256) (hm : mayR x y z) (hn : n ≤ 40) :
    (saveW d x y z).2 = 0 ∧ TnS (saveW d x y z).1 (n + 1) ∧ loadA (saveW d x y z).1 = .tuple #[recV x y z, .int .i64 ((n + 1 : Nat) : Int), .int .i64 0] ∧
      ∀ j, j < 64 * (n % 2) ∨ 64 * (n % 2) + 64 ≤ j → (saveW d x y z).1.bs[j]? = d.bs[j]? := by
  obtain ⟨h1, h2, h3, h4, h5, st, h6, h7, h8⟩ := h
  rcases save_law h6 hb h2 hm (by omega) with ⟨h0, hs⟩ | ⟨_, hf⟩
  · have hl := loadA_some hs.slots hs.on
    obtain ⟨m1, m2, m3, m4, m5, m6⟩ := hm
    refine ⟨h0, ⟨saveW_lt h1 x y z, hs.on, hs.fused.trans h3, (hs.un h3).trans h4, by rw [hs.writes, h5]; omega, some (⟨x.toNat, y.toNat, z.toNat, stSeq st + 1⟩, stTo st), hs.slots, by show stSeq st + 1 = _; omega, ?_⟩, ?_, ?_⟩
    · show 1 - stTo st = _; omega
    · rw [hl]
      show Value.tuple #[recV ((x.toNat : Nat) : Int) ((y.toNat : Nat) : Int) ((z.toNat : Nat) : Int), .int .i64 ((stSeq st + 1 : Nat) : Int), .int .i64 0] = _
      rw [Int.toNat_of_nonneg (by omega), Int.toNat_of_nonneg (by omega), Int.toNat_of_nonneg (by omega), h7]
    · rw [← h8]; exact hs.out
  · have := hf.fused; rw [h3] at this; cases this
theorem tnS_new : TnS Dk.new 0 := ⟨by decide +kernel, rfl, rfl, rfl, rfl, none, slSt_new, rfl, rfl⟩
/-- What is known behind a save. -/
structure KT (w : World) (b g9 g o : Nat) (a c e : Int) (d : Dk) (W : World) : Prop where
  disk : DkAt W b d
  bx : W.heap[g9]? = some (.cells #[.int .i64 a, .int .i64 c, .int .i64 e] 47 (0, 0))
  r0 : W.cell? ⟨g, o, none⟩ = some (.int .i64 a)
  r1 : W.cell? ⟨g, o + 1, none⟩ = some (.int .i64 c)
  r2 : W.cell? ⟨g, o + 2, none⟩ = some (.int .i64 e)
  low : Below w.heap.size w W
theorem KT.below {w W W' : World} {b g9 g o : Nat} {a c e : Int} {d : Dk} (h : KT w b g9 g o a c e d W) (hb : Below W.heap.size W W') : KT w b g9 g o a c e d W' :=
  ⟨h.disk.below hb, blk_below' hb h.bx, (hb.cell (cell_lt h.r0)).trans h.r0, (hb.cell (cell_lt h.r1)).trans h.r1, (hb.cell (cell_lt h.r2)).trans h.r2, below_then h.low hb⟩
theorem KT.drew {w W : World} {b g9 g o : Nat} {a c e : Int} {d : Dk} (h : KT w b g9 g o a c e d W) : KT w b g9 g o a c e d W.drew := ⟨h.disk, h.bx, h.r0, h.r1, h.r2, h.low.drew⟩
theorem KT.all {w W : World} {b g9 g o : Nat} {a c e : Int} {d : Dk} (h : KT w b g9 g o a c e d W) :
    (W.cell? ⟨g9, 0, none⟩ = some (.int .i64 a) ∧ W.cell? ⟨g9, 1, none⟩ = some (.int .i64 c) ∧ W.cell? ⟨g9, 2, none⟩ = some (.int .i64 e)) ∧ (W.cell? ⟨g, o, none⟩ = some (.int .i64 a) ∧ W.cell? ⟨g, o + 1, none⟩ = some (.int .i64 c) ∧ W.cell? ⟨g, o + 2, none⟩ = some (.int .i64 e)) ∧ KT w b g9 g o a c e d W :=
  ⟨⟨(blk3 h.bx).1, (blk3 h.bx).2.1, (blk3 h.bx).2.2.1⟩, ⟨h.r0, h.r1, h.r2⟩, h⟩
theorem cell_but {W W' : World} {b g : Nat} (hg : W.grownBy W' (some b)) (hne : ¬ g = b) (o : Nat) (x : Value) (h : W.cell? ⟨g, o, none⟩ = some x) : W'.cell? ⟨g, o, none⟩ = some x := by
  obtain ⟨_, _, _, _, hgb⟩ := hg
  have hk := hgb g (cell_lt h) (by simpa using hne)
  unfold World.cell? at h ⊢
  rw [hk]; exact h
theorem rows3 {W : World} {v : Value} {xs : List (List Int)} (h : RowsOf W 3 v xs) {i : Nat} (hi : i < xs.length) :
    ∃ a c e g o cap, xs[i]? = some [a, c, e] ∧ v = .slice (some ⟨g, o, none⟩) xs.length cap ∧ W.cell? ⟨g, o + i * 3, none⟩ = some (.int .i64 a) ∧ W.cell? ⟨g, o + i * 3 + 1, none⟩ = some (.int .i64 c) ∧ W.cell? ⟨g, o + i * 3 + 2, none⟩ = some (.int .i64 e) := by
  obtain ⟨p, cap, rfl, _, _, hx⟩ := h
  obtain ⟨h1, g, o, rfl, _, h2⟩ := hx i _ (List.getElem?_eq_getElem hi)
  obtain ⟨a, c, e, hq⟩ := list3 _ h1
  have h3 := List.getElem?_eq_getElem hi
  rw [hq] at h2 h3
  exact ⟨a, c, e, g, o, cap, h3, rfl, h2 0 a rfl, h2 1 c rfl, h2 2 e rfl⟩
set_option maxRecDepth 100000 in
set_option maxHeartbeats 4000000 in
theorem slotTurns_walk (w : World) (v : Value) (xs : List (List Int)) (hrow : RowsOf w 3 v xs) (hwf : ∀ x ∈ xs, ∀ y ∈ x, (Lit.int .i64 y).wf = true) :
    Calls Try.prog 10 #[v] w fun e w' => e = .returned (.bool true) ∧ Below w.heap.size w w' := by
  have HR := Lib.hid hrow
  obtain ⟨p, cap, rfl, _, _, _⟩ := hrow
  clear hwf
  by_cases hout : 40 < xs.length
  · have b0 : (40 : Int) < (xs.length : Int) := by omega
    clear hout
    go_enter Try.func10, Try.ntmps10
    go_wp2_with (go_at_call 37; refine (alive11_any _).mono ?_; rintro e w9 ⟨rfl, hB9⟩)
    all_goals (go_ret; exact ⟨rfl, hB9⟩)
  · have b0 : ¬ (40 : Int) < (xs.length : Int) := by omega
    have HN := Lib.hid hout
    clear hout
    go_enter Try.func10, Try.ntmps10
    go_wp2_with (go_at_call 21; refine (new_any _).mono ?_; rintro e w1 ⟨rfl, hD1, hB1⟩)
    go_loopw [4, 5] (fun nv iv wr => ∃ (n i : Nat) (d : Dk), nv = .int .i64 n ∧ iv = .int .i64 i ∧ i ≤ xs.length ∧ n ≤ i ∧ TnS d n ∧ DkAt wr w.heap.size d ∧ Below w.heap.size w wr) (fun _ iv _ => xs.length - (intOf iv).toNat)
    case atStart => exact ⟨0, 0, Dk.new, rfl, rfl, by omega, by omega, tnS_new, hD1, hB1⟩
    case round =>
      obtain ⟨n, i, d, rfl, rfl, hi, hni, hT, hD, hb⟩ := hrel
      clear hD1 hB1
      by_cases hlt : i < xs.length
      · obtain ⟨a, c, e0, g, o, cap', hx, hv, r0, r1, r2⟩ := rows3 HR.out hlt
        injection hv with hv1 hv2 hv3
        subst hv1 hv3
        have i1 : (i : Int) < (xs.length : Int) := by omega
        have i2 : (0 : Int) ≤ (i : Int) := by omega
        have i3 : (i : Int).toNat = i := Int.toNat_natCast i
        have hlt0 := hD.lt
        have hgb : ¬ g = w.heap.size := by have := cell_lt r0; simp at this; omega
        have r0 := (hb.cell (cell_lt r0)).trans r0
        have r1 := (hb.cell (cell_lt r1)).trans r1
        have r2 := (hb.cell (cell_lt r2)).trans r2
        go_wp2_with fail
        refine (image_any _ d wr hD).mono ?_
        rintro e w2 ⟨v2, rfl, ho2, hB2⟩
        obtain ⟨gw, cw, rfl, hgw1, hgw2⟩ := ownsRow_pos ho2 (by omega)
        have hcw := row_cap ho2
        have hw2 := row_all ho2 hD.2
        have hD2 := hD.below hB2
        have hb2 := below_then hb hB2
        have r0 := (hB2.cell (cell_lt r0)).trans r0
        have r1 := (hB2.cell (cell_lt r1)).trans r1
        have r2 := (hB2.cell (cell_lt r2)).trans r2
        clear ho2 hD hb
        go_wp2_with fail
        by_cases hm : mayR a c e0
        · obtain ⟨s0, sT, sL, sO⟩ := tnS_step hT hD2.2 hm (by have := HN.out; omega)
          obtain ⟨D, hDe⟩ : ∃ D, saveW d a c e0 = D := ⟨_, rfl⟩
          rw [hDe] at s0 sT sL sO
          have HDE := Lib.hid hDe
          obtain ⟨d', er⟩ := D
          simp only at s0 sT sL sO
          subst s0
          have HT := Lib.hid sT
          have HO := Lib.hid sO
          have hwv : (d'.writes : Int) = 2 * ((n : Int) + 1) := by have := sT.wr; omega
          have hwz : ((n + 1 : Nat) : Int) = (n : Int) + 1 := by omega
          unfold recV at sL
          have HL := Lib.hid sL
          have hdw : d.writes ≤ 4611686018427387903 := by rw [hT.wr]; have := HN.out; omega
          have hdf : d.fuse ≤ 9223372036854775807 := by rw [hT.fz]; decide
          have HLT := Lib.hid hT.lt
          have hn40 : (n : Int) < 40 := by have := HN.out; omega
          clear hDe sT sO sL hT hm
          refine (save_any _ d a c e0 w2 hD2 HLT.out hdw hdf).mono ?_
          rintro e w3 ⟨rfl, hD3, hg3⟩
          rw [HDE.out] at hD3 ⊢
          have hD2len := hD2.2
          have hb3 := hb2.grown hg3 hb2.size (fun j h => by cases h; exact Nat.le_refl _)
          have hw3 := hw2.but hg3 (by show gw ≠ _; omega)
          have cb : ∀ (o : Nat) (x : Value), w2.cell? ⟨g, o, none⟩ = some x → w3.cell? ⟨g, o, none⟩ = some x := cell_but hg3 hgb
          have r0 := cb _ _ r0
          have r1 := cb _ _ r1
          have r2 := cb _ _ r2
          clear cb hw2 hD2 hb2 hg3 hdw hdf HDE
          go_wp2_with fail
          refine (image_any _ d' w3 hD3).mono ?_
          rintro e w4 ⟨v4, rfl, ho4, hB4⟩
          obtain ⟨gn, cn, rfl, hgn1, hgn2⟩ := ownsRow_pos ho4 (by omega)
          have hcn := row_cap ho4
          have hw4 := row_all ho4 hD3.2
          have hD4 := hD3.below hB4
          have hb4 := below_then hb3 hB4
          have hu4 := hw3.below hB4
          have r0 := (hB4.cell (cell_lt r0)).trans r0
          have r1 := (hB4.cell (cell_lt r1)).trans r1
          have r2 := (hB4.cell (cell_lt r2)).trans r2
          clear ho4 hD3 hb3 hw3
          go_wp2_with fail
          refine (load_any _ d' w4 hD4 HT.out.lt).mono ?_
          rintro e w5 ⟨rfl, hB5⟩
          rw [HL.out]
          have hD5 := hD4.below hB5
          have hb5 := below_then hb4 hB5
          have hu5 := hu4.below hB5
          have hw5 := hw4.below hB5
          have r0 := (hB5.cell (cell_lt r0)).trans r0
          have r1 := (hB5.cell (cell_lt r1)).trans r1
          have r2 := (hB5.cell (cell_lt r2)).trans r2
          obtain ⟨W6, hW6⟩ : ∃ W6, w5.alloc (.cells #[.int .i64 a, .int .i64 c, .int .i64 e0] 47) = W6 := ⟨_, rfl⟩
          have hal : Below w5.heap.size w5 W6 := by rw [← hW6]; exact (Below.refl _ _).alloc (Nat.le_refl _) _
          have hbx : W6.heap[w5.heap.size]? = some (.cells #[.int .i64 a, .int .i64 c, .int .i64 e0] 47 (0, 0)) := by rw [← hW6]; exact box3 w5 _ _ _ _
          have hK : KT w w.heap.size w5.heap.size g (o + i * 3) a c e0 d' W6 := ⟨hD5.below hal, hbx, (hal.cell (cell_lt r0)).trans r0, (hal.cell (cell_lt r1)).trans r1, (hal.cell (cell_lt r2)).trans r2, below_then hb5 hal⟩
          have hu6 := hu5.below hal
          have hw6 := hw5.below hal
          clear r0 r1 r2 hal hbx hD4 hb4 hu4 hw4 hD5 hb5 hu5 hw5
          go_wp2_with fail
          clear hW6
          have HKT := Lib.hid hK
          obtain ⟨⟨x0, x1, x2⟩, ⟨y0, y1, y2⟩, _⟩ := hK.all
          have hwr := fun m => writes_eq w.heap.size d' (W6.drewN m) ⟨hK.disk.1, hK.disk.2⟩
          rw [hwv] at hwr
          have HWR := Lib.hid hwr
          clear hwr hwv hK
          go_quiet (exact Calls.quiet_of_same (HWR.out _))
          have hK : KT w w.heap.size w5.heap.size g (o + i * 3) a c e0 d' (W6.drewN nq) := ⟨HKT.out.disk, HKT.out.bx, HKT.out.r0, HKT.out.r1, HKT.out.r2, below_drewN HKT.out.low nq⟩
          have hu7 : CellsAt (W6.drewN nq) ⟨gw, 0, none⟩ d.bs := hu6
          have hw7 : CellsAt (W6.drewN nq) ⟨gn, 0, none⟩ d'.bs := hw6
          have HLD := Lib.hid hD2len
          generalize W6.drewN nq = W7 at *
          obtain ⟨f, hf⟩ : ∃ f, n % 2 = f := ⟨_, rfl⟩
          rw [hf] at HO
          have hf2 : f < 2 := by omega
          have hf3 : Int.tmod (n : Int) 2 = (f : Int) := by rw [Int.tmod_eq_emod_of_nonneg (by omega)]; omega
          clear x0 x1 x2 y0 y1 y2 HWR HKT hu6 hw6 hf HL
          go_wp2_with fail
          go_loopw [13] (fun kv wr2 => ∃ (k : Nat), kv = .int .i64 k ∧ k ≤ 256 ∧ KT w w.heap.size w5.heap.size g (o + i * 3) a c e0 d' wr2 ∧ CellsAt wr2 ⟨gw, 0, none⟩ d.bs ∧ CellsAt wr2 ⟨gn, 0, none⟩ d'.bs) (fun kv _ => 256 - (intOf kv).toNat)
          case atStart => exact ⟨0, rfl, by omega, hK, hu7, hw7⟩
          case round =>
            obtain ⟨k, rfl, hk, hK2, hu2, hw2⟩ := hrel
            clear hK hu7 hw7
            by_cases hlt2 : k < 256
            · obtain ⟨x, hx⟩ : ∃ x, d.bs[k]? = some x := ⟨_, List.getElem?_eq_getElem (by rw [HLD.out]; exact hlt2)⟩
              obtain ⟨y, hy⟩ : ∃ y, d'.bs[k]? = some y := ⟨_, List.getElem?_eq_getElem (by rw [hK2.disk.2]; exact hlt2)⟩
              obtain ⟨p1, hp1, c1⟩ := hu2 k x hx
              cases hp1
              obtain ⟨p2, hp2, c2⟩ := hw2 k y hy
              cases hp2
              rw [Addr.add_mid, Nat.zero_add] at c1 c2
              have j1 : (k : Int) < 256 := by omega
              have j2 : (0 : Int) ≤ (k : Int) := by omega
              have j3 : (k : Int).toNat = k := Int.toNat_natCast k
              have HK2 := Lib.hid hK2
              have HU2 := Lib.hid hu2
              have HW2 := Lib.hid hw2
              clear hK2 hu2 hw2
              by_cases k1 : (k : Int) < 64 * (f : Int)
              · obtain rfl : x = y := by
                  have := HO.out k (.inl (by omega)); rw [hx, hy] at this; exact (Option.some.inj this).symm
                clear hx hy
                go_wp2_with fail
                go_quiet (fail)
                go_wp2_with fail
                go_roundw
                case rel => exact ⟨k + 1, by go_num, by omega, ⟨HK2.out.disk, HK2.out.bx, HK2.out.r0, HK2.out.r1, HK2.out.r2, below_drewN HK2.out.low nq⟩, HU2.out, HW2.out⟩
                case measure => simp [intOf]; omega
              · by_cases k2 : 64 * (f : Int) + 64 ≤ (k : Int)
                · obtain rfl : x = y := by
                    have := HO.out k (.inr (by omega)); rw [hx, hy] at this; exact (Option.some.inj this).symm
                  clear hx hy
                  have d1 : decide ((k : Int) < 64 * (f : Int)) = false := by simpa using k1
                  have d2 : decide (64 * (f : Int) + 64 ≤ (k : Int)) = true := by simpa using k2
                  clear k1
                  go_wp2_with fail
                  go_quiet (fail)
                  go_wp2_with fail
                  go_roundw
                  case rel => exact ⟨k + 1, by go_num, by omega, ⟨HK2.out.disk, HK2.out.bx, HK2.out.r0, HK2.out.r1, HK2.out.r2, below_drewN HK2.out.low nq⟩, HU2.out, HW2.out⟩
                  case measure => simp [intOf]; omega
                · clear hx hy
                  have d1 : decide ((k : Int) < 64 * (f : Int)) = false := by simpa using k1
                  have d2 : decide (64 * (f : Int) + 64 ≤ (k : Int)) = false := by simpa using k2
                  clear k1 k2
                  go_wp2_with fail
                  go_quiet (fail)
                  go_wp2_with fail
                  go_roundw
                  case rel => exact ⟨k + 1, by go_num, by omega, ⟨HK2.out.disk, HK2.out.bx, HK2.out.r0, HK2.out.r1, HK2.out.r2, below_drewN HK2.out.low nq⟩, HU2.out, HW2.out⟩
                  case measure => simp [intOf]; omega
            · obtain rfl : k = 256 := by omega
              have HK2 := Lib.hid hK2
              clear hK2 hu2 hw2
              go_wp2_with fail
              go_roundw
              case rel => exact ⟨n + 1, i + 1, d', by go_num, by go_num, by omega, by omega, HT.out, HK2.out.disk, HK2.out.low⟩
              case measure => simp [intOf]; omega
        · have hsv := saveW_arg (d := d) hm
          clear hm
          refine (save_any _ d a c e0 w2 hD2 hT.lt (by rw [hT.wr]; have := HN.out; omega) (by rw [hT.fz]; decide)).mono ?_
          rintro e w3 ⟨rfl, hD3, hg3⟩
          rw [hsv] at hD3 ⊢
          have hb3 := hb2.grown hg3 hb2.size (fun j h => by cases h; exact Nat.le_refl _)
          have HT := Lib.hid hT
          clear hT hsv
          go_wp2_with fail
          go_roundw
          case rel => exact ⟨n, i + 1, d, by go_num, by go_num, by omega, by omega, HT.out, hD3, hb3⟩
          case measure => simp [intOf]; omega
      · obtain rfl : i = xs.length := by omega
        have i1 : ¬ (xs.length : Int) < (xs.length : Int) := by omega
        go_wp2_with fail
        refine (alive11_any _).mono ?_
        rintro e w9 ⟨rfl, hB9⟩
        go_wp2_with fail
        go_ret
        exact ⟨rfl, below_then hb hB9⟩
end Go.Proofs.Ythkppkecclnlnaa
