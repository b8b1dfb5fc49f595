/- Lemmas of this claim, laid one behind the other. -/
import Derived.Test.YthkppkecclnlnaaRbNext
import Derived.StillTailTactics
import Derived.Test.YthkppkecclnlnaaRefF
import Derived.Test.YthkppkecclnlnaaArgs
import Derived.OpenShut
import Derived.Deep.Slices
namespace Go.Proofs.Ythkppkecclnlnaa
set_option linter.unusedVariables false
set_option linter.unusedSimpArgs false
open Go.RowKit

theorem rraise_off (bb o rb ob gb n : Nat) (d : Dk) (t : Int) (w : World) (k : Rk w rb ob gb n d) (ho : d.off = true) :
    Calls Try.prog 139 #[.pointer (some ⟨bb, o, none⟩), .pointer (some ⟨rb, ob, none⟩), .int .i64 t] w fun e w' => e = .returned (.int .i64 100) ∧ Below w.heap.size w w' := by
  obtain ⟨k0, k1, k2, k3⟩ := k.cells
  rw [ho] at k1
  clear ho
  skip
  go_enter Try.func139, Try.ntmps139
  go_wp2_with fail
  go_ret
  exact ⟨rfl, Below.refl _ _⟩
theorem rraise_neg (bb o rb ob gb n : Nat) (d : Dk) (t : Int) (w : World) (k : Rk w rb ob gb n d) (ho : d.off = false) (ht : t < 0) :
    Calls Try.prog 139 #[.pointer (some ⟨bb, o, none⟩), .pointer (some ⟨rb, ob, none⟩), .int .i64 t] w fun e w' => e = .returned (.int .i64 1) ∧ Below w.heap.size w w' := by
  obtain ⟨k0, k1, k2, k3⟩ := k.cells
  rw [ho] at k1
  clear ho
  skip
  go_enter Try.func139, Try.ntmps139
  go_wp2_with fail
  go_ret
  exact ⟨rfl, Below.refl _ _⟩
theorem rraise_big (bb o rb ob gb n : Nat) (d : Dk) (t : Int) (w : World) (k : Rk w rb ob gb n d) (ho : d.off = false) (ht : 1048576 < t) :
    Calls Try.prog 139 #[.pointer (some ⟨bb, o, none⟩), .pointer (some ⟨rb, ob, none⟩), .int .i64 t] w fun e w' => e = .returned (.int .i64 120) ∧ Below w.heap.size w w' := by
  obtain ⟨k0, k1, k2, k3⟩ := k.cells
  rw [ho] at k1
  clear ho
  have hn : ¬ t < 0 := by omega
  go_enter Try.func139, Try.ntmps139
  go_wp2_with fail
  go_ret
  exact ⟨rfl, Below.refl _ _⟩
theorem rraise_low (bb o rb ob gb n : Nat) (B : Bt) (d : Dk) (t : Nat) (w : World) (h : RbAt w bb o B) (k : Rk w rb ob gb n d) (ho : d.off = false) (ht : t ≤ 1048576) (hlo : t ≤ B.tag) :
    Calls Try.prog 139 #[.pointer (some ⟨bb, o, none⟩), .pointer (some ⟨rb, ob, none⟩), .int .i64 (t : Int)] w fun e w' => e = .returned (.int .i64 0) ∧ Below w.heap.size w w' := by
  obtain ⟨k0, k1, k2, k3⟩ := k.cells
  obtain ⟨⟨c0, c1, c2, c3, c4, c5⟩, ⟨f0, f1, f2, f3, f4, f5⟩⟩ := h.cells
  rw [ho] at k1
  have hn1 : ¬ (t : Int) < 0 := by omega
  have hn2 : ¬ 1048576 < (t : Int) := by omega
  have HR := Lib.hid h
  have HK := Lib.hid k
  clear h k ho
  go_enter Try.func139, Try.ntmps139
  go_wp2_with fail
  go_ret
  exact ⟨rfl, Below.refl _ _⟩
set_option maxRecDepth 100000 in
theorem rraise_covered (bb o rb ob gb n : Nat) (B : Bt) (d : Dk) (t : Nat) (w : World) (h : RbAt w bb o B) (k : Rk w rb ob gb n d) (hne : bb ≠ rb ∧ bb ≠ gb) (ho : d.off = false) (ht : t ≤ 1048576) (hlo : B.tag < t) (hk : t ≤ B.ktag) :
    Calls Try.prog 139 #[.pointer (some ⟨bb, o, none⟩), .pointer (some ⟨rb, ob, none⟩), .int .i64 (t : Int)] w fun e w' => e = .returned (.int .i64 0) ∧ RbAt w' bb o { B with tag := t } ∧ Rk w' rb ob gb n d ∧ ChB w w' bb o rb ob gb := by
  obtain ⟨k0, k1, k2, k3⟩ := k.cells
  obtain ⟨⟨c0, c1, c2, c3, c4, c5⟩, ⟨f0, f1, f2, f3, f4, f5⟩⟩ := h.cells
  rw [ho] at k1
  have hn1 : ¬ (t : Int) < 0 := by omega
  have hn2 : ¬ 1048576 < (t : Int) := by omega
  have HR := Lib.hid h
  have HK := Lib.hid k
  have h3 : ¬ t ≤ B.tag := by omega
  have h4 : ¬ B.ktag < t := by omega
  have HN := Lib.hid hne
  clear h k ho hne
  go_enter Try.func139, Try.ntmps139
  go_wp2_with fail
  go_ret
  exact ⟨rfl, HR.out.tag t, HK.out.setOther _ HN.out.1 HN.out.2, (ChB.ofBelow (Below.refl _ _) bb o rb ob gb).set HN.out.1 5 _ (by decide)⟩
set_option maxRecDepth 100000 in
set_option maxHeartbeats 1000000 in
theorem rraise_save (bb o rb ob gb n : Nat) (B : Bt) (d : Dk) (t : Nat) (w : World) (h : RbAt w bb o B) (k : Rk w rb ob gb n d) (hne : bb ≠ rb ∧ bb ≠ gb) (hn : 256 ≤ n) (ho : d.off = false) (ht : t ≤ 1048576) (hlo : B.tag < t) (hk : ¬ t ≤ B.ktag) (hlt : ∀ c ∈ d.bs, c < 256) (hw : d.writes ≤ 4611686018427387901) (hfu : d.fuse ≤ 9223372036854775807) :
    Calls Try.prog 139 #[.pointer (some ⟨bb, o, none⟩), .pointer (some ⟨rb, ob, none⟩), .int .i64 (t : Int)] w fun e w' =>
      RSave w bb o rb ob gb n { B with ktag := capZ t, tag := t } B (.int .i64 0) (.int .i64 (saveW d B.life B.kround (capZ t : Nat)).2) (saveW d B.life B.kround (capZ t : Nat)) e w' := by
  obtain ⟨D, hDe⟩ : ∃ D, saveW d B.life B.kround (capZ t : Nat) = D := ⟨_, rfl⟩
  rw [hDe]
  have hn1 : ¬ (t : Int) < 0 := by omega
  have hn2 : ¬ 1048576 < (t : Int) := by omega
  have h3 : ¬ t ≤ B.tag := by omega
  have h4 : B.ktag < t := by omega
  obtain ⟨k0, k1, k2, k3⟩ := k.cells
  obtain ⟨⟨c0, c1, c2, c3, c4, c5⟩, ⟨f0, f1, f2, f3, f4, f5⟩⟩ := h.cells
  rw [ho] at k1
  have HR := Lib.hid h
  have HK := Lib.hid k
  have HN := Lib.hid hne
  have HLS := Lib.hid (fun w => least_Z t w ht)
  have HS := Lib.hid (fun w (hk : Rk w rb ob gb n d) => refSave_any rb ob gb n d B.life B.kround (capZ t : Nat) w hk hn hlt (by omega) hfu)
  unfold recV at HS
  rw [hDe] at HS
  clear hDe
  obtain ⟨d', er⟩ := D
  dsimp only at HS ⊢
  clear h k hne ho ht hlo hk hlt hw hfu hn
  go_enter Try.func139, Try.ntmps139
  obtain ⟨W0, hW0⟩ : ∃ W0, w = W0 := ⟨_, rfl⟩
  have hd : Below w.heap.size w W0 := by rw [← hW0]; exact Below.refl _ _
  have hal : Below w.heap.size w (W0.alloc (.cells #[.int .i64 (B.life : Int), .int .i64 (B.kround : Int), .int .i64 (B.ktag : Int)] 47)) := hd.alloc hd.size _
  have HX := Lib.hid (box3 W0 (.int .i64 (B.life : Int)) (.int .i64 (B.kround : Int)) (.int .i64 (B.ktag : Int)) 47)
  obtain ⟨⟨c0, c1, c2, c3, c4, c5⟩, _⟩ := (HR.out.below hd).cells
  subst hW0
  go_upto_region 11 with fail
  have hR2 := HR.out.below hal
  have hK2 := HK.out.below hal
  generalize hgx : World.alloc w _ = W1 at *
  obtain ⟨g, hg⟩ : ∃ g, w.heap.size = g := ⟨_, rfl⟩
  rw [hg] at HX
  (try rw [hg])
  have HG : Hid (g ≠ bb ∧ g ≠ rb ∧ g ≠ gb) := by
    have h1 := hd.size; have h2 := HR.out.lt; have h3 := HK.out.lt
    exact ⟨by omega, by omega, by omega⟩
  have HGE : Hid (w.heap.size ≤ g) := by have h1 := hd.size; show w.heap.size ≤ g; omega
  clear hgx hg hd
  have hx := HX.out
  obtain ⟨y0, y1, y2, z0, z1, z2⟩ := blk3 hx
  clear hx
  go_wp2_with fail
  refine (HLS.out _).mono ?_
  rintro e w2 ⟨rfl, rfl⟩
  go_wp2_with fail
  have hx2 := blk_store HX.out 2 (.int .i64 (capZ t : Nat))
  have HK3 := Lib.hid (hK2.setOther (bb := g) (i := 2) (.int .i64 (capZ t : Nat)) HG.out.2.1 HG.out.2.2)
  have HR3 := Lib.hid (hR2.heap (Below.heap_setCell W1 ⟨g, 2, none⟩ (.int .i64 (capZ t : Nat)) bb (fun e => HG.out.1 e.symm)))
  have HC3 := Lib.hid (ChB.ofBelow hal bb o rb ob gb)
  have HL3 : Hid (ChB w (W1.setCell ⟨g, 2, none⟩ (.int .i64 (capZ t : Nat))) bb o rb ob gb) := by
    have hh := hal.setCell (p := ⟨g, 2, none⟩) (by show w.heap.size ≤ g; exact HGE.out) (.int .i64 (capZ t : Nat))
    exact ChB.ofBelow hh bb o rb ob gb
  have HX2 := Lib.hid hx2
  clear hx2 hK2 hR2 hal c0 c1 c2 c3 c4 c5
  refine (HS.out _ HK3.out).mono ?_
  rintro e w4 ⟨rfl, hK4, hC4⟩
  have hR4 := HR3.out.heap (hC4.other bb HR3.out.lt HN.out.1 HN.out.2)
  have hx4 := hC4.blk HX2.out HG.out.2.1 HG.out.2.2
  have hL4 := HL3.out.trans (ChB.ofChg hC4 HN.out.1 HN.out.2)
  have HK4 := Lib.hid hK4
  have HR4 := Lib.hid hR4
  have HX4 := Lib.hid hx4
  have HL4 := Lib.hid hL4
  clear hK4 hR4 hx4 hL4 hC4 HC3 HX2 HK3 HR3 HL3 HS HLS y0 y1 y2 z0 z1 z2
  by_cases her : er = 0
  · subst her
    obtain ⟨y0, y1, y2, z0, z1, z2⟩ := blk3 HX4.out
    obtain ⟨⟨c0, c1, c2, c3, c4, c5⟩, ⟨f0, f1, f2, f3, f4, f5⟩⟩ := HR4.out.cells
    go_wp2_with fail
    go_ret
    have hq := (HR4.out.rec3 B.kround (capZ t)).tag t
    exact ⟨fun _ => ⟨rfl, hq, (((HK4.out.setOther _ HN.out.1 HN.out.2).setOther _ HN.out.1 HN.out.2).setOther _ HN.out.1 HN.out.2).setOther _ HN.out.1 HN.out.2⟩, fun h => absurd rfl h, (HL4.out.rec3 HN.out.1 _ _ _).set HN.out.1 5 _ (by decide)⟩
  · have hne : (er != 0) = true := by simpa using her
    have HER := Lib.hid her
    clear her
    go_wp2_with fail
    go_ret
    exact ⟨fun h => absurd h HER.out, fun _ => ⟨rfl, HR4.out, HK4.out⟩, HL4.out⟩
end Go.Proofs.Ythkppkecclnlnaa
namespace Go.Proofs.Ythkppkecclnlnaa
set_option linter.unusedVariables false
set_option linter.unusedSimpArgs false
open Go.RowKit

theorem rOpen_end {W : World} {a : Act} {g : Nat} {c x0 x1 x2 x3 x4 x5 : Int} (hd : a.defers = []) (h2 : a.tmps[2]?.getD undef = .pointer (some ⟨g, 0, none⟩)) (h3 : a.tmps[3]?.getD undef = .int .i64 c)
    (hb : W.heap[g]? = some (.cells #[.int .i64 x0, .int .i64 x1, .int .i64 x2, .int .i64 x3, .int .i64 x4, .int .i64 x5] 133 (0, 0))) (Q : Ending → World → Prop)
    (hQ : Q (.returned (.tuple #[.agg #[.int .i64 x0, .int .i64 x1, .int .i64 x2, .int .i64 x3, .int .i64 x4, .int .i64 x5], .int .i64 c])) W) :
    bodyPost Try.prog Try.f80 Q Exit.ret a W := by
  have y0 := blk_cell hb 0
  have y1 := blk_cell hb 1
  have y2 := blk_cell hb 2
  have y3 := blk_cell hb 3
  have y4 := blk_cell hb 4
  have y5 := blk_cell hb 5
  simp at y0 y1 y2 y3 y4 y5
  refine bodyPost_ret (v := .tuple #[.agg #[.int .i64 x0, .int .i64 x1, .int .i64 x2, .int .i64 x3, .int .i64 x4, .int .i64 x5], .int .i64 c]) ?_ hd hQ
  simp [results, Try.results80, go_sem, h2, h3, y0, y1, y2, y3, y4, y5]
theorem box6 (w : World) (a b c d e f : Value) (t : TypeId) : (w.alloc (.cells #[a, b, c, d, e, f] t)).heap[w.heap.size]? = some (.cells #[a, b, c, d, e, f] t (0, 0)) := blk_new w _
theorem blk6 {W : World} {g : Nat} {a b c d e f : Value} {t : TypeId} (h : W.heap[g]? = some (.cells #[a, b, c, d, e, f] t (0, 0))) :
    (W.cell? ⟨g, 0, none⟩ = some a ∧ W.cell? ⟨g, 1, none⟩ = some b ∧ W.cell? ⟨g, 2, none⟩ = some c ∧ W.cell? ⟨g, 3, none⟩ = some d ∧ W.cell? ⟨g, 4, none⟩ = some e ∧ W.cell? ⟨g, 5, none⟩ = some f) ∧
    (W.frozen? ⟨g, 0, none⟩ = false ∧ W.frozen? ⟨g, 1, none⟩ = false ∧ W.frozen? ⟨g, 2, none⟩ = false ∧ W.frozen? ⟨g, 3, none⟩ = false ∧ W.frozen? ⟨g, 4, none⟩ = false ∧ W.frozen? ⟨g, 5, none⟩ = false) :=
  ⟨⟨(blk_cell h 0).trans rfl, (blk_cell h 1).trans rfl, (blk_cell h 2).trans rfl, (blk_cell h 3).trans rfl, (blk_cell h 4).trans rfl, (blk_cell h 5).trans rfl⟩, blk_free h 0, blk_free h 1, blk_free h 2, blk_free h 3, blk_free h 4, blk_free h 5⟩
def zB : Value := .agg #[.int .i64 0, .int .i64 0, .int .i64 0, .int .i64 0, .int .i64 0, .int .i64 0]
def rbV (B : Bt) : Value := .agg (rbC B).toArray
set_option maxRecDepth 100000 in
set_option maxHeartbeats 1000000 in
theorem rOpen_off (rb ob gb n : Nat) (d : Dk) (w : World) (k : Rk w rb ob gb n d) (hn : 256 ≤ n) (hlt : ∀ c ∈ d.bs, c < 256) (ho : d.off = true) :
    Calls Try.prog 80 #[.pointer (some ⟨rb, ob, none⟩)] w fun e w' => e = .returned (.tuple #[zB, .int .i64 100]) ∧ Below w.heap.size w w' := by
  have hl := loadA_off ho
  unfold recV at hl
  have HL := Lib.hid (fun w (hk : Rk w rb ob gb n d) => hl ▸ refLoad_any rb ob gb n d w hk hn hlt)
  clear hl hn hlt ho
  unfold zB
  have HB0 : Hid (Below w.heap.size w (w.alloc (.cells #[.int .i64 0, .int .i64 0, .int .i64 0, .int .i64 0, .int .i64 0, .int .i64 0] 133))) := (Below.refl _ w).alloc (Nat.le_refl _) _
  have HR0 := Lib.hid (box6 w (.int .i64 0) (.int .i64 0) (.int .i64 0) (.int .i64 0) (.int .i64 0) (.int .i64 0) 133)
  have HK0 := Lib.hid (k.below HB0.out)
  have HKL := Lib.hid k.lt
  clear k
  go_enter Try.func80, Try.ntmps80
  go_upto_region 1 with fail
  generalize World.alloc w _ = W0 at *
  obtain ⟨g, hg⟩ : ∃ g, w.heap.size = g := ⟨_, rfl⟩
  have hr0 := HR0.out
  have hb0 := HB0.out
  have hk0 := HK0.out
  have HGK := HKL.out
  rw [hg] at hr0 HGK
  (try rw [hg])
  have HGK := Lib.hid HGK
  have HG := Lib.hid hg
  clear hg HR0 HB0 HK0 HKL
  go_wp2_with fail
  refine (HL.out _ hk0).mono ?_
  rintro e w1 ⟨rfl, hB1⟩
  have hr1 := blk_below' hB1 hr0
  have hk1 := hk0.below hB1
  have hb1 := below_then hb0 hB1
  clear hr0 hb0 hB1 hk0
  have hal : Below w1.heap.size w1 (w1.alloc (.cells #[.int .i64 0, .int .i64 0, .int .i64 0] 47)) := (Below.refl _ _).alloc (Nat.le_refl _) _
  have HX := Lib.hid (box3 w1 (.int .i64 0) (.int .i64 0) (.int .i64 0) 47)
  have HR := Lib.hid (blk_below' hal hr1)
  have HK := Lib.hid (hk1.below hal)
  have HB := Lib.hid (below_then hb1 hal)
  have HLT := Lib.hid (blk_lt hr1)
  clear hr1 hk1 hb1 hal
  go_upto_region 2 with fail
  generalize World.alloc w1 _ = W2 at *
  obtain ⟨g2, hg2⟩ : ∃ g2, w1.heap.size = g2 := ⟨_, rfl⟩
  rw [hg2] at HX HLT
  (try rw [hg2])
  have HNE : Hid (g < g2) := HLT.out
  clear hg2 HLT
  have hr2 := HR.out
  have hx1 := HX.out
  obtain ⟨⟨c0, c1, c2, c3, c4, c5⟩, ⟨f0, f1, f2, f3, f4, f5⟩⟩ := blk6 hr2
  obtain ⟨y0, y1, y2, z0, z1, z2⟩ := blk3 hx1
  have hsz1 := blk_lt hr2
  have hsz2 := blk_lt hx1
  clear hx1 hr2
  go_wp2_with fail
  generalize hWF : World.setCell (World.setCell (World.setCell (World.setCell (World.setCell (World.setCell _ _ _) _ _) _ _) _ _) _ _) _ _ = WF
  refine rOpen_end (g := g) (c := 100) (x0 := 0) (x1 := 0) (x2 := 0) (x3 := 0) (x4 := 0) (x5 := 0) ?_ ?_ ?_ ?_ _ ?_
  · rfl
  · rfl
  · rfl
  · rw [← hWF]; exact blk_store (blk_store (blk_store (blk_store (blk_store (blk_store HR.out 0 _) 1 _) 2 _) 3 _) 4 _) 5 _
  · refine ⟨rfl, ?_⟩
    rw [← hWF]
    have hge : w.heap.size ≤ g := Nat.le_of_eq HG.out
    exact (((((HB.out.setCell hge _).setCell hge _).setCell hge _).setCell hge _).setCell hge _).setCell hge _
set_option maxRecDepth 100000 in
set_option maxHeartbeats 1000000 in
theorem rOpen_max (rb ob gb n : Nat) (d : Dk) (w : World) (k : Rk w rb ob gb n d) (hn : 256 ≤ n) (hlt : ∀ c ∈ d.bs, c < 256) (r t s : Int) (hl : loadA d = .tuple #[recV 1073741824 r t, .int .i64 s, .int .i64 0]) :
    Calls Try.prog 80 #[.pointer (some ⟨rb, ob, none⟩)] w fun e w' => e = .returned (.tuple #[zB, .int .i64 120]) ∧ Below w.heap.size w w' := by
  unfold recV at hl
  have HL := Lib.hid (fun w (hk : Rk w rb ob gb n d) => hl ▸ refLoad_any rb ob gb n d w hk hn hlt)
  clear hl hn hlt
  unfold zB
  have HB0 : Hid (Below w.heap.size w (w.alloc (.cells #[.int .i64 0, .int .i64 0, .int .i64 0, .int .i64 0, .int .i64 0, .int .i64 0] 133))) := (Below.refl _ w).alloc (Nat.le_refl _) _
  have HR0 := Lib.hid (box6 w (.int .i64 0) (.int .i64 0) (.int .i64 0) (.int .i64 0) (.int .i64 0) (.int .i64 0) 133)
  have HK0 := Lib.hid (k.below HB0.out)
  have HKL := Lib.hid k.lt
  clear k
  go_enter Try.func80, Try.ntmps80
  go_upto_region 1 with fail
  generalize World.alloc w _ = W0 at *
  obtain ⟨g, hg⟩ : ∃ g, w.heap.size = g := ⟨_, rfl⟩
  have hr0 := HR0.out
  have hb0 := HB0.out
  have hk0 := HK0.out
  have HGK := HKL.out
  rw [hg] at hr0 HGK
  (try rw [hg])
  have HGK := Lib.hid HGK
  have HG := Lib.hid hg
  clear hg HR0 HB0 HK0 HKL
  go_wp2_with fail
  refine (HL.out _ hk0).mono ?_
  rintro e w1 ⟨rfl, hB1⟩
  have hr1 := blk_below' hB1 hr0
  have hk1 := hk0.below hB1
  have hb1 := below_then hb0 hB1
  clear hr0 hb0 hB1 hk0
  have hal : Below w1.heap.size w1 (w1.alloc (.cells #[.int .i64 1073741824, .int .i64 r, .int .i64 t] 47)) := (Below.refl _ _).alloc (Nat.le_refl _) _
  have HX := Lib.hid (box3 w1 (.int .i64 1073741824) (.int .i64 r) (.int .i64 t) 47)
  have HR := Lib.hid (blk_below' hal hr1)
  have HK := Lib.hid (hk1.below hal)
  have HB := Lib.hid (below_then hb1 hal)
  have HLT := Lib.hid (blk_lt hr1)
  clear hr1 hk1 hb1 hal
  go_upto_region 2 with fail
  generalize World.alloc w1 _ = W2 at *
  obtain ⟨g2, hg2⟩ : ∃ g2, w1.heap.size = g2 := ⟨_, rfl⟩
  rw [hg2] at HX HLT
  (try rw [hg2])
  have HNE : Hid (g < g2) := HLT.out
  clear hg2 HLT
  have hr2 := HR.out
  have hx1 := HX.out
  obtain ⟨⟨c0, c1, c2, c3, c4, c5⟩, ⟨f0, f1, f2, f3, f4, f5⟩⟩ := blk6 hr2
  obtain ⟨y0, y1, y2, z0, z1, z2⟩ := blk3 hx1
  have hsz1 := blk_lt hr2
  have hsz2 := blk_lt hx1
  clear hx1 hr2
  have hal3 : Below W2.heap.size W2 (W2.alloc (.cells #[.int .i64 0, .int .i64 0, .int .i64 0, .int .i64 1, .int .i64 0, .int .i64 0] 133)) := (Below.refl _ _).alloc (Nat.le_refl _) _
  have HX3 := Lib.hid (blk_below' hal3 HX.out)
  have HR3 := Lib.hid (blk_below' hal3 HR.out)
  have HK3 := Lib.hid (HK.out.below hal3)
  have HB3 := Lib.hid (below_then HB.out hal3)
  have HN3 := Lib.hid (box6 W2 (.int .i64 0) (.int .i64 0) (.int .i64 0) (.int .i64 1) (.int .i64 0) (.int .i64 0) 133)
  have HZ3 := Lib.hid (And.intro hsz1 hsz2)
  clear hal3 HX HR HK HB c0 c1 c2 c3 c4 c5 f0 f1 f2 f3 f4 f5 y0 y1 y2 z0 z1 z2 hsz1 hsz2
  go_upto_region 5 with fail
  generalize World.alloc W2 _ = W3 at *
  obtain ⟨g3, hg3⟩ : ∃ g3, W2.heap.size = g3 := ⟨_, rfl⟩
  rw [hg3] at HN3 HZ3
  (try rw [hg3])
  clear hg3
  have hr3 := HR3.out
  have hx3 := HX3.out
  have hn3 := HN3.out
  obtain ⟨⟨c0, c1, c2, c3, c4, c5⟩, ⟨f0, f1, f2, f3, f4, f5⟩⟩ := blk6 hr3
  obtain ⟨⟨b0, b1, b2, b3, b4, b5⟩, ⟨i0, i1, i2, i3, i4, i5⟩⟩ := blk6 hn3
  obtain ⟨y0, y1, y2, z0, z1, z2⟩ := blk3 hx3
  clear hr3 hx3 hn3
  go_wp2_with fail
  have HR := HR3
  have HB := HB3
  generalize hWF : World.setCell (World.setCell (World.setCell (World.setCell (World.setCell (World.setCell _ _ _) _ _) _ _) _ _) _ _) _ _ = WF
  refine rOpen_end (g := g) (c := 120) (x0 := 0) (x1 := 0) (x2 := 0) (x3 := 0) (x4 := 0) (x5 := 0) ?_ ?_ ?_ ?_ _ ?_
  · rfl
  · rfl
  · rfl
  · rw [← hWF]; exact blk_store (blk_store (blk_store (blk_store (blk_store (blk_store HR.out 0 _) 1 _) 2 _) 3 _) 4 _) 5 _
  · refine ⟨rfl, ?_⟩
    rw [← hWF]
    have hge : w.heap.size ≤ g := Nat.le_of_eq HG.out
    exact (((((HB.out.setCell hge _).setCell hge _).setCell hge _).setCell hge _).setCell hge _).setCell hge _
theorem Chg.late {W X : World} {rb o gb g : Nat} (h : Chg W X rb o gb) (hg : W.heap.size ≤ g) (h1 : g ≠ rb) (i : Nat) (v : Value) : Chg W (X.setCell ⟨g, i, none⟩ v) rb o gb := by
  refine ⟨h.os, h.tape, h.output, by have := h.size; simpa using this, fun k hk a b => (Below.heap_setCell X ⟨g, i, none⟩ v k (by show k ≠ g; omega)).trans (h.other k hk a b), fun cs t hc => ?_⟩
  obtain ⟨c1, a1, a2, a3⟩ := h.box cs t hc
  exact ⟨c1, blk_set a1 _ _ (fun e => h1 e.symm), a2, a3⟩
def ROpen (w : World) (rb ob gb n : Nat) (B : Bt) (D : Dk × Int) (e : Ending) (w' : World) : Prop :=
  (D.2 = 0 → e = .returned (.tuple #[rbV B, .int .i64 0]) ∧ Rk w' rb ob gb n D.1) ∧ (D.2 ≠ 0 → e = .returned (.tuple #[zB, .int .i64 D.2]) ∧ Rk w' rb ob gb n D.1) ∧ Chg w w' rb ob gb
theorem still_R (n : Nat) (hn : n ≤ 1099511627776) (w : World) : Calls Try.prog 137 #[.int .i64 (IntKind.i64.wrap ((n : Int) + 16)), .int .i64 1099511627775] w fun e w' => e = .returned (.int .i64 (capR n : Nat)) ∧ w' = w := by
  rw [show IntKind.i64.wrap ((n : Int) + 16) = (n : Int) + 16 from IntWalk.i64_in _ (by omega)]
  exact (least_R n w hn).mono fun _ _ h => ⟨h.1, h.2.symm⟩
theorem still_T (n : Nat) (hn : n ≤ 1048576) (w : World) : Calls Try.prog 137 #[.int .i64 (IntKind.i64.wrap ((n : Int) + 4)), .int .i64 1048576] w fun e w' => e = .returned (.int .i64 (capT n : Nat)) ∧ w' = w := by
  rw [show IntKind.i64.wrap ((n : Int) + 4) = (n : Int) + 4 from IntWalk.i64_in _ (by omega)]
  exact (least_T n w hn).mono fun _ _ h => ⟨h.1, h.2.symm⟩
set_option maxRecDepth 100000 in
set_option maxHeartbeats 1000000 in
theorem rOpen_some (rb ob gb n : Nat) (d : Dk) (w : World) (k : Rk w rb ob gb n d) (hn : 256 ≤ n) (hlt : ∀ c ∈ d.bs, c < 256) (hw : d.writes ≤ 4611686018427387901) (hfu : d.fuse ≤ 9223372036854775807) (l r t l1 : Nat) (s : Int)
    (hl : loadA d = .tuple #[recV l r t, .int .i64 s, .int .i64 0]) (hl1 : l1 = l + 1) (hne : l ≠ 1073741824) (hle : l ≤ 1073741824) (hr : r ≤ 1099511627776) (ht : t ≤ 1048576) :
    Calls Try.prog 80 #[.pointer (some ⟨rb, ob, none⟩)] w fun e w' => ROpen w rb ob gb n ⟨l1, capR r, capT t, r, t⟩ (saveW d l1 (capR r) (capT t)) e w' := by
  unfold recV at hl
  have HL := Lib.hid (fun w (hk : Rk w rb ob gb n d) => hl ▸ refLoad_any rb ob gb n d w hk hn hlt)
  obtain ⟨D, hDe⟩ : ∃ D, saveW d l1 (capR r) (capT t) = D := ⟨_, rfl⟩
  rw [hDe]
  have HLR := Lib.hid (still_R r hr)
  have HLT := Lib.hid (still_T t ht)
  have HS := Lib.hid (fun w (hk : Rk w rb ob gb n d) => refSave_any rb ob gb n d l1 (capR r) (capT t) w hk hn hlt (by omega) hfu)
  rw [hDe] at HS
  obtain ⟨d', er⟩ := D
  dsimp only at HS ⊢
  unfold recV at HS
  have e1 : ((l : Int) == 1073741824) = false := by simp; omega
  have e2 : (l : Int) ≤ 1073741824 := by omega
  have e3 : (r : Int) ≤ 1099511627776 := by omega
  have e4 : (t : Int) ≤ 1048576 := by omega
  clear hl hn hlt hDe hw hfu hne hle hr ht
  have HB0 : Hid (Below w.heap.size w (w.alloc (.cells #[.int .i64 0, .int .i64 0, .int .i64 0, .int .i64 0, .int .i64 0, .int .i64 0] 133))) := (Below.refl _ w).alloc (Nat.le_refl _) _
  have HR0 := Lib.hid (box6 w (.int .i64 0) (.int .i64 0) (.int .i64 0) (.int .i64 0) (.int .i64 0) (.int .i64 0) 133)
  have HK0 := Lib.hid (k.below HB0.out)
  have HKL := Lib.hid k.lt
  clear k
  go_enter Try.func80, Try.ntmps80
  go_upto_region 1 with fail
  generalize World.alloc w _ = W0 at *
  obtain ⟨g, hg⟩ : ∃ g, w.heap.size = g := ⟨_, rfl⟩
  have hr0 := HR0.out
  have hb0 := HB0.out
  have hk0 := HK0.out
  have HGK := HKL.out
  rw [hg] at hr0 HGK
  (try rw [hg])
  have HGK := Lib.hid HGK
  have HG := Lib.hid hg
  clear hg HR0 HB0 HK0 HKL
  go_wp2_with fail
  refine (HL.out _ hk0).mono ?_
  rintro e w1 ⟨rfl, hB1⟩
  have hr1 := blk_below' hB1 hr0
  have hk1 := hk0.below hB1
  have hb1 := below_then hb0 hB1
  clear hr0 hb0 hB1 hk0
  have hal : Below w1.heap.size w1 (w1.alloc (.cells #[.int .i64 (l : Int), .int .i64 (r : Int), .int .i64 (t : Int)] 47)) := (Below.refl _ _).alloc (Nat.le_refl _) _
  have HX := Lib.hid (box3 w1 (.int .i64 (l : Int)) (.int .i64 (r : Int)) (.int .i64 (t : Int)) 47)
  have HR := Lib.hid (blk_below' hal hr1)
  have HK := Lib.hid (hk1.below hal)
  have HB := Lib.hid (below_then hb1 hal)
  have HLT := Lib.hid (blk_lt hr1)
  clear hr1 hk1 hb1 hal
  go_upto_region 2 with fail
  generalize World.alloc w1 _ = W2 at *
  obtain ⟨g2, hg2⟩ : ∃ g2, w1.heap.size = g2 := ⟨_, rfl⟩
  rw [hg2] at HX HLT
  (try rw [hg2])
  have HNE : Hid (g < g2) := HLT.out
  clear hg2 HLT
  have hr2 := HR.out
  have hx1 := HX.out
  obtain ⟨⟨c0, c1, c2, c3, c4, c5⟩, ⟨f0, f1, f2, f3, f4, f5⟩⟩ := blk6 hr2
  obtain ⟨y0, y1, y2, z0, z1, z2⟩ := blk3 hx1
  have hsz1 := blk_lt hr2
  have hsz2 := blk_lt hx1
  clear hx1 hr2
  have hal3 : Below W2.heap.size W2 (W2.alloc (.cells #[.int .i64 0, .int .i64 0, .int .i64 0, .int .i64 1, .int .i64 0, .int .i64 0] 133)) := (Below.refl _ _).alloc (Nat.le_refl _) _
  have HX3 := Lib.hid (blk_below' hal3 HX.out)
  have HR3 := Lib.hid (blk_below' hal3 HR.out)
  have HK3 := Lib.hid (HK.out.below hal3)
  have HB3 := Lib.hid (below_then HB.out hal3)
  have HN3 := Lib.hid (box6 W2 (.int .i64 0) (.int .i64 0) (.int .i64 0) (.int .i64 1) (.int .i64 0) (.int .i64 0) 133)
  have HZ3 := Lib.hid (And.intro hsz1 hsz2)
  clear hal3 HX HR HK HB c0 c1 c2 c3 c4 c5 f0 f1 f2 f3 f4 f5 y0 y1 y2 z0 z1 z2 hsz1 hsz2
  go_upto_region 5 with fail
  generalize World.alloc W2 _ = W3 at *
  obtain ⟨g3, hg3⟩ : ∃ g3, W2.heap.size = g3 := ⟨_, rfl⟩
  rw [hg3] at HN3 HZ3
  (try rw [hg3])
  clear hg3
  have hr3 := HR3.out
  have hx3 := HX3.out
  have hn3 := HN3.out
  obtain ⟨⟨c0, c1, c2, c3, c4, c5⟩, ⟨f0, f1, f2, f3, f4, f5⟩⟩ := blk6 hr3
  obtain ⟨⟨b0, b1, b2, b3, b4, b5⟩, ⟨i0, i1, i2, i3, i4, i5⟩⟩ := blk6 hn3
  obtain ⟨y0, y1, y2, z0, z1, z2⟩ := blk3 hx3
  clear hr3 hx3 hn3
  have HL1 := Lib.hid hl1
  clear hl1
  go_upto_region 9 with fail
  obtain ⟨W4, hW4⟩ : ∃ W4, (((((W3.setCell ⟨g3, 0, none⟩ (.int .i64 0)).setCell ⟨g3, 1, none⟩ (.int .i64 0)).setCell ⟨g3, 2, none⟩ (.int .i64 0)).setCell ⟨g3, 3, none⟩ (.int .i64 ((l : Int) + 1))).setCell ⟨g3, 4, none⟩ (.int .i64 (r : Int))).setCell ⟨g3, 5, none⟩ (.int .i64 (t : Int)) = W4 := ⟨_, rfl⟩
  have HN4 : Hid (W4.heap[g3]? = some (.cells #[.int .i64 0, .int .i64 0, .int .i64 0, .int .i64 (l1 : Int), .int .i64 (r : Int), .int .i64 (t : Int)] 133 (0, 0))) := by
    rw [← hW4, HL1.out]; exact blk_store (blk_store (blk_store (blk_store (blk_store (blk_store HN3.out 0 _) 1 _) 2 _) 3 _) 4 _) 5 _
  have hgg : ∀ i, (⟨g3, i, none⟩ : Addr).block ≠ g := fun i => by have := HZ3.out.1; show g3 ≠ g; omega
  have HR4 : Hid (W4.heap[g]? = some (.cells #[.int .i64 0, .int .i64 0, .int .i64 0, .int .i64 0, .int .i64 0, .int .i64 0] 133 (0, 0))) := by
    have hne : g ≠ g3 := by have := HZ3.out.1; omega
    rw [← hW4]; exact blk_set (blk_set (blk_set (blk_set (blk_set (blk_set HR3.out _ _ hne) _ _ hne) _ _ hne) _ _ hne) _ _ hne) _ _ hne
  have HK4 : Hid (Rk W4 rb ob gb n d) := by
    have h1 := HZ3.out.1; have h2 := HGK.out
    have hnr : g3 ≠ rb := by omega
    have hng : g3 ≠ gb := by omega
    rw [← hW4]; exact (((((HK3.out.setOther _ hnr hng).setOther _ hnr hng).setOther _ hnr hng).setOther _ hnr hng).setOther _ hnr hng).setOther _ hnr hng
  have HB4 : Hid (Below w.heap.size w W4) := by
    have h1 := HZ3.out.1; have h2 := HG.out
    have hge : w.heap.size ≤ g3 := by omega
    rw [← hW4]; exact (((((HB3.out.setCell hge _).setCell hge _).setCell hge _).setCell hge _).setCell hge _).setCell hge _
  rw [hW4]
  clear hW4 HN3 HR3 HK3 HB3 HX3 c0 c1 c2 c3 c4 c5 b0 b1 b2 b3 b4 b5 y0 y1 y2 z0 z1 z2 f0 f1 f2 f3 f4 f5 i0 i1 i2 i3 i4 i5 hgg HNE
  obtain ⟨HZa, HZb⟩ := HZ3.out
  have hrg : rb < g ∧ gb < g := HGK.out
  have hwg : w.heap.size = g := HG.out
  have hnr : g3 ≠ rb ∧ g3 ≠ gb := ⟨by omega, by omega⟩
  have hgr : g ≠ rb ∧ g ≠ gb := ⟨by omega, by omega⟩
  have hg3g : g3 ≠ g := by omega
  have hw3 : w.heap.size ≤ g3 := by omega
  have HNR := Lib.hid (And.intro hnr (And.intro hgr (And.intro hg3g (And.intro hw3 (Nat.le_of_eq hwg)))))
  clear hrg hwg hnr hgr hg3g hw3 HZa HZb HZ3 HGK HG
  obtain ⟨⟨c0, c1, c2, c3, c4, c5⟩, _⟩ := blk6 HR4.out
  obtain ⟨⟨b0, b1, b2, b3, b4, b5⟩, ⟨i0, i1, i2, i3, i4, i5⟩⟩ := blk6 HN4.out
  refine wp_region_still_tail 10 (by kernel_rfl) (by kernel_rfl) ?_
  simp only [List.take_succ_cons, List.take_zero, List.drop_succ_cons, List.drop_zero]
  still_step
  still_step
  still_step
  still_step
  still_step
  still_call (HLR.out _)
  still_step
  still_step
  still_step
  still_call (HLT.out _)
  try refine wpStill_nil ?_
  change wpList _ _ _ _ _ W4.drew
  clear c0 c1 c2 c3 c4 c5 b0 b1 b2 b3 b4 b5 i0 i1 i2 i3 i4 i5
  have hdr : Below W4.heap.size W4 W4.drew := (Below.refl _ _).drew
  have HR5 := Lib.hid (blk_below' hdr HR4.out)
  have HN5 := Lib.hid (blk_below' hdr HN4.out)
  have HK5 := Lib.hid (HK4.out.below hdr)
  have HB5 := Lib.hid (below_then HB4.out hdr)
  clear hdr HR4 HN4 HK4 HB4
  generalize W4.drew = W5 at *
  obtain ⟨⟨b0, b1, b2, b3, b4, b5⟩, ⟨i0, i1, i2, i3, i4, i5⟩⟩ := blk6 HN5.out
  go_wp2_with fail
  obtain ⟨W6, hW6⟩ : ∃ W6, ((W5.setCell ⟨g3, 0, none⟩ (.int .i64 ((l1 : Nat) : Int))).setCell ⟨g3, 1, none⟩ (.int .i64 (capR r : Nat))).setCell ⟨g3, 2, none⟩ (.int .i64 (capT t : Nat)) = W6 := ⟨_, rfl⟩
  have HN6 : Hid (W6.heap[g3]? = some (.cells #[.int .i64 ((l1 : Nat) : Int), .int .i64 (capR r : Nat), .int .i64 (capT t : Nat), .int .i64 ((l1 : Nat) : Int), .int .i64 ((r : Nat) : Int), .int .i64 ((t : Nat) : Int)] 133 (0, 0))) := by
    rw [← hW6]; exact blk_store (blk_store (blk_store HN5.out 0 _) 1 _) 2 _
  have HR6 : Hid (W6.heap[g]? = some (.cells #[.int .i64 0, .int .i64 0, .int .i64 0, .int .i64 0, .int .i64 0, .int .i64 0] 133 (0, 0))) := by
    have hne : g ≠ g3 := Ne.symm HNR.out.2.2.1
    rw [← hW6]; exact blk_set (blk_set (blk_set HR5.out _ _ hne) _ _ hne) _ _ hne
  have HK6 : Hid (Rk W6 rb ob gb n d) := by
    obtain ⟨⟨hnr, hng⟩, _⟩ := HNR.out
    rw [← hW6]; exact ((HK5.out.setOther _ hnr hng).setOther _ hnr hng).setOther _ hnr hng
  have HB6 : Hid (Below w.heap.size w W6) := by
    have hge := HNR.out.2.2.2.1
    rw [← hW6]; exact ((HB5.out.setCell hge _).setCell hge _).setCell hge _
  rw [hW6]
  clear hW6 HN5 HR5 HK5 HB5 b0 b1 b2 b3 b4 b5 i0 i1 i2 i3 i4 i5
  refine (HS.out _ HK6.out).mono ?_
  rintro e w7 ⟨rfl, hK7, hC7⟩
  have HN7 := Lib.hid (hC7.blk HN6.out HNR.out.1.1 HNR.out.1.2)
  have HR7 := Lib.hid (hC7.blk HR6.out HNR.out.2.1.1 HNR.out.2.1.2)
  have HC7 := Lib.hid ((Chg.ofBelow HB6.out rb ob gb).trans hC7)
  have HK7 := Lib.hid hK7
  clear HN6 HR6 HK6 HB6 hC7 hK7 HS
  obtain ⟨⟨c0, c1, c2, c3, c4, c5⟩, ⟨f0, f1, f2, f3, f4, f5⟩⟩ := blk6 HR7.out
  obtain ⟨⟨b0, b1, b2, b3, b4, b5⟩, _⟩ := blk6 HN7.out
  by_cases her : er = 0
  · subst her
    go_wp2_with fail
    generalize hWF : World.setCell (World.setCell (World.setCell (World.setCell (World.setCell (World.setCell _ _ _) _ _) _ _) _ _) _ _) _ _ = WF
    refine rOpen_end (g := g) (c := 0) (x0 := ((l1 : Nat) : Int)) (x1 := (capR r : Nat)) (x2 := (capT t : Nat)) (x3 := ((l1 : Nat) : Int)) (x4 := ((r : Nat) : Int)) (x5 := ((t : Nat) : Int)) ?_ ?_ ?_ ?_ _ ?_
    · rfl
    · rfl
    · rfl
    · rw [← hWF]; exact blk_store (blk_store (blk_store (blk_store (blk_store (blk_store HR7.out 0 _) 1 _) 2 _) 3 _) 4 _) 5 _
    · obtain ⟨_, ⟨hgr, hgg⟩, _, _, hge⟩ := HNR.out
      rw [← hWF]
      exact ⟨fun _ => ⟨rfl, (((((HK7.out.setOther _ hgr hgg).setOther _ hgr hgg).setOther _ hgr hgg).setOther _ hgr hgg).setOther _ hgr hgg).setOther _ hgr hgg⟩, fun h => absurd rfl h,
        (((((HC7.out.late hge hgr _ _).late hge hgr _ _).late hge hgr _ _).late hge hgr _ _).late hge hgr _ _).late hge hgr _ _⟩
  · have hne : (er != 0) = true := by simpa using her
    have HER := Lib.hid her
    clear her
    go_wp2_with fail
    generalize hWF : World.setCell (World.setCell (World.setCell (World.setCell (World.setCell (World.setCell _ _ _) _ _) _ _) _ _) _ _) _ _ = WF
    refine rOpen_end (g := g) (c := er) (x0 := 0) (x1 := 0) (x2 := 0) (x3 := 0) (x4 := 0) (x5 := 0) ?_ ?_ ?_ ?_ _ ?_
    · rfl
    · rfl
    · rfl
    · rw [← hWF]; exact blk_store (blk_store (blk_store (blk_store (blk_store (blk_store HR7.out 0 _) 1 _) 2 _) 3 _) 4 _) 5 _
    · obtain ⟨_, ⟨hgr, hgg⟩, _, _, hge⟩ := HNR.out
      rw [← hWF]
      exact ⟨fun h => absurd h HER.out, fun _ => ⟨rfl, (((((HK7.out.setOther _ hgr hgg).setOther _ hgr hgg).setOther _ hgr hgg).setOther _ hgr hgg).setOther _ hgr hgg).setOther _ hgr hgg⟩,
        (((((HC7.out.late hge hgr _ _).late hge hgr _ _).late hge hgr _ _).late hge hgr _ _).late hge hgr _ _).late hge hgr _ _⟩
set_option maxRecDepth 100000 in
set_option maxHeartbeats 1000000 in
theorem rOpen_none' (l1 r t : Nat) (h1 : l1 = 1) (h2 : r = 0) (h3 : t = 0) (rb ob gb n : Nat) (d : Dk) (w : World) (k : Rk w rb ob gb n d) (hn : 256 ≤ n) (hlt : ∀ c ∈ d.bs, c < 256) (hw : d.writes ≤ 4611686018427387901) (hfu : d.fuse ≤ 9223372036854775807)
    (hl : loadA d = .tuple #[recV 0 0 0, .int .i64 0, .int .i64 40]) :
    Calls Try.prog 80 #[.pointer (some ⟨rb, ob, none⟩)] w fun e w' => ROpen w rb ob gb n ⟨l1, capR r, capT t, r, t⟩ (saveW d l1 (capR r) (capT t)) e w' := by
  unfold recV at hl
  have HL := Lib.hid (fun w (hk : Rk w rb ob gb n d) => hl ▸ refLoad_any rb ob gb n d w hk hn hlt)
  obtain ⟨D, hDe⟩ : ∃ D, saveW d l1 (capR r) (capT t) = D := ⟨_, rfl⟩
  rw [hDe]
  have HLR := Lib.hid (still_R r (by omega))
  have HLT := Lib.hid (still_T t (by omega))
  have H1 := Lib.hid h1
  have H2 := Lib.hid h2
  have H3 := Lib.hid h3
  have e3 : (r : Int) ≤ 1099511627776 := by omega
  have e4 : (t : Int) ≤ 1048576 := by omega
  clear h1 h2 h3
  have HS := Lib.hid (fun w (hk : Rk w rb ob gb n d) => refSave_any rb ob gb n d l1 (capR r) (capT t) w hk hn hlt (by omega) hfu)
  rw [hDe] at HS
  obtain ⟨d', er⟩ := D
  dsimp only at HS ⊢
  unfold recV at HS
  clear hl hn hlt hDe hw hfu
  have HB0 : Hid (Below w.heap.size w (w.alloc (.cells #[.int .i64 0, .int .i64 0, .int .i64 0, .int .i64 0, .int .i64 0, .int .i64 0] 133))) := (Below.refl _ w).alloc (Nat.le_refl _) _
  have HR0 := Lib.hid (box6 w (.int .i64 0) (.int .i64 0) (.int .i64 0) (.int .i64 0) (.int .i64 0) (.int .i64 0) 133)
  have HK0 := Lib.hid (k.below HB0.out)
  have HKL := Lib.hid k.lt
  clear k
  go_enter Try.func80, Try.ntmps80
  go_upto_region 1 with fail
  generalize World.alloc w _ = W0 at *
  obtain ⟨g, hg⟩ : ∃ g, w.heap.size = g := ⟨_, rfl⟩
  have hr0 := HR0.out
  have hb0 := HB0.out
  have hk0 := HK0.out
  have HGK := HKL.out
  rw [hg] at hr0 HGK
  (try rw [hg])
  have HGK := Lib.hid HGK
  have HG := Lib.hid hg
  clear hg HR0 HB0 HK0 HKL
  go_wp2_with fail
  refine (HL.out _ hk0).mono ?_
  rintro e w1 ⟨rfl, hB1⟩
  have hr1 := blk_below' hB1 hr0
  have hk1 := hk0.below hB1
  have hb1 := below_then hb0 hB1
  clear hr0 hb0 hB1 hk0
  have hal : Below w1.heap.size w1 (w1.alloc (.cells #[.int .i64 0, .int .i64 0, .int .i64 0] 47)) := (Below.refl _ _).alloc (Nat.le_refl _) _
  have HX := Lib.hid (box3 w1 (.int .i64 0) (.int .i64 0) (.int .i64 0) 47)
  have HR := Lib.hid (blk_below' hal hr1)
  have HK := Lib.hid (hk1.below hal)
  have HB := Lib.hid (below_then hb1 hal)
  have HLT := Lib.hid (blk_lt hr1)
  clear hr1 hk1 hb1 hal
  go_upto_region 2 with fail
  generalize World.alloc w1 _ = W2 at *
  obtain ⟨g2, hg2⟩ : ∃ g2, w1.heap.size = g2 := ⟨_, rfl⟩
  rw [hg2] at HX HLT
  (try rw [hg2])
  have HNE : Hid (g < g2) := HLT.out
  clear hg2 HLT
  have hr2 := HR.out
  have hx1 := HX.out
  obtain ⟨⟨c0, c1, c2, c3, c4, c5⟩, ⟨f0, f1, f2, f3, f4, f5⟩⟩ := blk6 hr2
  obtain ⟨y0, y1, y2, z0, z1, z2⟩ := blk3 hx1
  have hsz1 := blk_lt hr2
  have hsz2 := blk_lt hx1
  clear hx1 hr2
  have hal3 : Below W2.heap.size W2 (W2.alloc (.cells #[.int .i64 0, .int .i64 0, .int .i64 0, .int .i64 1, .int .i64 0, .int .i64 0] 133)) := (Below.refl _ _).alloc (Nat.le_refl _) _
  have HX3 := Lib.hid (blk_below' hal3 HX.out)
  have HR3 := Lib.hid (blk_below' hal3 HR.out)
  have HK3 := Lib.hid (HK.out.below hal3)
  have HB3 := Lib.hid (below_then HB.out hal3)
  have HN3 := Lib.hid (box6 W2 (.int .i64 0) (.int .i64 0) (.int .i64 0) (.int .i64 1) (.int .i64 0) (.int .i64 0) 133)
  have HZ3 := Lib.hid (And.intro hsz1 hsz2)
  clear hal3 HX HR HK HB c0 c1 c2 c3 c4 c5 f0 f1 f2 f3 f4 f5 y0 y1 y2 z0 z1 z2 hsz1 hsz2
  go_upto_region 5 with fail
  generalize World.alloc W2 _ = W3 at *
  obtain ⟨g3, hg3⟩ : ∃ g3, W2.heap.size = g3 := ⟨_, rfl⟩
  rw [hg3] at HN3 HZ3
  (try rw [hg3])
  clear hg3
  have hr3 := HR3.out
  have hx3 := HX3.out
  have hn3 := HN3.out
  obtain ⟨⟨c0, c1, c2, c3, c4, c5⟩, ⟨f0, f1, f2, f3, f4, f5⟩⟩ := blk6 hr3
  obtain ⟨⟨b0, b1, b2, b3, b4, b5⟩, ⟨i0, i1, i2, i3, i4, i5⟩⟩ := blk6 hn3
  obtain ⟨y0, y1, y2, z0, z1, z2⟩ := blk3 hx3
  clear hr3 hx3 hn3
  have HN4 : Hid (W3.heap[g3]? = some (.cells #[.int .i64 0, .int .i64 0, .int .i64 0, .int .i64 (l1 : Int), .int .i64 (r : Int), .int .i64 (t : Int)] 133 (0, 0))) := by rw [H1.out, H2.out, H3.out]; exact HN3.out
  have HR4 := HR3
  have HK4 := HK3
  have HB4 := HB3
  clear HN3 HR3 HK3 HB3
  go_upto_region 9 with fail
  generalize W3 = W4 at *
  clear HX3 c0 c1 c2 c3 c4 c5 b0 b1 b2 b3 b4 b5 y0 y1 y2 z0 z1 z2 f0 f1 f2 f3 f4 f5 i0 i1 i2 i3 i4 i5 HNE
  obtain ⟨HZa, HZb⟩ := HZ3.out
  have hrg : rb < g ∧ gb < g := HGK.out
  have hwg : w.heap.size = g := HG.out
  have hnr : g3 ≠ rb ∧ g3 ≠ gb := ⟨by omega, by omega⟩
  have hgr : g ≠ rb ∧ g ≠ gb := ⟨by omega, by omega⟩
  have hg3g : g3 ≠ g := by omega
  have hw3 : w.heap.size ≤ g3 := by omega
  have HNR := Lib.hid (And.intro hnr (And.intro hgr (And.intro hg3g (And.intro hw3 (Nat.le_of_eq hwg)))))
  clear hrg hwg hnr hgr hg3g hw3 HZa HZb HZ3 HGK HG
  obtain ⟨⟨c0, c1, c2, c3, c4, c5⟩, _⟩ := blk6 HR4.out
  obtain ⟨⟨b0, b1, b2, b3, b4, b5⟩, ⟨i0, i1, i2, i3, i4, i5⟩⟩ := blk6 HN4.out
  refine wp_region_still_tail 10 (by kernel_rfl) (by kernel_rfl) ?_
  simp only [List.take_succ_cons, List.take_zero, List.drop_succ_cons, List.drop_zero]
  still_step
  still_step
  still_step
  still_step
  still_step
  still_call (HLR.out _)
  still_step
  still_step
  still_step
  still_call (HLT.out _)
  try refine wpStill_nil ?_
  change wpList _ _ _ _ _ W4.drew
  clear c0 c1 c2 c3 c4 c5 b0 b1 b2 b3 b4 b5 i0 i1 i2 i3 i4 i5
  have hdr : Below W4.heap.size W4 W4.drew := (Below.refl _ _).drew
  have HR5 := Lib.hid (blk_below' hdr HR4.out)
  have HN5 := Lib.hid (blk_below' hdr HN4.out)
  have HK5 := Lib.hid (HK4.out.below hdr)
  have HB5 := Lib.hid (below_then HB4.out hdr)
  clear hdr HR4 HN4 HK4 HB4
  generalize W4.drew = W5 at *
  obtain ⟨⟨b0, b1, b2, b3, b4, b5⟩, ⟨i0, i1, i2, i3, i4, i5⟩⟩ := blk6 HN5.out
  go_wp2_with fail
  obtain ⟨W6, hW6⟩ : ∃ W6, ((W5.setCell ⟨g3, 0, none⟩ (.int .i64 ((l1 : Nat) : Int))).setCell ⟨g3, 1, none⟩ (.int .i64 (capR r : Nat))).setCell ⟨g3, 2, none⟩ (.int .i64 (capT t : Nat)) = W6 := ⟨_, rfl⟩
  have HN6 : Hid (W6.heap[g3]? = some (.cells #[.int .i64 ((l1 : Nat) : Int), .int .i64 (capR r : Nat), .int .i64 (capT t : Nat), .int .i64 ((l1 : Nat) : Int), .int .i64 ((r : Nat) : Int), .int .i64 ((t : Nat) : Int)] 133 (0, 0))) := by
    rw [← hW6]; exact blk_store (blk_store (blk_store HN5.out 0 _) 1 _) 2 _
  have HR6 : Hid (W6.heap[g]? = some (.cells #[.int .i64 0, .int .i64 0, .int .i64 0, .int .i64 0, .int .i64 0, .int .i64 0] 133 (0, 0))) := by
    have hne : g ≠ g3 := Ne.symm HNR.out.2.2.1
    rw [← hW6]; exact blk_set (blk_set (blk_set HR5.out _ _ hne) _ _ hne) _ _ hne
  have HK6 : Hid (Rk W6 rb ob gb n d) := by
    obtain ⟨⟨hnr, hng⟩, _⟩ := HNR.out
    rw [← hW6]; exact ((HK5.out.setOther _ hnr hng).setOther _ hnr hng).setOther _ hnr hng
  have HB6 : Hid (Below w.heap.size w W6) := by
    have hge := HNR.out.2.2.2.1
    rw [← hW6]; exact ((HB5.out.setCell hge _).setCell hge _).setCell hge _
  rw [hW6]
  clear hW6 HN5 HR5 HK5 HB5 b0 b1 b2 b3 b4 b5 i0 i1 i2 i3 i4 i5
  refine (HS.out _ HK6.out).mono ?_
  rintro e w7 ⟨rfl, hK7, hC7⟩
  have HN7 := Lib.hid (hC7.blk HN6.out HNR.out.1.1 HNR.out.1.2)
  have HR7 := Lib.hid (hC7.blk HR6.out HNR.out.2.1.1 HNR.out.2.1.2)
  have HC7 := Lib.hid ((Chg.ofBelow HB6.out rb ob gb).trans hC7)
  have HK7 := Lib.hid hK7
  clear HN6 HR6 HK6 HB6 hC7 hK7 HS
  obtain ⟨⟨c0, c1, c2, c3, c4, c5⟩, ⟨f0, f1, f2, f3, f4, f5⟩⟩ := blk6 HR7.out
  obtain ⟨⟨b0, b1, b2, b3, b4, b5⟩, _⟩ := blk6 HN7.out
  by_cases her : er = 0
  · subst her
    go_wp2_with fail
    generalize hWF : World.setCell (World.setCell (World.setCell (World.setCell (World.setCell (World.setCell _ _ _) _ _) _ _) _ _) _ _) _ _ = WF
    refine rOpen_end (g := g) (c := 0) (x0 := ((l1 : Nat) : Int)) (x1 := (capR r : Nat)) (x2 := (capT t : Nat)) (x3 := ((l1 : Nat) : Int)) (x4 := ((r : Nat) : Int)) (x5 := ((t : Nat) : Int)) ?_ ?_ ?_ ?_ _ ?_
    · rfl
    · rfl
    · rfl
    · rw [← hWF]; exact blk_store (blk_store (blk_store (blk_store (blk_store (blk_store HR7.out 0 _) 1 _) 2 _) 3 _) 4 _) 5 _
    · obtain ⟨_, ⟨hgr, hgg⟩, _, _, hge⟩ := HNR.out
      rw [← hWF]
      exact ⟨fun _ => ⟨rfl, (((((HK7.out.setOther _ hgr hgg).setOther _ hgr hgg).setOther _ hgr hgg).setOther _ hgr hgg).setOther _ hgr hgg).setOther _ hgr hgg⟩, fun h => absurd rfl h,
        (((((HC7.out.late hge hgr _ _).late hge hgr _ _).late hge hgr _ _).late hge hgr _ _).late hge hgr _ _).late hge hgr _ _⟩
  · have hne : (er != 0) = true := by simpa using her
    have HER := Lib.hid her
    clear her
    go_wp2_with fail
    generalize hWF : World.setCell (World.setCell (World.setCell (World.setCell (World.setCell (World.setCell _ _ _) _ _) _ _) _ _) _ _) _ _ = WF
    refine rOpen_end (g := g) (c := er) (x0 := 0) (x1 := 0) (x2 := 0) (x3 := 0) (x4 := 0) (x5 := 0) ?_ ?_ ?_ ?_ _ ?_
    · rfl
    · rfl
    · rfl
    · rw [← hWF]; exact blk_store (blk_store (blk_store (blk_store (blk_store (blk_store HR7.out 0 _) 1 _) 2 _) 3 _) 4 _) 5 _
    · obtain ⟨_, ⟨hgr, hgg⟩, _, _, hge⟩ := HNR.out
      rw [← hWF]
      exact ⟨fun h => absurd h HER.out, fun _ => ⟨rfl, (((((HK7.out.setOther _ hgr hgg).setOther _ hgr hgg).setOther _ hgr hgg).setOther _ hgr hgg).setOther _ hgr hgg).setOther _ hgr hgg⟩,
        (((((HC7.out.late hge hgr _ _).late hge hgr _ _).late hge hgr _ _).late hge hgr _ _).late hge hgr _ _).late hge hgr _ _⟩
theorem rOpen_none (rb ob gb n : Nat) (d : Dk) (w : World) (k : Rk w rb ob gb n d) (hn : 256 ≤ n) (hlt : ∀ c ∈ d.bs, c < 256) (hw : d.writes ≤ 4611686018427387901) (hfu : d.fuse ≤ 9223372036854775807)
    (hl : loadA d = .tuple #[recV 0 0 0, .int .i64 0, .int .i64 40]) :
    Calls Try.prog 80 #[.pointer (some ⟨rb, ob, none⟩)] w fun e w' => ROpen w rb ob gb n ⟨1, capR 0, capT 0, 0, 0⟩ (saveW d ((1 : Nat) : Int) (capR 0 : Nat) (capT 0 : Nat)) e w' :=
  rOpen_none' 1 0 0 rfl rfl rfl rb ob gb n d w k hn hlt hw hfu hl
end Go.Proofs.Ythkppkecclnlnaa
namespace Go.Proofs.Ythkppkecclnlnaa
set_option linter.unusedVariables false
set_option linter.unusedSimpArgs false
open Go.RowKit

theorem refOf_end {w W : World} {a : Act} {c : Int} (hd : a.defers = []) (h2 : a.tmps[2]?.getD undef = .pointer (some ⟨w.heap.size, 0, none⟩)) (h3 : a.tmps[3]?.getD undef = .int .i64 c) (x0 x1 x2 x3 : Value)
    (hb : W.heap[w.heap.size]? = some (.cells #[x0, x1, x2, x3] 59 (0, 0))) (Q : Ending → World → Prop) (hQ : Q (.returned (.tuple #[.agg #[x0, x1, x2, x3], .int .i64 c])) W) :
    bodyPost Try.prog Try.f41 Q Exit.ret a W := by
  have y0 := blk_cell hb 0
  have y1 := blk_cell hb 1
  have y2 := blk_cell hb 2
  have y3 := blk_cell hb 3
  simp at y0 y1 y2 y3
  refine bodyPost_ret (v := .tuple #[.agg #[x0, x1, x2, x3], .int .i64 c]) ?_ hd hQ
  simp [results, Try.results41, go_sem, h2, h3, y0, y1, y2, y3]
theorem blk4' {W : World} {g : Nat} {a b c d : Value} {t : TypeId} (h : W.heap[g]? = some (.cells #[a, b, c, d] t (0, 0))) :
    (W.cell? ⟨g, 0, none⟩ = some a ∧ W.cell? ⟨g, 1, none⟩ = some b ∧ W.cell? ⟨g, 2, none⟩ = some c ∧ W.cell? ⟨g, 3, none⟩ = some d) ∧ (W.frozen? ⟨g, 0, none⟩ = false ∧ W.frozen? ⟨g, 1, none⟩ = false ∧ W.frozen? ⟨g, 2, none⟩ = false ∧ W.frozen? ⟨g, 3, none⟩ = false) :=
  ⟨⟨blk_cell h 0, blk_cell h 1, blk_cell h 2, blk_cell h 3⟩, ⟨blk_free h 0, blk_free h 1, blk_free h 2, blk_free h 3⟩⟩
def rkZero : Value := .agg #[.slice none 0 0, .bool false, .int .i64 0, .int .i64 0]
set_option maxRecDepth 100000 in
set_option maxHeartbeats 1000000 in
theorem refOf_short (a : Option Addr) (n c : Nat) (w : World) (hn : n ≠ 256) : Calls Try.prog 41 #[.slice a n c] w fun e w' => e = .returned (.tuple #[rkZero, .int .i64 102]) ∧ Below w.heap.size w w' := by
  have hne : ((n : Int) != 256) = true := by simp; omega
  clear hn
  go_enter Try.func41, Try.ntmps41
  go_wp2_with fail
  refine refOf_end rfl rfl rfl _ _ _ _ (blk_new w _) _ ⟨rfl, (Below.refl _ _).alloc (Nat.le_refl _) _⟩
set_option maxRecDepth 100000 in
set_option maxHeartbeats 1000000 in
theorem refOf_any (p : Addr) (c : Nat) (l : List Nat) (w : World) (hl : l.length = 256) (hp : p.block < w.heap.size) (hr : ∀ j x : Nat, l[j]? = some x → w.cell? (p.add j) = some (.int .u8 (x : Int))) :
    Calls Try.prog 41 #[.slice (some p) 256 c] w fun e w' => ∃ v, e = .returned (.tuple #[v, .int .i64 0]) ∧ RkV w w' v { Dk.new with bs := l } ∧ Below w.heap.size w w' := by
  have hb0 := (Below.refl w.heap.size w).alloc (Nat.le_refl _) (.cells #[.slice none 0 0, .bool false, .int .i64 0, .int .i64 0] 59)
  have hk0 := blk_new w (.cells #[.slice none 0 0, .bool false, .int .i64 0, .int .i64 0] 59)
  go_enter Try.func41, Try.ntmps41
  go_wp2_with fail
  refine (refNew_any _).mono ?_
  rintro e w1 ⟨v, rfl, ⟨g, n, rest, rfl, hn, hg, hcs, hcl⟩, hB1⟩
  have hb1 := below_then hb0 hB1
  have hk1 := blk_below' hB1 hk0
  have hwg : w.heap.size < g := by simp at hg; omega
  have hg1 := blk_lt hcs
  have hv : rkV g n Dk.new = .agg #[.slice (some ⟨g, 0, none⟩) 256 n, .bool false, .int .i64 (-1), .int .i64 0] := rfl
  rw [hv]
  have hcs2 := blk_old hcs (.cells #[.slice (some ⟨g, 0, none⟩) 256 n, .bool false, .int .i64 (-1), .int .i64 0] 59)
  have hk2 := blk_old hk1 (.cells #[.slice (some ⟨g, 0, none⟩) 256 n, .bool false, .int .i64 (-1), .int .i64 0] 59)
  have hm2 := blk_new w1 (.cells #[.slice (some ⟨g, 0, none⟩) 256 n, .bool false, .int .i64 (-1), .int .i64 0] 59)
  have hb2 := hb1.alloc hb1.size (.cells #[.slice (some ⟨g, 0, none⟩) 256 n, .bool false, .int .i64 (-1), .int .i64 0] 59)
  obtain ⟨W2, hW2⟩ : ∃ W2, w1.alloc (.cells #[.slice (some ⟨g, 0, none⟩) 256 n, .bool false, .int .i64 (-1), .int .i64 0] 59) = W2 := ⟨_, rfl⟩
  have HW2 := Lib.hid hW2
  rw [hW2] at hcs2 hk2 hm2 hb2
  have hs1 : w.heap.size < w1.heap.size := blk_lt hk1
  have HR := Lib.hid (show ∀ j u, (bC l)[j]? = some u → W2.cell? (p.add j) = some u from fun j u hu => by
    rw [bC_get] at hu
    obtain ⟨x, hx, rfl⟩ := Option.map_eq_some_iff.1 hu
    exact (hb2.cell (show (p.add j).block < w.heap.size by rw [add_block]; exact hp)).trans (hr j x hx))
  have HL := Lib.hid hl
  have hne : ¬ g = w1.heap.size := by omega
  clear hW2 hb0 hk0 hb1 hk1 hB1 hcs hr hl hp hv
  go_upto_region 4 with fail
  rw [HW2.out]
  clear HW2
  obtain ⟨⟨y0, y1, y2, y3⟩, ⟨g0, g1, g2, g3⟩⟩ := blk4' hm2
  have HC := Lib.hid hcs2
  have hcs3 := setRow_heap W2 g _ (((bC Dk.new.bs ++ rest).toArray).toList.take 0 ++ (bC l ++ ((bC Dk.new.bs ++ rest).toArray).toList.drop (0 + (bC l).length))).toArray _ _ hcs2
  have hgr := but_setRow (but_refl W2 (some g)) (((bC Dk.new.bs ++ rest).toArray).toList.take 0 ++ (bC l ++ ((bC Dk.new.bs ++ rest).toArray).toList.drop (0 + (bC l).length))).toArray
  obtain ⟨W3, hW3⟩ : ∃ W3, W2.setRow g (((bC Dk.new.bs ++ rest).toArray).toList.take 0 ++ (bC l ++ ((bC Dk.new.bs ++ rest).toArray).toList.drop (0 + (bC l).length))).toArray = W3 := ⟨_, rfl⟩
  rw [hW3] at hcs3 hgr
  have hk3 := blk_grown hgr hk2 (by simp; omega)
  have hm3 := blk_grown hgr hm2 (by simp; omega)
  have hb3 := hb2.grown hgr hb2.size (fun j h => by cases h; omega)
  have HW3 := Lib.hid hW3
  have HC3 := Lib.hid hcs3
  have HB3 := Lib.hid hb3
  clear hW3 hgr hcs2 hcs3 hb2 hb3 hk2 hm2
  go_wp2_with (refine wpList_copy_own rfl _ _ 30 30 rfl 5 Try.underlying30 (by kernel_rfl) g 0 256 n p 256 c rfl rfl (bC Dk.new.bs ++ rest).toArray 5 HC.out (bC l) (by rw [bC_len, HL.out]; rfl) HR.out (by rw [bC_len, HL.out]; simp [bC_len, hcl]) (bC_one l) ?_; rw [HW3.out]; clear y0 y1 y2 y3 g0 g1 g2 g3; obtain ⟨⟨y0, y1, y2, y3⟩, ⟨g0, g1, g2, g3⟩⟩ := blk4' hm3; obtain ⟨⟨x0, x1, x2, x3⟩, ⟨f0, f1, f2, f3⟩⟩ := blk4' hk3)
  generalize hWF : World.setCell (World.setCell (World.setCell (World.setCell _ _ _) _ _) _ _) _ _ = WF
  have hfin : (((bC Dk.new.bs ++ rest).toArray).toList.take 0 ++ (bC l ++ ((bC Dk.new.bs ++ rest).toArray).toList.drop (0 + (bC l).length))).toArray = (bC l ++ rest).toArray := by
    rw [bC_len, HL.out, List.take_zero, List.nil_append, List.toList_toArray, Nat.zero_add, List.drop_append, List.drop_of_length_le (by rw [bC_len, hcl]; exact Nat.le_refl _), List.nil_append, bC_len, hcl]
    rfl
  refine refOf_end rfl rfl rfl (.slice (some ⟨g, 0, none⟩) 256 n) (.bool false) (.int .i64 (-1)) (.int .i64 0) ?_ _ ⟨_, rfl, ⟨g, n, rest, rfl, hn, by omega, ?_, HL.out⟩, ?_⟩
  · rw [← hWF]; exact blk_store (blk_store (blk_store (blk_store hk3 0 _) 1 _) 2 _) 3 _
  · rw [← hWF]
    have h4 := HC3.out
    rw [hfin] at h4
    exact blk_set (blk_set (blk_set (blk_set h4 _ _ (by simp; omega)) _ _ (by simp; omega)) _ _ (by simp; omega)) _ _ (by simp; omega)
  · rw [← hWF]; exact (((HB3.out.setCell (Nat.le_refl _) _).setCell (Nat.le_refl _) _).setCell (Nat.le_refl _) _).setCell (Nat.le_refl _) _
end Go.Proofs.Ythkppkecclnlnaa
namespace Go.Proofs.Ythkppkecclnlnaa
set_option linter.unusedVariables false
open Go.RowKit Go.WideShapes Go.ChangeShapes Go.WideElems Go.Deep

theorem add_mid' (b o j : Nat) : (⟨b, o, none⟩ : Addr).add j = ⟨b, o + j, none⟩ := by unfold Addr.add; split <;> simp_all
theorem list1 : ∀ y : List Int, y.length = 1 → ∃ a, y = [a]
  | [a], _ => ⟨a, rfl⟩
theorem list2 : ∀ y : List Int, y.length = 2 → ∃ a b, y = [a, b]
  | [a, b], _ => ⟨a, b, rfl⟩
theorem list3 : ∀ y : List Int, y.length = 3 → ∃ a b c, y = [a, b, c]
  | [a, b, c], _ => ⟨a, b, c, rfl⟩
theorem list4 : ∀ y : List Int, y.length = 4 → ∃ a b c d, y = [a, b, c, d]
  | [a, b, c, d], _ => ⟨a, b, c, d, rfl⟩
theorem list5 : ∀ y : List Int, y.length = 5 → ∃ a b c d e, y = [a, b, c, d, e]
  | [a, b, c, d, e], _ => ⟨a, b, c, d, e, rfl⟩
theorem list6 : ∀ y : List Int, y.length = 6 → ∃ a b c d e f, y = [a, b, c, d, e, f]
  | [a, b, c, d, e, f], _ => ⟨a, b, c, d, e, f, rfl⟩
/-- A type all of whose cells are integers, one behind the other. -/
def tilesB (P : Program) (F : TypeId → Bool) : List Field → Nat → Nat → Bool
  | [], o, n => o == n
  | f :: fs, o, n => f.offset == o && F f.type && tilesB P F fs (o + P.cellsOf f.type) n
def flatB (P : Program) : Nat → TypeId → Bool
  | 0, _ => false
  | d + 1, t =>
    match P.underlying t with
    | some (.int .i64) => P.cellsOf t == 1
    | some (.struct fs) => tilesB P (flatB P d) fs.toList 0 (P.cellsOf t)
    | _ => false
def intsV (ys : List Int) : List Value := ys.map (Value.int .i64)

section
variable {H : Type} {enc : TypeId × Value → H} {P : Program} {w : World} {base : Nat} {spare : Nat → Bool} {held : Bool}
theorem tiles_open {F : TypeId → Bool} {cs : List Value} (hF : ∀ (t : TypeId) (n : Nat) (cs : List Value) (x : DataW H × List MemPlace), F t = true → DataW.trod enc P w base spare held n t cs = some x → ∃ ys : List Int, cs = intsV ys ∧ ∀ y ∈ ys, (Lit.int .i64 y).wf = true) {n : Nat} :
    ∀ (fs : List Field) (o : Nat), tilesB P F fs o cs.length = true → (∀ f ∈ fs, ∃ x, DataW.trod enc P w base spare held n f.type ((cs.drop f.offset).take (P.cellsOf f.type)) = some x) → ∃ ys : List Int, cs.drop o = intsV ys ∧ ∀ y ∈ ys, (Lit.int .i64 y).wf = true
  | [], o, ht, _ => by
    have ho : o = cs.length := by simpa [tilesB] using ht
    exact ⟨[], by rw [ho, List.drop_length]; rfl, by simp⟩
  | f :: fs, o, ht, hx => by
    simp only [tilesB, Bool.and_eq_true, beq_iff_eq] at ht
    obtain ⟨⟨h1, h2⟩, h3⟩ := ht
    obtain ⟨x, hx0⟩ := hx f (by simp)
    rw [h1] at hx0
    obtain ⟨ys, hy, hw⟩ := hF _ _ _ _ h2 hx0
    obtain ⟨zs, hz, hw2⟩ := tiles_open hF fs _ h3 (fun g hg => hx g (by simp [hg]))
    refine ⟨ys ++ zs, ?_, fun y hy => ?_⟩
    · rw [← List.take_append_drop (P.cellsOf f.type) (cs.drop o), List.drop_drop, hy, hz]
      unfold intsV; rw [List.map_append]
    · rcases List.mem_append.1 hy with h | h
      · exact hw y h
      · exact hw2 y h
theorem flat_open : ∀ (d : Nat) (t : TypeId) (n : Nat) (cs : List Value) (x : DataW H × List MemPlace), flatB P d t = true → DataW.trod enc P w base spare held n t cs = some x → ∃ ys : List Int, cs = intsV ys ∧ ∀ y ∈ ys, (Lit.int .i64 y).wf = true
  | 0, _, _, _, _, h, _ => by cases h
  | d + 1, t, n, cs, x, h, hx => by
    unfold flatB at h
    split at h
    · rename_i hu
      obtain ⟨z, rfl, _, hw⟩ := DataW.trod_int hu hx
      exact ⟨[z], rfl, by simpa using hw⟩
    · rename_i fs hu
      obtain ⟨xs, m, _, _, hl, hlen, hf⟩ := DataW.trod_struct hu hx
      rw [← hl] at h
      obtain ⟨ys, hy, hw⟩ := tiles_open (n := m) (fun t n cs x => flat_open d t n cs x) fs.toList 0 h (fun f hfm => by
        obtain ⟨i, hi, rfl⟩ := List.mem_iff_getElem.1 hfm
        have := hf i fs.toList[i] (by rw [← Array.getElem?_toList, List.getElem?_eq_getElem hi])
        refine ⟨xs[i]'(by rw [hlen]; simpa using hi), ?_⟩
        rw [this, List.getElem?_eq_getElem])
      exact ⟨ys, by simpa using hy, hw⟩
    · cases h
theorem flat_len {d : Nat} {t : TypeId} {n : Nat} {cs : List Value} {x : DataW H × List MemPlace} (h : flatB P d t = true) (hx : DataW.trod enc P w base spare held n t cs = some x) : cs.length = P.cellsOf t := by
  cases d with
  | zero => cases h
  | succ d =>
    unfold flatB at h
    split at h
    · rename_i hu
      obtain ⟨z, rfl, _, hw⟩ := DataW.trod_int hu hx
      have h2 : P.cellsOf t = 1 := by simpa using h
      exact h2.symm
    · rename_i fs hu
      obtain ⟨xs, m, _, _, hl, _⟩ := DataW.trod_struct hu hx
      exact hl
    · cases h
/-- A struct of integers that came in. -/
theorem open_flat {r : Reach} {b0 : Nat} {t : TypeId} {fs : Array Field} {v : Value} {dd : DataW H} {p : List MemPlace} (d : Nat) (ht : P.underlying t = some (.struct fs)) (hfl : flatB P d t = true)
    (hval : Value.okWide P w r b0 t v) (h : DataW.Trod enc P w 0 spare held t v dd p) : ∃ ys : List Int, v = .agg (intsV ys).toArray ∧ ys.length = P.cellsOf t ∧ ∀ y ∈ ys, (Lit.int .i64 y).wf = true := by
  obtain ⟨n, hn⟩ := h
  unfold Value.okWide at hval
  rw [ht] at hval
  obtain ⟨cs, rfl, _, _⟩ := hval
  obtain ⟨ys, hy, hw⟩ := flat_open d t n _ _ hfl hn
  have hl := flat_len hfl hn
  have hc : cs.toList = intsV ys := hy
  refine ⟨ys, by rw [← hc], ?_, hw⟩
  have h2 : (intsV ys).length = P.cellsOf t := by rw [← hc]; exact hl
  simpa [intsV] using h2
end
/-- A row of structs of n integers each that came in. -/
def RowsOf (W : World) (n : Nat) (v : Value) (xs : List (List Int)) : Prop :=
  ∃ a cap, v = .slice a xs.length cap ∧ xs.length ≤ cap ∧ cap ≤ maxLen ∧ ∀ (i : Nat) (x : List Int), xs[i]? = some x → x.length = n ∧ ∃ g o, a = some ⟨g, o, none⟩ ∧ g < W.heap.size ∧ ∀ (j : Nat) (y : Int), x[j]? = some y → W.cell? ⟨g, o + i * n + j, none⟩ = some (.int .i64 y)
theorem RowsOf.below {W W' : World} {n : Nat} {v : Value} {xs : List (List Int)} (h : RowsOf W n v xs) (hb : Below W.heap.size W W') : RowsOf W' n v xs := by
  obtain ⟨a, cap, h1, h2, h3, h4⟩ := h
  refine ⟨a, cap, h1, h2, h3, fun i x hx => ?_⟩
  obtain ⟨h5, g, o, h6, h7, h8⟩ := h4 i x hx
  exact ⟨h5, g, o, h6, Nat.lt_of_lt_of_le h7 hb.size, fun j y hy => (hb.cell h7).trans (h8 j y hy)⟩
theorem open_rows {H : Type} {enc : TypeId × Value → H} {P : Program} {W : World} {spare : Nat → Bool} {held : Bool} {r : Reach} {b0 : Nat} {t e : TypeId} {v : Value} {dd : DataW H} {p : List MemPlace} (d : Nat) (ht : P.underlying t = some (.slice e)) (hfl : flatB P d e = true) (hpos : 0 < P.cellsOf e)
    (hval : Value.okWide P W r b0 t v) (h : DataW.Trod enc P W 0 spare held t v dd p) :
    ∃ xs, RowsOf W (P.cellsOf e) v xs ∧ ∀ x ∈ xs, ∀ y ∈ x, (Lit.int .i64 y).wf = true := by
  obtain ⟨n, hn⟩ := h
  have hv : v.cells.toList = [v] := by
    cases v <;> first | rfl | (simp [Value.okWide, Cell.okWide, Cell.ok, ht] at hval)
  rw [hv] at hn
  rcases open_slice ht hn with ⟨h1, h2⟩ | ⟨a, len, cap, m, k, D, Pl, h1, hb, hl, hm, hmm, hx, hall⟩
  · obtain rfl : v = .slice none 0 0 := by simpa using h1
    exact ⟨[], ⟨none, 0, rfl, Nat.le_refl _, by unfold maxLen; omega, fun i x h => by simp at h⟩, by simp⟩
  · obtain rfl : v = .slice (some a) len cap := by simpa using h1
    have hlm : len ≤ m := by rw [hmm]; split <;> omega
    have key : ∀ i, i < len → ∃ ys : List Int, ys.length = P.cellsOf e ∧ (∀ y ∈ ys, (Lit.int .i64 y).wf = true) ∧ W.cells? 0 (a.add (i * P.cellsOf e)) (P.cellsOf e) = some (intsV ys) := by
      intro i hi
      obtain ⟨cs, hc, hd⟩ := hall i (by omega)
      obtain ⟨ys, hy, hw⟩ := flat_open d e _ _ _ hfl hd
      have hll := flat_len hfl hd
      refine ⟨ys, ?_, hw, by rw [← hy]; exact hc⟩
      rw [hy] at hll
      simpa [intsV] using hll
    obtain ⟨f, hf⟩ : ∃ f : Nat → List Int, ∀ i, i < len → (f i).length = P.cellsOf e ∧ (∀ y ∈ f i, (Lit.int .i64 y).wf = true) ∧ W.cells? 0 (a.add (i * P.cellsOf e)) (P.cellsOf e) = some (intsV (f i)) := by
      refine ⟨fun i => if h : i < len then (key i h).choose else [], fun i hi => ?_⟩
      simp only [hi, dite_true]
      exact (key i hi).choose_spec
    refine ⟨(List.range len).map f, ⟨some a, cap, by simp, by simpa using hl, hm, fun i x hx => ?_⟩, fun x hx => ?_⟩
    · rw [List.getElem?_map] at hx
      have hi : i < len := by
        rcases Nat.lt_or_ge i len with h | h
        · exact h
        · rw [List.getElem?_eq_none (by simpa using h)] at hx; cases hx
      rw [List.getElem?_range hi] at hx
      obtain rfl : f i = x := by simpa using hx
      obtain ⟨h4, h5, h6⟩ := hf i hi
      obtain ⟨_, h7, h8⟩ := World.cells?_some h6
      have hcell : ∀ j y, (f i)[j]? = some y → W.cell? ((a.add (i * P.cellsOf e)).add j) = some (.int .i64 y) := by
        intro j y hy
        have hj : j < P.cellsOf e := by have := (List.getElem?_eq_some_iff.1 hy).1; omega
        rw [h8 j hj]
        unfold intsV; rw [List.getElem?_map, hy]; rfl
      obtain ⟨g, o, spot⟩ := a
      have hspot : spot = none := by
        obtain ⟨k4, k5, k6⟩ := hf 0 (by omega)
        obtain ⟨_, k7, k8⟩ := World.cells?_some k6
        have hk := k8 0 hpos
        have hk2 : (intsV (f 0))[0]? = some (.int .i64 ((f 0)[0]'(by omega))) := by unfold intsV; rw [List.getElem?_map, List.getElem?_eq_getElem (by omega)]; rfl
        rw [hk2] at hk
        have := World.cell?_spot hk
        simpa [Addr.add] using this
      subst hspot
      have h0 := hcell 0 _ (List.getElem?_eq_getElem (by omega))
      refine ⟨h4, g, o, rfl, ?_, fun j y hy => ?_⟩
      · have := cell_lt h0
        rwa [add_mid', add_mid'] at this
      · have := hcell j y hy
        rwa [add_mid', add_mid'] at this
    · obtain ⟨i, hi, rfl⟩ := List.mem_map.1 hx
      exact (hf i (List.mem_range.1 hi)).2.1
end Go.Proofs.Ythkppkecclnlnaa
