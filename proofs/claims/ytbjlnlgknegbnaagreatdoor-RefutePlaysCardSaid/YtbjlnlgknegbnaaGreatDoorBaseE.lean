/- Lemmas of this chapter, laid one behind the other. -/
import Derived.Test.YtbjlnlgknegbnaaGreatDoorBaseD
import Derived.StillTailTactics
import Derived.OpenShut
import Derived.Deep.Slices
import Derived.Deep.DeepCutAuto
import Derived.Test.YtbjlnlgknegbnaaGreatDoorRows
import Derived.Stop.LaidErr
import Derived.LaidMore
import Derived.MakeChecks
namespace Go.Proofs.YtbjlnlgknegbnaaGreatDoor
set_option linter.unusedVariables false
set_option linter.unusedSimpArgs false
open Go.RowKit

theorem rOpen_end {W : World} {a : Act} {g : Nat} {c x0 x1 x2 x3 x4 x5 : Int} (hd : a.defers = []) (h2 : a.tmps[2]?.getD undef = .pointer (some ⟨g, 0, none⟩)) (h3 : a.tmps[3]?.getD undef = .int .i64 c)
    (hb : W.heap[g]? = some (.cells #[.int .i64 x0, .int .i64 x1, .int .i64 x2, .int .i64 x3, .int .i64 x4, .int .i64 x5] 37 (0, 0))) (Q : Ending → World → Prop)
    (hQ : Q (.returned (.tuple #[.agg #[.int .i64 x0, .int .i64 x1, .int .i64 x2, .int .i64 x3, .int .i64 x4, .int .i64 x5], .int .i64 c])) W) :
    bodyPost Tryz.prog Tryz.f8 Q Exit.ret a W := by
  have y0 := blk_cell hb 0
  have y1 := blk_cell hb 1
  have y2 := blk_cell hb 2
  have y3 := blk_cell hb 3
  have y4 := blk_cell hb 4
  have y5 := blk_cell hb 5
  simp at y0 y1 y2 y3 y4 y5
  refine bodyPost_ret (v := .tuple #[.agg #[.int .i64 x0, .int .i64 x1, .int .i64 x2, .int .i64 x3, .int .i64 x4, .int .i64 x5], .int .i64 c]) ?_ hd hQ
  simp [results, Tryz.results8, go_sem, h2, h3, y0, y1, y2, y3, y4, y5]
theorem box6 (w : World) (a b c d e f : Value) (t : TypeId) : (w.alloc (.cells #[a, b, c, d, e, f] t)).heap[w.heap.size]? = some (.cells #[a, b, c, d, e, f] t (0, 0)) := blk_new w _
theorem blk6 {W : World} {g : Nat} {a b c d e f : Value} {t : TypeId} (h : W.heap[g]? = some (.cells #[a, b, c, d, e, f] t (0, 0))) :
    (W.cell? ⟨g, 0, none⟩ = some a ∧ W.cell? ⟨g, 1, none⟩ = some b ∧ W.cell? ⟨g, 2, none⟩ = some c ∧ W.cell? ⟨g, 3, none⟩ = some d ∧ W.cell? ⟨g, 4, none⟩ = some e ∧ W.cell? ⟨g, 5, none⟩ = some f) ∧
    (W.frozen? ⟨g, 0, none⟩ = false ∧ W.frozen? ⟨g, 1, none⟩ = false ∧ W.frozen? ⟨g, 2, none⟩ = false ∧ W.frozen? ⟨g, 3, none⟩ = false ∧ W.frozen? ⟨g, 4, none⟩ = false ∧ W.frozen? ⟨g, 5, none⟩ = false) :=
  ⟨⟨(blk_cell h 0).trans rfl, (blk_cell h 1).trans rfl, (blk_cell h 2).trans rfl, (blk_cell h 3).trans rfl, (blk_cell h 4).trans rfl, (blk_cell h 5).trans rfl⟩, blk_free h 0, blk_free h 1, blk_free h 2, blk_free h 3, blk_free h 4, blk_free h 5⟩
def zB : Value := .agg #[.int .i64 0, .int .i64 0, .int .i64 0, .int .i64 0, .int .i64 0, .int .i64 0]
def rbV (B : Bt) : Value := .agg (rbC B).toArray
set_option maxRecDepth 100000 in
set_option maxHeartbeats 1000000 in
theorem rOpen_off (rb ob gb n : Nat) (d : Dk) (w : World) (k : Rk w rb ob gb n d) (hn : 256 ≤ n) (hlt : ∀ c ∈ d.bs, c < 256) (ho : d.off = true) :
    Calls Tryz.prog 8 #[.pointer (some ⟨rb, ob, none⟩)] w fun e w' => e = .returned (.tuple #[zB, .int .i64 100]) ∧ Below w.heap.size w w' := by
  have hl := loadA_off ho
  unfold recV at hl
  have HL := Lib.hid (fun w (hk : Rk w rb ob gb n d) => hl ▸ refLoad_any rb ob gb n d w hk hn hlt)
  clear hl hn hlt ho
  unfold zB
  have HB0 : Hid (Below w.heap.size w (w.alloc (.cells #[.int .i64 0, .int .i64 0, .int .i64 0, .int .i64 0, .int .i64 0, .int .i64 0] 37))) := (Below.refl _ w).alloc (Nat.le_refl _) _
  have HR0 := Lib.hid (box6 w (.int .i64 0) (.int .i64 0) (.int .i64 0) (.int .i64 0) (.int .i64 0) (.int .i64 0) 37)
  have HK0 := Lib.hid (k.below HB0.out)
  have HKL := Lib.hid k.lt
  clear k
  go_enter Tryz.func8, Tryz.ntmps8
  go_upto_region 1 with fail
  generalize World.alloc w _ = W0 at *
  obtain ⟨g, hg⟩ : ∃ g, w.heap.size = g := ⟨_, rfl⟩
  have hr0 := HR0.out
  have hb0 := HB0.out
  have hk0 := HK0.out
  have HGK := HKL.out
  rw [hg] at hr0 HGK
  (try rw [hg])
  have HGK := Lib.hid HGK
  have HG := Lib.hid hg
  clear hg HR0 HB0 HK0 HKL
  go_wp2_with fail
  refine (HL.out _ hk0).mono ?_
  rintro e w1 ⟨rfl, hB1⟩
  have hr1 := blk_below' hB1 hr0
  have hk1 := hk0.below hB1
  have hb1 := below_then hb0 hB1
  clear hr0 hb0 hB1 hk0
  have hal : Below w1.heap.size w1 (w1.alloc (.cells #[.int .i64 0, .int .i64 0, .int .i64 0] 35)) := (Below.refl _ _).alloc (Nat.le_refl _) _
  have HX := Lib.hid (box3 w1 (.int .i64 0) (.int .i64 0) (.int .i64 0) 35)
  have HR := Lib.hid (blk_below' hal hr1)
  have HK := Lib.hid (hk1.below hal)
  have HB := Lib.hid (below_then hb1 hal)
  have HLT := Lib.hid (blk_lt hr1)
  clear hr1 hk1 hb1 hal
  go_upto_region 2 with fail
  generalize World.alloc w1 _ = W2 at *
  obtain ⟨g2, hg2⟩ : ∃ g2, w1.heap.size = g2 := ⟨_, rfl⟩
  rw [hg2] at HX HLT
  (try rw [hg2])
  have HNE : Hid (g < g2) := HLT.out
  clear hg2 HLT
  have hr2 := HR.out
  have hx1 := HX.out
  obtain ⟨⟨c0, c1, c2, c3, c4, c5⟩, ⟨f0, f1, f2, f3, f4, f5⟩⟩ := blk6 hr2
  obtain ⟨y0, y1, y2, z0, z1, z2⟩ := blk3 hx1
  have hsz1 := blk_lt hr2
  have hsz2 := blk_lt hx1
  clear hx1 hr2
  go_wp2_with fail
  generalize hWF : World.setCell (World.setCell (World.setCell (World.setCell (World.setCell (World.setCell _ _ _) _ _) _ _) _ _) _ _) _ _ = WF
  refine rOpen_end (g := g) (c := 100) (x0 := 0) (x1 := 0) (x2 := 0) (x3 := 0) (x4 := 0) (x5 := 0) ?_ ?_ ?_ ?_ _ ?_
  · rfl
  · rfl
  · rfl
  · rw [← hWF]; exact blk_store (blk_store (blk_store (blk_store (blk_store (blk_store HR.out 0 _) 1 _) 2 _) 3 _) 4 _) 5 _
  · refine ⟨rfl, ?_⟩
    rw [← hWF]
    have hge : w.heap.size ≤ g := Nat.le_of_eq HG.out
    exact (((((HB.out.setCell hge _).setCell hge _).setCell hge _).setCell hge _).setCell hge _).setCell hge _
set_option maxRecDepth 100000 in
set_option maxHeartbeats 1000000 in
theorem rOpen_max (rb ob gb n : Nat) (d : Dk) (w : World) (k : Rk w rb ob gb n d) (hn : 256 ≤ n) (hlt : ∀ c ∈ d.bs, c < 256) (r t s : Int) (hl : loadA d = .tuple #[recV 1073741824 r t, .int .i64 s, .int .i64 0]) :
    Calls Tryz.prog 8 #[.pointer (some ⟨rb, ob, none⟩)] w fun e w' => e = .returned (.tuple #[zB, .int .i64 120]) ∧ Below w.heap.size w w' := by
  unfold recV at hl
  have HL := Lib.hid (fun w (hk : Rk w rb ob gb n d) => hl ▸ refLoad_any rb ob gb n d w hk hn hlt)
  clear hl hn hlt
  unfold zB
  have HB0 : Hid (Below w.heap.size w (w.alloc (.cells #[.int .i64 0, .int .i64 0, .int .i64 0, .int .i64 0, .int .i64 0, .int .i64 0] 37))) := (Below.refl _ w).alloc (Nat.le_refl _) _
  have HR0 := Lib.hid (box6 w (.int .i64 0) (.int .i64 0) (.int .i64 0) (.int .i64 0) (.int .i64 0) (.int .i64 0) 37)
  have HK0 := Lib.hid (k.below HB0.out)
  have HKL := Lib.hid k.lt
  clear k
  go_enter Tryz.func8, Tryz.ntmps8
  go_upto_region 1 with fail
  generalize World.alloc w _ = W0 at *
  obtain ⟨g, hg⟩ : ∃ g, w.heap.size = g := ⟨_, rfl⟩
  have hr0 := HR0.out
  have hb0 := HB0.out
  have hk0 := HK0.out
  have HGK := HKL.out
  rw [hg] at hr0 HGK
  (try rw [hg])
  have HGK := Lib.hid HGK
  have HG := Lib.hid hg
  clear hg HR0 HB0 HK0 HKL
  go_wp2_with fail
  refine (HL.out _ hk0).mono ?_
  rintro e w1 ⟨rfl, hB1⟩
  have hr1 := blk_below' hB1 hr0
  have hk1 := hk0.below hB1
  have hb1 := below_then hb0 hB1
  clear hr0 hb0 hB1 hk0
  have hal : Below w1.heap.size w1 (w1.alloc (.cells #[.int .i64 1073741824, .int .i64 r, .int .i64 t] 35)) := (Below.refl _ _).alloc (Nat.le_refl _) _
  have HX := Lib.hid (box3 w1 (.int .i64 1073741824) (.int .i64 r) (.int .i64 t) 35)
  have HR := Lib.hid (blk_below' hal hr1)
  have HK := Lib.hid (hk1.below hal)
  have HB := Lib.hid (below_then hb1 hal)
  have HLT := Lib.hid (blk_lt hr1)
  clear hr1 hk1 hb1 hal
  go_upto_region 2 with fail
  generalize World.alloc w1 _ = W2 at *
  obtain ⟨g2, hg2⟩ : ∃ g2, w1.heap.size = g2 := ⟨_, rfl⟩
  rw [hg2] at HX HLT
  (try rw [hg2])
  have HNE : Hid (g < g2) := HLT.out
  clear hg2 HLT
  have hr2 := HR.out
  have hx1 := HX.out
  obtain ⟨⟨c0, c1, c2, c3, c4, c5⟩, ⟨f0, f1, f2, f3, f4, f5⟩⟩ := blk6 hr2
  obtain ⟨y0, y1, y2, z0, z1, z2⟩ := blk3 hx1
  have hsz1 := blk_lt hr2
  have hsz2 := blk_lt hx1
  clear hx1 hr2
  have hal3 : Below W2.heap.size W2 (W2.alloc (.cells #[.int .i64 0, .int .i64 0, .int .i64 0, .int .i64 1, .int .i64 0, .int .i64 0] 37)) := (Below.refl _ _).alloc (Nat.le_refl _) _
  have HX3 := Lib.hid (blk_below' hal3 HX.out)
  have HR3 := Lib.hid (blk_below' hal3 HR.out)
  have HK3 := Lib.hid (HK.out.below hal3)
  have HB3 := Lib.hid (below_then HB.out hal3)
  have HN3 := Lib.hid (box6 W2 (.int .i64 0) (.int .i64 0) (.int .i64 0) (.int .i64 1) (.int .i64 0) (.int .i64 0) 37)
  have HZ3 := Lib.hid (And.intro hsz1 hsz2)
  clear hal3 HX HR HK HB c0 c1 c2 c3 c4 c5 f0 f1 f2 f3 f4 f5 y0 y1 y2 z0 z1 z2 hsz1 hsz2
  go_upto_region 5 with fail
  generalize World.alloc W2 _ = W3 at *
  obtain ⟨g3, hg3⟩ : ∃ g3, W2.heap.size = g3 := ⟨_, rfl⟩
  rw [hg3] at HN3 HZ3
  (try rw [hg3])
  clear hg3
  have hr3 := HR3.out
  have hx3 := HX3.out
  have hn3 := HN3.out
  obtain ⟨⟨c0, c1, c2, c3, c4, c5⟩, ⟨f0, f1, f2, f3, f4, f5⟩⟩ := blk6 hr3
  obtain ⟨⟨b0, b1, b2, b3, b4, b5⟩, ⟨i0, i1, i2, i3, i4, i5⟩⟩ := blk6 hn3
  obtain ⟨y0, y1, y2, z0, z1, z2⟩ := blk3 hx3
  clear hr3 hx3 hn3
  go_wp2_with fail
  have HR := HR3
  have HB := HB3
  generalize hWF : World.setCell (World.setCell (World.setCell (World.setCell (World.setCell (World.setCell _ _ _) _ _) _ _) _ _) _ _) _ _ = WF
  refine rOpen_end (g := g) (c := 120) (x0 := 0) (x1 := 0) (x2 := 0) (x3 := 0) (x4 := 0) (x5 := 0) ?_ ?_ ?_ ?_ _ ?_
  · rfl
  · rfl
  · rfl
  · rw [← hWF]; exact blk_store (blk_store (blk_store (blk_store (blk_store (blk_store HR.out 0 _) 1 _) 2 _) 3 _) 4 _) 5 _
  · refine ⟨rfl, ?_⟩
    rw [← hWF]
    have hge : w.heap.size ≤ g := Nat.le_of_eq HG.out
    exact (((((HB.out.setCell hge _).setCell hge _).setCell hge _).setCell hge _).setCell hge _).setCell hge _
theorem Chg.late {W X : World} {rb o gb g : Nat} (h : Chg W X rb o gb) (hg : W.heap.size ≤ g) (h1 : g ≠ rb) (i : Nat) (v : Value) : Chg W (X.setCell ⟨g, i, none⟩ v) rb o gb := by
  refine ⟨h.os, h.tape, h.output, by have := h.size; simpa using this, fun k hk a b => (Below.heap_setCell X ⟨g, i, none⟩ v k (by show k ≠ g; omega)).trans (h.other k hk a b), fun cs t hc => ?_⟩
  obtain ⟨c1, a1, a2, a3⟩ := h.box cs t hc
  exact ⟨c1, blk_set a1 _ _ (fun e => h1 e.symm), a2, a3⟩
def ROpen (w : World) (rb ob gb n : Nat) (B : Bt) (D : Dk × Int) (e : Ending) (w' : World) : Prop :=
  (D.2 = 0 → e = .returned (.tuple #[rbV B, .int .i64 0]) ∧ Rk w' rb ob gb n D.1) ∧ (D.2 ≠ 0 → e = .returned (.tuple #[zB, .int .i64 D.2]) ∧ Rk w' rb ob gb n D.1) ∧ Chg w w' rb ob gb
theorem still_R (n : Nat) (hn : n ≤ 1099511627776) (w : World) : Calls Tryz.prog 29 #[.int .i64 (IntKind.i64.wrap ((n : Int) + 16)), .int .i64 1099511627775] w fun e w' => e = .returned (.int .i64 (capR n : Nat)) ∧ w' = w := by
  rw [show IntKind.i64.wrap ((n : Int) + 16) = (n : Int) + 16 from IntWalk.i64_in _ (by omega)]
  exact (least_R n w hn).mono fun _ _ h => ⟨h.1, h.2.symm⟩
theorem still_T (n : Nat) (hn : n ≤ 1048576) (w : World) : Calls Tryz.prog 29 #[.int .i64 (IntKind.i64.wrap ((n : Int) + 4)), .int .i64 1048576] w fun e w' => e = .returned (.int .i64 (capT n : Nat)) ∧ w' = w := by
  rw [show IntKind.i64.wrap ((n : Int) + 4) = (n : Int) + 4 from IntWalk.i64_in _ (by omega)]
  exact (least_T n w hn).mono fun _ _ h => ⟨h.1, h.2.symm⟩
set_option maxRecDepth 100000 in
set_option maxHeartbeats 1000000 in
theorem rOpen_some (rb ob gb n : Nat) (d : Dk) (w : World) (k : Rk w rb ob gb n d) (hn : 256 ≤ n) (hlt : ∀ c ∈ d.bs, c < 256) (hw : d.writes ≤ 4611686018427387901) (hfu : d.fuse ≤ 9223372036854775807) (l r t l1 : Nat) (s : Int)
    (hl : loadA d = .tuple #[recV l r t, .int .i64 s, .int .i64 0]) (hl1 : l1 = l + 1) (hne : l ≠ 1073741824) (hle : l ≤ 1073741824) (hr : r ≤ 1099511627776) (ht : t ≤ 1048576) :
    Calls Tryz.prog 8 #[.pointer (some ⟨rb, ob, none⟩)] w fun e w' => ROpen w rb ob gb n ⟨l1, capR r, capT t, r, t⟩ (saveW d l1 (capR r) (capT t)) e w' := by
  unfold recV at hl
  have HL := Lib.hid (fun w (hk : Rk w rb ob gb n d) => hl ▸ refLoad_any rb ob gb n d w hk hn hlt)
  obtain ⟨D, hDe⟩ : ∃ D, saveW d l1 (capR r) (capT t) = D := ⟨_, rfl⟩
  rw [hDe]
  have HLR := Lib.hid (still_R r hr)
  have HLT := Lib.hid (still_T t ht)
  have HS := Lib.hid (fun w (hk : Rk w rb ob gb n d) => refSave_any rb ob gb n d l1 (capR r) (capT t) w hk hn hlt (by omega) hfu)
  rw [hDe] at HS
  obtain ⟨d', er⟩ := D
  dsimp only at HS ⊢
  unfold recV at HS
  have e1 : ((l : Int) == 1073741824) = false := by simp; omega
  have e2 : (l : Int) ≤ 1073741824 := by omega
  have e3 : (r : Int) ≤ 1099511627776 := by omega
  have e4 : (t : Int) ≤ 1048576 := by omega
  clear hl hn hlt hDe hw hfu hne hle hr ht
  have HB0 : Hid (Below w.heap.size w (w.alloc (.cells #[.int .i64 0, .int .i64 0, .int .i64 0, .int .i64 0, .int .i64 0, .int .i64 0] 37))) := (Below.refl _ w).alloc (Nat.le_refl _) _
  have HR0 := Lib.hid (box6 w (.int .i64 0) (.int .i64 0) (.int .i64 0) (.int .i64 0) (.int .i64 0) (.int .i64 0) 37)
  have HK0 := Lib.hid (k.below HB0.out)
  have HKL := Lib.hid k.lt
  clear k
  go_enter Tryz.func8, Tryz.ntmps8
  go_upto_region 1 with fail
  generalize World.alloc w _ = W0 at *
  obtain ⟨g, hg⟩ : ∃ g, w.heap.size = g := ⟨_, rfl⟩
  have hr0 := HR0.out
  have hb0 := HB0.out
  have hk0 := HK0.out
  have HGK := HKL.out
  rw [hg] at hr0 HGK
  (try rw [hg])
  have HGK := Lib.hid HGK
  have HG := Lib.hid hg
  clear hg HR0 HB0 HK0 HKL
  go_wp2_with fail
  refine (HL.out _ hk0).mono ?_
  rintro e w1 ⟨rfl, hB1⟩
  have hr1 := blk_below' hB1 hr0
  have hk1 := hk0.below hB1
  have hb1 := below_then hb0 hB1
  clear hr0 hb0 hB1 hk0
  have hal : Below w1.heap.size w1 (w1.alloc (.cells #[.int .i64 (l : Int), .int .i64 (r : Int), .int .i64 (t : Int)] 35)) := (Below.refl _ _).alloc (Nat.le_refl _) _
  have HX := Lib.hid (box3 w1 (.int .i64 (l : Int)) (.int .i64 (r : Int)) (.int .i64 (t : Int)) 35)
  have HR := Lib.hid (blk_below' hal hr1)
  have HK := Lib.hid (hk1.below hal)
  have HB := Lib.hid (below_then hb1 hal)
  have HLT := Lib.hid (blk_lt hr1)
  clear hr1 hk1 hb1 hal
  go_upto_region 2 with fail
  generalize World.alloc w1 _ = W2 at *
  obtain ⟨g2, hg2⟩ : ∃ g2, w1.heap.size = g2 := ⟨_, rfl⟩
  rw [hg2] at HX HLT
  (try rw [hg2])
  have HNE : Hid (g < g2) := HLT.out
  clear hg2 HLT
  have hr2 := HR.out
  have hx1 := HX.out
  obtain ⟨⟨c0, c1, c2, c3, c4, c5⟩, ⟨f0, f1, f2, f3, f4, f5⟩⟩ := blk6 hr2
  obtain ⟨y0, y1, y2, z0, z1, z2⟩ := blk3 hx1
  have hsz1 := blk_lt hr2
  have hsz2 := blk_lt hx1
  clear hx1 hr2
  have hal3 : Below W2.heap.size W2 (W2.alloc (.cells #[.int .i64 0, .int .i64 0, .int .i64 0, .int .i64 1, .int .i64 0, .int .i64 0] 37)) := (Below.refl _ _).alloc (Nat.le_refl _) _
  have HX3 := Lib.hid (blk_below' hal3 HX.out)
  have HR3 := Lib.hid (blk_below' hal3 HR.out)
  have HK3 := Lib.hid (HK.out.below hal3)
  have HB3 := Lib.hid (below_then HB.out hal3)
  have HN3 := Lib.hid (box6 W2 (.int .i64 0) (.int .i64 0) (.int .i64 0) (.int .i64 1) (.int .i64 0) (.int .i64 0) 37)
  have HZ3 := Lib.hid (And.intro hsz1 hsz2)
  clear hal3 HX HR HK HB c0 c1 c2 c3 c4 c5 f0 f1 f2 f3 f4 f5 y0 y1 y2 z0 z1 z2 hsz1 hsz2
  go_upto_region 5 with fail
  generalize World.alloc W2 _ = W3 at *
  obtain ⟨g3, hg3⟩ : ∃ g3, W2.heap.size = g3 := ⟨_, rfl⟩
  rw [hg3] at HN3 HZ3
  (try rw [hg3])
  clear hg3
  have hr3 := HR3.out
  have hx3 := HX3.out
  have hn3 := HN3.out
  obtain ⟨⟨c0, c1, c2, c3, c4, c5⟩, ⟨f0, f1, f2, f3, f4, f5⟩⟩ := blk6 hr3
  obtain ⟨⟨b0, b1, b2, b3, b4, b5⟩, ⟨i0, i1, i2, i3, i4, i5⟩⟩ := blk6 hn3
  obtain ⟨y0, y1, y2, z0, z1, z2⟩ := blk3 hx3
  clear hr3 hx3 hn3
  have HL1 := Lib.hid hl1
  clear hl1
  go_upto_region 9 with fail
  obtain ⟨W4, hW4⟩ : ∃ W4, (((((W3.setCell ⟨g3, 0, none⟩ (.int .i64 0)).setCell ⟨g3, 1, none⟩ (.int .i64 0)).setCell ⟨g3, 2, none⟩ (.int .i64 0)).setCell ⟨g3, 3, none⟩ (.int .i64 ((l : Int) + 1))).setCell ⟨g3, 4, none⟩ (.int .i64 (r : Int))).setCell ⟨g3, 5, none⟩ (.int .i64 (t : Int)) = W4 := ⟨_, rfl⟩
  have HN4 : Hid (W4.heap[g3]? = some (.cells #[.int .i64 0, .int .i64 0, .int .i64 0, .int .i64 (l1 : Int), .int .i64 (r : Int), .int .i64 (t : Int)] 37 (0, 0))) := by
    rw [← hW4, HL1.out]; exact blk_store (blk_store (blk_store (blk_store (blk_store (blk_store HN3.out 0 _) 1 _) 2 _) 3 _) 4 _) 5 _
  have hgg : ∀ i, (⟨g3, i, none⟩ : Addr).block ≠ g := fun i => by have := HZ3.out.1; show g3 ≠ g; omega
  have HR4 : Hid (W4.heap[g]? = some (.cells #[.int .i64 0, .int .i64 0, .int .i64 0, .int .i64 0, .int .i64 0, .int .i64 0] 37 (0, 0))) := by
    have hne : g ≠ g3 := by have := HZ3.out.1; omega
    rw [← hW4]; exact blk_set (blk_set (blk_set (blk_set (blk_set (blk_set HR3.out _ _ hne) _ _ hne) _ _ hne) _ _ hne) _ _ hne) _ _ hne
  have HK4 : Hid (Rk W4 rb ob gb n d) := by
    have h1 := HZ3.out.1; have h2 := HGK.out
    have hnr : g3 ≠ rb := by omega
    have hng : g3 ≠ gb := by omega
    rw [← hW4]; exact (((((HK3.out.setOther _ hnr hng).setOther _ hnr hng).setOther _ hnr hng).setOther _ hnr hng).setOther _ hnr hng).setOther _ hnr hng
  have HB4 : Hid (Below w.heap.size w W4) := by
    have h1 := HZ3.out.1; have h2 := HG.out
    have hge : w.heap.size ≤ g3 := by omega
    rw [← hW4]; exact (((((HB3.out.setCell hge _).setCell hge _).setCell hge _).setCell hge _).setCell hge _).setCell hge _
  rw [hW4]
  clear hW4 HN3 HR3 HK3 HB3 HX3 c0 c1 c2 c3 c4 c5 b0 b1 b2 b3 b4 b5 y0 y1 y2 z0 z1 z2 f0 f1 f2 f3 f4 f5 i0 i1 i2 i3 i4 i5 hgg HNE
  obtain ⟨HZa, HZb⟩ := HZ3.out
  have hrg : rb < g ∧ gb < g := HGK.out
  have hwg : w.heap.size = g := HG.out
  have hnr : g3 ≠ rb ∧ g3 ≠ gb := ⟨by omega, by omega⟩
  have hgr : g ≠ rb ∧ g ≠ gb := ⟨by omega, by omega⟩
  have hg3g : g3 ≠ g := by omega
  have hw3 : w.heap.size ≤ g3 := by omega
  have HNR := Lib.hid (And.intro hnr (And.intro hgr (And.intro hg3g (And.intro hw3 (Nat.le_of_eq hwg)))))
  clear hrg hwg hnr hgr hg3g hw3 HZa HZb HZ3 HGK HG
  obtain ⟨⟨c0, c1, c2, c3, c4, c5⟩, _⟩ := blk6 HR4.out
  obtain ⟨⟨b0, b1, b2, b3, b4, b5⟩, ⟨i0, i1, i2, i3, i4, i5⟩⟩ := blk6 HN4.out
  refine wp_region_still_tail 10 (by kernel_rfl) (by kernel_rfl) ?_
  simp only [List.take_succ_cons, List.take_zero, List.drop_succ_cons, List.drop_zero]
  still_step
  still_step
  still_step
  still_step
  still_step
  still_call (HLR.out _)
  still_step
  still_step
  still_step
  still_call (HLT.out _)
  try refine wpStill_nil ?_
  change wpList _ _ _ _ _ W4.drew
  clear c0 c1 c2 c3 c4 c5 b0 b1 b2 b3 b4 b5 i0 i1 i2 i3 i4 i5
  have hdr : Below W4.heap.size W4 W4.drew := (Below.refl _ _).drew
  have HR5 := Lib.hid (blk_below' hdr HR4.out)
  have HN5 := Lib.hid (blk_below' hdr HN4.out)
  have HK5 := Lib.hid (HK4.out.below hdr)
  have HB5 := Lib.hid (below_then HB4.out hdr)
  clear hdr HR4 HN4 HK4 HB4
  generalize W4.drew = W5 at *
  obtain ⟨⟨b0, b1, b2, b3, b4, b5⟩, ⟨i0, i1, i2, i3, i4, i5⟩⟩ := blk6 HN5.out
  go_wp2_with fail
  obtain ⟨W6, hW6⟩ : ∃ W6, ((W5.setCell ⟨g3, 0, none⟩ (.int .i64 ((l1 : Nat) : Int))).setCell ⟨g3, 1, none⟩ (.int .i64 (capR r : Nat))).setCell ⟨g3, 2, none⟩ (.int .i64 (capT t : Nat)) = W6 := ⟨_, rfl⟩
  have HN6 : Hid (W6.heap[g3]? = some (.cells #[.int .i64 ((l1 : Nat) : Int), .int .i64 (capR r : Nat), .int .i64 (capT t : Nat), .int .i64 ((l1 : Nat) : Int), .int .i64 ((r : Nat) : Int), .int .i64 ((t : Nat) : Int)] 37 (0, 0))) := by
    rw [← hW6]; exact blk_store (blk_store (blk_store HN5.out 0 _) 1 _) 2 _
  have HR6 : Hid (W6.heap[g]? = some (.cells #[.int .i64 0, .int .i64 0, .int .i64 0, .int .i64 0, .int .i64 0, .int .i64 0] 37 (0, 0))) := by
    have hne : g ≠ g3 := Ne.symm HNR.out.2.2.1
    rw [← hW6]; exact blk_set (blk_set (blk_set HR5.out _ _ hne) _ _ hne) _ _ hne
  have HK6 : Hid (Rk W6 rb ob gb n d) := by
    obtain ⟨⟨hnr, hng⟩, _⟩ := HNR.out
    rw [← hW6]; exact ((HK5.out.setOther _ hnr hng).setOther _ hnr hng).setOther _ hnr hng
  have HB6 : Hid (Below w.heap.size w W6) := by
    have hge := HNR.out.2.2.2.1
    rw [← hW6]; exact ((HB5.out.setCell hge _).setCell hge _).setCell hge _
  rw [hW6]
  clear hW6 HN5 HR5 HK5 HB5 b0 b1 b2 b3 b4 b5 i0 i1 i2 i3 i4 i5
  refine (HS.out _ HK6.out).mono ?_
  rintro e w7 ⟨rfl, hK7, hC7⟩
  have HN7 := Lib.hid (hC7.blk HN6.out HNR.out.1.1 HNR.out.1.2)
  have HR7 := Lib.hid (hC7.blk HR6.out HNR.out.2.1.1 HNR.out.2.1.2)
  have HC7 := Lib.hid ((Chg.ofBelow HB6.out rb ob gb).trans hC7)
  have HK7 := Lib.hid hK7
  clear HN6 HR6 HK6 HB6 hC7 hK7 HS
  obtain ⟨⟨c0, c1, c2, c3, c4, c5⟩, ⟨f0, f1, f2, f3, f4, f5⟩⟩ := blk6 HR7.out
  obtain ⟨⟨b0, b1, b2, b3, b4, b5⟩, _⟩ := blk6 HN7.out
  by_cases her : er = 0
  · subst her
    go_wp2_with fail
    generalize hWF : World.setCell (World.setCell (World.setCell (World.setCell (World.setCell (World.setCell _ _ _) _ _) _ _) _ _) _ _) _ _ = WF
    refine rOpen_end (g := g) (c := 0) (x0 := ((l1 : Nat) : Int)) (x1 := (capR r : Nat)) (x2 := (capT t : Nat)) (x3 := ((l1 : Nat) : Int)) (x4 := ((r : Nat) : Int)) (x5 := ((t : Nat) : Int)) ?_ ?_ ?_ ?_ _ ?_
    · rfl
    · rfl
    · rfl
    · rw [← hWF]; exact blk_store (blk_store (blk_store (blk_store (blk_store (blk_store HR7.out 0 _) 1 _) 2 _) 3 _) 4 _) 5 _
    · obtain ⟨_, ⟨hgr, hgg⟩, _, _, hge⟩ := HNR.out
      rw [← hWF]
      exact ⟨fun _ => ⟨rfl, (((((HK7.out.setOther _ hgr hgg).setOther _ hgr hgg).setOther _ hgr hgg).setOther _ hgr hgg).setOther _ hgr hgg).setOther _ hgr hgg⟩, fun h => absurd rfl h,
        (((((HC7.out.late hge hgr _ _).late hge hgr _ _).late hge hgr _ _).late hge hgr _ _).late hge hgr _ _).late hge hgr _ _⟩
  · have hne : (er != 0) = true := by simpa using her
    have HER := Lib.hid her
    clear her
    go_wp2_with fail
    generalize hWF : World.setCell (World.setCell (World.setCell (World.setCell (World.setCell (World.setCell _ _ _) _ _) _ _) _ _) _ _) _ _ = WF
    refine rOpen_end (g := g) (c := er) (x0 := 0) (x1 := 0) (x2 := 0) (x3 := 0) (x4 := 0) (x5 := 0) ?_ ?_ ?_ ?_ _ ?_
    · rfl
    · rfl
    · rfl
    · rw [← hWF]; exact blk_store (blk_store (blk_store (blk_store (blk_store (blk_store HR7.out 0 _) 1 _) 2 _) 3 _) 4 _) 5 _
    · obtain ⟨_, ⟨hgr, hgg⟩, _, _, hge⟩ := HNR.out
      rw [← hWF]
      exact ⟨fun h => absurd h HER.out, fun _ => ⟨rfl, (((((HK7.out.setOther _ hgr hgg).setOther _ hgr hgg).setOther _ hgr hgg).setOther _ hgr hgg).setOther _ hgr hgg).setOther _ hgr hgg⟩,
        (((((HC7.out.late hge hgr _ _).late hge hgr _ _).late hge hgr _ _).late hge hgr _ _).late hge hgr _ _).late hge hgr _ _⟩
set_option maxRecDepth 100000 in
set_option maxHeartbeats 1000000 in
theorem rOpen_none' (l1 r t : Nat) (h1 : l1 = 1) (h2 : r = 0) (h3 : t = 0) (rb ob gb n : Nat) (d : Dk) (w : World) (k : Rk w rb ob gb n d) (hn : 256 ≤ n) (hlt : ∀ c ∈ d.bs, c < 256) (hw : d.writes ≤ 4611686018427387901) (hfu : d.fuse ≤ 9223372036854775807)
    (hl : loadA d = .tuple #[recV 0 0 0, .int .i64 0, .int .i64 40]) :
    Calls Tryz.prog 8 #[.pointer (some ⟨rb, ob, none⟩)] w fun e w' => ROpen w rb ob gb n ⟨l1, capR r, capT t, r, t⟩ (saveW d l1 (capR r) (capT t)) e w' := by
  unfold recV at hl
  have HL := Lib.hid (fun w (hk : Rk w rb ob gb n d) => hl ▸ refLoad_any rb ob gb n d w hk hn hlt)
  obtain ⟨D, hDe⟩ : ∃ D, saveW d l1 (capR r) (capT t) = D := ⟨_, rfl⟩
  rw [hDe]
  have HLR := Lib.hid (still_R r (by omega))
  have HLT := Lib.hid (still_T t (by omega))
  have H1 := Lib.hid h1
  have H2 := Lib.hid h2
  have H3 := Lib.hid h3
  have e3 : (r : Int) ≤ 1099511627776 := by omega
  have e4 : (t : Int) ≤ 1048576 := by omega
  clear h1 h2 h3
  have HS := Lib.hid (fun w (hk : Rk w rb ob gb n d) => refSave_any rb ob gb n d l1 (capR r) (capT t) w hk hn hlt (by omega) hfu)
  rw [hDe] at HS
  obtain ⟨d', er⟩ := D
  dsimp only at HS ⊢
  unfold recV at HS
  clear hl hn hlt hDe hw hfu
  have HB0 : Hid (Below w.heap.size w (w.alloc (.cells #[.int .i64 0, .int .i64 0, .int .i64 0, .int .i64 0, .int .i64 0, .int .i64 0] 37))) := (Below.refl _ w).alloc (Nat.le_refl _) _
  have HR0 := Lib.hid (box6 w (.int .i64 0) (.int .i64 0) (.int .i64 0) (.int .i64 0) (.int .i64 0) (.int .i64 0) 37)
  have HK0 := Lib.hid (k.below HB0.out)
  have HKL := Lib.hid k.lt
  clear k
  go_enter Tryz.func8, Tryz.ntmps8
  go_upto_region 1 with fail
  generalize World.alloc w _ = W0 at *
  obtain ⟨g, hg⟩ : ∃ g, w.heap.size = g := ⟨_, rfl⟩
  have hr0 := HR0.out
  have hb0 := HB0.out
  have hk0 := HK0.out
  have HGK := HKL.out
  rw [hg] at hr0 HGK
  (try rw [hg])
  have HGK := Lib.hid HGK
  have HG := Lib.hid hg
  clear hg HR0 HB0 HK0 HKL
  go_wp2_with fail
  refine (HL.out _ hk0).mono ?_
  rintro e w1 ⟨rfl, hB1⟩
  have hr1 := blk_below' hB1 hr0
  have hk1 := hk0.below hB1
  have hb1 := below_then hb0 hB1
  clear hr0 hb0 hB1 hk0
  have hal : Below w1.heap.size w1 (w1.alloc (.cells #[.int .i64 0, .int .i64 0, .int .i64 0] 35)) := (Below.refl _ _).alloc (Nat.le_refl _) _
  have HX := Lib.hid (box3 w1 (.int .i64 0) (.int .i64 0) (.int .i64 0) 35)
  have HR := Lib.hid (blk_below' hal hr1)
  have HK := Lib.hid (hk1.below hal)
  have HB := Lib.hid (below_then hb1 hal)
  have HLT := Lib.hid (blk_lt hr1)
  clear hr1 hk1 hb1 hal
  go_upto_region 2 with fail
  generalize World.alloc w1 _ = W2 at *
  obtain ⟨g2, hg2⟩ : ∃ g2, w1.heap.size = g2 := ⟨_, rfl⟩
  rw [hg2] at HX HLT
  (try rw [hg2])
  have HNE : Hid (g < g2) := HLT.out
  clear hg2 HLT
  have hr2 := HR.out
  have hx1 := HX.out
  obtain ⟨⟨c0, c1, c2, c3, c4, c5⟩, ⟨f0, f1, f2, f3, f4, f5⟩⟩ := blk6 hr2
  obtain ⟨y0, y1, y2, z0, z1, z2⟩ := blk3 hx1
  have hsz1 := blk_lt hr2
  have hsz2 := blk_lt hx1
  clear hx1 hr2
  have hal3 : Below W2.heap.size W2 (W2.alloc (.cells #[.int .i64 0, .int .i64 0, .int .i64 0, .int .i64 1, .int .i64 0, .int .i64 0] 37)) := (Below.refl _ _).alloc (Nat.le_refl _) _
  have HX3 := Lib.hid (blk_below' hal3 HX.out)
  have HR3 := Lib.hid (blk_below' hal3 HR.out)
  have HK3 := Lib.hid (HK.out.below hal3)
  have HB3 := Lib.hid (below_then HB.out hal3)
  have HN3 := Lib.hid (box6 W2 (.int .i64 0) (.int .i64 0) (.int .i64 0) (.int .i64 1) (.int .i64 0) (.int .i64 0) 37)
  have HZ3 := Lib.hid (And.intro hsz1 hsz2)
  clear hal3 HX HR HK HB c0 c1 c2 c3 c4 c5 f0 f1 f2 f3 f4 f5 y0 y1 y2 z0 z1 z2 hsz1 hsz2
  go_upto_region 5 with fail
  generalize World.alloc W2 _ = W3 at *
  obtain ⟨g3, hg3⟩ : ∃ g3, W2.heap.size = g3 := ⟨_, rfl⟩
  rw [hg3] at HN3 HZ3
  (try rw [hg3])
  clear hg3
  have hr3 := HR3.out
  have hx3 := HX3.out
  have hn3 := HN3.out
  obtain ⟨⟨c0, c1, c2, c3, c4, c5⟩, ⟨f0, f1, f2, f3, f4, f5⟩⟩ := blk6 hr3
  obtain ⟨⟨b0, b1, b2, b3, b4, b5⟩, ⟨i0, i1, i2, i3, i4, i5⟩⟩ := blk6 hn3
  obtain ⟨y0, y1, y2, z0, z1, z2⟩ := blk3 hx3
  clear hr3 hx3 hn3
  have HN4 : Hid (W3.heap[g3]? = some (.cells #[.int .i64 0, .int .i64 0, .int .i64 0, .int .i64 (l1 : Int), .int .i64 (r : Int), .int .i64 (t : Int)] 37 (0, 0))) := by rw [H1.out, H2.out, H3.out]; exact HN3.out
  have HR4 := HR3
  have HK4 := HK3
  have HB4 := HB3
  clear HN3 HR3 HK3 HB3
  go_upto_region 9 with fail
  generalize W3 = W4 at *
  clear HX3 c0 c1 c2 c3 c4 c5 b0 b1 b2 b3 b4 b5 y0 y1 y2 z0 z1 z2 f0 f1 f2 f3 f4 f5 i0 i1 i2 i3 i4 i5 HNE
  obtain ⟨HZa, HZb⟩ := HZ3.out
  have hrg : rb < g ∧ gb < g := HGK.out
  have hwg : w.heap.size = g := HG.out
  have hnr : g3 ≠ rb ∧ g3 ≠ gb := ⟨by omega, by omega⟩
  have hgr : g ≠ rb ∧ g ≠ gb := ⟨by omega, by omega⟩
  have hg3g : g3 ≠ g := by omega
  have hw3 : w.heap.size ≤ g3 := by omega
  have HNR := Lib.hid (And.intro hnr (And.intro hgr (And.intro hg3g (And.intro hw3 (Nat.le_of_eq hwg)))))
  clear hrg hwg hnr hgr hg3g hw3 HZa HZb HZ3 HGK HG
  obtain ⟨⟨c0, c1, c2, c3, c4, c5⟩, _⟩ := blk6 HR4.out
  obtain ⟨⟨b0, b1, b2, b3, b4, b5⟩, ⟨i0, i1, i2, i3, i4, i5⟩⟩ := blk6 HN4.out
  refine wp_region_still_tail 10 (by kernel_rfl) (by kernel_rfl) ?_
  simp only [List.take_succ_cons, List.take_zero, List.drop_succ_cons, List.drop_zero]
  still_step
  still_step
  still_step
  still_step
  still_step
  still_call (HLR.out _)
  still_step
  still_step
  still_step
  still_call (HLT.out _)
  try refine wpStill_nil ?_
  change wpList _ _ _ _ _ W4.drew
  clear c0 c1 c2 c3 c4 c5 b0 b1 b2 b3 b4 b5 i0 i1 i2 i3 i4 i5
  have hdr : Below W4.heap.size W4 W4.drew := (Below.refl _ _).drew
  have HR5 := Lib.hid (blk_below' hdr HR4.out)
  have HN5 := Lib.hid (blk_below' hdr HN4.out)
  have HK5 := Lib.hid (HK4.out.below hdr)
  have HB5 := Lib.hid (below_then HB4.out hdr)
  clear hdr HR4 HN4 HK4 HB4
  generalize W4.drew = W5 at *
  obtain ⟨⟨b0, b1, b2, b3, b4, b5⟩, ⟨i0, i1, i2, i3, i4, i5⟩⟩ := blk6 HN5.out
  go_wp2_with fail
  obtain ⟨W6, hW6⟩ : ∃ W6, ((W5.setCell ⟨g3, 0, none⟩ (.int .i64 ((l1 : Nat) : Int))).setCell ⟨g3, 1, none⟩ (.int .i64 (capR r : Nat))).setCell ⟨g3, 2, none⟩ (.int .i64 (capT t : Nat)) = W6 := ⟨_, rfl⟩
  have HN6 : Hid (W6.heap[g3]? = some (.cells #[.int .i64 ((l1 : Nat) : Int), .int .i64 (capR r : Nat), .int .i64 (capT t : Nat), .int .i64 ((l1 : Nat) : Int), .int .i64 ((r : Nat) : Int), .int .i64 ((t : Nat) : Int)] 37 (0, 0))) := by
    rw [← hW6]; exact blk_store (blk_store (blk_store HN5.out 0 _) 1 _) 2 _
  have HR6 : Hid (W6.heap[g]? = some (.cells #[.int .i64 0, .int .i64 0, .int .i64 0, .int .i64 0, .int .i64 0, .int .i64 0] 37 (0, 0))) := by
    have hne : g ≠ g3 := Ne.symm HNR.out.2.2.1
    rw [← hW6]; exact blk_set (blk_set (blk_set HR5.out _ _ hne) _ _ hne) _ _ hne
  have HK6 : Hid (Rk W6 rb ob gb n d) := by
    obtain ⟨⟨hnr, hng⟩, _⟩ := HNR.out
    rw [← hW6]; exact ((HK5.out.setOther _ hnr hng).setOther _ hnr hng).setOther _ hnr hng
  have HB6 : Hid (Below w.heap.size w W6) := by
    have hge := HNR.out.2.2.2.1
    rw [← hW6]; exact ((HB5.out.setCell hge _).setCell hge _).setCell hge _
  rw [hW6]
  clear hW6 HN5 HR5 HK5 HB5 b0 b1 b2 b3 b4 b5 i0 i1 i2 i3 i4 i5
  refine (HS.out _ HK6.out).mono ?_
  rintro e w7 ⟨rfl, hK7, hC7⟩
  have HN7 := Lib.hid (hC7.blk HN6.out HNR.out.1.1 HNR.out.1.2)
  have HR7 := Lib.hid (hC7.blk HR6.out HNR.out.2.1.1 HNR.out.2.1.2)
  have HC7 := Lib.hid ((Chg.ofBelow HB6.out rb ob gb).trans hC7)
  have HK7 := Lib.hid hK7
  clear HN6 HR6 HK6 HB6 hC7 hK7 HS
  obtain ⟨⟨c0, c1, c2, c3, c4, c5⟩, ⟨f0, f1, f2, f3, f4, f5⟩⟩ := blk6 HR7.out
  obtain ⟨⟨b0, b1, b2, b3, b4, b5⟩, _⟩ := blk6 HN7.out
  by_cases her : er = 0
  · subst her
    go_wp2_with fail
    generalize hWF : World.setCell (World.setCell (World.setCell (World.setCell (World.setCell (World.setCell _ _ _) _ _) _ _) _ _) _ _) _ _ = WF
    refine rOpen_end (g := g) (c := 0) (x0 := ((l1 : Nat) : Int)) (x1 := (capR r : Nat)) (x2 := (capT t : Nat)) (x3 := ((l1 : Nat) : Int)) (x4 := ((r : Nat) : Int)) (x5 := ((t : Nat) : Int)) ?_ ?_ ?_ ?_ _ ?_
    · rfl
    · rfl
    · rfl
    · rw [← hWF]; exact blk_store (blk_store (blk_store (blk_store (blk_store (blk_store HR7.out 0 _) 1 _) 2 _) 3 _) 4 _) 5 _
    · obtain ⟨_, ⟨hgr, hgg⟩, _, _, hge⟩ := HNR.out
      rw [← hWF]
      exact ⟨fun _ => ⟨rfl, (((((HK7.out.setOther _ hgr hgg).setOther _ hgr hgg).setOther _ hgr hgg).setOther _ hgr hgg).setOther _ hgr hgg).setOther _ hgr hgg⟩, fun h => absurd rfl h,
        (((((HC7.out.late hge hgr _ _).late hge hgr _ _).late hge hgr _ _).late hge hgr _ _).late hge hgr _ _).late hge hgr _ _⟩
  · have hne : (er != 0) = true := by simpa using her
    have HER := Lib.hid her
    clear her
    go_wp2_with fail
    generalize hWF : World.setCell (World.setCell (World.setCell (World.setCell (World.setCell (World.setCell _ _ _) _ _) _ _) _ _) _ _) _ _ = WF
    refine rOpen_end (g := g) (c := er) (x0 := 0) (x1 := 0) (x2 := 0) (x3 := 0) (x4 := 0) (x5 := 0) ?_ ?_ ?_ ?_ _ ?_
    · rfl
    · rfl
    · rfl
    · rw [← hWF]; exact blk_store (blk_store (blk_store (blk_store (blk_store (blk_store HR7.out 0 _) 1 _) 2 _) 3 _) 4 _) 5 _
    · obtain ⟨_, ⟨hgr, hgg⟩, _, _, hge⟩ := HNR.out
      rw [← hWF]
      exact ⟨fun h => absurd h HER.out, fun _ => ⟨rfl, (((((HK7.out.setOther _ hgr hgg).setOther _ hgr hgg).setOther _ hgr hgg).setOther _ hgr hgg).setOther _ hgr hgg).setOther _ hgr hgg⟩,
        (((((HC7.out.late hge hgr _ _).late hge hgr _ _).late hge hgr _ _).late hge hgr _ _).late hge hgr _ _).late hge hgr _ _⟩
theorem rOpen_none (rb ob gb n : Nat) (d : Dk) (w : World) (k : Rk w rb ob gb n d) (hn : 256 ≤ n) (hlt : ∀ c ∈ d.bs, c < 256) (hw : d.writes ≤ 4611686018427387901) (hfu : d.fuse ≤ 9223372036854775807)
    (hl : loadA d = .tuple #[recV 0 0 0, .int .i64 0, .int .i64 40]) :
    Calls Tryz.prog 8 #[.pointer (some ⟨rb, ob, none⟩)] w fun e w' => ROpen w rb ob gb n ⟨1, capR 0, capT 0, 0, 0⟩ (saveW d ((1 : Nat) : Int) (capR 0 : Nat) (capT 0 : Nat)) e w' :=
  rOpen_none' 1 0 0 rfl rfl rfl rb ob gb n d w k hn hlt hw hfu hl
end Go.Proofs.YtbjlnlgknegbnaaGreatDoor
namespace Go.Proofs.YtbjlnlgknegbnaaGreatDoor
set_option linter.unusedVariables false
set_option linter.unusedSimpArgs false
open Go.RowKit

theorem blk4' {W : World} {g : Nat} {a b c d : Value} {t : TypeId} (h : W.heap[g]? = some (.cells #[a, b, c, d] t (0, 0))) :
    (W.cell? ⟨g, 0, none⟩ = some a ∧ W.cell? ⟨g, 1, none⟩ = some b ∧ W.cell? ⟨g, 2, none⟩ = some c ∧ W.cell? ⟨g, 3, none⟩ = some d) ∧ (W.frozen? ⟨g, 0, none⟩ = false ∧ W.frozen? ⟨g, 1, none⟩ = false ∧ W.frozen? ⟨g, 2, none⟩ = false ∧ W.frozen? ⟨g, 3, none⟩ = false) :=
  ⟨⟨blk_cell h 0, blk_cell h 1, blk_cell h 2, blk_cell h 3⟩, ⟨blk_free h 0, blk_free h 1, blk_free h 2, blk_free h 3⟩⟩
def rkZero : Value := .agg #[.slice none 0 0, .bool false, .int .i64 0, .int .i64 0]
end Go.Proofs.YtbjlnlgknegbnaaGreatDoor
namespace Go.Proofs.YtbjlnlgknegbnaaGreatDoor
set_option linter.unusedVariables false
set_option linter.unusedSimpArgs false
open Go.RowKit

/-- What a play keeps: the disk in the block b, the document's at o of rb (its bytes in gb). -/
structure SP (w : World) (b rb o gb n : Nat) (d e : Dk) (W : World) : Prop where
  disk : DkAt W b d
  ref : Rk W rb o gb n e
  low : Below w.heap.size w W
  far : w.heap.size ≤ b ∧ w.heap.size ≤ rb ∧ w.heap.size ≤ gb ∧ b ≠ rb ∧ b ≠ gb
theorem SP.below {w W X : World} {b rb o gb n : Nat} {d e : Dk} (h : SP w b rb o gb n d e W) (hb : Below W.heap.size W X) : SP w b rb o gb n d e X :=
  ⟨h.disk.below hb, h.ref.below hb, below_then h.low hb, h.far⟩
theorem SP.drew {w W : World} {b rb o gb n : Nat} {d e : Dk} (h : SP w b rb o gb n d e W) : SP w b rb o gb n d e W.drew := h.below ((Below.refl _ _).drew)
theorem SP.turnD {w W X : World} {b rb o gb n : Nat} {d d' e : Dk} (h : SP w b rb o gb n d e W) (hD : DkAt X b d') (hg : W.grownBy X (some b)) : SP w b rb o gb n d' e X := by
  have hl := h.low.grown hg h.low.size (fun j hj => by cases hj; exact h.far.1)
  obtain ⟨_, _, _, _, hgb⟩ := hg
  exact ⟨hD, h.ref.heap (hgb _ h.ref.lt.1 (by have := h.far.2.2.2.1; simp; omega)) (hgb _ h.ref.lt.2 (by have := h.far.2.2.2.2; simp; omega)), hl, h.far⟩
theorem SP.turnR {w W X : World} {b rb o gb n : Nat} {d e e' : Dk} (h : SP w b rb o gb n d e W) (hR : Rk X rb o gb n e') (hg : Chg W X rb o gb) : SP w b rb o gb n d e' X :=
  ⟨⟨(hg.other b h.disk.lt h.far.2.2.2.1 h.far.2.2.2.2).trans h.disk.1, h.disk.2⟩, hR, h.low.trans (hg.low h.far.2.1 h.far.2.2.1 h.low.size), h.far⟩
/-- What holds of the disk behind i rounds. -/
structure SpI (d : Dk) (i : Nat) : Prop where
  lt : ∀ c ∈ d.bs, c < 256
  wr : d.writes ≤ 2 * i
  fz : d.fuse ≤ 9223372036854775807
theorem SpI.up {d : Dk} {i : Nat} (h : SpI d i) : SpI d (i + 1) := ⟨h.lt, by have := h.wr; omega, h.fz⟩
theorem saveW_size (d : Dk) (x y z : Int) : (saveW d x y z).1.fuse ≤ d.fuse ∧ (saveW d x y z).1.writes ≤ d.writes + 2 := by
  unfold saveW
  split <;> (try split) <;> (try split) <;> first | exact ⟨Nat.le_refl _, by show d.writes ≤ _; omega⟩ | exact svK_size _ _ _ 2
theorem SpI.save {d : Dk} {i : Nat} (h : SpI d i) (x y z : Int) : SpI (saveW d x y z).1 (i + 1) :=
  ⟨saveW_lt h.lt x y z, by have := (saveW_size d x y z).2; have := h.wr; omega, by have := (saveW_size d x y z).1; have := h.fz; omega⟩
theorem SpI.off {d : Dk} {i : Nat} (h : SpI d i) (v : Bool) : SpI { d with off := v } (i + 1) := ⟨h.lt, by have := h.wr; show d.writes ≤ _; omega, h.fz⟩
theorem SpI.fuse {d : Dk} {i : Nat} (h : SpI d i) (k : Int) (hk : (Lit.int .i64 k).wf = true) : SpI { d with fused := decide (0 ≤ k), fuse := k.toNat } (i + 1) :=
  ⟨h.lt, by have := h.wr; show d.writes ≤ _; omega, by
    simp only [Lit.wf, Bool.and_eq_true, decide_eq_true_eq] at hk
    have h5 : IntKind.i64.max = 9223372036854775807 := by decide
    show k.toNat ≤ _; omega⟩
theorem putS_lt' {bs l : List Nat} (h : ∀ c ∈ bs, c < 256) (hl : ∀ c ∈ l, c < 256) (s : Nat) : ∀ c ∈ putS bs s l, c < 256 := by
  intro c hc
  unfold putS at hc
  rcases List.mem_append.1 hc with hc | hc
  · exact h c (List.mem_of_mem_take hc)
  · rcases List.mem_append.1 hc with hc | hc
    · exact hl c hc
    · exact h c (List.mem_of_mem_drop hc)
theorem wrV_lt' {d : Dk} {l : List Nat} (h : ∀ c ∈ d.bs, c < 256) (hl : ∀ c ∈ l, c < 256) (s : Int) : ∀ c ∈ (wrV d s l).1.bs, c < 256 := by
  unfold wrV
  split <;> (try split) <;> (try split) <;> (try split) <;> first | exact putS_lt' h hl _ | exact h
theorem SpI.write {d : Dk} {i : Nat} (h : SpI d i) (s : Int) {l : List Nat} (hl : ∀ c ∈ l, c < 256) : SpI (wrV d s l).1 (i + 1) :=
  ⟨wrV_lt' h.lt hl s, by have := (wrV_fuse d s l).2; have := h.wr; omega, by have := (wrV_fuse d s l).1; have := h.fz; omega⟩
theorem SP.all {w W : World} {b rb o gb n : Nat} {d e : Dk} (h : SP w b rb o gb n d e W) :
    (W.cell? ⟨rb, o, none⟩ = some (.slice (some ⟨gb, 0, none⟩) 256 n) ∧ W.cell? ⟨rb, o + 1, none⟩ = some (.bool e.off) ∧ W.cell? ⟨rb, o + 2, none⟩ = some (.int .i64 (fuZ e)) ∧ W.cell? ⟨rb, o + 3, none⟩ = some (.int .i64 (e.writes : Nat))) ∧ SP w b rb o gb n d e W := ⟨h.ref.cells, h⟩
theorem Rk.ofBox {W : World} {rb gb n : Nat} {t : TypeId} {d : Dk} {rest : List Value} (h : W.heap[rb]? = some (.cells (rkC gb n d).toArray t (0, 0))) (hb : W.heap[gb]? = some (.cells (bC d.bs ++ rest).toArray 5 (0, 0))) (hl : d.bs.length = 256) (hne : rb ≠ gb) : Rk W rb 0 gb n d :=
  ⟨⟨_, t, h, fun j x hx => by rw [Nat.zero_add, List.getElem?_toArray]; exact hx⟩, ⟨rest, hb⟩, hl, hne⟩
theorem spI_new : SpI Dk.new 0 := ⟨by decide +kernel, Nat.le_refl _, Nat.zero_le _⟩
theorem rows6 {W : World} {v : Value} {xs : List (List Int)} (h : RowsOf W 6 v xs) {i : Nat} (hi : i < xs.length) :
    ∃ k a s x y z g o cap, xs[i]? = some [k, a, s, x, y, z] ∧ v = .slice (some ⟨g, o, none⟩) xs.length cap ∧ (W.cell? ⟨g, o + i * 6, none⟩ = some (.int .i64 k) ∧ W.cell? ⟨g, o + i * 6 + 1, none⟩ = some (.int .i64 a) ∧ W.cell? ⟨g, o + i * 6 + 2, none⟩ = some (.int .i64 s) ∧ W.cell? ⟨g, o + i * 6 + 3, none⟩ = some (.int .i64 x) ∧ W.cell? ⟨g, o + i * 6 + 4, none⟩ = some (.int .i64 y) ∧ W.cell? ⟨g, o + i * 6 + 5, none⟩ = some (.int .i64 z)) := by
  obtain ⟨p, cap, rfl, _, _, hx⟩ := h
  obtain ⟨h1, g, o, rfl, _, h2⟩ := hx i _ (List.getElem?_eq_getElem hi)
  have h3 := List.getElem?_eq_getElem hi
  generalize xs[i] = l at h1 h2 h3
  match l, h1 with
  | [k, a, s, x, y, z], _ => exact ⟨k, a, s, x, y, z, g, o, cap, h3, rfl, h2 0 k rfl, h2 1 a rfl, h2 2 s rfl, h2 3 x rfl, h2 4 y rfl, h2 5 z rfl⟩
end Go.Proofs.YtbjlnlgknegbnaaGreatDoor
namespace Go.Proofs.YtbjlnlgknegbnaaGreatDoor
set_option linter.unusedVariables false
set_option linter.unusedSimpArgs false
open Go.RowKit

structure NxR where
  rv : Int
  er : Int
  bt : Bt
  dk : Dk
def nxF (B : Bt) (d : Dk) : NxR :=
  if d.off then ⟨0, 100, B, d⟩
  else if B.round = 1099511627775 then ⟨0, 120, B, d⟩
  else if B.round = B.kround then
    if (saveW d B.life (capR B.kround : Nat) B.ktag).2 = 0 then ⟨((B.round + 1 : Nat) : Int), 0, { B with kround := capR B.kround, round := B.round + 1 }, (saveW d B.life (capR B.kround : Nat) B.ktag).1⟩
    else ⟨0, (saveW d B.life (capR B.kround : Nat) B.ktag).2, B, (saveW d B.life (capR B.kround : Nat) B.ktag).1⟩
  else ⟨((B.round + 1 : Nat) : Int), 0, { B with round := B.round + 1 }, d⟩
def rsF (B : Bt) (d : Dk) (t : Int) : NxR :=
  if d.off then ⟨0, 100, B, d⟩
  else if t < 0 then ⟨0, 1, B, d⟩
  else if 1048576 < t then ⟨0, 120, B, d⟩
  else if t.toNat ≤ B.tag then ⟨0, 0, B, d⟩
  else if t.toNat ≤ B.ktag then ⟨0, 0, { B with tag := t.toNat }, d⟩
  else if (saveW d B.life B.kround (capZ t.toNat : Nat)).2 = 0 then ⟨0, 0, { B with ktag := capZ t.toNat, tag := t.toNat }, (saveW d B.life B.kround (capZ t.toNat : Nat)).1⟩
  else ⟨0, (saveW d B.life B.kround (capZ t.toNat : Nat)).2, B, (saveW d B.life B.kround (capZ t.toNat : Nat)).1⟩
def opS (d : Dk) (l r t : Nat) : NxR := ⟨0, (saveW d l (capR r) (capT t)).2, ⟨l, capR r, capT t, r, t⟩, (saveW d l (capR r) (capT t)).1⟩
def opF (d : Dk) : NxR :=
  if d.off then ⟨0, 100, ⟨0, 0, 0, 0, 0⟩, d⟩
  else if (bestL d.bs).2 < 0 then opS d 1 0 0
  else if (bestL d.bs).1.life = 1073741824 then ⟨0, 120, ⟨0, 0, 0, 0, 0⟩, d⟩
  else opS d ((bestL d.bs).1.life + 1) (bestL d.bs).1.round (bestL d.bs).1.tag
theorem pick_may {b : Rc × Int} {i : Int} {o : Option Rc} (hb : 0 ≤ b.2 → b.1.may) (ho : ∀ r, o = some r → r.may) (h : 0 ≤ (pick b i o).2) : (pick b i o).1.may := by
  unfold pick at h ⊢
  cases o with
  | none => exact hb h
  | some r =>
    dsimp only at h ⊢
    split
    · exact ho r rfl
    · rename_i hc
      rw [if_neg hc] at h
      exact hb h
theorem bestL_may {bs : List Nat} (h : 0 ≤ (bestL bs).2) : (bestL bs).1.may :=
  pick_may (pick_may (fun h => absurd h (by decide)) (fun r hr => (decL_some hr).1)) (fun r hr => (decL_some hr).1) h
/-- What a play keeps of its disk and its boot. -/
structure BI (B : Bt) (d : Dk) (i : Nat) : Prop where
  dk : SpI d i
  rnd : B.round ≤ 1099511627775
theorem BI.up {B : Bt} {d : Dk} {i : Nat} (h : BI B d i) : BI B d (i + 1) := ⟨h.dk.up, h.rnd⟩
theorem BI.wr {B : Bt} {d : Dk} {i : Nat} (h : BI B d i) (hi : i ≤ 1000000) : d.writes ≤ 4611686018427387901 := by have := h.dk.wr; omega
theorem BI.next {B : Bt} {d : Dk} {i : Nat} (h : BI B d i) : BI (nxF B d).bt (nxF B d).dk (i + 1) := by
  have hr := h.rnd
  unfold nxF
  split
  · exact h.up
  · split
    · exact h.up
    · split
      · split
        · exact ⟨h.dk.save _ _ _, by show B.round + 1 ≤ _; omega⟩
        · exact ⟨h.dk.save _ _ _, hr⟩
      · exact ⟨h.dk.up, by show B.round + 1 ≤ _; omega⟩
theorem BI.raise {B : Bt} {d : Dk} {i : Nat} (h : BI B d i) (t : Int) : BI (rsF B d t).bt (rsF B d t).dk (i + 1) := by
  have hr := h.rnd
  unfold rsF
  split
  · exact h.up
  · split
    · exact h.up
    · split
      · exact h.up
      · split
        · exact h.up
        · split
          · exact ⟨h.dk.up, hr⟩
          · split <;> exact ⟨h.dk.save _ _ _, hr⟩
theorem SpI.open {d : Dk} {i : Nat} (h : SpI d i) : BI (opF d).bt (opF d).dk (i + 1) := by
  unfold opF
  split
  · exact ⟨h.up, Nat.zero_le _⟩
  · split
    · exact ⟨h.save _ _ _, by show (0 : Nat) ≤ _; omega⟩
    · rename_i hc
      have hm := bestL_may (bs := d.bs) (by omega)
      split
      · exact ⟨h.up, Nat.zero_le _⟩
      · exact ⟨h.save _ _ _, by have := hm.2.2.1; show (bestL d.bs).1.round ≤ _; omega⟩
theorem raise_F (b c : Nat) (B : Bt) (d : Dk) (t : Int) (i : Nat) (w : World) (h : BtAt w b c B d) (hI : BI B d i) (hi : i ≤ 1000000) :
    Calls Tryz.prog 42 #[.pointer (some ⟨b, 0, none⟩), .int .i64 t] w fun e w' => e = .returned (.int .i64 (rsF B d t).er) ∧ BtAt w' b c (rsF B d t).bt (rsF B d t).dk ∧ Ch2 w w' b c := by
  have hw := hI.wr hi
  unfold rsF
  cases ho : d.off with
  | true =>
    refine (raise_off b c B d t w h ho).mono ?_
    rintro e w' ⟨rfl, hB⟩
    exact ⟨rfl, h.below hB, Ch2.below hB b c⟩
  | false =>
    simp only [Bool.false_eq_true, if_false]
    by_cases hn : t < 0
    · rw [if_pos hn]
      refine (raise_neg b c B d t w h ho hn).mono ?_
      rintro e w' ⟨rfl, hB⟩
      exact ⟨rfl, h.below hB, Ch2.below hB b c⟩
    · rw [if_neg hn]
      obtain ⟨m, rfl⟩ : ∃ m : Nat, t = m := ⟨t.toNat, by omega⟩
      rw [Int.toNat_natCast]
      by_cases hb : 1048576 < (m : Int)
      · rw [if_pos hb]
        refine (raise_big b c B d m w h ho hb).mono ?_
        rintro e w' ⟨rfl, hB⟩
        exact ⟨rfl, h.below hB, Ch2.below hB b c⟩
      · rw [if_neg hb]
        by_cases hl : m ≤ B.tag
        · rw [if_pos hl]
          refine (raise_low b c B d m w h ho (by omega) hl).mono ?_
          rintro e w' ⟨rfl, hB⟩
          exact ⟨rfl, h.below hB, Ch2.below hB b c⟩
        · rw [if_neg hl]
          by_cases hk : m ≤ B.ktag
          · rw [if_pos hk]
            refine (raise_covered b c B d m w h ho (by omega) (by omega) hk).mono ?_
            rintro e w' ⟨rfl, hT, hC⟩
            exact ⟨rfl, hT, hC⟩
          · rw [if_neg hk]
            refine (raise_save b c B d m w h ho (by omega) (by omega) hk hI.dk.lt (by omega) hI.dk.fz).mono ?_
            rintro e w' ⟨h0, h1, hC⟩
            split
            · rename_i hs; obtain ⟨rfl, hT⟩ := h0 hs; exact ⟨rfl, hT, hC⟩
            · rename_i hs; obtain ⟨rfl, hT⟩ := h1 hs; exact ⟨rfl, hT, hC⟩
theorem rraise_F (bb o rb ob gb n : Nat) (B : Bt) (d : Dk) (t : Int) (i : Nat) (w : World) (h : RbAt w bb o B) (k : Rk w rb ob gb n d) (hne : bb ≠ rb ∧ bb ≠ gb) (hnn : 256 ≤ n) (hI : BI B d i) (hi : i ≤ 1000000) :
    Calls Tryz.prog 44 #[.pointer (some ⟨bb, o, none⟩), .pointer (some ⟨rb, ob, none⟩), .int .i64 t] w fun e w' => e = .returned (.int .i64 (rsF B d t).er) ∧ RbAt w' bb o (rsF B d t).bt ∧ Rk w' rb ob gb n (rsF B d t).dk ∧ ChB w w' bb o rb ob gb := by
  have hw := hI.wr hi
  unfold rsF
  cases ho : d.off with
  | true =>
    refine (rraise_off bb o rb ob gb n d t w k ho).mono ?_
    rintro e w' ⟨rfl, hB⟩
    exact ⟨rfl, h.below hB, k.below hB, ChB.ofBelow hB _ _ _ _ _⟩
  | false =>
    simp only [Bool.false_eq_true, if_false]
    by_cases hn : t < 0
    · rw [if_pos hn]
      refine (rraise_neg bb o rb ob gb n d t w k ho hn).mono ?_
      rintro e w' ⟨rfl, hB⟩
      exact ⟨rfl, h.below hB, k.below hB, ChB.ofBelow hB _ _ _ _ _⟩
    · rw [if_neg hn]
      obtain ⟨m, rfl⟩ : ∃ m : Nat, t = m := ⟨t.toNat, by omega⟩
      rw [Int.toNat_natCast]
      by_cases hb : 1048576 < (m : Int)
      · rw [if_pos hb]
        refine (rraise_big bb o rb ob gb n d m w k ho hb).mono ?_
        rintro e w' ⟨rfl, hB⟩
        exact ⟨rfl, h.below hB, k.below hB, ChB.ofBelow hB _ _ _ _ _⟩
      · rw [if_neg hb]
        by_cases hl : m ≤ B.tag
        · rw [if_pos hl]
          refine (rraise_low bb o rb ob gb n B d m w h k ho (by omega) hl).mono ?_
          rintro e w' ⟨rfl, hB⟩
          exact ⟨rfl, h.below hB, k.below hB, ChB.ofBelow hB _ _ _ _ _⟩
        · rw [if_neg hl]
          by_cases hk : m ≤ B.ktag
          · rw [if_pos hk]
            refine (rraise_covered bb o rb ob gb n B d m w h k hne ho (by omega) (by omega) hk).mono ?_
            rintro e w' ⟨rfl, hT, hK, hC⟩
            exact ⟨rfl, hT, hK, hC⟩
          · rw [if_neg hk]
            refine (rraise_save bb o rb ob gb n B d m w h k hne hnn ho (by omega) (by omega) hk hI.dk.lt (by omega) hI.dk.fz).mono ?_
            rintro e w' ⟨h0, h1, hC⟩
            split
            · rename_i hs; obtain ⟨rfl, hT, hK⟩ := h0 hs; exact ⟨rfl, hT, hK, hC⟩
            · rename_i hs; obtain ⟨rfl, hT, hK⟩ := h1 hs; exact ⟨rfl, hT, hK, hC⟩
/-- What the program's Open leaves. -/
def BOpen (w : World) (c : Nat) (R : NxR) (e : Ending) (w' : World) : Prop :=
  (R.er = 0 → ∃ b, e = .returned (.tuple #[.pointer (some ⟨b, 0, none⟩), .int .i64 0]) ∧ w.heap.size ≤ b ∧ BtAt w' b c R.bt R.dk) ∧
  (R.er ≠ 0 → e = .returned (.tuple #[.pointer none, .int .i64 R.er]) ∧ DkAt w' c R.dk) ∧ w.grownBy w' (some c)
theorem bopen_F (c : Nat) (d : Dk) (i : Nat) (w : World) (h : DkAt w c d) (hI : SpI d i) (hi : i ≤ 1000000) :
    Calls Tryz.prog 7 #[.pointer (some ⟨c, 0, none⟩)] w fun e w' => BOpen w c (opF d) e w' := by
  have hw : d.writes ≤ 4611686018427387901 := by have := hI.wr; omega
  unfold opF
  cases ho : d.off with
  | true =>
    refine (open_off c d w h hI.lt ho).mono ?_
    rintro e w' ⟨rfl, hB⟩
    have hz : ¬ (100 : Int) = 0 := by decide
    rw [if_pos rfl]
    exact ⟨fun h => absurd h hz, fun _ => ⟨rfl, h.below hB⟩, but_below hB _⟩
  | false =>
    simp only [Bool.false_eq_true, if_false]
    by_cases hb : (bestL d.bs).2 < 0
    · rw [if_pos hb]
      exact open_none c d w h hI.lt (by omega) hI.fz (by unfold loadA; rw [ho, if_neg (by decide), if_pos hb])
    · rw [if_neg hb]
      have hm := bestL_may (bs := d.bs) (by omega)
      have hl : loadA d = .tuple #[recV (bestL d.bs).1.life (bestL d.bs).1.round (bestL d.bs).1.tag, .int .i64 (bestL d.bs).1.seq, .int .i64 0] := by unfold loadA; rw [ho, if_neg (by decide), if_neg hb]
      by_cases hx : (bestL d.bs).1.life = 1073741824
      · rw [if_pos hx]
        rw [hx] at hl
        refine (open_end c d w h hI.lt _ _ _ hl).mono ?_
        rintro e w' ⟨rfl, hB⟩
        have hz : ¬ (120 : Int) = 0 := by decide
        exact ⟨fun h => absurd h hz, fun _ => ⟨rfl, h.below hB⟩, but_below hB _⟩
      · rw [if_neg hx]
        obtain ⟨m1, m2, m3, m4, _⟩ := hm
        exact open_some c d w h hI.lt (by omega) hI.fz _ _ _ _ _ hl rfl hx m2 (by omega) m4
theorem ropen_F (rb ob gb n : Nat) (d : Dk) (i : Nat) (w : World) (k : Rk w rb ob gb n d) (hn : 256 ≤ n) (hI : SpI d i) (hi : i ≤ 1000000) :
    Calls Tryz.prog 8 #[.pointer (some ⟨rb, ob, none⟩)] w fun e w' => ROpen w rb ob gb n (opF d).bt ((opF d).dk, (opF d).er) e w' := by
  have hw : d.writes ≤ 4611686018427387901 := by have := hI.wr; omega
  unfold opF
  cases ho : d.off with
  | true =>
    refine (rOpen_off rb ob gb n d w k hn hI.lt ho).mono ?_
    rintro e w' ⟨rfl, hB⟩
    have hz : ¬ (100 : Int) = 0 := by decide
    rw [if_pos rfl]
    exact ⟨fun h => absurd h hz, fun _ => ⟨rfl, k.below hB⟩, Chg.ofBelow hB _ _ _⟩
  | false =>
    simp only [Bool.false_eq_true, if_false]
    by_cases hb : (bestL d.bs).2 < 0
    · rw [if_pos hb]
      exact rOpen_none rb ob gb n d w k hn hI.lt hw hI.fz (by unfold loadA; rw [ho, if_neg (by decide), if_pos hb])
    · rw [if_neg hb]
      have hm := bestL_may (bs := d.bs) (by omega)
      have hl : loadA d = .tuple #[recV (bestL d.bs).1.life (bestL d.bs).1.round (bestL d.bs).1.tag, .int .i64 (bestL d.bs).1.seq, .int .i64 0] := by unfold loadA; rw [ho, if_neg (by decide), if_neg hb]
      by_cases hx : (bestL d.bs).1.life = 1073741824
      · rw [if_pos hx]
        rw [hx] at hl
        refine (rOpen_max rb ob gb n d w k hn hI.lt _ _ _ hl).mono ?_
        rintro e w' ⟨rfl, hB⟩
        have hz : ¬ (120 : Int) = 0 := by decide
        exact ⟨fun h => absurd h hz, fun _ => ⟨rfl, k.below hB⟩, Chg.ofBelow hB _ _ _⟩
      · rw [if_neg hx]
        obtain ⟨m1, m2, m3, m4, _⟩ := hm
        exact rOpen_some rb ob gb n d w k hn hI.lt hw hI.fz _ _ _ _ _ hl rfl hx m2 (by omega) m4
end Go.Proofs.YtbjlnlgknegbnaaGreatDoor
namespace Go.Proofs.YtbjlnlgknegbnaaGreatDoor
set_option linter.unusedVariables false
set_option linter.unusedSimpArgs false
open Go.RowKit

/-- The variables of the document's Merge: b, the two results. -/
structure RmA (w : World) (g cp : Nat) (R : List Nat) (W : World) : Prop where
  b : W.heap[w.heap.size]? = some (.cells #[.slice (some ⟨g, 0, none⟩) R.length cp] 46 (0, 0))
  r1 : W.heap[w.heap.size + 1]? = some (.cells #[.slice none 0 0] 46 (0, 0))
  r2 : W.heap[w.heap.size + 2]? = some (.cells (setC 0) 54 (0, 0))
  low : Below w.heap.size w W
theorem RmA.below {w W X : World} {g cp : Nat} {R : List Nat} (h : RmA w g cp R W) (hb : Below W.heap.size W X) : RmA w g cp R X := ⟨blk_below' hb h.b, blk_below' hb h.r1, blk_below' hb h.r2, below_then h.low hb⟩
theorem RmA.other {w W X : World} {g cp k : Nat} {R : List Nat} (h : RmA w g cp R W) (hg : W.grownBy X (some k)) (hk : w.heap.size + 2 < k) : RmA w g cp R X :=
  ⟨blk_grown hg h.b (by simp; omega), blk_grown hg h.r1 (by simp; omega), blk_grown hg h.r2 (by simp; omega), h.low.grown hg h.low.size (fun j hj => by cases hj; omega)⟩
structure RmB (w : World) (g cp : Nat) (R : List Nat) (ps pc g2 cp2 : Nat) (S : List Nat) (y : Nat) (W : World) : Prop where
  a : RmA w g cp R W
  s : W.heap[ps]? = some (.cells (setC y) 54 (0, 0))
  c : W.heap[pc]? = some (.cells #[.slice (some ⟨g2, 0, none⟩) R.length cp2] 46 (0, 0))
  nb : Nb W g2 cp2 S
  len : S.length = R.length
  l1 : w.heap.size + 2 < ps
  l2 : w.heap.size + 2 < pc
  l3 : w.heap.size + 2 < g2
  n1 : ps ≠ pc
  n2 : ps ≠ g2
  n3 : pc ≠ g2
theorem RmB.below {w W X : World} {g cp : Nat} {R : List Nat} {ps pc g2 cp2 : Nat} {S : List Nat} {y : Nat} (h : RmB w g cp R ps pc g2 cp2 S y W) (hb : Below W.heap.size W X) : RmB w g cp R ps pc g2 cp2 S y X :=
  ⟨h.a.below hb, blk_below' hb h.s, blk_below' hb h.c, h.nb.below hb, h.len, h.l1, h.l2, h.l3, h.n1, h.n2, h.n3⟩
theorem RmB.set {w W : World} {g cp : Nat} {R : List Nat} {ps pc g2 cp2 : Nat} {S : List Nat} {y : Nat} (h : RmB w g cp R ps pc g2 cp2 S y W) {i r : Nat} (hi : i < S.length) (hr : r ≤ 2097153) :
    RmB w g cp R ps pc g2 cp2 (S.set i r) y (((W.setCell ⟨g2, i * 3, none⟩ (.int .i64 (i : Int))).setCell ⟨g2, i * 3 + 1, none⟩ (.int .i64 (tgN r : Nat))).setCell ⟨g2, i * 3 + 2, none⟩ (.int .i64 (kdN r : Nat))) := by
  obtain ⟨h1, hg⟩ := h.nb.set hi hr
  exact ⟨h.a.other hg h.l3, blk_grown hg h.s (by have := h.n2; simp; omega), blk_grown hg h.c (by have := h.n3; simp; omega), h1, by rw [List.length_set]; exact h.len, h.l1, h.l2, h.l3, h.n1, h.n2, h.n3⟩
theorem RmB.put {w W X : World} {g cp : Nat} {R : List Nat} {ps pc g2 cp2 : Nat} {S : List Nat} {y z : Nat} (h : RmB w g cp R ps pc g2 cp2 S y W) (hg : W.grownBy X (some ps)) (hz : X.heap[ps]? = some (.cells (setC z) 54 (0, 0))) : RmB w g cp R ps pc g2 cp2 S z X :=
  ⟨h.a.other hg h.l1, hz, blk_grown hg h.c (by have := h.n1; simp; omega), h.nb.other hg (by have := h.n2; omega), h.len, h.l1, h.l2, h.l3, h.n1, h.n2, h.n3⟩
def Rm7 (pc g2 cp2 n gx px : Nat) (o t d : Int) (i q : Nat) (W : World) : Prop := W.cell? ⟨pc, 0, none⟩ = some (.slice (some ⟨g2, 0, none⟩) n cp2) ∧ (W.cell? ⟨gx, px, none⟩ = some (.int .i64 o) ∧ W.cell? ⟨gx, px + 1, none⟩ = some (.int .i64 t) ∧ W.cell? ⟨gx, px + 2, none⟩ = some (.int .i64 d)) ∧ (W.cell? ⟨g2, i * 3, none⟩ = some (.int .i64 (i : Int)) ∧ W.cell? ⟨g2, i * 3 + 1, none⟩ = some (.int .i64 (tgN q : Nat)) ∧ W.cell? ⟨g2, i * 3 + 2, none⟩ = some (.int .i64 (kdN q : Nat)))
def Rm5 (ps gx px : Nat) (o : Int) (y : Nat) (W : World) : Prop := W.cell? ⟨gx, px, none⟩ = some (.int .i64 o) ∧ (W.cell? ⟨ps, 0, none⟩ = some (.int .u32 (sw y 0 : Nat)) ∧ W.cell? ⟨ps, 1, none⟩ = some (.int .u32 (sw y 1 : Nat)) ∧ W.cell? ⟨ps, 2, none⟩ = some (.int .u32 (sw y 2 : Nat)) ∧ W.cell? ⟨ps, 3, none⟩ = some (.int .u32 (sw y 3 : Nat)))
def Rm6 (pc g2 cp2 n ps y : Nat) (W : World) : Prop := W.cell? ⟨pc, 0, none⟩ = some (.slice (some ⟨g2, 0, none⟩) n cp2) ∧ (W.cell? ⟨ps, 0, none⟩ = some (.int .u32 (sw y 0 : Nat)) ∧ W.cell? ⟨ps, 1, none⟩ = some (.int .u32 (sw y 1 : Nat)) ∧ W.cell? ⟨ps, 2, none⟩ = some (.int .u32 (sw y 2 : Nat)) ∧ W.cell? ⟨ps, 3, none⟩ = some (.int .u32 (sw y 3 : Nat)))
def Rm4 (b g cp n gx px : Nat) (o t k : Int) (W : World) : Prop := W.cell? ⟨b, 0, none⟩ = some (.slice (some ⟨g, 0, none⟩) n cp) ∧ (W.cell? ⟨gx, px, none⟩ = some (.int .i64 o) ∧ W.cell? ⟨gx, px + 1, none⟩ = some (.int .i64 t) ∧ W.cell? ⟨gx, px + 2, none⟩ = some (.int .i64 k))
set_option maxRecDepth 100000 in
set_option maxHeartbeats 1000000 in
theorem refMerge_any {w : World} {g cp : Nat} {R : List Nat} (v : Value) (xs : List (List Int)) (h : Nb w g cp R) (hrow : RowsOf w 3 v xs) :
    Calls Tryz.prog 15 #[.agg #[.slice (some ⟨g, 0, none⟩) R.length cp], v] w fun e w' => (∃ (g' cp' y : Nat) (er : Int), e = .returned (.tuple #[.agg #[.slice (some ⟨g', 0, none⟩) R.length cp'], setV y, .int .i64 er]) ∧ Nb w' g' cp' (mgR R xs) ∧ (g' = g ∨ w.heap.size ≤ g')) ∧ Below w.heap.size w w' := by
  have HRW := Lib.hid hrow
  obtain ⟨p, cap, rfl, hm1, hm2, _⟩ := hrow
  have hmax : xs.length ≤ 9223372036854775807 := by unfold maxLen at hm2; omega
  clear hm1 hm2
  have hA : RmA w g cp R (((w.alloc (.cells #[.slice (some ⟨g, 0, none⟩) R.length cp] 46)).alloc (.cells #[.slice none 0 0] 46)).alloc (.cells (setC 0) 54)) :=
    ⟨blk_old (blk_old (blk_new w _) _) _, blk_old (b1 w _ _) _, b2 w _ _ _, (((Below.refl w.heap.size w).alloc (Nat.le_refl _) _).alloc (by simp) _).alloc (by simp; omega) _⟩
  have HNB := Lib.hid h
  rw [← setC_zero] at hA
  clear h
  go_enter Tryz.func15, Tryz.ntmps15
  go_wp2_with fail
  generalize World.alloc (World.alloc (World.alloc w _) _) _ = W0 at *
  go_loopw [7] (fun iv wr => ∃ k : Nat, iv = .int .i64 k ∧ k ≤ xs.length ∧ (xs.take k).all (vX R.length) = true ∧ RmA w g cp R wr) (fun iv _ => xs.length - (intOf iv).toNat)
  case atStart => exact ⟨0, rfl, by omega, rfl, hA⟩
  case round =>
    obtain ⟨k, rfl, hk, hall, hM⟩ := hrel
    clear hA
    by_cases hlt : k < xs.length
    · obtain ⟨o, t, d, gx, ox, cap', hx, hv, r0, r1, r2⟩ := rows3 (HRW.out.below hM.low) hlt
      injection hv with hv1 hv2 hv3
      subst hv1 hv3
      have i1 : (k : Int) < (xs.length : Int) := by omega
      have i2 : (0 : Int) ≤ (k : Int) := by omega
      have i3 : (k : Int).toNat = k := Int.toNat_natCast k
      have HX := Lib.hid hx
      have HALL := Lib.hid hall
      have HV := Lib.hid (fun w => refValid_any (R.length : Int) o t d w)
      unfold nV at HV
      have HM := Lib.hid hM
      have HK := Lib.hid hlt
      have HCC : Hid (∀ W, RmA w g cp R W → Rm4 w.heap.size g cp R.length gx (ox + k * 3) o t d W) := Lib.hid fun W hW => by
        obtain ⟨o', t', d', gx', ox', cap'', hx', hv', c0, c1, c2⟩ := rows3 (HRW.out.below hW.low) hlt
        injection hv' with e1 e2 e3
        injection e1 with e1
        injection e1 with e1 e4
        subst e1 e4
        rw [hx] at hx'
        injection hx' with hx'
        simp only [List.cons.injEq, and_true] at hx'
        obtain ⟨rfl, rfl, rfl⟩ := hx'
        exact ⟨blk_cell hW.b 0, c0, c1, c2⟩
      clear hx hall hM hlt r0 r1 r2 hk
      go_upto_region 4 with fail
      refine wp_region_early (Rm4 w.heap.size g cp R.length gx (ox + k * 3) o t d) (fun _ => false) (by kernel_rfl) ?_
      simp only [List.size_toArray, List.length_cons, List.length_nil, Nat.reduceAdd, Array.replicate_succ, Array.replicate_zero, List.push_toArray, List.nil_append, List.cons_append]
      have HM := Lib.hid (HM.out.below ((Below.refl _ wr).drew))
      generalize World.drew wr = W2 at *
      have hSS := HCC.out _ HM.out
      refine wpAnyE_take (i := 0) (v := ?_) rfl (by kernel_rfl) (by kernel_rfl) (by kernel_rfl) (by kernel_rfl) (fun _ _ _ h => h) (Or.inl ⟨by rfl, ?_⟩) hSS ?_
      rotate_left
      · intro w hSw
        obtain ⟨j0, j1, j2, j3⟩ := hSw
        go_simp
        all_goals with_reducible rfl
      simp only [Act.put, List.setIfInBounds_toArray, List.set_cons_zero, List.set_cons_succ, List.getElem_toArray, List.getElem_cons_zero, List.getElem_cons_succ]
      refine wpAnyE_take (i := 1) (v := ?_) rfl (by kernel_rfl) (by kernel_rfl) (by kernel_rfl) (by kernel_rfl) (fun _ _ _ h => h) (Or.inl ⟨by rfl, ?_⟩) hSS ?_
      rotate_left
      · intro w hSw
        obtain ⟨j0, j1, j2, j3⟩ := hSw
        go_simp
        all_goals with_reducible rfl
      simp only [Act.put, List.setIfInBounds_toArray, List.set_cons_zero, List.set_cons_succ, List.getElem_toArray, List.getElem_cons_zero, List.getElem_cons_succ]
      refine wpAnyE_take (i := 2) (v := ?_) rfl (by kernel_rfl) (by kernel_rfl) (by kernel_rfl) (by kernel_rfl) (fun _ _ _ h => h) (Or.inl ⟨by rfl, ?_⟩) hSS ?_
      rotate_left
      · intro w hSw
        obtain ⟨j0, j1, j2, j3⟩ := hSw
        go_simp
        all_goals with_reducible rfl
      simp only [Act.put, List.setIfInBounds_toArray, List.set_cons_zero, List.set_cons_succ, List.getElem_toArray, List.getElem_cons_zero, List.getElem_cons_succ]
      refine wpAnyE_take (i := 3) (v := ?_) rfl (by kernel_rfl) (by kernel_rfl) (by kernel_rfl) (by kernel_rfl) (fun _ _ _ h => h) (Or.inl ⟨by rfl, ?_⟩) hSS ?_
      rotate_left
      · intro w hSw
        obtain ⟨j0, j1, j2, j3⟩ := hSw
        go_simp
        all_goals with_reducible rfl
      simp only [Act.put, List.setIfInBounds_toArray, List.set_cons_zero, List.set_cons_succ, List.getElem_toArray, List.getElem_cons_zero, List.getElem_cons_succ]
      refine wpAnyE_take (i := 4) (v := ?_) rfl (by kernel_rfl) (by kernel_rfl) (by kernel_rfl) (by kernel_rfl) (fun _ _ _ h => h) (Or.inl ⟨by rfl, ?_⟩) hSS ?_
      rotate_left
      · intro w hSw
        obtain ⟨j0, j1, j2, j3⟩ := hSw
        go_simp
        all_goals with_reducible rfl
      simp only [Act.put, List.setIfInBounds_toArray, List.set_cons_zero, List.set_cons_succ, List.getElem_toArray, List.getElem_cons_zero, List.getElem_cons_succ]
      refine wpAnyE_take (i := 5) (v := ?_) rfl (by kernel_rfl) (by kernel_rfl) (by kernel_rfl) (by kernel_rfl) (fun _ _ _ h => h) (Or.inl ⟨by rfl, ?_⟩) hSS ?_
      rotate_left
      · intro w hSw
        obtain ⟨j0, j1, j2, j3⟩ := hSw
        go_simp
        all_goals with_reducible rfl
      simp only [Act.put, List.setIfInBounds_toArray, List.set_cons_zero, List.set_cons_succ, List.getElem_toArray, List.getElem_cons_zero, List.getElem_cons_succ]
      refine wpAnyE_take (i := 6) (v := ?_) rfl (by kernel_rfl) (by kernel_rfl) (by kernel_rfl) (by kernel_rfl) (fun _ _ _ h => h) (Or.inl ⟨by rfl, ?_⟩) hSS ?_
      rotate_left
      · intro w hSw
        obtain ⟨j0, j1, j2, j3⟩ := hSw
        go_simp
        all_goals with_reducible rfl
      simp only [Act.put, List.setIfInBounds_toArray, List.set_cons_zero, List.set_cons_succ, List.getElem_toArray, List.getElem_cons_zero, List.getElem_cons_succ]
      refine wpAnyE_one (i := 7) (by kernel_rfl) rfl ?_
      change wpList _ _ (Exit.then _ _) [_] _ _
      try simp only [List.setIfInBounds_toArray, List.set_cons_zero, List.set_cons_succ, List.getElem_toArray, List.getElem_cons_zero, List.getElem_cons_succ]
      cases hv : vN (R.length : Int) o t d with
      | true =>
        rw [hv] at HV
        have HALL2 := Lib.hid (show (xs.take (k + 1)).all (vX R.length) = true by rw [take_succ3 HX.out, List.all_append, HALL.out]; simp [vX, hv])
        clear hv
        go_wp2_with (go_at_call 37; refine (HV.out _).mono ?_; rintro e w2 ⟨rfl, hB⟩)
        have HM := Lib.hid (HM.out.below hB)
        clear hB hSS
        have hSS := HCC.out _ HM.out
        refine ⟨fun _ => hSS, ?_⟩
        try simp only [List.setIfInBounds_toArray, List.set_cons_zero, List.set_cons_succ, List.getElem_toArray, List.getElem_cons_zero, List.getElem_cons_succ]
        refine wpAnyE_take (i := 8) (v := ?_) rfl (by kernel_rfl) (by kernel_rfl) (by kernel_rfl) (by kernel_rfl) (fun _ _ _ h => h) (Or.inl ⟨by rfl, ?_⟩) hSS ?_
        rotate_left
        · intro w hSw
          obtain ⟨j0, j1, j2, j3⟩ := hSw
          go_simp
          all_goals with_reducible rfl
        simp only [Act.put, List.setIfInBounds_toArray, List.set_cons_zero, List.set_cons_succ, List.getElem_toArray, List.getElem_cons_zero, List.getElem_cons_succ]
        refine wpAnyE_end (by kernel_rfl) ?_
        go_wp2_with fail
        go_roundw
        case rel => exact ⟨k + 1, by go_num, HK.out, HALL2.out, HM.out⟩
        case measure => have := HK.out; simp [intOf]; omega
      | false =>
        rw [hv] at HV
        have HALL2 := Lib.hid (show ¬ (xs.all (vX R.length) = true) by
          intro hh
          have := List.all_eq_true.1 hh _ (List.mem_of_getElem? HX.out)
          rw [show vX R.length [o, t, d] = vN (R.length : Int) o t d from rfl, hv] at this
          cases this)
        clear hv
        go_wp2_with (go_at_call 37; refine (HV.out _).mono ?_; rintro e w2 ⟨rfl, hB⟩)
        have HM := Lib.hid (HM.out.below hB)
        clear hB hSS
        have hSS := HCC.out _ HM.out
        refine ⟨fun _ => hSS, ?_⟩
        try simp only [List.setIfInBounds_toArray, List.set_cons_zero, List.set_cons_succ, List.getElem_toArray, List.getElem_cons_zero, List.getElem_cons_succ]
        refine wpAnyE_take (i := 8) (v := ?_) rfl (by kernel_rfl) (by kernel_rfl) (by kernel_rfl) (by kernel_rfl) (fun _ _ _ h => h) (Or.inl ⟨by rfl, ?_⟩) hSS ?_
        rotate_left
        · intro w hSw
          obtain ⟨j0, j1, j2, j3⟩ := hSw
          go_simp
          all_goals with_reducible rfl
        simp only [Act.put, List.setIfInBounds_toArray, List.set_cons_zero, List.set_cons_succ, List.getElem_toArray, List.getElem_cons_zero, List.getElem_cons_succ]
        refine wpAnyE_end (by kernel_rfl) ?_
        clear hSS
        have k0 := blk_cell HM.out.b 0
        have k1 := blk_cell HM.out.r1 0
        have f1 := blk_free HM.out.r1 0
        obtain ⟨q0, q1, q2, q3, f4, f5, f6, f7⟩ := set_cells HM.out.r2
        go_wp2_with fail
        have hb5 := ((((HM.out.low.setCell (p := ⟨w.heap.size + 1, 0, none⟩) (Nat.le_succ _) (.slice (some ⟨g, 0, none⟩) R.length cp)).setCell (p := ⟨w.heap.size + 2, 0, none⟩) (Nat.le_add_right _ _) (.int .u32 0)).setCell (p := ⟨w.heap.size + 2, 1, none⟩) (Nat.le_add_right _ _) (.int .u32 0)).setCell (p := ⟨w.heap.size + 2, 2, none⟩) (Nat.le_add_right _ _) (.int .u32 0)).setCell (p := ⟨w.heap.size + 2, 3, none⟩) (Nat.le_add_right _ _) (.int .u32 0)
        refine bodyPost_ret (v := .tuple #[.agg #[.slice (some ⟨g, 0, none⟩) R.length cp], .agg (setC 0), .int .i64 50]) ?_ rfl ⟨⟨g, cp, 0, 50, rfl, by rw [show mgR R xs = R from if_neg HALL2.out]; exact HNB.out.below hb5, .inl rfl⟩, hb5⟩
        rw [← setC_zero]
        simp [results, Tryz.results15, go_sem, k1, q0, q1, q2, q3]
    · have HR := Lib.hid (show mgR R xs = xs.foldl tX R by
        unfold mgR; rw [if_pos]
        rw [List.take_of_length_le (by omega)] at hall; exact hall)
      obtain rfl : k = xs.length := by omega
      have HALL := Lib.hid (show xs.all (vX R.length) = true by rw [List.take_of_length_le (Nat.le_refl _)] at hall; exact hall)
      have i1 : ¬ (xs.length : Int) < (xs.length : Int) := by omega
      have HM := Lib.hid hM
      clear hall hlt hk hM
      have k0 := blk_cell (HM.out.below ((Below.refl _ _).alloc (Nat.le_refl _) (.cells (setC 0) 54))).b 0
      have hps := blk_new wr (.cells (setC 0) 54)
      have HM2 := Lib.hid (HM.out.below ((Below.refl _ wr).alloc (Nat.le_refl _) (.cells (setC 0) 54)))
      have hpl := blk_lt HM.out.r2
      rw [← setC_zero] at k0 hps HM2
      obtain ⟨ps, hpse⟩ : ∃ ps, wr.heap.size = ps := ⟨_, rfl⟩
      rw [hpse] at hps hpl
      go_upto_region 7 with fail
      (try rw [hpse])
      clear hpse HM
      generalize World.alloc wr _ = W1 at *
      have HPS := Lib.hid hps
      have HPL := Lib.hid hpl
      clear hps hpl
      go_wp2_with fail
      refine (refCopy_any (HNB.out.below HM2.out.low)).mono ?_
      rintro e w3 ⟨g2, cp2, rfl, hN2, hg2, hB3⟩
      go_wp2_with fail
      have hB2 : Hid (RmB w g cp R ps w3.heap.size g2 cp2 R 0 (w3.alloc (.cells #[.slice (some ⟨g2, 0, none⟩) R.length cp2] 46))) := by
        have h1 := HM2.out.below hB3
        have h2 := blk_lt HPS.out
        have h3 := blk_lt (blk_below' hB3 HPS.out)
        have h4 := hN2.list.lt
        have hal := (Below.refl w3.heap.size w3).alloc (Nat.le_refl _) (.cells #[.slice (some ⟨g2, 0, none⟩) R.length cp2] 46)
        have hpl := HPL.out
        exact Lib.hid ⟨h1.below hal, by rw [← setC_zero]; exact blk_old (blk_below' hB3 HPS.out) _, blk_new _ _, hN2.below hal, rfl, by omega, by omega, by omega, by omega, by omega, by omega⟩
      obtain ⟨pc, hpc⟩ : ∃ pc, w3.heap.size = pc := ⟨_, rfl⟩
      rw [hpc] at hB2
      (try rw [hpc])
      clear hpc hN2 hB3 HM2 HPS HPL hg2
      generalize World.alloc w3 _ = W4 at *
      go_loopw [10] (fun iv wr => ∃ (k y : Nat), iv = .int .i64 k ∧ k ≤ xs.length ∧ RmB w g cp R ps pc g2 cp2 ((xs.take k).foldl tX R) y wr) (fun iv _ => xs.length - (intOf iv).toNat)
      case atStart => exact ⟨0, 0, rfl, by omega, hB2.out⟩
      case round =>
        obtain ⟨k, y, rfl, hk, hB⟩ := hrel
        clear hB2
        by_cases hlt : k < xs.length
        · obtain ⟨o, t, d, gx, ox, cap', hx, hv, r0, r1, r2⟩ := rows3 (HRW.out.below hB.a.low) hlt
          injection hv with hv1 hv2 hv3
          subst hv1 hv3
          have i1 : (k : Int) < (xs.length : Int) := by omega
          have i2 : (0 : Int) ≤ (k : Int) := by omega
          have i3 : (k : Int).toNat = k := Int.toNat_natCast k
          have hvx : vN (R.length : Int) o t d = true := by
            have := List.all_eq_true.1 HALL.out _ (List.mem_of_getElem? hx)
            exact this
          have HCC : Hid (∀ W, Below w.heap.size w W → W.cell? ⟨gx, ox + k * 3, none⟩ = some (.int .i64 o) ∧ W.cell? ⟨gx, ox + k * 3 + 1, none⟩ = some (.int .i64 t) ∧ W.cell? ⟨gx, ox + k * 3 + 2, none⟩ = some (.int .i64 d)) := Lib.hid fun W hW => by
            obtain ⟨o', t', d', gx', ox', cap'', hx', hv', c0, c1, c2⟩ := rows3 (HRW.out.below hW) hlt
            injection hv' with e1 e2 e3
            injection e1 with e1
            injection e1 with e1 e4
            subst e1 e4
            rw [hx] at hx'
            injection hx' with hx'
            simp only [List.cons.injEq, and_true] at hx'
            obtain ⟨rfl, rfl, rfl⟩ := hx'
            exact ⟨c0, c1, c2⟩
          obtain ⟨i, r, rfl, rfl, rfl, hi, hr, _⟩ := vN_nat hvx
          have HT := Lib.hid (show (xs.take (k + 1)).foldl tX R = tkR ((xs.take k).foldl tX R) i r by
            rw [take_succ3 hx, List.foldl_append]
            show tkR _ (i : Int).toNat (rkI (tgN r : Nat) (kdN r : Nat)).toNat = _
            rw [rkI_nat hr, Int.toNat_natCast, Int.toNat_natCast])
          have HSL := Lib.hid (foldX_len (xs.take k) R)
          generalize (xs.take k).foldl tX R = S at *
          have hi2 : i < S.length := by have := HSL.out; omega
          obtain ⟨q, hq, hqd, hql⟩ := hB.nb.get hi2
          have HQ := Lib.hid hq
          have HQL := Lib.hid hql
          have HI := Lib.hid hi2
          have HRR := Lib.hid hr
          have j1 : (i : Int) < (S.length : Int) := by omega
          have j2 : (0 : Int) ≤ (i : Int) := by omega
          have j3 : (i : Int).toNat = i := Int.toNat_natCast i
          have HK := Lib.hid hlt
          have HBB := Lib.hid hB
          have HBT := Lib.hid (fun w => refBeats_nat i r q hr hql w)
          have HTT : Hid (tkR S i r = if q < r then S.set i r else S) := Lib.hid (by unfold tkR; rw [hqd])
          unfold nV at HBT
          have HSS : Hid (∀ W, RmB w g cp R ps pc g2 cp2 S y W → Rm7 pc g2 cp2 S.length gx (ox + k * 3) (i : Int) (tgN r : Nat) (kdN r : Nat) i q W) := Lib.hid fun W hW =>
            ⟨by rw [HSL.out]; exact blk_cell hW.c 0, HCC.out W hW.a.low, (hW.nb.list.cells HQ.out).1⟩
          rw [← HSL.out]
          clear hx hvx hi hr hq hqd hql hlt hB r0 r1 r2 hi2 hk
          go_upto_region 11 with fail
          refine wp_region_early (Rm7 pc g2 cp2 S.length gx (ox + k * 3) (i : Int) (tgN r : Nat) (kdN r : Nat) i q) (fun _ => false) (by kernel_rfl) ?_
          simp only [List.size_toArray, List.length_cons, List.length_nil, Nat.reduceAdd, Array.replicate_succ, Array.replicate_zero, List.push_toArray, List.nil_append, List.cons_append]
          have HBB := Lib.hid (HBB.out.below ((Below.refl _ wr).drew))
          generalize World.drew wr = W5 at *
          have hSS := HSS.out _ HBB.out
          refine wpAnyE_take (i := 0) (v := ?_) rfl (by kernel_rfl) (by kernel_rfl) (by kernel_rfl) (by kernel_rfl) (fun _ _ _ h => h) (Or.inl ⟨by rfl, ?_⟩) hSS ?_
          rotate_left
          · intro w hSw
            obtain ⟨j0, ⟨j1, j2, j3⟩, j4, j5, j6⟩ := hSw
            go_simp
            all_goals with_reducible rfl
          simp only [Act.put, List.setIfInBounds_toArray, List.set_cons_zero, List.set_cons_succ, List.getElem_toArray, List.getElem_cons_zero, List.getElem_cons_succ]
          refine wpAnyE_take (i := 1) (v := ?_) rfl (by kernel_rfl) (by kernel_rfl) (by kernel_rfl) (by kernel_rfl) (fun _ _ _ h => h) (Or.inl ⟨by rfl, ?_⟩) hSS ?_
          rotate_left
          · intro w hSw
            obtain ⟨j0, ⟨j1, j2, j3⟩, j4, j5, j6⟩ := hSw
            go_simp
            all_goals with_reducible rfl
          simp only [Act.put, List.setIfInBounds_toArray, List.set_cons_zero, List.set_cons_succ, List.getElem_toArray, List.getElem_cons_zero, List.getElem_cons_succ]
          refine wpAnyE_take (i := 2) (v := ?_) rfl (by kernel_rfl) (by kernel_rfl) (by kernel_rfl) (by kernel_rfl) (fun _ _ _ h => h) (Or.inl ⟨by rfl, ?_⟩) hSS ?_
          rotate_left
          · intro w hSw
            obtain ⟨j0, ⟨j1, j2, j3⟩, j4, j5, j6⟩ := hSw
            go_simp
            all_goals with_reducible rfl
          simp only [Act.put, List.setIfInBounds_toArray, List.set_cons_zero, List.set_cons_succ, List.getElem_toArray, List.getElem_cons_zero, List.getElem_cons_succ]
          refine wpAnyE_take (i := 3) (v := ?_) rfl (by kernel_rfl) (by kernel_rfl) (by kernel_rfl) (by kernel_rfl) (fun _ _ _ h => h) (Or.inl ⟨by rfl, ?_⟩) hSS ?_
          rotate_left
          · intro w hSw
            obtain ⟨j0, ⟨j1, j2, j3⟩, j4, j5, j6⟩ := hSw
            go_simp
            all_goals with_reducible rfl
          simp only [Act.put, List.setIfInBounds_toArray, List.set_cons_zero, List.set_cons_succ, List.getElem_toArray, List.getElem_cons_zero, List.getElem_cons_succ]
          refine wpAnyE_take (i := 4) (v := ?_) rfl (by kernel_rfl) (by kernel_rfl) (by kernel_rfl) (by kernel_rfl) (fun _ _ _ h => h) (Or.inl ⟨by rfl, ?_⟩) hSS ?_
          rotate_left
          · intro w hSw
            obtain ⟨j0, ⟨j1, j2, j3⟩, j4, j5, j6⟩ := hSw
            go_simp
            all_goals with_reducible rfl
          simp only [Act.put, List.setIfInBounds_toArray, List.set_cons_zero, List.set_cons_succ, List.getElem_toArray, List.getElem_cons_zero, List.getElem_cons_succ]
          refine wpAnyE_take (i := 5) (v := ?_) rfl (by kernel_rfl) (by kernel_rfl) (by kernel_rfl) (by kernel_rfl) (fun _ _ _ h => h) (Or.inl ⟨by rfl, ?_⟩) hSS ?_
          rotate_left
          · intro w hSw
            obtain ⟨j0, ⟨j1, j2, j3⟩, j4, j5, j6⟩ := hSw
            go_simp
            all_goals with_reducible rfl
          simp only [Act.put, List.setIfInBounds_toArray, List.set_cons_zero, List.set_cons_succ, List.getElem_toArray, List.getElem_cons_zero, List.getElem_cons_succ]
          refine wpAnyE_take (i := 6) (v := ?_) rfl (by kernel_rfl) (by kernel_rfl) (by kernel_rfl) (by kernel_rfl) (fun _ _ _ h => h) (Or.inl ⟨by rfl, ?_⟩) hSS ?_
          rotate_left
          · intro w hSw
            obtain ⟨j0, ⟨j1, j2, j3⟩, j4, j5, j6⟩ := hSw
            go_simp
            all_goals with_reducible rfl
          simp only [Act.put, List.setIfInBounds_toArray, List.set_cons_zero, List.set_cons_succ, List.getElem_toArray, List.getElem_cons_zero, List.getElem_cons_succ]
          refine wpAnyE_take (i := 7) (v := ?_) rfl (by kernel_rfl) (by kernel_rfl) (by kernel_rfl) (by kernel_rfl) (fun _ _ _ h => h) (Or.inl ⟨by rfl, ?_⟩) hSS ?_
          rotate_left
          · intro w hSw
            obtain ⟨j0, ⟨j1, j2, j3⟩, j4, j5, j6⟩ := hSw
            go_simp
            all_goals with_reducible rfl
          simp only [Act.put, List.setIfInBounds_toArray, List.set_cons_zero, List.set_cons_succ, List.getElem_toArray, List.getElem_cons_zero, List.getElem_cons_succ]
          refine wpAnyE_take (i := 8) (v := ?_) rfl (by kernel_rfl) (by kernel_rfl) (by kernel_rfl) (by kernel_rfl) (fun _ _ _ h => h) (Or.inl ⟨by rfl, ?_⟩) hSS ?_
          rotate_left
          · intro w hSw
            obtain ⟨j0, ⟨j1, j2, j3⟩, j4, j5, j6⟩ := hSw
            go_simp
            all_goals with_reducible rfl
          simp only [Act.put, List.setIfInBounds_toArray, List.set_cons_zero, List.set_cons_succ, List.getElem_toArray, List.getElem_cons_zero, List.getElem_cons_succ]
          refine wpAnyE_take (i := 9) (v := ?_) rfl (by kernel_rfl) (by kernel_rfl) (by kernel_rfl) (by kernel_rfl) (fun _ _ _ h => h) (Or.inl ⟨by rfl, ?_⟩) hSS ?_
          rotate_left
          · intro w hSw
            obtain ⟨j0, ⟨j1, j2, j3⟩, j4, j5, j6⟩ := hSw
            go_simp
            all_goals with_reducible rfl
          simp only [Act.put, List.setIfInBounds_toArray, List.set_cons_zero, List.set_cons_succ, List.getElem_toArray, List.getElem_cons_zero, List.getElem_cons_succ]
          refine wpAnyE_take (i := 10) (v := ?_) rfl (by kernel_rfl) (by kernel_rfl) (by kernel_rfl) (by kernel_rfl) (fun _ _ _ h => h) (Or.inl ⟨by rfl, ?_⟩) hSS ?_
          rotate_left
          · intro w hSw
            obtain ⟨j0, ⟨j1, j2, j3⟩, j4, j5, j6⟩ := hSw
            go_simp
            all_goals with_reducible rfl
          simp only [Act.put, List.setIfInBounds_toArray, List.set_cons_zero, List.set_cons_succ, List.getElem_toArray, List.getElem_cons_zero, List.getElem_cons_succ]
          refine wpAnyE_take (i := 11) (v := ?_) rfl (by kernel_rfl) (by kernel_rfl) (by kernel_rfl) (by kernel_rfl) (fun _ _ _ h => h) (Or.inl ⟨by rfl, ?_⟩) hSS ?_
          rotate_left
          · intro w hSw
            obtain ⟨j0, ⟨j1, j2, j3⟩, j4, j5, j6⟩ := hSw
            go_simp
            all_goals with_reducible rfl
          simp only [Act.put, List.setIfInBounds_toArray, List.set_cons_zero, List.set_cons_succ, List.getElem_toArray, List.getElem_cons_zero, List.getElem_cons_succ]
          refine wpAnyE_take (i := 12) (v := ?_) rfl (by kernel_rfl) (by kernel_rfl) (by kernel_rfl) (by kernel_rfl) (fun _ _ _ h => h) (Or.inl ⟨by rfl, ?_⟩) hSS ?_
          rotate_left
          · intro w hSw
            obtain ⟨j0, ⟨j1, j2, j3⟩, j4, j5, j6⟩ := hSw
            go_simp
            all_goals with_reducible rfl
          simp only [Act.put, List.setIfInBounds_toArray, List.set_cons_zero, List.set_cons_succ, List.getElem_toArray, List.getElem_cons_zero, List.getElem_cons_succ]
          refine wpAnyE_one (i := 13) (by kernel_rfl) rfl ?_
          change wpList _ _ (Exit.then _ _) [_] _ _
          try simp only [List.setIfInBounds_toArray, List.set_cons_zero, List.set_cons_succ, List.getElem_toArray, List.getElem_cons_zero, List.getElem_cons_succ]
          go_wp2_with (go_at_call 39; refine (HBT.out _).mono ?_; rintro e w6 ⟨rfl, hB⟩)
          have HBB := Lib.hid (HBB.out.below hB)
          clear hB hSS
          have hSS := HSS.out _ HBB.out
          refine ⟨fun _ => hSS, ?_⟩
          try simp only [List.setIfInBounds_toArray, List.set_cons_zero, List.set_cons_succ, List.getElem_toArray, List.getElem_cons_zero, List.getElem_cons_succ]
          refine wpAnyE_end (by kernel_rfl) ?_
          by_cases hqr : q < r
          · rw [decide_eq_true hqr]
            have HT2 := Lib.hid (HT.out.trans (HTT.out.trans (if_pos hqr)))
            clear hqr hSS
            go_upto_region 12 with fail
            refine wp_region_early (Rm7 pc g2 cp2 S.length gx (ox + k * 3) (i : Int) (tgN r : Nat) (kdN r : Nat) i q) (fun j => j == 12) (by kernel_rfl) ?_
            simp only [List.size_toArray, List.length_cons, List.length_nil, Nat.reduceAdd, Array.replicate_succ, Array.replicate_zero, List.push_toArray, List.nil_append, List.cons_append]
            have HBB := Lib.hid (HBB.out.below ((Below.refl _ w6).drew))
            generalize World.drew w6 = W7 at *
            have hSS := HSS.out _ HBB.out
            refine wpAnyE_take (i := 0) (v := ?_) rfl (by kernel_rfl) (by kernel_rfl) (by kernel_rfl) (by kernel_rfl) (fun _ _ _ h => h) (Or.inl ⟨by rfl, ?_⟩) hSS ?_
            rotate_left
            · intro w hSw
              obtain ⟨j0, ⟨j1, j2, j3⟩, j4, j5, j6⟩ := hSw
              go_simp
              all_goals with_reducible rfl
            simp only [Act.put, List.setIfInBounds_toArray, List.set_cons_zero, List.set_cons_succ, List.getElem_toArray, List.getElem_cons_zero, List.getElem_cons_succ]
            refine wpAnyE_take (i := 1) (v := ?_) rfl (by kernel_rfl) (by kernel_rfl) (by kernel_rfl) (by kernel_rfl) (fun _ _ _ h => h) (Or.inl ⟨by rfl, ?_⟩) hSS ?_
            rotate_left
            · intro w hSw
              obtain ⟨j0, ⟨j1, j2, j3⟩, j4, j5, j6⟩ := hSw
              go_simp
              all_goals with_reducible rfl
            simp only [Act.put, List.setIfInBounds_toArray, List.set_cons_zero, List.set_cons_succ, List.getElem_toArray, List.getElem_cons_zero, List.getElem_cons_succ]
            refine wpAnyE_take (i := 2) (v := ?_) rfl (by kernel_rfl) (by kernel_rfl) (by kernel_rfl) (by kernel_rfl) (fun _ _ _ h => h) (Or.inl ⟨by rfl, ?_⟩) hSS ?_
            rotate_left
            · intro w hSw
              obtain ⟨j0, ⟨j1, j2, j3⟩, j4, j5, j6⟩ := hSw
              go_simp
              all_goals with_reducible rfl
            simp only [Act.put, List.setIfInBounds_toArray, List.set_cons_zero, List.set_cons_succ, List.getElem_toArray, List.getElem_cons_zero, List.getElem_cons_succ]
            refine wpAnyE_take (i := 3) (v := ?_) rfl (by kernel_rfl) (by kernel_rfl) (by kernel_rfl) (by kernel_rfl) (fun _ _ _ h => h) (Or.inl ⟨by rfl, ?_⟩) hSS ?_
            rotate_left
            · intro w hSw
              obtain ⟨j0, ⟨j1, j2, j3⟩, j4, j5, j6⟩ := hSw
              go_simp
              all_goals with_reducible rfl
            simp only [Act.put, List.setIfInBounds_toArray, List.set_cons_zero, List.set_cons_succ, List.getElem_toArray, List.getElem_cons_zero, List.getElem_cons_succ]
            refine wpAnyE_take (i := 4) (v := ?_) rfl (by kernel_rfl) (by kernel_rfl) (by kernel_rfl) (by kernel_rfl) (fun _ _ _ h => h) (Or.inl ⟨by rfl, ?_⟩) hSS ?_
            rotate_left
            · intro w hSw
              obtain ⟨j0, ⟨j1, j2, j3⟩, j4, j5, j6⟩ := hSw
              go_simp
              all_goals with_reducible rfl
            simp only [Act.put, List.setIfInBounds_toArray, List.set_cons_zero, List.set_cons_succ, List.getElem_toArray, List.getElem_cons_zero, List.getElem_cons_succ]
            refine wpAnyE_take (i := 5) (v := ?_) rfl (by kernel_rfl) (by kernel_rfl) (by kernel_rfl) (by kernel_rfl) (fun _ _ _ h => h) (Or.inl ⟨by rfl, ?_⟩) hSS ?_
            rotate_left
            · intro w hSw
              obtain ⟨j0, ⟨j1, j2, j3⟩, j4, j5, j6⟩ := hSw
              go_simp
              all_goals with_reducible rfl
            simp only [Act.put, List.setIfInBounds_toArray, List.set_cons_zero, List.set_cons_succ, List.getElem_toArray, List.getElem_cons_zero, List.getElem_cons_succ]
            refine wpAnyE_take (i := 6) (v := ?_) rfl (by kernel_rfl) (by kernel_rfl) (by kernel_rfl) (by kernel_rfl) (fun _ _ _ h => h) (Or.inl ⟨by rfl, ?_⟩) hSS ?_
            rotate_left
            · intro w hSw
              obtain ⟨j0, ⟨j1, j2, j3⟩, j4, j5, j6⟩ := hSw
              go_simp
              all_goals with_reducible rfl
            simp only [Act.put, List.setIfInBounds_toArray, List.set_cons_zero, List.set_cons_succ, List.getElem_toArray, List.getElem_cons_zero, List.getElem_cons_succ]
            refine wpAnyE_take (i := 7) (v := ?_) rfl (by kernel_rfl) (by kernel_rfl) (by kernel_rfl) (by kernel_rfl) (fun _ _ _ h => h) (Or.inl ⟨by rfl, ?_⟩) hSS ?_
            rotate_left
            · intro w hSw
              obtain ⟨j0, ⟨j1, j2, j3⟩, j4, j5, j6⟩ := hSw
              go_simp
              all_goals with_reducible rfl
            simp only [Act.put, List.setIfInBounds_toArray, List.set_cons_zero, List.set_cons_succ, List.getElem_toArray, List.getElem_cons_zero, List.getElem_cons_succ]
            refine wpAnyE_take (i := 8) (v := ?_) rfl (by kernel_rfl) (by kernel_rfl) (by kernel_rfl) (by kernel_rfl) (fun _ _ _ h => h) (Or.inl ⟨by rfl, ?_⟩) hSS ?_
            rotate_left
            · intro w hSw
              obtain ⟨j0, ⟨j1, j2, j3⟩, j4, j5, j6⟩ := hSw
              go_simp
              all_goals with_reducible rfl
            simp only [Act.put, List.setIfInBounds_toArray, List.set_cons_zero, List.set_cons_succ, List.getElem_toArray, List.getElem_cons_zero, List.getElem_cons_succ]
            refine wpAnyE_take (i := 9) (v := ?_) rfl (by kernel_rfl) (by kernel_rfl) (by kernel_rfl) (by kernel_rfl) (fun _ _ _ h => h) (Or.inl ⟨by rfl, ?_⟩) hSS ?_
            rotate_left
            · intro w hSw
              obtain ⟨j0, ⟨j1, j2, j3⟩, j4, j5, j6⟩ := hSw
              go_simp
              all_goals with_reducible rfl
            simp only [Act.put, List.setIfInBounds_toArray, List.set_cons_zero, List.set_cons_succ, List.getElem_toArray, List.getElem_cons_zero, List.getElem_cons_succ]
            refine wpAnyE_take (i := 10) (v := ?_) rfl (by kernel_rfl) (by kernel_rfl) (by kernel_rfl) (by kernel_rfl) (fun _ _ _ h => h) (Or.inl ⟨by rfl, ?_⟩) hSS ?_
            rotate_left
            · intro w hSw
              obtain ⟨j0, ⟨j1, j2, j3⟩, j4, j5, j6⟩ := hSw
              go_simp
              all_goals with_reducible rfl
            simp only [Act.put, List.setIfInBounds_toArray, List.set_cons_zero, List.set_cons_succ, List.getElem_toArray, List.getElem_cons_zero, List.getElem_cons_succ]
            refine wpAnyE_take (i := 11) (v := ?_) rfl (by kernel_rfl) (by kernel_rfl) (by kernel_rfl) (by kernel_rfl) (fun _ _ _ h => h) (Or.inl ⟨by rfl, ?_⟩) hSS ?_
            rotate_left
            · intro w hSw
              obtain ⟨j0, ⟨j1, j2, j3⟩, j4, j5, j6⟩ := hSw
              go_simp
              all_goals with_reducible rfl
            simp only [Act.put, List.setIfInBounds_toArray, List.set_cons_zero, List.set_cons_succ, List.getElem_toArray, List.getElem_cons_zero, List.getElem_cons_succ]
            refine wpAnyE_one (i := 12) (by kernel_rfl) rfl ?_
            change wpList _ _ (Exit.then _ _) [_] _ _
            try simp only [List.setIfInBounds_toArray, List.set_cons_zero, List.set_cons_succ, List.getElem_toArray, List.getElem_cons_zero, List.getElem_cons_succ]
            obtain ⟨_, _, c0, c1, c2⟩ := hSS
            obtain ⟨f0, f1, f2⟩ := (HBB.out.nb.list.cells HQ.out).2
            go_wp2_with fail
            first
              | refine ⟨by kernel_rfl, ?_⟩
              | (refine ⟨(fun h => by cases h), ?_⟩; refine wpAnyE_end (by kernel_rfl) ?_)
            have HBB := Lib.hid (HBB.out.set HI.out HRR.out)
            rw [← HT2.out] at HBB
            clear c0 c1 c2 f0 f1 f2
            generalize ((World.setCell W7 _ _).setCell _ _).setCell _ _ = W8 at *
            go_upto_region 13 with fail
            have HPUT := Lib.hid (fun w => refPut_any y i (by have := HI.out; have := HBB.out.nb.n; have := HBB.out.len; have := HSL.out; omega) w)
            unfold setV setC at HPUT
            refine wp_region_early (Rm5 ps gx (ox + k * 3) (i : Int) y) (fun j => j == 7) (by kernel_rfl) ?_
            simp only [List.size_toArray, List.length_cons, List.length_nil, Nat.reduceAdd, Array.replicate_succ, Array.replicate_zero, List.push_toArray, List.nil_append, List.cons_append]
            have HBB := Lib.hid (HBB.out.below ((Below.refl _ W8).drew))
            generalize World.drew W8 = W9 at *
            have hSS : Rm5 ps gx (ox + k * 3) (i : Int) y W9 := ⟨(HCC.out _ HBB.out.a.low).1, by obtain ⟨q0, q1, q2, q3, _⟩ := set_cells HBB.out.s; exact ⟨q0, q1, q2, q3⟩⟩
            refine wpAnyE_take (i := 0) (v := ?_) rfl (by kernel_rfl) (by kernel_rfl) (by kernel_rfl) (by kernel_rfl) (fun _ _ _ h => h) (Or.inl ⟨by rfl, ?_⟩) hSS ?_
            rotate_left
            · intro w hSw
              obtain ⟨j0, j1, j2, j3, j4⟩ := hSw
              go_simp
              all_goals with_reducible rfl
            simp only [Act.put, List.setIfInBounds_toArray, List.set_cons_zero, List.set_cons_succ, List.getElem_toArray, List.getElem_cons_zero, List.getElem_cons_succ]
            refine wpAnyE_take (i := 1) (v := ?_) rfl (by kernel_rfl) (by kernel_rfl) (by kernel_rfl) (by kernel_rfl) (fun _ _ _ h => h) (Or.inl ⟨by rfl, ?_⟩) hSS ?_
            rotate_left
            · intro w hSw
              obtain ⟨j0, j1, j2, j3, j4⟩ := hSw
              go_simp
              all_goals with_reducible rfl
            simp only [Act.put, List.setIfInBounds_toArray, List.set_cons_zero, List.set_cons_succ, List.getElem_toArray, List.getElem_cons_zero, List.getElem_cons_succ]
            refine wpAnyE_take (i := 2) (v := ?_) rfl (by kernel_rfl) (by kernel_rfl) (by kernel_rfl) (by kernel_rfl) (fun _ _ _ h => h) (Or.inl ⟨by rfl, ?_⟩) hSS ?_
            rotate_left
            · intro w hSw
              obtain ⟨j0, j1, j2, j3, j4⟩ := hSw
              go_simp
              all_goals with_reducible rfl
            simp only [Act.put, List.setIfInBounds_toArray, List.set_cons_zero, List.set_cons_succ, List.getElem_toArray, List.getElem_cons_zero, List.getElem_cons_succ]
            refine wpAnyE_take (i := 3) (v := ?_) rfl (by kernel_rfl) (by kernel_rfl) (by kernel_rfl) (by kernel_rfl) (fun _ _ _ h => h) (Or.inl ⟨by rfl, ?_⟩) hSS ?_
            rotate_left
            · intro w hSw
              obtain ⟨j0, j1, j2, j3, j4⟩ := hSw
              go_simp
              all_goals with_reducible rfl
            simp only [Act.put, List.setIfInBounds_toArray, List.set_cons_zero, List.set_cons_succ, List.getElem_toArray, List.getElem_cons_zero, List.getElem_cons_succ]
            refine wpAnyE_take (i := 4) (v := ?_) rfl (by kernel_rfl) (by kernel_rfl) (by kernel_rfl) (by kernel_rfl) (fun _ _ _ h => h) (Or.inl ⟨by rfl, ?_⟩) hSS ?_
            rotate_left
            · intro w hSw
              obtain ⟨j0, j1, j2, j3, j4⟩ := hSw
              go_simp
              all_goals with_reducible rfl
            simp only [Act.put, List.setIfInBounds_toArray, List.set_cons_zero, List.set_cons_succ, List.getElem_toArray, List.getElem_cons_zero, List.getElem_cons_succ]
            refine wpAnyE_take (i := 5) (v := ?_) rfl (by kernel_rfl) (by kernel_rfl) (by kernel_rfl) (by kernel_rfl) (fun _ _ _ h => h) (Or.inl ⟨by rfl, ?_⟩) hSS ?_
            rotate_left
            · intro w hSw
              obtain ⟨j0, j1, j2, j3, j4⟩ := hSw
              go_simp
              all_goals with_reducible rfl
            simp only [Act.put, List.setIfInBounds_toArray, List.set_cons_zero, List.set_cons_succ, List.getElem_toArray, List.getElem_cons_zero, List.getElem_cons_succ]
            refine wpAnyE_one (i := 6) (by kernel_rfl) rfl ?_
            change wpList _ _ (Exit.then _ _) [_] _ _
            try simp only [List.setIfInBounds_toArray, List.set_cons_zero, List.set_cons_succ, List.getElem_toArray, List.getElem_cons_zero, List.getElem_cons_succ]
            go_wp2_with (go_at_call 40; refine (HPUT.out _).mono ?_; rintro e w10 ⟨rfl, hB⟩)
            have HBB := Lib.hid (HBB.out.below hB)
            clear hB hSS
            have hSS : Rm5 ps gx (ox + k * 3) (i : Int) y w10 := ⟨(HCC.out _ HBB.out.a.low).1, by obtain ⟨q0, q1, q2, q3, _⟩ := set_cells HBB.out.s; exact ⟨q0, q1, q2, q3⟩⟩
            refine ⟨fun _ => hSS, ?_⟩
            try simp only [List.setIfInBounds_toArray, List.set_cons_zero, List.set_cons_succ, List.getElem_toArray, List.getElem_cons_zero, List.getElem_cons_succ]
            refine wpAnyE_one (i := 7) (by kernel_rfl) rfl ?_
            change wpList _ _ (Exit.then _ _) [_] _ _
            try simp only [List.setIfInBounds_toArray, List.set_cons_zero, List.set_cons_succ, List.getElem_toArray, List.getElem_cons_zero, List.getElem_cons_succ]
            obtain ⟨q0, q1, q2, q3, f0, f1, f2, f3⟩ := set_cells HBB.out.s
            have hcl := blk_lt HBB.out.s
            have hg := Lib.hid (but_set (but_set (but_set (but_set (but_refl w10 (some ps)) hcl 0 (.int .u32 (sw (y % 2 ^ 100 ||| 2 ^ i) 0 : Nat))) hcl 1 (.int .u32 (sw (y % 2 ^ 100 ||| 2 ^ i) 1 : Nat))) hcl 2 (.int .u32 (sw (y % 2 ^ 100 ||| 2 ^ i) 2 : Nat))) hcl 3 (.int .u32 (sw (y % 2 ^ 100 ||| 2 ^ i) 3 : Nat)))
            have hs := Lib.hid (blk_store (blk_store (blk_store (blk_store HBB.out.s 0 (.int .u32 (sw (y % 2 ^ 100 ||| 2 ^ i) 0 : Nat))) 1 (.int .u32 (sw (y % 2 ^ 100 ||| 2 ^ i) 1 : Nat))) 2 (.int .u32 (sw (y % 2 ^ 100 ||| 2 ^ i) 2 : Nat))) 3 (.int .u32 (sw (y % 2 ^ 100 ||| 2 ^ i) 3 : Nat)))
            have HBF := Lib.hid (HBB.out.put (z := y % 2 ^ 100 ||| 2 ^ i) hg.out (by have := hs.out; simpa [setC] using this))
            clear hcl hg hs hSS
            go_wp2_with fail
            first
              | refine ⟨by kernel_rfl, ?_⟩
              | (refine ⟨(fun h => by cases h), ?_⟩; refine wpAnyE_end (by kernel_rfl) ?_)
            go_wp2_with fail
            go_roundw
            case rel => exact ⟨k + 1, _, by go_num, HK.out, HBF.out⟩
            case measure => have := HK.out; simp [intOf]; omega
          · rw [decide_eq_false hqr]
            have HT2 := Lib.hid (HT.out.trans (HTT.out.trans (if_neg hqr)))
            clear hqr hSS
            go_wp2_with fail
            go_roundw
            case rel => exact ⟨k + 1, y, by go_num, HK.out, by rw [HT2.out]; exact HBB.out⟩
            case measure => have := HK.out; simp [intOf]; omega
        · obtain rfl : k = xs.length := by omega
          rw [List.take_of_length_le (Nat.le_refl _), ← HR.out] at hB
          have i1 : ¬ (xs.length : Int) < (xs.length : Int) := by omega
          have HBB := Lib.hid hB
          clear hB hlt hk
          go_upto_region 14 with fail
          refine wp_region_early (Rm6 pc g2 cp2 R.length ps y) (fun _ => false) (by kernel_rfl) ?_
          simp only [List.size_toArray, List.length_cons, List.length_nil, Nat.reduceAdd, Array.replicate_succ, Array.replicate_zero, List.push_toArray, List.nil_append, List.cons_append]
          have HBB := Lib.hid (HBB.out.below ((Below.refl _ wr).drew))
          generalize World.drew wr = W9 at *
          have hSS : Rm6 pc g2 cp2 R.length ps y W9 := ⟨blk_cell HBB.out.c 0, by obtain ⟨q0, q1, q2, q3, _⟩ := set_cells HBB.out.s; exact ⟨q0, q1, q2, q3⟩⟩
          refine wpAnyE_take (i := 0) (v := ?_) rfl (by kernel_rfl) (by kernel_rfl) (by kernel_rfl) (by kernel_rfl) (fun _ _ _ h => h) (Or.inl ⟨by rfl, ?_⟩) hSS ?_
          rotate_left
          · intro w hSw
            obtain ⟨j0, j1, j2, j3, j4⟩ := hSw
            go_simp
            all_goals with_reducible rfl
          simp only [Act.put, List.setIfInBounds_toArray, List.set_cons_zero, List.set_cons_succ, List.getElem_toArray, List.getElem_cons_zero, List.getElem_cons_succ]
          refine wpAnyE_take (i := 1) (v := ?_) rfl (by kernel_rfl) (by kernel_rfl) (by kernel_rfl) (by kernel_rfl) (fun _ _ _ h => h) (Or.inl ⟨by rfl, ?_⟩) hSS ?_
          rotate_left
          · intro w hSw
            obtain ⟨j0, j1, j2, j3, j4⟩ := hSw
            go_simp
            all_goals with_reducible rfl
          simp only [Act.put, List.setIfInBounds_toArray, List.set_cons_zero, List.set_cons_succ, List.getElem_toArray, List.getElem_cons_zero, List.getElem_cons_succ]
          refine wpAnyE_one (i := 2) (by kernel_rfl) rfl ?_
          change wpList _ _ (Exit.then _ _) [_] _ _
          try simp only [List.setIfInBounds_toArray, List.set_cons_zero, List.set_cons_succ, List.getElem_toArray, List.getElem_cons_zero, List.getElem_cons_succ]
          have hl1 := HBB.out.l1
          have hl2 := HBB.out.l2
          have k1 := blk_cell HBB.out.a.r1 0
          have f1 := blk_free HBB.out.a.r1 0
          have c2 := blk_set HBB.out.c ⟨w.heap.size + 1, 0, none⟩ (.slice (some ⟨g2, 0, none⟩) R.length cp2) (by simp; omega)
          have s2 := blk_set HBB.out.s ⟨w.heap.size + 1, 0, none⟩ (.slice (some ⟨g2, 0, none⟩) R.length cp2) (by simp; omega)
          have r2 := blk_set HBB.out.a.r2 ⟨w.heap.size + 1, 0, none⟩ (.slice (some ⟨g2, 0, none⟩) R.length cp2) (by simp)
          have q2 := blk_store HBB.out.a.r1 0 (.slice (some ⟨g2, 0, none⟩) R.length cp2)
          have L2 := Lib.hid (HBB.out.a.low.setCell (p := ⟨w.heap.size + 1, 0, none⟩) (Nat.le_succ _) (.slice (some ⟨g2, 0, none⟩) R.length cp2))
          have N2 : Hid (Nb (W9.setCell ⟨w.heap.size + 1, 0, none⟩ (.slice (some ⟨g2, 0, none⟩) R.length cp2)) g2 cp2 (mgR R xs)) := Lib.hid (HBB.out.nb.other (but_set (but_refl W9 _) (blk_lt HBB.out.a.r1) 0 _) (by have := HBB.out.l3; omega))
          go_wp2_with fail
          clear hSS k1 f1
          generalize World.setCell W9 _ _ = WA at *
          have hSS : Rm6 pc g2 cp2 R.length ps y WA := ⟨blk_cell c2 0, by obtain ⟨q0, q1, q2, q3, _⟩ := set_cells s2; exact ⟨q0, q1, q2, q3⟩⟩
          first | refine ⟨fun _ => hSS, ?_⟩ | refine ⟨hSS, ?_⟩
          try simp only [List.setIfInBounds_toArray, List.set_cons_zero, List.set_cons_succ, List.getElem_toArray, List.getElem_cons_zero, List.getElem_cons_succ]
          refine wpAnyE_one (i := 3) (by kernel_rfl) rfl ?_
          change wpList _ _ (Exit.then _ _) [_] _ _
          try simp only [List.setIfInBounds_toArray, List.set_cons_zero, List.set_cons_succ, List.getElem_toArray, List.getElem_cons_zero, List.getElem_cons_succ]
          obtain ⟨u0, u1, u2, u3, f0, f1, f2, f3⟩ := set_cells r2
          have hcl := blk_lt r2
          have hg := but_set (but_set (but_set (but_set (but_refl WA (some (w.heap.size + 2))) hcl 0 (.int .u32 (sw y 0 : Nat))) hcl 1 (.int .u32 (sw y 1 : Nat))) hcl 2 (.int .u32 (sw y 2 : Nat))) hcl 3 (.int .u32 (sw y 3 : Nat))
          have hs := blk_store (blk_store (blk_store (blk_store r2 0 (.int .u32 (sw y 0 : Nat))) 1 (.int .u32 (sw y 1 : Nat))) 2 (.int .u32 (sw y 2 : Nat))) 3 (.int .u32 (sw y 3 : Nat))
          have c3 := Lib.hid (blk_grown hg c2 (by simp; omega))
          have s3 := Lib.hid (blk_grown hg s2 (by simp; omega))
          have q3 := Lib.hid (blk_grown hg q2 (by simp))
          have L3 := Lib.hid (L2.out.grown hg L2.out.size (fun j hj => by cases hj; omega))
          have N3 := Lib.hid (N2.out.other hg (by have := HBB.out.l3; omega))
          have hs3 := Lib.hid hs
          clear hg hs hcl c2 s2 q2 r2 L2 N2
          go_wp2_with fail
          clear hSS u0 u1 u2 u3 f0 f1 f2 f3
          generalize (((World.setCell WA _ _).setCell _ _).setCell _ _).setCell _ _ = WB at *
          have hSS : Rm6 pc g2 cp2 R.length ps y WB := ⟨blk_cell c3.out 0, by obtain ⟨q0, q1, q2, q3, _⟩ := set_cells s3.out; exact ⟨q0, q1, q2, q3⟩⟩
          first | refine ⟨fun _ => hSS, ?_⟩ | refine ⟨hSS, ?_⟩
          try simp only [List.setIfInBounds_toArray, List.set_cons_zero, List.set_cons_succ, List.getElem_toArray, List.getElem_cons_zero, List.getElem_cons_succ]
          refine wpAnyE_one (i := 4) (by kernel_rfl) rfl ?_
          change wpList _ _ (Exit.then _ _) [_] _ _
          try simp only [List.setIfInBounds_toArray, List.set_cons_zero, List.set_cons_succ, List.getElem_toArray, List.getElem_cons_zero, List.getElem_cons_succ]
          go_wp2_with fail
          first | refine ⟨fun _ => hSS, ?_⟩ | refine ⟨hSS, ?_⟩
          try simp only [List.setIfInBounds_toArray, List.set_cons_zero, List.set_cons_succ, List.getElem_toArray, List.getElem_cons_zero, List.getElem_cons_succ]
          refine wpAnyE_end (by kernel_rfl) ?_
          clear hSS
          have z1 : WB.cell? ⟨w.heap.size + 1, 0, none⟩ = some (.slice (some ⟨g2, 0, none⟩) R.length cp2) := blk_cell q3.out 0
          obtain ⟨v0, v1, v2, v3, _⟩ := set_cells (x := y) (show WB.heap[w.heap.size + 2]? = some (.cells (setC y) 54 (0, 0)) from by have := hs3.out; simpa [setC] using this)
          go_wp2_with fail
          refine bodyPost_ret (v := .tuple #[.agg #[.slice (some ⟨g2, 0, none⟩) R.length cp2], .agg (setC y), .int .i64 0]) ?_ rfl ⟨⟨g2, cp2, y, 0, rfl, N3.out, .inr (by have := HBB.out.l3; omega)⟩, L3.out⟩
          unfold setC
          simp [results, Tryz.results15, go_sem, z1, v0, v1, v2, v3]
end Go.Proofs.YtbjlnlgknegbnaaGreatDoor
namespace Go.Proofs.YtbjlnlgknegbnaaGreatDoor
set_option linter.unusedVariables false
open Go.RowKit Go.WideShapes Go.ChangeShapes Go.WideElems Go.Deep

/-- What one cell may hold. -/
inductive Sh where
  | int (k : IntKind)
  | bool
  | str
  | ints (k : IntKind)
  | rows (n : Nat)
def ShV (W : World) : Sh → Value → Prop
  | .int k, v => ∃ x, v = .int k x ∧ (Lit.int k x).wf = true
  | .bool, v => ∃ b, v = .bool b
  | .str, v => ∃ s : ByteArray, v = .string s ∧ s.size ≤ maxLen
  | .ints k, v => ∃ xs, RowOf W k v xs ∧ ∀ x ∈ xs, (Lit.int k x).wf = true
  | .rows n, v => ∃ xs, RowsOf W n v xs ∧ ∀ x ∈ xs, ∀ y ∈ x, (Lit.int .i64 y).wf = true
theorem ShV.below {W W' : World} (hb : Below W.heap.size W W') : ∀ {s : Sh} {v : Value}, ShV W s v → ShV W' s v
  | .int _, _, h => h
  | .bool, _, h => h
  | .str, _, h => h
  | .ints _, _, ⟨xs, h, hw⟩ => ⟨xs, h.below hb, hw⟩
  | .rows _, _, ⟨xs, h, hw⟩ => ⟨xs, h.below hb, hw⟩
/-- Cells of these shapes, one by one. -/
def ShL (W : World) : List Sh → List Value → Prop
  | [], [] => True
  | s :: ss, v :: vs => ShV W s v ∧ ShL W ss vs
  | _, _ => False
theorem ShL.len {W : World} : ∀ {ss : List Sh} {vs : List Value}, ShL W ss vs → vs.length = ss.length
  | [], [], _ => rfl
  | s :: ss, v :: vs, h => by simp [ShL.len h.2]
  | [], _ :: _, h => h.elim
  | _ :: _, [], h => h.elim
theorem ShL.append {W : World} : ∀ {ss : List Sh} {vs : List Value} {tt : List Sh} {us : List Value}, ShL W ss vs → ShL W tt us → ShL W (ss ++ tt) (vs ++ us)
  | [], [], _, _, _, h => h
  | s :: ss, v :: vs, _, _, h, k => ⟨h.1, ShL.append h.2 k⟩
  | [], _ :: _, _, _, h, _ => h.elim
  | _ :: _, [], _, _, h, _ => h.elim
theorem ShL.below {W W' : World} (hb : Below W.heap.size W W') : ∀ {ss : List Sh} {vs : List Value}, ShL W ss vs → ShL W' ss vs
  | [], [], h => h
  | s :: ss, v :: vs, h => ⟨h.1.below hb, ShL.below hb h.2⟩
  | [], _ :: _, h => h.elim
  | _ :: _, [], h => h.elim
def tilesS (P : Program) (F : TypeId → Option (List Sh)) : List Field → Nat → Nat → Option (List Sh)
  | [], o, n => if o == n then some [] else none
  | f :: fs, o, n => if f.offset == o then (match F f.type with | none => none | some a => match tilesS P F fs (o + P.cellsOf f.type) n with | none => none | some b => some (a ++ b)) else none
def shapes (P : Program) : Nat → TypeId → Option (List Sh)
  | 0, _ => none
  | d + 1, t =>
    match P.underlying t with
    | some (.int k) => if P.cellsOf t == 1 then some [.int k] else none
    | some .bool => if P.cellsOf t == 1 then some [.bool] else none
    | some .string => if P.cellsOf t == 1 then some [.str] else none
    | some (.slice e) => match P.underlying e with
      | some (.int k) => if P.cellsOf e == 1 && P.cellsOf t == 1 then some [.ints k] else none
      | some (.struct _) => if flatB P 3 e && decide (0 < P.cellsOf e) && P.cellsOf t == 1 then some [.rows (P.cellsOf e)] else none
      | _ => none
    | some (.struct fs) => tilesS P (shapes P d) fs.toList 0 (P.cellsOf t)
    | _ => none

section
variable {H : Type} {enc : TypeId × Value → H} {P : Program} {w : World} {spare : Nat → Bool} {held : Bool}
theorem rowOf_of_trod {t e : TypeId} {k : IntKind} {n : Nat} {cs : List Value} {x : DataW H × List MemPlace} (ht : P.underlying t = some (.slice e)) (he : P.underlying e = some (.int k)) (hc : P.cellsOf e = 1)
    (hn : DataW.trod enc P w 0 spare held n t cs = some x) : ∃ v xs, cs = [v] ∧ RowOf w k v xs ∧ ∀ x ∈ xs, (Lit.int k x).wf = true := by
  rcases open_ints ht he hc hn with ⟨h1, h2⟩ | ⟨a, len, cap, zs, h1, hb, hl, hm, hz, h2, h3, h4⟩
  · exact ⟨.slice none 0 0, [], h1, .inl ⟨rfl, rfl⟩, by simp⟩
  · have hzl : len ≤ zs.length := by rw [hz]; split <;> omega
    have hlen : (zs.take len).length = len := by rw [List.length_take]; omega
    refine ⟨.slice (some a) len cap, zs.take len, h1, .inr ⟨a, cap, by rw [hlen], by omega, hm, fun i x hx => ?_⟩, fun x hx => h4 x (List.mem_of_mem_take hx)⟩
    have hi : i < len := by have := (List.getElem?_eq_some_iff.1 hx).1; omega
    have hx2 : zs[i]? = some x := by rw [List.getElem?_take_of_lt hi] at hx; exact hx
    have hc1 := h3 i (by omega)
    rw [List.getD_eq_getElem?_getD, hx2] at hc1
    exact ⟨hc1, cell_lt hc1⟩
theorem rowsOf_of_trod {t e : TypeId} {n : Nat} {cs : List Value} {x : DataW H × List MemPlace} (ht : P.underlying t = some (.slice e)) (hfl : flatB P 3 e = true) (hpos : 0 < P.cellsOf e)
    (hn : DataW.trod enc P w 0 spare held n t cs = some x) : ∃ v xs, cs = [v] ∧ RowsOf w (P.cellsOf e) v xs ∧ ∀ x ∈ xs, ∀ y ∈ x, (Lit.int .i64 y).wf = true := by
  rcases open_slice ht hn with ⟨h1, h2⟩ | ⟨a, len, cap, m, k, D, Pl, h1, hb, hl, hm, hmm, hx, hall⟩
  · subst h1
    exact ⟨_, [], rfl, ⟨none, 0, rfl, Nat.le_refl _, by unfold maxLen; omega, fun i x h => by simp at h⟩, by simp⟩
  · subst h1
    have hlm : len ≤ m := by rw [hmm]; split <;> omega
    have key : ∀ i, i < len → ∃ ys : List Int, ys.length = P.cellsOf e ∧ (∀ y ∈ ys, (Lit.int .i64 y).wf = true) ∧ w.cells? 0 (a.add (i * P.cellsOf e)) (P.cellsOf e) = some (intsV ys) := by
      intro i hi
      obtain ⟨cs, hc, hd⟩ := hall i (by omega)
      obtain ⟨ys, hy, hw⟩ := flat_open 3 e _ _ _ hfl hd
      have hll := flat_len hfl hd
      refine ⟨ys, ?_, hw, by rw [← hy]; exact hc⟩
      rw [hy] at hll
      simpa [intsV] using hll
    obtain ⟨f, hf⟩ : ∃ f : Nat → List Int, ∀ i, i < len → (f i).length = P.cellsOf e ∧ (∀ y ∈ f i, (Lit.int .i64 y).wf = true) ∧ w.cells? 0 (a.add (i * P.cellsOf e)) (P.cellsOf e) = some (intsV (f i)) := by
      refine ⟨fun i => if h : i < len then (key i h).choose else [], fun i hi => ?_⟩
      simp only [hi, dite_true]
      exact (key i hi).choose_spec
    refine ⟨_, (List.range len).map f, rfl, ⟨some a, cap, by simp, by simpa using hl, hm, fun i x hx => ?_⟩, fun x hx => ?_⟩
    · rw [List.getElem?_map] at hx
      have hi : i < len := by
        rcases Nat.lt_or_ge i len with h | h
        · exact h
        · rw [List.getElem?_eq_none (by simpa using h)] at hx; cases hx
      rw [List.getElem?_range hi] at hx
      obtain rfl : f i = x := by simpa using hx
      obtain ⟨h4, h5, h6⟩ := hf i hi
      obtain ⟨_, h7, h8⟩ := World.cells?_some h6
      have hcell : ∀ j y, (f i)[j]? = some y → w.cell? ((a.add (i * P.cellsOf e)).add j) = some (.int .i64 y) := by
        intro j y hy
        have hj : j < P.cellsOf e := by have := (List.getElem?_eq_some_iff.1 hy).1; omega
        rw [h8 j hj]
        unfold intsV; rw [List.getElem?_map, hy]; rfl
      obtain ⟨g, o, spot⟩ := a
      have hspot : spot = none := by
        obtain ⟨k4, k5, k6⟩ := hf 0 (by omega)
        obtain ⟨_, k7, k8⟩ := World.cells?_some k6
        have hk := k8 0 hpos
        have hk2 : (intsV (f 0))[0]? = some (.int .i64 ((f 0)[0]'(by omega))) := by unfold intsV; rw [List.getElem?_map, List.getElem?_eq_getElem (by omega)]; rfl
        rw [hk2] at hk
        have := World.cell?_spot hk
        simpa [Addr.add] using this
      subst hspot
      have h0 := hcell 0 _ (List.getElem?_eq_getElem (by omega))
      refine ⟨h4, g, o, rfl, ?_, fun j y hy => ?_⟩
      · have := cell_lt h0
        rwa [add_mid', add_mid'] at this
      · have := hcell j y hy
        rwa [add_mid', add_mid'] at this
    · obtain ⟨i, hi, rfl⟩ := List.mem_map.1 hx
      exact (hf i (List.mem_range.1 hi)).2.1
theorem tilesS_open {F : TypeId → Option (List Sh)} {cs : List Value} (hF : ∀ (t : TypeId) (n : Nat) (cs : List Value) (x : DataW H × List MemPlace) (ss : List Sh), F t = some ss → DataW.trod enc P w 0 spare held n t cs = some x → ShL w ss cs) {n : Nat} :
    ∀ (fs : List Field) (o : Nat) (ss : List Sh), tilesS P F fs o cs.length = some ss → (∀ f ∈ fs, ∃ x, DataW.trod enc P w 0 spare held n f.type ((cs.drop f.offset).take (P.cellsOf f.type)) = some x) → ShL w ss (cs.drop o)
  | [], o, ss, ht, _ => by
    unfold tilesS at ht
    split at ht
    · rename_i ho
      have ho : o = cs.length := by simpa using ho
      obtain rfl : [] = ss := by simpa using ht
      rw [ho, List.drop_length]; trivial
    · cases ht
  | f :: fs, o, ss, ht, hx => by
    unfold tilesS at ht
    split at ht
    · rename_i h1
      have h1 : f.offset = o := by simpa using h1
      split at ht
      · cases ht
      · rename_i a ha
        split at ht
        · cases ht
        · rename_i b hb
          obtain rfl : a ++ b = ss := by simpa using ht
          obtain ⟨x, hx0⟩ := hx f (by simp)
          rw [h1] at hx0
          have h2 := hF _ _ _ _ _ ha hx0
          have h3 := tilesS_open hF fs _ b hb (fun g hg => hx g (by simp [hg]))
          rw [← List.take_append_drop (P.cellsOf f.type) (cs.drop o), List.drop_drop]
          exact h2.append h3
    · cases ht
theorem shapes_open : ∀ (d : Nat) (t : TypeId) (n : Nat) (cs : List Value) (x : DataW H × List MemPlace) (ss : List Sh), shapes P d t = some ss → DataW.trod enc P w 0 spare held n t cs = some x → ShL w ss cs
  | 0, _, _, _, _, _, h, _ => by cases h
  | d + 1, t, n, cs, x, ss, h, hx => by
    unfold shapes at h
    split at h
    · rename_i k hu
      obtain ⟨z, rfl, _, hw⟩ := DataW.trod_int hu hx
      split at h
      · obtain rfl : [Sh.int k] = ss := by simpa using h
        exact ⟨⟨z, rfl, hw⟩, trivial⟩
      · cases h
    · rename_i hu
      obtain ⟨z, rfl, _⟩ := DataW.trod_bool hu hx
      split at h
      · obtain rfl : [Sh.bool] = ss := by simpa using h
        exact ⟨⟨z, rfl⟩, trivial⟩
      · cases h
    · rename_i hu
      obtain ⟨z, rfl, _, hz⟩ := DataW.trod_string hu hx
      split at h
      · obtain rfl : [Sh.str] = ss := by simpa using h
        exact ⟨⟨z, rfl, hz⟩, trivial⟩
      · cases h
    · rename_i e hu
      split at h
      · rename_i k he
        split at h
        · rename_i hc
          simp only [Bool.and_eq_true, beq_iff_eq] at hc
          obtain rfl : [Sh.ints k] = ss := by simpa using h
          obtain ⟨v, xs, rfl, h1, h2⟩ := rowOf_of_trod hu he hc.1 hx
          exact ⟨⟨xs, h1, h2⟩, trivial⟩
        · cases h
      · rename_i fs he
        split at h
        · rename_i hc
          simp only [Bool.and_eq_true, beq_iff_eq, decide_eq_true_eq] at hc
          obtain rfl : [Sh.rows (P.cellsOf e)] = ss := by simpa using h
          obtain ⟨v, xs, rfl, h1, h2⟩ := rowsOf_of_trod hu hc.1.1 hc.1.2 hx
          exact ⟨⟨xs, h1, h2⟩, trivial⟩
        · cases h
      · cases h
    · rename_i fs hu
      obtain ⟨xs, m, _, _, hl, hlen, hf⟩ := DataW.trod_struct hu hx
      rw [← hl] at h
      have := tilesS_open (n := m) (fun t n cs x ss => shapes_open d t n cs x ss) fs.toList 0 ss h (fun f hfm => by
        obtain ⟨i, hi, rfl⟩ := List.mem_iff_getElem.1 hfm
        have := hf i fs.toList[i] (by rw [← Array.getElem?_toList, List.getElem?_eq_getElem hi])
        refine ⟨xs[i]'(by rw [hlen]; simpa using hi), ?_⟩
        rw [this, List.getElem?_eq_getElem])
      simpa using this
    · cases h
/-- A struct that came in. -/
theorem open_shapes {r : Reach} {b0 : Nat} {t : TypeId} {fs : Array Field} {ss : List Sh} {v : Value} {dd : DataW H} {p : List MemPlace} (d : Nat) (ht : P.underlying t = some (.struct fs)) (hfl : shapes P d t = some ss)
    (hval : Value.okWide P w r b0 t v) (h : DataW.Trod enc P w 0 spare held t v dd p) : ∃ cs, v = .agg cs.toArray ∧ ShL w ss cs := by
  obtain ⟨n, hn⟩ := h
  unfold Value.okWide at hval
  rw [ht] at hval
  obtain ⟨cs, rfl, _, _⟩ := hval
  exact ⟨cs.toList, by simp, shapes_open d t n _ _ _ hfl hn⟩
end
/-- A row of elements of these shapes that came in. -/
def RowsS (W : World) (ss : List Sh) (v : Value) (xs : List (List Value)) : Prop :=
  ∃ a cap, v = .slice a xs.length cap ∧ xs.length ≤ cap ∧ cap ≤ maxLen ∧ ∀ (i : Nat) (x : List Value), xs[i]? = some x → ShL W ss x ∧ ∃ g o, a = some ⟨g, o, none⟩ ∧ g < W.heap.size ∧ ∀ (j : Nat) (y : Value), x[j]? = some y → W.cell? ⟨g, o + i * ss.length + j, none⟩ = some y
theorem RowsS.below {W W' : World} {ss : List Sh} {v : Value} {xs : List (List Value)} (h : RowsS W ss v xs) (hb : Below W.heap.size W W') : RowsS W' ss v xs := by
  obtain ⟨a, cap, h1, h2, h3, h4⟩ := h
  refine ⟨a, cap, h1, h2, h3, fun i x hx => ?_⟩
  obtain ⟨h5, g, o, h6, h7, h8⟩ := h4 i x hx
  exact ⟨h5.below hb, g, o, h6, Nat.lt_of_lt_of_le h7 hb.size, fun j y hy => (hb.cell h7).trans (h8 j y hy)⟩
theorem add_midS (b o j : Nat) : (⟨b, o, none⟩ : Addr).add j = ⟨b, o + j, none⟩ := by unfold Addr.add; split <;> simp_all
theorem open_rowsS {H : Type} {enc : TypeId × Value → H} {P : Program} {W : World} {spare : Nat → Bool} {held : Bool} {r : Reach} {b0 : Nat} {t e : TypeId} {ss : List Sh} {v : Value} {dd : DataW H} {p : List MemPlace} (d : Nat) (ht : P.underlying t = some (.slice e)) (hfl : shapes P d e = some ss) (hpos : 0 < ss.length) (hce : P.cellsOf e = ss.length)
    (hval : Value.okWide P W r b0 t v) (h : DataW.Trod enc P W 0 spare held t v dd p) : ∃ xs, RowsS W ss v xs ∧ (dd = .nil ∨ ∃ el sp, dd = .slice el sp ∧ el.length = xs.length) := by
  obtain ⟨n, hn⟩ := h
  have hv : v.cells.toList = [v] := by
    cases v <;> first | rfl | (simp [Value.okWide, Cell.okWide, Cell.ok, ht] at hval)
  rw [hv] at hn
  rcases DataW.trod_slice ht hn with ⟨h1, h2⟩ | ⟨a, len, cap, elems, rest, m, _, h1, h2, hb, hl, hm, hel, hall, _, _⟩
  · obtain rfl : v = .slice none 0 0 := by simpa using h1
    exact ⟨[], ⟨none, 0, rfl, Nat.le_refl _, by unfold maxLen; omega, fun i x h => by simp at h⟩, .inl (congrArg Prod.fst h2)⟩
  · obtain rfl : v = .slice (some a) len cap := by simpa using h1
    rw [hce] at hall
    have key : ∀ i, i < len → ∃ cs : List Value, ShL W ss cs ∧ W.cells? 0 (a.add (i * ss.length)) ss.length = some cs := by
      intro i hi
      have h3 := hall i hi
      rw [List.getElem?_eq_getElem (by omega)] at h3
      obtain ⟨cs, hc, hd⟩ := Option.bind_eq_some_iff.1 h3
      exact ⟨cs, shapes_open d e _ _ _ _ hfl hd, hc⟩
    obtain ⟨f, hf⟩ : ∃ f : Nat → List Value, ∀ i, i < len → ShL W ss (f i) ∧ W.cells? 0 (a.add (i * ss.length)) ss.length = some (f i) := by
      refine ⟨fun i => if h : i < len then (key i h).choose else [], fun i hi => ?_⟩
      simp only [hi, dite_true]
      exact (key i hi).choose_spec
    refine ⟨(List.range len).map f, ⟨some a, cap, by simp, by simpa using hl, hm, fun i x hx => ?_⟩, .inr ⟨elems.map (·.1), rest.map (·.1), congrArg Prod.fst h2, by simp [hel]⟩⟩
    rw [List.getElem?_map] at hx
    have hi : i < len := by
      rcases Nat.lt_or_ge i len with h | h
      · exact h
      · rw [List.getElem?_eq_none (by simpa using h)] at hx; cases hx
    rw [List.getElem?_range hi] at hx
    obtain rfl : f i = x := by simpa using hx
    obtain ⟨h4, h6⟩ := hf i hi
    have hlen := h4.len
    obtain ⟨_, h7, h8⟩ := World.cells?_some h6
    have hcell : ∀ j y, (f i)[j]? = some y → W.cell? ((a.add (i * ss.length)).add j) = some y := by
      intro j y hy
      have hj : j < ss.length := by have := (List.getElem?_eq_some_iff.1 hy).1; omega
      rw [h8 j hj]; exact hy
    have h0 := hcell 0 _ (List.getElem?_eq_getElem (by omega))
    obtain ⟨g, o, spot⟩ := a
    have hspot : spot = none := by
      obtain ⟨k4, k6⟩ := hf 0 (by omega)
      have k4l := k4.len
      obtain ⟨_, k7, k8⟩ := World.cells?_some k6
      have hk := k8 0 hpos
      rw [List.getElem?_eq_getElem (by omega)] at hk
      have := World.cell?_spot hk
      simpa [Addr.add] using this
    subst hspot
    refine ⟨h4, g, o, rfl, ?_, fun j y hy => ?_⟩
    · have := cell_lt h0
      rwa [add_midS, add_midS] at this
    · have := hcell j y hy
      rwa [add_midS, add_midS] at this
end Go.Proofs.YtbjlnlgknegbnaaGreatDoor
namespace Go.Proofs.YtbjlnlgknegbnaaGreatDoor
set_option linter.unusedVariables false
set_option linter.unusedSimpArgs false
open Go.RowKit

/-- What Defend answers and leaves. -/
structure PdR where
  o : Int
  t : Int
  k : Int
  did : Bool
  er : Int
  R : List Nat
  bt : Bt
  dk : Dk
def pdS (R : List Nat) (sf : Int) (r : Nat) (X : NxR) : PdR :=
  if X.er = 0 then ⟨sf, (tgN r : Nat), (kdN r : Nat), true, 0, R.set sf.toNat r, X.bt, X.dk⟩ else ⟨0, 0, 0, false, X.er, R, X.bt, X.dk⟩
def pdF (R : List Nat) (sf : Int) (B : Bt) (d : Dk) : PdR :=
  match dueN R sf with
  | none => ⟨0, 0, 0, false, 0, R, B, d⟩
  | some r => pdS R sf r (rsF B d (tgN r : Nat))
theorem pdS_len (R : List Nat) (sf : Int) (r : Nat) (X : NxR) : (pdS R sf r X).R.length = R.length := by
  unfold pdS
  split
  · exact List.length_set
  · rfl
theorem pdF_len (R : List Nat) (sf : Int) (B : Bt) (d : Dk) : (pdF R sf B d).R.length = R.length := by
  unfold pdF
  split
  · rfl
  · exact pdS_len _ _ _ _
theorem pdS_bt (R : List Nat) (sf : Int) (r : Nat) (X : NxR) : (pdS R sf r X).bt = X.bt ∧ (pdS R sf r X).dk = X.dk := by unfold pdS; split <;> exact ⟨rfl, rfl⟩
theorem pdF_bi {R : List Nat} {sf : Int} {B : Bt} {d : Dk} {i : Nat} (h : BI B d i) : BI (pdF R sf B d).bt (pdF R sf B d).dk (i + 1) := by
  unfold pdF
  split
  · exact h.up
  · rename_i r _
    rw [(pdS_bt _ _ _ _).1, (pdS_bt _ _ _ _).2]
    exact h.raise _
/-- The program's Defend. -/
theorem defend_P {w : World} {T g cp : Nat} {R : List Nat} {a : Addr} (h : Tb w T g cp R) (hg : Gl a w) (sf : Int) (b c : Nat) (B : Bt) (d : Dk) (i : Nat) (hB : BtAt w b c B d) (hI : BI B d i) (hi : i ≤ 1000000) (hne : b ≠ T ∧ b ≠ g ∧ c ≠ T ∧ c ≠ g) :
    Calls Tryz.prog 16 #[.pointer (some ⟨T, 0, none⟩), .int .i64 sf, .pointer (some ⟨b, 0, none⟩)] w fun e w' =>
      e = .returned (.tuple #[nV (pdF R sf B d).o (pdF R sf B d).t (pdF R sf B d).k, .bool (pdF R sf B d).did, .int .i64 (pdF R sf B d).er]) ∧ Tb w' T g cp (pdF R sf B d).R ∧ BtAt w' b c (pdF R sf B d).bt (pdF R sf B d).dk ∧ Ch3 w w' b c g := by
  unfold pdF
  cases hd : dueN R sf with
  | none => exact (defend_none h hg sf _ hd).mono fun e w' ⟨h1, h2⟩ => ⟨h1, h.below h2, hB.below h2, Ch3.below h2 _ _ _⟩
  | some r =>
    dsimp only
    obtain ⟨X, hX⟩ : ∃ X, rsF B d (tgN r : Nat) = X := ⟨_, rfl⟩
    rw [hX]
    refine (defend_some h hg sf (some ⟨b, 0, none⟩) r hd b c (fun er W => er = X.er ∧ BtAt W b c X.bt X.dk) ⟨blk_lt hB.boot, blk_lt hB.disk.1⟩ hne
      (fun W hW => (raise_F b c B d (tgN r : Nat) i W (hB.below hW) hI hi).mono (fun e w' ⟨h1, h2, h3⟩ => ⟨X.er, by rw [← hX]; exact h1, h3, rfl, by rw [← hX]; exact h2⟩))
      (fun er W X h1 h2 ⟨h3, h4⟩ => ⟨h3, h4.same h1 h2⟩)).mono ?_
    rintro e w' ⟨er, ⟨rfl, hT⟩, hC, (⟨hne, rfl, hb⟩ | ⟨h0, rfl, hb⟩)⟩
    · unfold pdS
      rw [if_neg hne]
      exact ⟨rfl, hb, hT, hC⟩
    · unfold pdS
      rw [if_pos h0]
      exact ⟨rfl, hb, hT, hC⟩
theorem ChB.ch3 {W X : World} {k o e ob gb : Nat} (h : ChB W X k o e ob gb) : Ch3 W X k e gb := ⟨h.os, h.tape, h.output, h.size, h.other⟩
/-- The document's. -/
theorem rdefend_P {w : World} {g cp : Nat} {R : List Nat} (h : Nb w g cp R) (sf : Int) (k e gb n : Nat) (B : Bt) (d : Dk) (i : Nat) (hK : RbAt w k 0 B) (hR : Rk w e 0 gb n d) (hnn : 256 ≤ n) (hI : BI B d i) (hi : i ≤ 1000000) (hke : k ≠ e ∧ k ≠ gb) (hne : g ≠ k ∧ g ≠ e ∧ g ≠ gb) :
    Calls Tryz.prog 17 #[.agg #[.slice (some ⟨g, 0, none⟩) R.length cp], .int .i64 sf, .pointer (some ⟨k, 0, none⟩), .pointer (some ⟨e, 0, none⟩)] w fun en w' =>
      ∃ g' cp', en = .returned (.tuple #[.agg #[.slice (some ⟨g', 0, none⟩) R.length cp'], nV (pdF R sf B d).o (pdF R sf B d).t (pdF R sf B d).k, .bool (pdF R sf B d).did, .int .i64 (pdF R sf B d).er]) ∧
        Nb w' g' cp' (pdF R sf B d).R ∧ (g' = g ∨ w.heap.size ≤ g') ∧ RbAt w' k 0 (pdF R sf B d).bt ∧ Rk w' e 0 gb n (pdF R sf B d).dk ∧ Ch3 w w' k e gb := by
  unfold pdF
  cases hd : dueN R sf with
  | none => exact (rdefend_none h sf _ _ hd k e gb ⟨hK.lt, hR.lt.1, hR.lt.2⟩ hne).mono fun en w' ⟨h1, h2, h3, h4⟩ => ⟨g, cp, h1, h2, .inl rfl, hK.heap (h4 _ hK.lt), hR.heap (h4 _ hR.lt.1) (h4 _ hR.lt.2), h3⟩
  | some r =>
    dsimp only
    obtain ⟨X, hX⟩ : ∃ X, rsF B d (tgN r : Nat) = X := ⟨_, rfl⟩
    rw [hX]
    refine (rdefend_some h sf (some ⟨k, 0, none⟩) (some ⟨e, 0, none⟩) r hd k e gb (fun er W => er = X.er ∧ RbAt W k 0 X.bt ∧ Rk W e 0 gb n X.dk) ⟨hK.lt, hR.lt.1, hR.lt.2⟩ hne
      (fun W hW => (rraise_F k 0 e 0 gb n B d (tgN r : Nat) i W (hK.below hW) (hR.below hW) hke hnn hI hi).mono (fun en w' ⟨h1, h2, h3, h4⟩ => ⟨X.er, by rw [← hX]; exact h1, h4.ch3, rfl, by rw [← hX]; exact h2, by rw [← hX]; exact h3⟩))
      (fun er W X h1 h2 h3 ⟨h4, h5, h6⟩ => ⟨h4, h5.heap h1, h6.heap h2 h3⟩)).mono ?_
    rintro en w' ⟨er, ⟨rfl, hb, hk⟩, hC, (⟨hne, rfl, hn⟩ | ⟨h0, g', cp', rfl, hn, hgg⟩)⟩
    · unfold pdS
      rw [if_neg hne]
      exact ⟨g, cp, rfl, hn, .inl rfl, hb, hk, hC⟩
    · unfold pdS
      rw [if_pos h0]
      exact ⟨g', cp', rfl, hn, .inr hgg, hb, hk, hC⟩
/-- What the play keeps: the program's side (B d R), the document's (A f S). -/
structure PS (w : World) (c gb e b k T g r : Nat) (n cp N : Nat) (R : List Nat) (B : Bt) (d : Dk) (S : List Nat) (A : Bt) (f : Dk) (g2 cp2 g3 cp3 : Nat) (W : World) : Prop where
  bt : BtAt W b c B d
  tb : Tb W T g cp R
  kb : RbAt W k 0 A
  rk : Rk W e 0 gb n f
  nb : Nb W g3 cp3 S
  rx : W.heap[r]? = some (.cells #[.slice (some ⟨g2, 0, none⟩) N cp2] 46 (0, 0))
  low : Below w.heap.size w W
  len : R.length = N ∧ S.length = N
  o : w.heap.size ≤ c ∧ c < gb ∧ gb < e ∧ e < b ∧ b < k ∧ k < T ∧ k < g ∧ T ≠ g ∧ T < r ∧ g < r
  o3 : T < g3 ∧ g < g3 ∧ g3 ≠ r
section
variable {w W X : World} {c gb e b k T g r n cp N : Nat} {R R' S S' : List Nat} {B B' A A' : Bt} {d d' f f' : Dk} {g2 cp2 g3 cp3 : Nat}
theorem PS.below (h : PS w c gb e b k T g r n cp N R B d S A f g2 cp2 g3 cp3 W) (hb : Below W.heap.size W X) : PS w c gb e b k T g r n cp N R B d S A f g2 cp2 g3 cp3 X :=
  ⟨h.bt.below hb, h.tb.below hb, h.kb.below hb, h.rk.below hb, h.nb.below hb, blk_below' hb h.rx, below_then h.low hb, h.len, h.o, h.o3⟩
theorem PS.prog (h : PS w c gb e b k T g r n cp N R B d S A f g2 cp2 g3 cp3 W) (hC : Ch3 W X b c g) (hB : BtAt X b c B' d') (hT : Tb X T g cp R') (hl : R'.length = N) : PS w c gb e b k T g r n cp N R' B' d' S A f g2 cp2 g3 cp3 X := by
  have h1 := h.o
  have h3 := h.o3
  have hs : ∀ j, j < W.heap.size → j ≠ b → j ≠ c → j ≠ g → X.heap[j]? = W.heap[j]? := hC.block
  exact ⟨hB, hT, h.kb.heap (hs _ h.kb.lt (by omega) (by omega) (by omega)), h.rk.heap (hs _ h.rk.lt.1 (by omega) (by omega) (by omega)) (hs _ h.rk.lt.2 (by omega) (by omega) (by omega)),
    nb_chg h.nb (hs _ h.nb.list.lt (by omega) (by omega) (by omega)), (hs _ (blk_lt h.rx) (by omega) (by omega) (by omega)).trans h.rx, hC.back h.low h.low.size (by omega) (by omega) (by omega), ⟨hl, h.len.2⟩, h.o, h.o3⟩
theorem tb_chg {W X : World} {T g cp : Nat} {R : List Nat} (h : Tb W T g cp R) (h1 : X.heap[T]? = W.heap[T]?) (h2 : X.heap[g]? = W.heap[g]?) : Tb X T g cp R := by
  obtain ⟨c, sp, e, hh⟩ := h.list
  exact ⟨h1.trans h.cell, ⟨c, sp, e, h2.trans hh⟩, h.ne, h.le, h.n⟩
theorem PS.doc (h : PS w c gb e b k T g r n cp N R B d S A f g2 cp2 g3 cp3 W) (hC : Ch3 W X k e gb) (hK : RbAt X k 0 A') (hR : Rk X e 0 gb n f') {g4 cp4 : Nat} (hN : Nb X g4 cp4 S') (hl : S'.length = N) (hg : g4 = g3 ∨ W.heap.size ≤ g4) : PS w c gb e b k T g r n cp N R B d S' A' f' g2 cp2 g4 cp4 X := by
  have h1 := h.o
  have h3 := h.o3
  have hs : ∀ j, j < W.heap.size → j ≠ k → j ≠ e → j ≠ gb → X.heap[j]? = W.heap[j]? := hC.block
  have l1 := blk_lt h.rx
  have l2 := h.tb.lt
  exact ⟨h.bt.same (hs _ (blk_lt h.bt.boot) (by omega) (by omega) (by omega)) (hs _ (blk_lt h.bt.disk.1) (by omega) (by omega) (by omega)), tb_chg h.tb (hs _ l2.1 (by omega) (by omega) (by omega)) (hs _ l2.2 (by omega) (by omega) (by omega)),
    hK, hR, hN, (hs _ l1 (by omega) (by omega) (by omega)).trans h.rx, hC.back h.low h.low.size (by omega) (by omega) (by omega), ⟨h.len.1, hl⟩, h.o, by rcases hg with rfl | hg <;> omega⟩
theorem PS.store (h : PS w c gb e b k T g r n cp N R B d S A f g2 cp2 g3 cp3 W) : PS w c gb e b k T g r n cp N R B d S A f g3 cp3 g3 cp3 (W.setCell ⟨r, 0, none⟩ (.slice (some ⟨g3, 0, none⟩) N cp3)) := by
  have h1 := h.o
  have h3 := h.o3
  have hb := but_set (but_refl W (some r)) (blk_lt h.rx) 0 (.slice (some ⟨g3, 0, none⟩) N cp3)
  have hs : ∀ j, j < W.heap.size → j ≠ r → (W.setCell ⟨r, 0, none⟩ (.slice (some ⟨g3, 0, none⟩) N cp3)).heap[j]? = W.heap[j]? := fun j hj hne => hb.5 j hj (by simpa using hne)
  have l2 := h.tb.lt
  exact ⟨h.bt.same (hs _ (blk_lt h.bt.boot) (by omega)) (hs _ (blk_lt h.bt.disk.1) (by omega)), tb_chg h.tb (hs _ l2.1 (by omega)) (hs _ l2.2 (by omega)),
    h.kb.heap (hs _ h.kb.lt (by omega)), h.rk.heap (hs _ h.rk.lt.1 (by omega)) (hs _ h.rk.lt.2 (by omega)), nb_chg h.nb (hs _ h.nb.list.lt (by omega)),
    by simpa using blk_store h.rx 0 (.slice (some ⟨g3, 0, none⟩) N cp3), h.low.setCell (by simp; omega) _, h.len, h.o, h.o3⟩
end
theorem op_new : (opF Dk.new).er = 0 := by
  have h1 : (bestL Dk.new.bs).2 < 0 := by decide +kernel
  unfold opF
  rw [if_neg (show ¬ Dk.new.off = true by decide), if_pos h1]
  exact first_save15.1
theorem rows311 {w : World} {p : Option Addr} {cap : Nat} {xs : List (List Value)} (h : RowsS w [.rows 3, .int .i64, .bool] (.slice p xs.length cap) xs) {i : Nat} (hi : i < xs.length) :
    ∃ gx ox ys pa ca fz bk, p = some ⟨gx, ox, none⟩ ∧ gx < w.heap.size ∧ (w.cell? ⟨gx, ox + i * 3, none⟩ = some (.slice pa ys.length ca) ∧ w.cell? ⟨gx, ox + i * 3 + 1, none⟩ = some (.int .i64 fz) ∧ w.cell? ⟨gx, ox + i * 3 + 2, none⟩ = some (.bool bk)) ∧ RowsOf w 3 (.slice pa ys.length ca) ys ∧ (Lit.int .i64 fz).wf = true := by
  obtain ⟨p', cap', he, _, _, hx⟩ := h
  injection he with e1 e2 e3
  subst e1 e3
  obtain ⟨hS, gx, ox, rfl, hlt, hc⟩ := hx i _ (List.getElem?_eq_getElem hi)
  obtain ⟨u, u2, u3, hu⟩ : ∃ u u2 u3, xs[i] = [u, u2, u3] := by
    have := hS.len
    generalize xs[i] = l at this
    match l, this with
    | [u, u2, u3], _ => exact ⟨u, u2, u3, rfl⟩
  rw [hu] at hS hc
  obtain ⟨⟨ys, hR, _⟩, ⟨fz, rfl, hw⟩, ⟨bk, rfl⟩, _⟩ := hS
  obtain ⟨pa, ca, rfl, _⟩ := id hR
  refine ⟨gx, ox, ys, pa, ca, fz, bk, rfl, hlt, ⟨?_, ?_, ?_⟩, hR, hw⟩
  · have := hc 0 _ rfl
    simpa using this
  · have := hc 1 _ rfl
    simpa using this
  · have := hc 2 _ rfl
    simpa using this
end Go.Proofs.YtbjlnlgknegbnaaGreatDoor
namespace Go.Proofs.YtbjlnlgknegbnaaGreatDoor
set_option linter.unusedVariables false
set_option linter.unusedSimpArgs false
open Go.RowKit

theorem Chg.ch3 {W X : World} {e o gb : Nat} (h : Chg W X e o gb) (k : Nat) : Ch3 W X k e gb := ⟨h.os, h.tape, h.output, h.size, fun j hj _ h1 h2 => h.other j hj h1 h2⟩
section
variable {w W X : World} {c gb e b k T g r n cp N : Nat} {R R' S S' : List Nat} {B B' A A' : Bt} {d d' f f' : Dk} {g2 cp2 g3 cp3 : Nat}
theorem PS.disk (h : PS w c gb e b k T g r n cp N R B d S A f g2 cp2 g3 cp3 W) (hg : W.grownBy X (some c)) (hD : DkAt X c d') : PS w c gb e b k T g r n cp N R B d' S A f g2 cp2 g3 cp3 X :=
  h.prog (Ch3.two (Ch2.two hg b) g) (h.bt.turn hg hD) (h.tb.other hg (by have := h.o; omega) (by have := h.o; omega)) h.len.1
theorem PS.book (h : PS w c gb e b k T g r n cp N R B d S A f g2 cp2 g3 cp3 W) (hg : W.grownBy X (some g)) (hT : Tb X T g cp R') (hl : R'.length = N) : PS w c gb e b k T g r n cp N R' B d S A f g2 cp2 g3 cp3 X :=
  h.prog (Ch3.one hg b c) (h.bt.same (hg.5 _ (blk_lt h.bt.boot) (by have := h.o; simp; omega)) (hg.5 _ (blk_lt h.bt.disk.1) (by have := h.o; simp; omega))) hT hl
theorem PS.ref (h : PS w c gb e b k T g r n cp N R B d S A f g2 cp2 g3 cp3 W) (hC : Chg W X e 0 gb) (hR : Rk X e 0 gb n f') : PS w c gb e b k T g r n cp N R B d S A f' g2 cp2 g3 cp3 X :=
  h.doc (hC.ch3 k) (h.kb.heap (hC.other _ h.kb.lt (by have := h.o; omega) (by have := h.o; omega))) hR (nb_chg h.nb (hC.other _ h.nb.list.lt (by have := h.o; have := h.o3; omega) (by have := h.o; have := h.o3; omega))) h.len.2 (.inl rfl)
theorem PS.back (h : PS w c gb e b k T g r n cp N R B d S A f g2 cp2 g3 cp3 W) (v : Bool) : PS w c gb e b k T g r n cp N R B d S A { f with off := v } g2 cp2 g3 cp3 (W.setCell ⟨e, 1, none⟩ (.bool v)) :=
  h.ref (by have := (Chg.refl W e 0 gb).set 1 (.bool v) (by decide) h.rk.lt.1; rwa [Nat.zero_add] at this) (by have := h.rk.off v; rwa [Nat.zero_add] at this)
theorem PS.row (h : PS w c gb e b k T g r n cp N R B d S A f g2 cp2 g3 cp3 W) {g4 cp4 : Nat} (hb : Below W.heap.size W X) (hN : Nb X g4 cp4 S') (hl : S'.length = N) (hg : g4 = g3 ∨ W.heap.size ≤ g4) : PS w c gb e b k T g r n cp N R B d S' A f g2 cp2 g4 cp4 X :=
  h.doc (Ch3.below hb _ _ _) (h.kb.below hb) (h.rk.below hb) hN hl hg
end
theorem BI.off {B : Bt} {d : Dk} {i : Nat} (h : BI B d i) (v : Bool) : BI B { d with off := v } (i + 1) := ⟨h.dk.off v, h.rnd⟩
theorem BI.fuse {B : Bt} {d : Dk} {i : Nat} (h : BI B d i) (k : Int) (hk : (Lit.int .i64 k).wf = true) : BI B { d with fused := decide (0 ≤ k), fuse := k.toNat } (i + 1) := ⟨h.dk.fuse k hk, h.rnd⟩
theorem BI.more {B : Bt} {d : Dk} {i j : Nat} (h : BI B d i) (hj : i ≤ j) : BI B d j := ⟨⟨h.dk.lt, Nat.le_trans h.dk.wr (by omega), h.dk.fz⟩, h.rnd⟩
/-- What the comparison reads. -/
def Pl7 (px py r g4 cp4 N k e gb n : Nat) (O T K : Int) (B : Bt) (W : World) : Prop :=
  Bx3 px O T K W ∧ Bx3 py O T K W ∧ W.cell? ⟨r, 0, none⟩ = some (.slice (some ⟨g4, 0, none⟩) N cp4) ∧
  (W.cell? ⟨k, 0, none⟩ = some (.int .i64 (B.life : Int)) ∧ W.cell? ⟨k, 1, none⟩ = some (.int .i64 (B.kround : Int)) ∧ W.cell? ⟨k, 2, none⟩ = some (.int .i64 (B.ktag : Int)) ∧ W.cell? ⟨k, 5, none⟩ = some (.int .i64 (B.tag : Int))) ∧
  W.cell? ⟨e, 0, none⟩ = some (.slice (some ⟨gb, 0, none⟩) 256 n)
/-- One round, but its comparison: the two sides, the two answers beside. -/
structure PX (w : World) (c gb e b k T g r n cp N : Nat) (R : List Nat) (B : Bt) (d : Dk) (g4 cp4 px py : Nat) (O Tt K : Int) (W : World) : Prop where
  ps : PS w c gb e b k T g r n cp N R B d R B d g4 cp4 g4 cp4 W
  x : W.heap[px]? = some (.cells #[.int .i64 O, .int .i64 Tt, .int .i64 K] 60 (0, 0))
  y : W.heap[py]? = some (.cells #[.int .i64 O, .int .i64 Tt, .int .i64 K] 60 (0, 0))
theorem PX.below {w W X : World} {c gb e b k T g r n cp N : Nat} {R : List Nat} {B : Bt} {d : Dk} {g4 cp4 px py : Nat} {O Tt K : Int} (h : PX w c gb e b k T g r n cp N R B d g4 cp4 px py O Tt K W) (hb : Below W.heap.size W X) : PX w c gb e b k T g r n cp N R B d g4 cp4 px py O Tt K X := ⟨h.ps.below hb, blk_below' hb h.x, blk_below' hb h.y⟩
theorem PX.c9 {w W : World} {c gb e b k T g r n cp N : Nat} {R : List Nat} {B : Bt} {d : Dk} {g4 cp4 px py : Nat} {O Tt K : Int} (h : PX w c gb e b k T g r n cp N R B d g4 cp4 px py O Tt K W) : Pl7 px py r g4 cp4 N k e gb n O Tt K B W := by
  obtain ⟨⟨y0, y1, y2, y3, y4, y5⟩, _⟩ := h.ps.kb.cells
  rw [Nat.zero_add] at y1 y2 y5
  exact ⟨⟨blk_cell h.x 0, blk_cell h.x 1, blk_cell h.x 2⟩, ⟨blk_cell h.y 0, blk_cell h.y 1, blk_cell h.y 2⟩, blk_cell h.ps.rx 0, ⟨y0, y1, y2, y5⟩, h.ps.rk.cells.1⟩
set_option maxRecDepth 100000 in
set_option maxHeartbeats 8000000 in
theorem refutePlays_in (n s : Nat) (hn : 1 ≤ n ∧ n ≤ 100) (hs : s < n) (v : Value) (xs : List (List Value)) (w : World) {a : Addr} (hg : Gl a w) (hrow : RowsS w [.rows 3, .int .i64, .bool] v xs) (hlen : xs.length ≤ 40) :
    Calls Tryz.prog 3 #[.int .i64 (n : Int), .int .i64 (s : Int), v] w fun e w' => e = .returned (.bool true) ∧ Below w.heap.size w w' := by
  have hop := op_new
  have hbi := (spI_new).open
  have HFO := Lib.hid (fun W (h : DkAt W w.heap.size Dk.new) => bopen_F w.heap.size Dk.new 0 W h spI_new (by decide))
  have HSO := Lib.hid (fun W rb gb m (h : Rk W rb 0 gb m Dk.new) (hm : 256 ≤ m) => ropen_F rb 0 gb m Dk.new 0 W h hm spI_new (by decide))
  obtain ⟨Q, hQ⟩ : ∃ R, opF Dk.new = R := ⟨_, rfl⟩
  rw [hQ] at hop hbi HFO HSO
  obtain ⟨rv, er, B0, D0⟩ := Q
  dsimp only at hop hbi HFO HSO
  subst hop
  have HBI := Lib.hid hbi
  have HG := Lib.hid hg
  have HR := Lib.hid hrow
  have HN := Lib.hid hn
  have HS0 := Lib.hid hs
  have HL := Lib.hid hlen
  obtain ⟨p, cap, rfl, hm1, hm2, _⟩ := hrow
  have a1 : ¬ (40 : Int) < (xs.length : Int) := by omega
  clear hQ hbi hg hm1 hm2 hn hs hlen
  go_enter Tryz.func3, Tryz.ntmps3
  go_wp2_with fail
  refine (new_any _).mono ?_
  rintro e w1 ⟨rfl, hD1, hB1⟩
  go_wp2_with fail
  refine (refNew_any _).mono ?_
  rintro e w2 ⟨v1, rfl, ⟨gb, m, rest, rfl, hm, hgb, hcs, hcl⟩, hB2⟩
  have hv : rkV gb m Dk.new = .agg #[.slice (some ⟨gb, 0, none⟩) 256 m, .bool false, .int .i64 (-1), .int .i64 0] := rfl
  rw [hv]
  clear hv
  go_upto_region 4 with fail
  have hal := (Below.refl w2.heap.size w2).alloc (Nat.le_refl _) (.cells #[.slice (some ⟨gb, 0, none⟩) 256 m, .bool false, .int .i64 (-1), .int .i64 0] 28)
  have HM := Lib.hid hm
  have HO1 : Hid (w.heap.size < gb ∧ gb < w2.heap.size) := ⟨by have := hD1.lt; omega, blk_lt hcs⟩
  have HK3 : Hid (Rk (w2.alloc (.cells #[.slice (some ⟨gb, 0, none⟩) 256 m, .bool false, .int .i64 (-1), .int .i64 0] 28)) w2.heap.size 0 gb m Dk.new) :=
    .ofBox (t := 28) (rest := rest) (blk_new w2 _) (blk_below' hal hcs) hcl (by have := blk_lt hcs; omega)
  have HD3 := Lib.hid ((hD1.below hB2).below hal)
  have HB3 := Lib.hid (below_then (below_then hB1 hB2) hal)
  have HE3 : Hid (w2.heap.size < (w2.alloc (.cells #[.slice (some ⟨gb, 0, none⟩) 256 m, .bool false, .int .i64 (-1), .int .i64 0] 28)).heap.size) := HK3.out.lt.1
  obtain ⟨e, he⟩ : ∃ e, w2.heap.size = e := ⟨_, rfl⟩
  rw [he] at HK3 HO1 HE3
  (try rw [he])
  clear he hal hD1 hB1 hB2 hm hgb hcs hcl
  generalize World.alloc w2 _ = w3 at *
  go_wp2_with fail
  refine (HFO.out _ HD3.out).mono ?_
  rintro en w4 ⟨h0, _, hg4⟩
  obtain ⟨b, rfl, hb, hT4⟩ := h0 rfl
  have HO2 : Hid (e < b) := Lib.hid (by have := HE3.out; omega)
  have HK4 : Hid (Rk w4 e 0 gb m Dk.new) := Lib.hid (HK3.out.heap (hg4.5 _ HK3.out.lt.1 (by have := HO1.out; simp; omega)) (hg4.5 _ HK3.out.lt.2 (by have := HO1.out; simp; omega)))
  have HT4 := Lib.hid hT4
  have HB4 := Lib.hid (HB3.out.grown hg4 HB3.out.size (fun j h => by cases h; exact Nat.le_refl _))
  clear h0 hg4 hb hT4 HD3 HK3 HB3 HE3 HFO
  go_wp2_with fail
  refine (HSO.out _ e gb m HK4.out HM.out).mono ?_
  rintro en w5 ⟨k0, _, hC5⟩
  obtain ⟨rfl, hK5⟩ := k0 rfl
  dsimp only at hK5
  unfold rbV rbC
  have hbb := blk_lt HT4.out.boot
  have hcc := blk_lt HT4.out.disk.1
  have HT5 : Hid (BtAt w5 b w.heap.size B0 D0) := Lib.hid (HT4.out.same (hC5.other _ hbb (by have := HO2.out; omega) (by have := HO1.out; have := HO2.out; omega)) (hC5.other _ hcc (by have := HO1.out; omega) (by have := HO1.out; omega)))
  have HB5 := Lib.hid (HB4.out.trans (hC5.low (by have := HO1.out; omega) (by have := HO1.out; omega) HB4.out.size))
  have HK5 := Lib.hid hK5
  have HO3 : Hid (b < w5.heap.size) := Lib.hid (blk_lt HT5.out.boot)
  clear k0 hC5 hK5 HT4 HB4 HK4 HSO hbb hcc
  go_upto_region 6 with fail
  have hal := (Below.refl w5.heap.size w5).alloc (Nat.le_refl _) (.cells #[.int .i64 (B0.life : Int), .int .i64 (B0.kround : Int), .int .i64 (B0.ktag : Int), .int .i64 (B0.life : Int), .int .i64 (B0.round : Int), .int .i64 (B0.tag : Int)] 37)
  have HQ6 : Hid (RbAt (w5.alloc (.cells #[.int .i64 (B0.life : Int), .int .i64 (B0.kround : Int), .int .i64 (B0.ktag : Int), .int .i64 (B0.life : Int), .int .i64 (B0.round : Int), .int .i64 (B0.tag : Int)] 37)) w5.heap.size 0 B0) :=
    Lib.hid ⟨_, _, blk_new w5 _, fun j x hx => by rw [Nat.zero_add, List.getElem?_toArray]; exact hx⟩
  have HT6 := Lib.hid (HT5.out.below hal)
  have HK6 := Lib.hid (HK5.out.below hal)
  have HB6 := Lib.hid (below_then HB5.out hal)
  obtain ⟨k, hk⟩ : ∃ k, w5.heap.size = k := ⟨_, rfl⟩
  rw [hk] at HQ6 HO3
  (try rw [hk])
  clear hk hal HT5 HK5 HB5
  generalize World.alloc w5 _ = w6 at *
  have HO4 : Hid (k < w6.heap.size) := Lib.hid HQ6.out.lt
  go_wp2_with fail
  refine (tnew_yes n s 0 HN.out HS0.out (by decide) w6).mono ?_
  rintro en w7 ⟨T, g, rfl, hT, hTB, hTg, hb7⟩
  have HTT := Lib.hid hT
  have HO5 : Hid (k < T ∧ k < g ∧ T < w7.heap.size ∧ g < w7.heap.size) := Lib.hid (by have := HO4.out; have := hT.lt; omega)
  have HT7 := Lib.hid (HT6.out.below hb7)
  have HQ7 := Lib.hid (HQ6.out.below hb7)
  have HK7 := Lib.hid (HK6.out.below hb7)
  have HB7 := Lib.hid (below_then HB6.out hb7)
  clear hT hTB hTg hb7 HT6 HQ6 HK6 HB6
  go_wp2_with fail
  refine (refNew_yes n s 0 HN.out HS0.out (by decide) w7).mono ?_
  rintro en w8 ⟨g3, cp3, rfl, hNb, hg3, hb8⟩
  have hll := bk0_len n s 0
  have hPS : PS w w.heap.size gb e b k T g w8.heap.size m n n (bk0 n s 0) B0 D0 (bk0 n s 0) B0 D0 g3 cp3 g3 cp3 (w8.alloc (.cells #[.slice (some ⟨g3, 0, none⟩) n cp3] 46)) := by
    have hal := (Below.refl w8.heap.size w8).alloc (Nat.le_refl _) (.cells #[.slice (some ⟨g3, 0, none⟩) n cp3] 46)
    have hb9 := below_then hb8 hal
    have h1 := HO1.out
    have h2 := HO2.out
    have h3 := HO3.out
    have h5 := HO5.out
    have h6 := hb8.size
    have h7 := hNb.list.lt
    have h8 := HTT.out.ne
    exact ⟨HT7.out.below hb9, HTT.out.below hb9, HQ7.out.below hb9, HK7.out.below hb9, hNb.below hal, blk_new w8 _, below_then HB7.out hb9, ⟨hll, hll⟩, ⟨by omega, by omega, by omega, by omega, by omega, by omega, by omega, by omega, by omega, by omega⟩, ⟨by omega, by omega, by omega⟩⟩
  have HPS := Lib.hid hPS
  clear hPS hll hNb hg3 hb8 HTT HT7 HQ7 HK7 HB7 HO1 HO2 HO3 HO4 HO5
  go_upto_region 8 with fail
  obtain ⟨r, hr⟩ : ∃ r, w8.heap.size = r := ⟨_, rfl⟩
  rw [hr] at HPS
  (try rw [hr])
  clear hr
  generalize World.alloc w8 _ = w9 at *
  generalize bk0 n s 0 = R0 at *
  go_wp2_with fail
  go_loopw [17] (fun iv wr => ∃ (i : Nat) (R : List Nat) (B : Bt) (d : Dk) (g3 cp3 : Nat), iv = .int .i64 i ∧ i ≤ xs.length ∧ Hid (BI B d (1 + 3 * i)) ∧ Hid (PS w w.heap.size gb e b k T g r m n n R B d R B d g3 cp3 g3 cp3 wr)) (fun iv _ => xs.length - (intOf iv).toNat)
  case atStart => exact ⟨0, R0, B0, D0, g3, cp3, rfl, by omega, HBI, HPS⟩
  case round =>
    clear HPS HBI
    obtain ⟨i, R, B, d, g3, cp3, rfl, hi, HI, HS⟩ := hrel
    by_cases hlt : i < xs.length
    · obtain ⟨gx, ox, ys, pa, ca, fz, bk, rfl, hgx, ⟨c0, c1, c2⟩, hys, hwf⟩ := rows311 HR.out hlt
      have i1 : (i : Int) < (xs.length : Int) := by omega
      have i2 : (0 : Int) ≤ (i : Int) := by omega
      have i3 : (i : Int).toNat = i := Int.toNat_natCast i
      have HYS := Lib.hid hys
      have HWF := Lib.hid hwf
      have HLT := Lib.hid hlt
      have HIN := Lib.hid (show 1 + 3 * i ≤ 900000 by have := HL.out; omega)
      have c0 := (HS.out.low.cell hgx).trans c0
      have c1 := (HS.out.low.cell hgx).trans c1
      have c2 := (HS.out.low.cell hgx).trans c2
      clear hys hwf hlt hi
      go_upto_region 16 with fail
      clear c0 c1 c2 hgx
      have hal := (Below.refl wr.heap.size wr).alloc (Nat.le_refl _) (.cells #[.slice pa ys.length ca, .int .i64 fz, .bool bk] 50)
      have HPO : Hid (r < wr.heap.size ∧ g3 < wr.heap.size) := Lib.hid ⟨blk_lt HS.out.rx, HS.out.nb.list.lt⟩
      have HS := Lib.hid (HS.out.below hal)
      have HOB := Lib.hid (blk_new wr (.cells #[.slice pa ys.length ca, .int .i64 fz, .bool bk] 50))
      obtain ⟨po, hpo⟩ : ∃ p, wr.heap.size = p := ⟨_, rfl⟩
      rw [hpo] at HOB HPO
      (try rw [hpo])
      clear hpo hal
      generalize World.alloc wr _ = w10 at *
      by_cases hbig : 300 < ys.length
      · have b1 : (300 : Int) < (ys.length : Int) := by omega
        have c0 := blk_cell HOB.out 0
        clear hbig
        go_wp2_with fail
        go_ret
        exact ⟨rfl, HS.out.low⟩
      · have b1 : ¬ (300 : Int) < (ys.length : Int) := by omega
        clear hbig
        have c0 := blk_cell HOB.out 0
        have c2 := blk_cell HOB.out 2
        go_upto_if 74 with fail
        clear b1
        go_cut [] (fun wx => ∃ d1 : Dk, Hid (BI B d1 (2 + 3 * i)) ∧ Hid (PS w w.heap.size gb e b k T g r m n n R B d1 R B d1 g3 cp3 g3 cp3 wx) ∧ Hid (wx.heap[po]? = some (.cells #[.slice pa ys.length ca, .int .i64 fz, .bool bk] 50 (0, 0))))
        case first =>
          clear c0
          cases bk with
          | true =>
            go_wp2_with fail
            refine (restore_any _ d _ HS.out.bt.disk).mono ?_
            rintro en w11 ⟨rfl, hD, hg⟩
            have HOB := Lib.hid (blk_grown hg HOB.out (by have := HS.out.o; have := HPO.out; simp; omega))
            have HS := Lib.hid (HS.out.disk hg hD)
            have z1 : w11.cell? ⟨e, 1, none⟩ = some (.bool d.off) := by have := HS.out.rk.cells.2.1; rwa [Nat.zero_add] at this
            have f1 : w11.frozen? ⟨e, 1, none⟩ = false := by have := HS.out.rk.free.2.1; rwa [Nat.zero_add] at this
            clear hD hg c2
            go_wp2_with fail
            go_meet
            exact ⟨_, Lib.hid ((HI.out.off false).more (by omega)), Lib.hid (HS.out.back false), Lib.hid (blk_set HOB.out ⟨e, 1, none⟩ _ (by have := HS.out.o; have := HPO.out; simp; omega))⟩
          | false =>
            go_wp2_with fail
            go_meet
            exact ⟨d, Lib.hid (HI.out.more (by omega)), HS, HOB⟩
        case rest =>
          clear c0 c2 HS HI HOB
          obtain ⟨d1, HI, HS, HOB⟩ := hcut
          have c1 := blk_cell HOB.out 1
          go_upto_if 80 with fail
          go_cut [] (fun wx => ∃ d1 : Dk, Hid (BI B d1 (3 + 3 * i)) ∧ Hid (PS w w.heap.size gb e b k T g r m n n R B d1 R B d1 g3 cp3 g3 cp3 wx) ∧ Hid (wx.heap[po]? = some (.cells #[.slice pa ys.length ca, .int .i64 fz, .bool bk] 50 (0, 0))))
          case first =>
            by_cases hf : 0 ≤ fz
            · have hf2 : fz ≥ 0 := hf
              go_wp2_with fail
              refine (fuse_any _ d1 fz _ HS.out.bt.disk).mono ?_
              rintro en w12 ⟨rfl, hD, hg⟩
              have HOB := Lib.hid (blk_grown hg HOB.out (by have := HS.out.o; have := HPO.out; simp; omega))
              have HS := Lib.hid (HS.out.disk hg hD)
              clear hD hg c1
              have c1 := blk_cell HOB.out 1
              go_wp2_with fail
              refine (refSet_any e 0 gb m d1 fz _ HS.out.rk).mono ?_
              rintro en w13 ⟨rfl, hR, hC⟩
              have HOB := Lib.hid (hC.blk HOB.out (by have := HS.out.o; have := HPO.out; omega) (by have := HS.out.o; have := HPO.out; omega))
              have HS := Lib.hid (HS.out.ref hC hR)
              clear hR hC c1
              go_wp2_with fail
              go_meet
              exact ⟨_, Lib.hid ((HI.out.fuse fz HWF.out).more (by omega)), HS, HOB⟩
            · have hf2 : ¬ fz ≥ 0 := hf
              go_wp2_with fail
              go_meet
              exact ⟨d1, Lib.hid (HI.out.more (by omega)), HS, HOB⟩
          case rest =>
            clear c1 HS HI HOB
            obtain ⟨d2, HI, HS, HOB⟩ := hcut
            have c0 := blk_cell HOB.out 0
            go_wp2_with fail
            refine (merge_any (.slice pa ys.length ca) ys HS.out.tb (fun W hW => HYS.out.below (HS.out.low.grown hW HS.out.low.size (fun j hj => by cases hj; have := HS.out.o; omega)))).mono ?_
            rintro en w14 ⟨⟨ym, em, rfl⟩, hT, hg⟩
            have HOB := Lib.hid (blk_grown hg HOB.out (by have := HS.out.o; have := HPO.out; simp; omega))
            have HS := Lib.hid (HS.out.book hg hT ((mgR_len _ _).trans HS.out.len.1))
            clear hT hg c0
            have c0 := blk_cell HOB.out 0
            have r0 := blk_cell HS.out.rx 0
            go_wp2_with fail
            have HMR := Lib.hid (refMerge_any (.slice pa ys.length ca) ys HS.out.nb (HYS.out.below HS.out.low))
            rw [HS.out.len.2] at HMR
            refine HMR.out.mono ?_
            rintro en w15 ⟨⟨g4, cp4, yy, em2, rfl, hN, hg4⟩, hB⟩
            have HS := Lib.hid (HS.out.row hB hN ((mgR_len _ _).trans HS.out.len.2) hg4)
            clear hN hg4 hB c0 r0 HMR HOB HPO
            generalize mgR R ys = R1 at *
            have r0 := blk_cell HS.out.rx 0
            have fr := blk_free HS.out.rx 0
            go_upto_region 26 with fail
            have HS := Lib.hid HS.out.store
            clear r0 fr
            generalize World.setCell w15 _ _ = w16 at *
            have hpl := pdF_len R1 (s : Int) B d2
            have hpi := pdF_bi (R := R1) (sf := (s : Int)) HI.out
            have HD1 := Lib.hid (defend_P HS.out.tb (HG.out.of HS.out.low) (s : Int) b w.heap.size B d2 (3 + 3 * i) HS.out.bt HI.out (by have := HIN.out; omega) (by have := HS.out.o; omega))
            have HD2 := Lib.hid (fun (W : World) (R' : List Nat) (B' : Bt) (d' : Dk) (h : PS w w.heap.size gb e b k T g r m n n R' B' d' R1 B d2 g4 cp4 g4 cp4 W) =>
              rdefend_P h.nb (s : Int) k e gb m B d2 (3 + 3 * i) h.kb h.rk HM.out HI.out (by have := HIN.out; omega) (by have := h.o; omega) (by have := h.o; have := h.o3; omega))
            rw [HS.out.len.2] at HD2 hpl
            unfold nV at HD1 HD2
            obtain ⟨P, hP⟩ : ∃ P, pdF R1 (s : Int) B d2 = P := ⟨_, rfl⟩
            rw [hP] at hpl hpi HD1 HD2
            obtain ⟨O, Tt, K, did, er2, R2, B2, d3⟩ := P
            dsimp only at hpl hpi HD1 HD2
            have HPL := Lib.hid hpl
            have HI := Lib.hid hpi
            clear hP hpl hpi
            go_wp2_with fail
            refine HD1.out.mono ?_
            rintro en w17 ⟨rfl, hT, hBt, hC⟩
            have HS := Lib.hid (HS.out.prog hC hBt hT HPL.out)
            clear hC hBt hT HD1
            go_upto_region 27 with fail
            have hal := (Below.refl w17.heap.size w17).alloc (Nat.le_refl _) (.cells #[.int .i64 O, .int .i64 Tt, .int .i64 K] 60)
            have HPX : Hid (r < w17.heap.size) := Lib.hid (blk_lt HS.out.rx)
            have HS := Lib.hid (HS.out.below hal)
            have HX := Lib.hid (blk_new w17 (.cells #[.int .i64 O, .int .i64 Tt, .int .i64 K] 60))
            obtain ⟨px, hpx⟩ : ∃ p, w17.heap.size = p := ⟨_, rfl⟩
            rw [hpx] at HX HPX
            (try rw [hpx])
            clear hpx hal
            generalize World.alloc w17 _ = w18 at *
            have r0 := blk_cell HS.out.rx 0
            go_wp2_with fail
            refine (HD2.out _ R2 B2 d3 HS.out).mono ?_
            rintro en w19 ⟨g5, cp5, rfl, hN, hg5, hK, hRk, hC⟩
            have HX := Lib.hid (hC.blk HX.out (by have := HS.out.o; have := HPX.out; omega) (by have := HS.out.o; have := HPX.out; omega) (by have := HS.out.o; have := HPX.out; omega))
            have HS := Lib.hid (HS.out.doc hC hK hRk hN HPL.out hg5)
            clear hC hK hRk hN hg5 r0 HD2
            go_upto_region 28 with fail
            have hal := ((Below.refl w19.heap.size w19).alloc (Nat.le_refl _) (.cells #[.slice (some ⟨g5, 0, none⟩) n cp5] 46)).alloc (by simp) (.cells #[.int .i64 O, .int .i64 Tt, .int .i64 K] 60)
            have HPY : Hid (r < w19.heap.size) := Lib.hid (blk_lt HS.out.rx)
            have HS := Lib.hid (HS.out.below hal)
            have HX := Lib.hid (blk_below' hal HX.out)
            have HC := Lib.hid (blk_old (blk_new w19 (.cells #[.slice (some ⟨g5, 0, none⟩) n cp5] 46)) (.cells #[.int .i64 O, .int .i64 Tt, .int .i64 K] 60))
            have HY := Lib.hid (b1 w19 (.cells #[.slice (some ⟨g5, 0, none⟩) n cp5] 46) (.cells #[.int .i64 O, .int .i64 Tt, .int .i64 K] 60))
            obtain ⟨pc, hpc⟩ : ∃ p, w19.heap.size = p := ⟨_, rfl⟩
            rw [hpc] at HY HPY HC
            (try rw [hpc])
            clear hpc hal
            generalize World.alloc (World.alloc w19 _) _ = w20 at *
            have c0 := blk_cell HC.out 0
            have r0 := blk_cell HS.out.rx 0
            have fr := blk_free HS.out.rx 0
            go_upto_region 29 with fail
            have HZ : Hid (PX w w.heap.size gb e b k T g r m n n R2 B2 d3 g5 cp5 px (pc + 1) O Tt K (w20.setCell ⟨r, 0, none⟩ (.slice (some ⟨g5, 0, none⟩) n cp5))) :=
              Lib.hid ⟨HS.out.store, blk_set HX.out _ _ (by have := HPX.out; simp; omega), blk_set HY.out _ _ (by have := HPY.out; simp; omega)⟩
            clear c0 r0 fr HS HX HY HC HPX HPY
            generalize World.setCell w20 _ _ = w21 at *
            obtain ⟨py, hpy⟩ : ∃ p, pc + 1 = p := ⟨_, rfl⟩
            rw [hpy] at HZ
            (try rw [hpy])
            clear hpy
            refine wp_region_early (Pl7 px py r g5 cp5 n k e gb m O Tt K B2) (fun _ => false) (by kernel_rfl) ?_
            simp only [List.size_toArray, List.length_cons, List.length_nil, Nat.reduceAdd, Array.replicate_succ, Array.replicate_zero, List.push_toArray, List.nil_append, List.cons_append]
            have HZ := Lib.hid (HZ.out.below ((Below.refl _ w21).drew))
            generalize World.drew w21 = w22 at *
            have hSS := HZ.out.c9
            refine wpAnyE_take (i := 0) (v := ?_) rfl (by kernel_rfl) (by kernel_rfl) (by kernel_rfl) (by kernel_rfl) (fun _ _ _ h => h) (Or.inl ⟨by rfl, ?_⟩) hSS ?_
            rotate_left
            · intro w hSw
              obtain ⟨⟨j0, j1, j2⟩, ⟨m0, m1, m2⟩, q0, ⟨u0, u1, u2, u5⟩, z0⟩ := hSw
              go_simp
              all_goals with_reducible rfl
            simp only [Act.put, List.setIfInBounds_toArray, List.set_cons_zero, List.set_cons_succ, List.getElem_toArray, List.getElem_cons_zero, List.getElem_cons_succ]
            refine wpAnyE_take (i := 1) (v := ?_) rfl (by kernel_rfl) (by kernel_rfl) (by kernel_rfl) (by kernel_rfl) (fun _ _ _ h => h) (Or.inl ⟨by rfl, ?_⟩) hSS ?_
            rotate_left
            · intro w hSw
              obtain ⟨⟨j0, j1, j2⟩, ⟨m0, m1, m2⟩, q0, ⟨u0, u1, u2, u5⟩, z0⟩ := hSw
              go_simp
              all_goals with_reducible rfl
            simp only [Act.put, List.setIfInBounds_toArray, List.set_cons_zero, List.set_cons_succ, List.getElem_toArray, List.getElem_cons_zero, List.getElem_cons_succ]
            refine wpAnyE_take (i := 2) (v := ?_) rfl (by kernel_rfl) (by kernel_rfl) (by kernel_rfl) (by kernel_rfl) (fun _ _ _ h => h) (Or.inl ⟨by rfl, ?_⟩) hSS ?_
            rotate_left
            · intro w hSw
              obtain ⟨⟨j0, j1, j2⟩, ⟨m0, m1, m2⟩, q0, ⟨u0, u1, u2, u5⟩, z0⟩ := hSw
              go_simp
              all_goals with_reducible rfl
            simp only [Act.put, List.setIfInBounds_toArray, List.set_cons_zero, List.set_cons_succ, List.getElem_toArray, List.getElem_cons_zero, List.getElem_cons_succ]
            refine wpAnyE_take (i := 3) (v := ?_) rfl (by kernel_rfl) (by kernel_rfl) (by kernel_rfl) (by kernel_rfl) (fun _ _ _ h => h) (Or.inl ⟨by rfl, ?_⟩) hSS ?_
            rotate_left
            · intro w hSw
              obtain ⟨⟨j0, j1, j2⟩, ⟨m0, m1, m2⟩, q0, ⟨u0, u1, u2, u5⟩, z0⟩ := hSw
              go_simp
              all_goals with_reducible rfl
            simp only [Act.put, List.setIfInBounds_toArray, List.set_cons_zero, List.set_cons_succ, List.getElem_toArray, List.getElem_cons_zero, List.getElem_cons_succ]
            refine wpAnyE_take (i := 4) (v := ?_) rfl (by kernel_rfl) (by kernel_rfl) (by kernel_rfl) (by kernel_rfl) (fun _ _ _ h => h) (Or.inl ⟨by rfl, ?_⟩) hSS ?_
            rotate_left
            · intro w hSw
              obtain ⟨⟨j0, j1, j2⟩, ⟨m0, m1, m2⟩, q0, ⟨u0, u1, u2, u5⟩, z0⟩ := hSw
              go_simp
              all_goals with_reducible rfl
            simp only [Act.put, List.setIfInBounds_toArray, List.set_cons_zero, List.set_cons_succ, List.getElem_toArray, List.getElem_cons_zero, List.getElem_cons_succ]
            refine wpAnyE_take (i := 5) (v := ?_) rfl (by kernel_rfl) (by kernel_rfl) (by kernel_rfl) (by kernel_rfl) (fun _ _ _ h => h) (Or.inl ⟨by rfl, ?_⟩) hSS ?_
            rotate_left
            · intro w hSw
              obtain ⟨⟨j0, j1, j2⟩, ⟨m0, m1, m2⟩, q0, ⟨u0, u1, u2, u5⟩, z0⟩ := hSw
              go_simp
              all_goals with_reducible rfl
            simp only [Act.put, List.setIfInBounds_toArray, List.set_cons_zero, List.set_cons_succ, List.getElem_toArray, List.getElem_cons_zero, List.getElem_cons_succ]
            refine wpAnyE_take (i := 6) (v := ?_) rfl (by kernel_rfl) (by kernel_rfl) (by kernel_rfl) (by kernel_rfl) (fun _ _ _ h => h) (Or.inl ⟨by rfl, ?_⟩) hSS ?_
            rotate_left
            · intro w hSw
              obtain ⟨⟨j0, j1, j2⟩, ⟨m0, m1, m2⟩, q0, ⟨u0, u1, u2, u5⟩, z0⟩ := hSw
              go_simp
              all_goals with_reducible rfl
            simp only [Act.put, List.setIfInBounds_toArray, List.set_cons_zero, List.set_cons_succ, List.getElem_toArray, List.getElem_cons_zero, List.getElem_cons_succ]
            refine wpAnyE_take (i := 7) (v := ?_) rfl (by kernel_rfl) (by kernel_rfl) (by kernel_rfl) (by kernel_rfl) (fun _ _ _ h => h) (Or.inl ⟨by rfl, ?_⟩) hSS ?_
            rotate_left
            · intro w hSw
              obtain ⟨⟨j0, j1, j2⟩, ⟨m0, m1, m2⟩, q0, ⟨u0, u1, u2, u5⟩, z0⟩ := hSw
              go_simp
              all_goals with_reducible rfl
            simp only [Act.put, List.setIfInBounds_toArray, List.set_cons_zero, List.set_cons_succ, List.getElem_toArray, List.getElem_cons_zero, List.getElem_cons_succ]
            refine wpAnyE_take (i := 8) (v := ?_) rfl (by kernel_rfl) (by kernel_rfl) (by kernel_rfl) (by kernel_rfl) (fun _ _ _ h => h) (Or.inl ⟨by rfl, ?_⟩) hSS ?_
            rotate_left
            · intro w hSw
              obtain ⟨⟨j0, j1, j2⟩, ⟨m0, m1, m2⟩, q0, ⟨u0, u1, u2, u5⟩, z0⟩ := hSw
              go_simp
              all_goals with_reducible rfl
            simp only [Act.put, List.setIfInBounds_toArray, List.set_cons_zero, List.set_cons_succ, List.getElem_toArray, List.getElem_cons_zero, List.getElem_cons_succ]
            refine wpAnyE_take (i := 9) (v := ?_) rfl (by kernel_rfl) (by kernel_rfl) (by kernel_rfl) (by kernel_rfl) (fun _ _ _ h => h) (Or.inl ⟨by rfl, ?_⟩) hSS ?_
            rotate_left
            · intro w hSw
              obtain ⟨⟨j0, j1, j2⟩, ⟨m0, m1, m2⟩, q0, ⟨u0, u1, u2, u5⟩, z0⟩ := hSw
              go_simp
              all_goals with_reducible rfl
            simp only [Act.put, List.setIfInBounds_toArray, List.set_cons_zero, List.set_cons_succ, List.getElem_toArray, List.getElem_cons_zero, List.getElem_cons_succ]
            refine wpAnyE_take (i := 10) (v := ?_) rfl (by kernel_rfl) (by kernel_rfl) (by kernel_rfl) (by kernel_rfl) (fun _ _ _ h => h) (Or.inl ⟨by rfl, ?_⟩) hSS ?_
            rotate_left
            · intro w hSw
              obtain ⟨⟨j0, j1, j2⟩, ⟨m0, m1, m2⟩, q0, ⟨u0, u1, u2, u5⟩, z0⟩ := hSw
              go_simp
              all_goals with_reducible rfl
            simp only [Act.put, List.setIfInBounds_toArray, List.set_cons_zero, List.set_cons_succ, List.getElem_toArray, List.getElem_cons_zero, List.getElem_cons_succ]
            refine wpAnyE_take (i := 11) (v := ?_) rfl (by kernel_rfl) (by kernel_rfl) (by kernel_rfl) (by kernel_rfl) (fun _ _ _ h => h) (Or.inl ⟨by rfl, ?_⟩) hSS ?_
            rotate_left
            · intro w hSw
              obtain ⟨⟨j0, j1, j2⟩, ⟨m0, m1, m2⟩, q0, ⟨u0, u1, u2, u5⟩, z0⟩ := hSw
              go_simp
              all_goals with_reducible rfl
            simp only [Act.put, List.setIfInBounds_toArray, List.set_cons_zero, List.set_cons_succ, List.getElem_toArray, List.getElem_cons_zero, List.getElem_cons_succ]
            refine wpAnyE_take (i := 12) (v := ?_) rfl (by kernel_rfl) (by kernel_rfl) (by kernel_rfl) (by kernel_rfl) (fun _ _ _ h => h) (Or.inl ⟨by rfl, ?_⟩) hSS ?_
            rotate_left
            · intro w hSw
              obtain ⟨⟨j0, j1, j2⟩, ⟨m0, m1, m2⟩, q0, ⟨u0, u1, u2, u5⟩, z0⟩ := hSw
              go_simp
              all_goals with_reducible rfl
            simp only [Act.put, List.setIfInBounds_toArray, List.set_cons_zero, List.set_cons_succ, List.getElem_toArray, List.getElem_cons_zero, List.getElem_cons_succ]
            refine wpAnyE_take (i := 13) (v := ?_) rfl (by kernel_rfl) (by kernel_rfl) (by kernel_rfl) (by kernel_rfl) (fun _ _ _ h => h) (Or.inl ⟨by rfl, ?_⟩) hSS ?_
            rotate_left
            · intro w hSw
              obtain ⟨⟨j0, j1, j2⟩, ⟨m0, m1, m2⟩, q0, ⟨u0, u1, u2, u5⟩, z0⟩ := hSw
              go_simp
              all_goals with_reducible rfl
            simp only [Act.put, List.setIfInBounds_toArray, List.set_cons_zero, List.set_cons_succ, List.getElem_toArray, List.getElem_cons_zero, List.getElem_cons_succ]
            refine wpAnyE_take (i := 14) (v := ?_) rfl (by kernel_rfl) (by kernel_rfl) (by kernel_rfl) (by kernel_rfl) (fun _ _ _ h => h) (Or.inl ⟨by rfl, ?_⟩) hSS ?_
            rotate_left
            · intro w hSw
              obtain ⟨⟨j0, j1, j2⟩, ⟨m0, m1, m2⟩, q0, ⟨u0, u1, u2, u5⟩, z0⟩ := hSw
              go_simp
              all_goals with_reducible rfl
            simp only [Act.put, List.setIfInBounds_toArray, List.set_cons_zero, List.set_cons_succ, List.getElem_toArray, List.getElem_cons_zero, List.getElem_cons_succ]
            refine wpAnyE_take (i := 16) (v := ?_) rfl (by kernel_rfl) (by kernel_rfl) (by kernel_rfl) (by kernel_rfl) (fun _ _ _ h => h) (Or.inl ⟨by rfl, ?_⟩) hSS ?_
            rotate_left
            · intro w hSw
              obtain ⟨⟨j0, j1, j2⟩, ⟨m0, m1, m2⟩, q0, ⟨u0, u1, u2, u5⟩, z0⟩ := hSw
              go_simp
              all_goals with_reducible rfl
            simp only [Act.put, List.setIfInBounds_toArray, List.set_cons_zero, List.set_cons_succ, List.getElem_toArray, List.getElem_cons_zero, List.getElem_cons_succ]
            refine wpAnyE_take (i := 17) (v := ?_) rfl (by kernel_rfl) (by kernel_rfl) (by kernel_rfl) (by kernel_rfl) (fun _ _ _ h => h) (Or.inl ⟨by rfl, ?_⟩) hSS ?_
            rotate_left
            · intro w hSw
              obtain ⟨⟨j0, j1, j2⟩, ⟨m0, m1, m2⟩, q0, ⟨u0, u1, u2, u5⟩, z0⟩ := hSw
              go_simp
              all_goals with_reducible rfl
            simp only [Act.put, List.setIfInBounds_toArray, List.set_cons_zero, List.set_cons_succ, List.getElem_toArray, List.getElem_cons_zero, List.getElem_cons_succ]
            refine wpAnyE_one (i := 15) (by kernel_rfl) rfl ?_
            change wpList _ _ (Exit.then _ _) [_] _ _
            try simp only [List.setIfInBounds_toArray, List.set_cons_zero, List.set_cons_succ, List.getElem_toArray, List.getElem_cons_zero, List.getElem_cons_succ]
            go_wp2_with (go_at_call 19; refine (tlist_any HZ.out.ps.tb).mono ?_; rintro en w23 ⟨vl, rfl, ho, hB⟩)
            have HZ := Lib.hid (HZ.out.below hB)
            obtain ⟨gl, cl, rfl, _, _⟩ := ownsRow_pos ho (by have := HZ.out.ps.tb.n; omega)
            have HLC := Lib.hid (LC.of_own ho)
            rw [HZ.out.ps.len.1]
            clear ho hB hSS
            have hSS := HZ.out.c9
            refine ⟨fun _ => hSS, ?_⟩
            try simp only [List.setIfInBounds_toArray, List.set_cons_zero, List.set_cons_succ, List.getElem_toArray, List.getElem_cons_zero, List.getElem_cons_succ]
            have HSM := Lib.hid (samen_any R2 gl cl g5 cp5 HLC.out (fun j q hq => (HZ.out.ps.nb.list.cells hq).1) HZ.out.ps.tb.n.2)
            rw [HZ.out.ps.len.1] at HSM
            refine wpAnyE_one (i := 18) (by kernel_rfl) rfl ?_
            change wpList _ _ (Exit.then _ _) [_] _ _
            try simp only [List.setIfInBounds_toArray, List.set_cons_zero, List.set_cons_succ, List.getElem_toArray, List.getElem_cons_zero, List.getElem_cons_succ]
            go_wp2_with (go_at_call 18; refine HSM.out.mono ?_; rintro en w24 ⟨rfl, hB⟩)
            have HZ := Lib.hid (HZ.out.below hB)
            clear hB hSS HSM HLC
            have hSS := HZ.out.c9
            refine ⟨fun _ => hSS, ?_⟩
            try simp only [List.setIfInBounds_toArray, List.set_cons_zero, List.set_cons_succ, List.getElem_toArray, List.getElem_cons_zero, List.getElem_cons_succ]
            refine wpAnyE_take (i := 19) (v := ?_) rfl (by kernel_rfl) (by kernel_rfl) (by kernel_rfl) (by kernel_rfl) (fun _ _ _ h => h) (Or.inl ⟨by rfl, ?_⟩) hSS ?_
            rotate_left
            · intro w hSw
              obtain ⟨⟨j0, j1, j2⟩, ⟨m0, m1, m2⟩, q0, ⟨u0, u1, u2, u5⟩, z0⟩ := hSw
              go_simp
              all_goals with_reducible rfl
            simp only [Act.put, List.setIfInBounds_toArray, List.set_cons_zero, List.set_cons_succ, List.getElem_toArray, List.getElem_cons_zero, List.getElem_cons_succ]
            refine wpAnyE_take (i := 20) (v := ?_) rfl (by kernel_rfl) (by kernel_rfl) (by kernel_rfl) (by kernel_rfl) (fun _ _ _ h => h) (Or.inl ⟨by rfl, ?_⟩) hSS ?_
            rotate_left
            · intro w hSw
              obtain ⟨⟨j0, j1, j2⟩, ⟨m0, m1, m2⟩, q0, ⟨u0, u1, u2, u5⟩, z0⟩ := hSw
              go_simp
              all_goals with_reducible rfl
            simp only [Act.put, List.setIfInBounds_toArray, List.set_cons_zero, List.set_cons_succ, List.getElem_toArray, List.getElem_cons_zero, List.getElem_cons_succ]
            refine wpAnyE_take (i := 21) (v := ?_) rfl (by kernel_rfl) (by kernel_rfl) (by kernel_rfl) (by kernel_rfl) (fun _ _ _ h => h) (Or.inl ⟨by rfl, ?_⟩) hSS ?_
            rotate_left
            · intro w hSw
              obtain ⟨⟨j0, j1, j2⟩, ⟨m0, m1, m2⟩, q0, ⟨u0, u1, u2, u5⟩, z0⟩ := hSw
              go_simp
              all_goals with_reducible rfl
            simp only [Act.put, List.setIfInBounds_toArray, List.set_cons_zero, List.set_cons_succ, List.getElem_toArray, List.getElem_cons_zero, List.getElem_cons_succ]
            refine wpAnyE_take (i := 22) (v := ?_) rfl (by kernel_rfl) (by kernel_rfl) (by kernel_rfl) (by kernel_rfl) (fun _ _ _ h => h) (Or.inl ⟨by rfl, ?_⟩) hSS ?_
            rotate_left
            · intro w hSw
              obtain ⟨⟨j0, j1, j2⟩, ⟨m0, m1, m2⟩, q0, ⟨u0, u1, u2, u5⟩, z0⟩ := hSw
              go_simp
              all_goals with_reducible rfl
            simp only [Act.put, List.setIfInBounds_toArray, List.set_cons_zero, List.set_cons_succ, List.getElem_toArray, List.getElem_cons_zero, List.getElem_cons_succ]
            refine wpAnyE_take (i := 24) (v := ?_) rfl (by kernel_rfl) (by kernel_rfl) (by kernel_rfl) (by kernel_rfl) (fun _ _ _ h => h) (Or.inl ⟨by rfl, ?_⟩) hSS ?_
            rotate_left
            · intro w hSw
              obtain ⟨⟨j0, j1, j2⟩, ⟨m0, m1, m2⟩, q0, ⟨u0, u1, u2, u5⟩, z0⟩ := hSw
              go_simp
              all_goals with_reducible rfl
            simp only [Act.put, List.setIfInBounds_toArray, List.set_cons_zero, List.set_cons_succ, List.getElem_toArray, List.getElem_cons_zero, List.getElem_cons_succ]
            refine wpAnyE_take (i := 25) (v := ?_) rfl (by kernel_rfl) (by kernel_rfl) (by kernel_rfl) (by kernel_rfl) (fun _ _ _ h => h) (Or.inl ⟨by rfl, ?_⟩) hSS ?_
            rotate_left
            · intro w hSw
              obtain ⟨⟨j0, j1, j2⟩, ⟨m0, m1, m2⟩, q0, ⟨u0, u1, u2, u5⟩, z0⟩ := hSw
              go_simp
              all_goals with_reducible rfl
            simp only [Act.put, List.setIfInBounds_toArray, List.set_cons_zero, List.set_cons_succ, List.getElem_toArray, List.getElem_cons_zero, List.getElem_cons_succ]
            refine wpAnyE_one (i := 23) (by kernel_rfl) rfl ?_
            change wpList _ _ (Exit.then _ _) [_] _ _
            try simp only [List.setIfInBounds_toArray, List.set_cons_zero, List.set_cons_succ, List.getElem_toArray, List.getElem_cons_zero, List.getElem_cons_succ]
            go_wp2_with (go_at_call 20; refine (tag_eq b B2 _ _ HZ.out.ps.bt.boot).mono ?_; rintro en w25 ⟨rfl, rfl⟩)
            refine ⟨fun _ => hSS, ?_⟩
            try simp only [List.setIfInBounds_toArray, List.set_cons_zero, List.set_cons_succ, List.getElem_toArray, List.getElem_cons_zero, List.getElem_cons_succ]
            refine wpAnyE_take (i := 26) (v := ?_) rfl (by kernel_rfl) (by kernel_rfl) (by kernel_rfl) (by kernel_rfl) (fun _ _ _ h => h) (Or.inl ⟨by rfl, ?_⟩) hSS ?_
            rotate_left
            · intro w hSw
              obtain ⟨⟨j0, j1, j2⟩, ⟨m0, m1, m2⟩, q0, ⟨u0, u1, u2, u5⟩, z0⟩ := hSw
              go_simp
              all_goals with_reducible rfl
            simp only [Act.put, List.setIfInBounds_toArray, List.set_cons_zero, List.set_cons_succ, List.getElem_toArray, List.getElem_cons_zero, List.getElem_cons_succ]
            refine wpAnyE_take (i := 27) (v := ?_) rfl (by kernel_rfl) (by kernel_rfl) (by kernel_rfl) (by kernel_rfl) (fun _ _ _ h => h) (Or.inl ⟨by rfl, ?_⟩) hSS ?_
            rotate_left
            · intro w hSw
              obtain ⟨⟨j0, j1, j2⟩, ⟨m0, m1, m2⟩, q0, ⟨u0, u1, u2, u5⟩, z0⟩ := hSw
              go_simp
              all_goals with_reducible rfl
            simp only [Act.put, List.setIfInBounds_toArray, List.set_cons_zero, List.set_cons_succ, List.getElem_toArray, List.getElem_cons_zero, List.getElem_cons_succ]
            refine wpAnyE_take (i := 28) (v := ?_) rfl (by kernel_rfl) (by kernel_rfl) (by kernel_rfl) (by kernel_rfl) (fun _ _ _ h => h) (Or.inl ⟨by rfl, ?_⟩) hSS ?_
            rotate_left
            · intro w hSw
              obtain ⟨⟨j0, j1, j2⟩, ⟨m0, m1, m2⟩, q0, ⟨u0, u1, u2, u5⟩, z0⟩ := hSw
              go_simp
              all_goals with_reducible rfl
            simp only [Act.put, List.setIfInBounds_toArray, List.set_cons_zero, List.set_cons_succ, List.getElem_toArray, List.getElem_cons_zero, List.getElem_cons_succ]
            refine wpAnyE_take (i := 29) (v := ?_) rfl (by kernel_rfl) (by kernel_rfl) (by kernel_rfl) (by kernel_rfl) (fun _ _ _ h => h) (Or.inl ⟨by rfl, ?_⟩) hSS ?_
            rotate_left
            · intro w hSw
              obtain ⟨⟨j0, j1, j2⟩, ⟨m0, m1, m2⟩, q0, ⟨u0, u1, u2, u5⟩, z0⟩ := hSw
              go_simp
              all_goals with_reducible rfl
            simp only [Act.put, List.setIfInBounds_toArray, List.set_cons_zero, List.set_cons_succ, List.getElem_toArray, List.getElem_cons_zero, List.getElem_cons_succ]
            refine wpAnyE_take (i := 31) (v := ?_) rfl (by kernel_rfl) (by kernel_rfl) (by kernel_rfl) (by kernel_rfl) (fun _ _ _ h => h) (Or.inl ⟨by rfl, ?_⟩) hSS ?_
            rotate_left
            · intro w hSw
              obtain ⟨⟨j0, j1, j2⟩, ⟨m0, m1, m2⟩, q0, ⟨u0, u1, u2, u5⟩, z0⟩ := hSw
              go_simp
              all_goals with_reducible rfl
            simp only [Act.put, List.setIfInBounds_toArray, List.set_cons_zero, List.set_cons_succ, List.getElem_toArray, List.getElem_cons_zero, List.getElem_cons_succ]
            refine wpAnyE_take (i := 32) (v := ?_) rfl (by kernel_rfl) (by kernel_rfl) (by kernel_rfl) (by kernel_rfl) (fun _ _ _ h => h) (Or.inl ⟨by rfl, ?_⟩) hSS ?_
            rotate_left
            · intro w hSw
              obtain ⟨⟨j0, j1, j2⟩, ⟨m0, m1, m2⟩, q0, ⟨u0, u1, u2, u5⟩, z0⟩ := hSw
              go_simp
              all_goals with_reducible rfl
            simp only [Act.put, List.setIfInBounds_toArray, List.set_cons_zero, List.set_cons_succ, List.getElem_toArray, List.getElem_cons_zero, List.getElem_cons_succ]
            refine wpAnyE_one (i := 30) (by kernel_rfl) rfl ?_
            change wpList _ _ (Exit.then _ _) [_] _ _
            try simp only [List.setIfInBounds_toArray, List.set_cons_zero, List.set_cons_succ, List.getElem_toArray, List.getElem_cons_zero, List.getElem_cons_succ]
            go_wp2_with (go_at_call 21; refine (durable_any b B2 _ _ HZ.out.ps.bt.boot).mono ?_; rintro en w26 ⟨rfl, hB⟩)
            have HZ := Lib.hid (HZ.out.below hB)
            clear hB hSS
            have hSS := HZ.out.c9
            refine ⟨fun _ => hSS, ?_⟩
            try simp only [List.setIfInBounds_toArray, List.set_cons_zero, List.set_cons_succ, List.getElem_toArray, List.getElem_cons_zero, List.getElem_cons_succ]
            unfold recV
            refine wpAnyE_take (i := 33) (v := ?_) rfl (by kernel_rfl) (by kernel_rfl) (by kernel_rfl) (by kernel_rfl) (fun _ _ _ h => h) (Or.inl ⟨by rfl, ?_⟩) hSS ?_
            rotate_left
            · intro w hSw
              obtain ⟨⟨j0, j1, j2⟩, ⟨m0, m1, m2⟩, q0, ⟨u0, u1, u2, u5⟩, z0⟩ := hSw
              go_simp
              all_goals with_reducible rfl
            simp only [Act.put, List.setIfInBounds_toArray, List.set_cons_zero, List.set_cons_succ, List.getElem_toArray, List.getElem_cons_zero, List.getElem_cons_succ]
            refine wpAnyE_take (i := 34) (v := ?_) rfl (by kernel_rfl) (by kernel_rfl) (by kernel_rfl) (by kernel_rfl) (fun _ _ _ h => h) (Or.inl ⟨by rfl, ?_⟩) hSS ?_
            rotate_left
            · intro w hSw
              obtain ⟨⟨j0, j1, j2⟩, ⟨m0, m1, m2⟩, q0, ⟨u0, u1, u2, u5⟩, z0⟩ := hSw
              go_simp
              all_goals with_reducible rfl
            simp only [Act.put, List.setIfInBounds_toArray, List.set_cons_zero, List.set_cons_succ, List.getElem_toArray, List.getElem_cons_zero, List.getElem_cons_succ]
            refine wpAnyE_take (i := 35) (v := ?_) rfl (by kernel_rfl) (by kernel_rfl) (by kernel_rfl) (by kernel_rfl) (fun _ _ _ h => h) (Or.inl ⟨by rfl, ?_⟩) hSS ?_
            rotate_left
            · intro w hSw
              obtain ⟨⟨j0, j1, j2⟩, ⟨m0, m1, m2⟩, q0, ⟨u0, u1, u2, u5⟩, z0⟩ := hSw
              go_simp
              all_goals with_reducible rfl
            simp only [Act.put, List.setIfInBounds_toArray, List.set_cons_zero, List.set_cons_succ, List.getElem_toArray, List.getElem_cons_zero, List.getElem_cons_succ]
            refine wpAnyE_take (i := 36) (v := ?_) rfl (by kernel_rfl) (by kernel_rfl) (by kernel_rfl) (by kernel_rfl) (fun _ _ _ h => h) (Or.inl ⟨by rfl, ?_⟩) hSS ?_
            rotate_left
            · intro w hSw
              obtain ⟨⟨j0, j1, j2⟩, ⟨m0, m1, m2⟩, q0, ⟨u0, u1, u2, u5⟩, z0⟩ := hSw
              go_simp
              all_goals with_reducible rfl
            simp only [Act.put, List.setIfInBounds_toArray, List.set_cons_zero, List.set_cons_succ, List.getElem_toArray, List.getElem_cons_zero, List.getElem_cons_succ]
            refine wpAnyE_take (i := 38) (v := ?_) rfl (by kernel_rfl) (by kernel_rfl) (by kernel_rfl) (by kernel_rfl) (fun _ _ _ h => h) (Or.inl ⟨by rfl, ?_⟩) hSS ?_
            rotate_left
            · intro w hSw
              obtain ⟨⟨j0, j1, j2⟩, ⟨m0, m1, m2⟩, q0, ⟨u0, u1, u2, u5⟩, z0⟩ := hSw
              go_simp
              all_goals with_reducible rfl
            simp only [Act.put, List.setIfInBounds_toArray, List.set_cons_zero, List.set_cons_succ, List.getElem_toArray, List.getElem_cons_zero, List.getElem_cons_succ]
            refine wpAnyE_take (i := 39) (v := ?_) rfl (by kernel_rfl) (by kernel_rfl) (by kernel_rfl) (by kernel_rfl) (fun _ _ _ h => h) (Or.inl ⟨by rfl, ?_⟩) hSS ?_
            rotate_left
            · intro w hSw
              obtain ⟨⟨j0, j1, j2⟩, ⟨m0, m1, m2⟩, q0, ⟨u0, u1, u2, u5⟩, z0⟩ := hSw
              go_simp
              all_goals with_reducible rfl
            simp only [Act.put, List.setIfInBounds_toArray, List.set_cons_zero, List.set_cons_succ, List.getElem_toArray, List.getElem_cons_zero, List.getElem_cons_succ]
            refine wpAnyE_one (i := 37) (by kernel_rfl) rfl ?_
            change wpList _ _ (Exit.then _ _) [_] _ _
            try simp only [List.setIfInBounds_toArray, List.set_cons_zero, List.set_cons_succ, List.getElem_toArray, List.getElem_cons_zero, List.getElem_cons_succ]
            go_wp2_with (go_at_call 23; refine (image_any w.heap.size d3 _ HZ.out.ps.bt.disk).mono ?_; rintro en w27 ⟨vi, rfl, ho, hB⟩)
            have HZ := Lib.hid (HZ.out.below hB)
            obtain ⟨gi, ci, rfl, _, _⟩ := ownsRow_pos ho (by omega)
            have HRC := Lib.hid (row_all ho HZ.out.ps.bt.disk.2)
            clear ho hB hSS
            have hSS := HZ.out.c9
            refine ⟨fun _ => hSS, ?_⟩
            try simp only [List.setIfInBounds_toArray, List.set_cons_zero, List.set_cons_succ, List.getElem_toArray, List.getElem_cons_zero, List.getElem_cons_succ]
            refine wpAnyE_one (i := 40) (by kernel_rfl) rfl ?_
            change wpList _ _ (Exit.then _ _) [_] _ _
            try simp only [List.setIfInBounds_toArray, List.set_cons_zero, List.set_cons_succ, List.getElem_toArray, List.getElem_cons_zero, List.getElem_cons_succ]
            go_wp2_with (go_at_call 22; refine (same_any _ _ d3.bs d3.bs _ _ _ _ _ (by rw [HZ.out.ps.bt.disk.2]) (by rw [HZ.out.ps.bt.disk.2]) (by rw [HZ.out.ps.bt.disk.2]; decide) (by rw [HZ.out.ps.bt.disk.2]; decide) HRC.out (fun j x hx => ⟨_, rfl, by rw [Addr.add_mid, Nat.zero_add]; exact (HZ.out.ps.rk.cell j x hx).1⟩)).mono ?_; rintro en w28 ⟨rfl, hB⟩; rw [decide_eq_true (rfl : d3.bs = d3.bs)])
            have HZ := Lib.hid (HZ.out.below hB)
            clear hB hSS HRC
            have hSS := HZ.out.c9
            refine ⟨fun _ => hSS, ?_⟩
            try simp only [List.setIfInBounds_toArray, List.set_cons_zero, List.set_cons_succ, List.getElem_toArray, List.getElem_cons_zero, List.getElem_cons_succ]
            refine wpAnyE_take (i := 41) (v := ?_) rfl (by kernel_rfl) (by kernel_rfl) (by kernel_rfl) (by kernel_rfl) (fun _ _ _ h => h) (Or.inl ⟨by rfl, ?_⟩) hSS ?_
            rotate_left
            · intro w hSw
              obtain ⟨⟨j0, j1, j2⟩, ⟨m0, m1, m2⟩, q0, ⟨u0, u1, u2, u5⟩, z0⟩ := hSw
              go_simp
              all_goals with_reducible rfl
            simp only [Act.put, List.setIfInBounds_toArray, List.set_cons_zero, List.set_cons_succ, List.getElem_toArray, List.getElem_cons_zero, List.getElem_cons_succ]
            refine wpAnyE_take (i := 42) (v := ?_) rfl (by kernel_rfl) (by kernel_rfl) (by kernel_rfl) (by kernel_rfl) (fun _ _ _ h => h) (Or.inl ⟨by rfl, ?_⟩) hSS ?_
            rotate_left
            · intro w hSw
              obtain ⟨⟨j0, j1, j2⟩, ⟨m0, m1, m2⟩, q0, ⟨u0, u1, u2, u5⟩, z0⟩ := hSw
              go_simp
              all_goals with_reducible rfl
            simp only [Act.put, List.setIfInBounds_toArray, List.set_cons_zero, List.set_cons_succ, List.getElem_toArray, List.getElem_cons_zero, List.getElem_cons_succ]
            refine wpAnyE_end (by kernel_rfl) ?_
            clear hSS
            go_wp2_with fail
            go_roundw
            case rel => exact ⟨i + 1, R2, B2, d3, g5, cp5, by go_num, HLT.out, Lib.hid (HI.out.more (by omega)), Lib.hid HZ.out.ps⟩
            case measure => have := HLT.out; simp [intOf]; omega
    · obtain rfl : i = xs.length := by omega
      have i1 : ¬ (xs.length : Int) < (xs.length : Int) := by omega
      clear hlt hi
      go_wp2_with fail
      refine (alive15_any (HG.out.of HS.out.low)).mono ?_
      rintro en w11 ⟨rfl, hB⟩
      go_wp2_with fail
      go_ret
      exact ⟨rfl, below_then HS.out.low hB⟩
end Go.Proofs.YtbjlnlgknegbnaaGreatDoor
namespace Go.Proofs.YtbjlnlgknegbnaaGreatDoor
set_option linter.unusedVariables false
set_option linter.unusedSimpArgs false
open Go.RowKit

set_option maxRecDepth 100000 in
set_option maxHeartbeats 4000000 in
theorem refutePlays_no (n s : Int) (hE : nwE n s 0 ≠ 0) (v : Value) (xs : List (List Value)) (w : World) {a : Addr} (hg : Gl a w) (hrow : RowsS w [.rows 3, .int .i64, .bool] v xs) (hlen : xs.length ≤ 40) :
    Calls Tryz.prog 3 #[.int .i64 n, .int .i64 s, v] w fun e w' => e = .returned (.bool true) ∧ Below w.heap.size w w' := by
  have hop := op_new
  have HFO := Lib.hid (fun W (h : DkAt W w.heap.size Dk.new) => bopen_F w.heap.size Dk.new 0 W h spI_new (by decide))
  have HSO := Lib.hid (fun W rb gb m (h : Rk W rb 0 gb m Dk.new) (hm : 256 ≤ m) => ropen_F rb 0 gb m Dk.new 0 W h hm spI_new (by decide))
  obtain ⟨Q, hQ⟩ : ∃ R, opF Dk.new = R := ⟨_, rfl⟩
  rw [hQ] at hop HFO HSO
  obtain ⟨rv, er, B0, D0⟩ := Q
  dsimp only at hop HFO HSO
  subst hop
  have HG := Lib.hid hg
  have HE1 := Lib.hid (fun w => tnew_no n s 0 hE w)
  have HE2 := Lib.hid (fun w => refNew_no n s 0 hE w)
  have a2 : (nwE n s 0 == 0) = false := by simpa using hE
  have a3 : (nwE n s 0 != 0) = true := by simpa using hE
  obtain ⟨p, cap, rfl, hm1, hm2, _⟩ := hrow
  have a1 : ¬ (40 : Int) < (xs.length : Int) := by omega
  clear hQ hg hm1 hm2 hlen hE
  generalize nwE n s 0 = E at *
  go_enter Tryz.func3, Tryz.ntmps3
  go_wp2_with fail
  refine (new_any _).mono ?_
  rintro e w1 ⟨rfl, hD1, hB1⟩
  go_wp2_with fail
  refine (refNew_any _).mono ?_
  rintro e w2 ⟨v1, rfl, ⟨gb, m, rest, rfl, hm, hgb, hcs, hcl⟩, hB2⟩
  have hv : rkV gb m Dk.new = .agg #[.slice (some ⟨gb, 0, none⟩) 256 m, .bool false, .int .i64 (-1), .int .i64 0] := rfl
  rw [hv]
  clear hv
  go_upto_region 4 with fail
  have hal := (Below.refl w2.heap.size w2).alloc (Nat.le_refl _) (.cells #[.slice (some ⟨gb, 0, none⟩) 256 m, .bool false, .int .i64 (-1), .int .i64 0] 28)
  have HM := Lib.hid hm
  have HO1 : Hid (w.heap.size < gb ∧ gb < w2.heap.size) := ⟨by have := hD1.lt; omega, blk_lt hcs⟩
  have HK3 : Hid (Rk (w2.alloc (.cells #[.slice (some ⟨gb, 0, none⟩) 256 m, .bool false, .int .i64 (-1), .int .i64 0] 28)) w2.heap.size 0 gb m Dk.new) :=
    .ofBox (t := 28) (rest := rest) (blk_new w2 _) (blk_below' hal hcs) hcl (by have := blk_lt hcs; omega)
  have HD3 := Lib.hid ((hD1.below hB2).below hal)
  have HB3 := Lib.hid (below_then (below_then hB1 hB2) hal)
  obtain ⟨e, he⟩ : ∃ e, w2.heap.size = e := ⟨_, rfl⟩
  rw [he] at HK3 HO1
  (try rw [he])
  clear he hal hD1 hB1 hB2 hm hgb hcs hcl
  generalize World.alloc w2 _ = w3 at *
  go_wp2_with fail
  refine (HFO.out _ HD3.out).mono ?_
  rintro en w4 ⟨h0, _, hg4⟩
  obtain ⟨b, rfl, hb, hT4⟩ := h0 rfl
  have HK4 : Hid (Rk w4 e 0 gb m Dk.new) := Lib.hid (HK3.out.heap (hg4.5 _ HK3.out.lt.1 (by have := HO1.out; simp; omega)) (hg4.5 _ HK3.out.lt.2 (by have := HO1.out; simp; omega)))
  have HB4 := Lib.hid (HB3.out.grown hg4 HB3.out.size (fun j h => by cases h; exact Nat.le_refl _))
  clear h0 hg4 hb hT4 HD3 HK3 HB3 HFO
  go_wp2_with fail
  refine (HSO.out _ e gb m HK4.out HM.out).mono ?_
  rintro en w5 ⟨k0, _, hC5⟩
  obtain ⟨rfl, hK5⟩ := k0 rfl
  unfold rbV rbC
  have HB5 := Lib.hid (HB4.out.trans (hC5.low (by have := HO1.out; omega) (by have := HO1.out; omega) HB4.out.size))
  clear k0 hC5 hK5 HB4 HK4 HSO
  go_upto_region 6 with fail
  have HB6 := Lib.hid (HB5.out.alloc HB5.out.size (.cells #[.int .i64 (B0.life : Int), .int .i64 (B0.kround : Int), .int .i64 (B0.ktag : Int), .int .i64 (B0.life : Int), .int .i64 (B0.round : Int), .int .i64 (B0.tag : Int)] 37))
  clear HB5
  generalize World.alloc w5 _ = w6 at *
  go_wp2_with fail
  refine (HE1.out w6).mono ?_
  rintro en w7 ⟨rfl, hb7⟩
  have HB7 := Lib.hid (below_then HB6.out hb7)
  clear hb7 HB6
  go_wp2_with fail
  refine (HE2.out w7).mono ?_
  rintro en w8 ⟨rfl, hb8⟩
  have HB8 := Lib.hid (below_then HB7.out hb8)
  clear hb8 HB7
  go_upto_region 8 with fail
  have HB9 := Lib.hid (HB8.out.alloc HB8.out.size (.cells #[.slice none 0 0] 46))
  clear HB8
  generalize World.alloc w8 _ = w9 at *
  go_wp2_with fail
  refine (alive15_any (HG.out.of HB9.out)).mono ?_
  rintro en w10 ⟨rfl, hB⟩
  go_wp2_with fail
  go_ret
  exact ⟨rfl, below_then HB9.out hB⟩
set_option maxRecDepth 100000 in
set_option maxHeartbeats 1000000 in
theorem refutePlays_w (w : World) (n sf : Int) (v : Value) (hn : (Lit.int .i64 n).wf = true) (hsf : (Lit.int .i64 sf).wf = true) (xs : List (List Value)) (hrow : RowsS w [.rows 3, .int .i64, .bool] v xs) {a : Addr} (hg : Gl a w) :
    Calls Tryz.prog 3 #[.int .i64 n, .int .i64 sf, v] w fun e w' => e = .returned (.bool true) ∧ Below w.heap.size w w' := by
  clear hn hsf
  by_cases hl : xs.length ≤ 40
  · by_cases hE : nwE n sf 0 = 0
    · have hb : (1 ≤ n ∧ n ≤ 100) ∧ 0 ≤ sf ∧ sf < n := by
        unfold nwE at hE
        split at hE
        · split at hE
          · omega
          · cases hE
        · cases hE
      obtain ⟨N, rfl⟩ : ∃ N : Nat, n = N := ⟨n.toNat, by omega⟩
      obtain ⟨S, rfl⟩ : ∃ S : Nat, sf = S := ⟨sf.toNat, by omega⟩
      exact refutePlays_in N S ⟨by omega, by omega⟩ (by omega) v xs w hg hrow hl
    · exact refutePlays_no n sf hE v xs w hg hrow hl
  · have HG := Lib.hid hg
    obtain ⟨p, cap, rfl, hm1, hm2, _⟩ := hrow
    have a1 : (40 : Int) < (xs.length : Int) := by omega
    clear hg hm1 hm2 hl
    go_enter Tryz.func3, Tryz.ntmps3
    go_wp2_with (go_at_call 4; refine (alive15_any HG.out).mono ?_; rintro e w9 ⟨rfl, hB9⟩)
    go_ret
    exact ⟨rfl, hB9⟩
end Go.Proofs.YtbjlnlgknegbnaaGreatDoor
namespace Go.Proofs.YtbjlnlgknegbnaaGreatDoor
open Go.RowKit

theorem sStar : ("*" ++ "errors.errorString" : String) = "*errors.errorString" := by decide
theorem sG : Tryz.prog.globalNamed "earshot/refute.errNoDefence" = some 0 := by kernel_rfl
theorem sGType : (Tryz.prog.globals[0]?).map (·.type) = some 137 := by kernel_rfl
theorem sRow (u : TypeId) (h : Tryz.prog.typeName? 3 u = some "*errors.errorString") : u = 165 :=
  typeName_ptr_named (nm := "errors.errorString") (by rw [sStar]; kernel_rfl) (by kernel_rfl) (by decide) u (by rw [sStar]; exact h)
theorem sCellsE : Tryz.prog.cellsOf 190 = 1 := by kernel_rfl
theorem sCellsS : Tryz.prog.cellsOf 9 = 1 := by kernel_rfl
theorem sent_of {W : World} (h : laidMetH Tryz.prog [("earshot/refute.errNoDefence", Rows.laid_earshot_refute_errNoDefence)] W) : ∃ a, Gl a W := by
  have h2 : laidMet Tryz.prog [("earshot/refute.errNoDefence", Rows.laid_earshot_refute_errNoDefence)] W := by rwa [MakeChecks.laidMetH_plain _ _ _ (by kernel_rfl)] at h
  obtain ⟨a, s, hv, _⟩ := laid_sentinel h2 sG sGType Tryz.underlying137 sRow Tryz.underlying165 Tryz.underlying190 rfl rfl Tryz.underlying9 sCellsE sCellsS
  exact ⟨a, World.var?_cell sG hv 0⟩
end Go.Proofs.YtbjlnlgknegbnaaGreatDoor
