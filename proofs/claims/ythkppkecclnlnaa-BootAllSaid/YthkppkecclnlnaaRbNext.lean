/- Walks: the document's Next. -/
import Derived.Test.YthkppkecclnlnaaRb
import Derived.Deep.QuietTactic
import Derived.BigQuiet
namespace Go.Proofs.Ythkppkecclnlnaa
set_option linter.unusedVariables false
set_option linter.unusedSimpArgs false
open Go.RowKit

theorem least_R (n : Nat) (w : World) (hn : n ≤ 1099511627776) : Calls Try.prog 137 #[.int .i64 ((n : Int) + 16), .int .i64 1099511627775] w fun e w' => e = .returned (.int .i64 (capR n : Nat)) ∧ w = w' := by
  have h2 : (n : Int) ≤ 1099511627776 := by omega
  have m1 : (n : Int) + 16 < 1099511627775 → ((capR n : Nat) : Int) = (n : Int) + 16 := by unfold capR; omega
  have m2 : ¬ (n : Int) + 16 < 1099511627775 → ((capR n : Nat) : Int) = 1099511627775 := by unfold capR; omega
  have M1 := Lib.hid m1
  have M2 := Lib.hid m2
  clear m1 m2 hn
  go_enter Try.func137, Try.ntmps137
  by_cases h : (n : Int) + 16 < 1099511627775
  · go_wp2_with fail
    go_ret
    rw [M1.out h]; exact ⟨rfl, rfl⟩
  · go_wp2_with fail
    go_ret
    rw [M2.out h]; exact ⟨rfl, rfl⟩
theorem least_T (n : Nat) (w : World) (hn : n ≤ 1048576) : Calls Try.prog 137 #[.int .i64 ((n : Int) + 4), .int .i64 1048576] w fun e w' => e = .returned (.int .i64 (capT n : Nat)) ∧ w = w' := by
  have h2 : (n : Int) ≤ 1048576 := by omega
  have M1 := Lib.hid (show (n : Int) + 4 < 1048576 → ((capT n : Nat) : Int) = (n : Int) + 4 by unfold capT; omega)
  have M2 := Lib.hid (show ¬ (n : Int) + 4 < 1048576 → ((capT n : Nat) : Int) = 1048576 by unfold capT; omega)
  clear hn
  go_enter Try.func137, Try.ntmps137
  by_cases h : (n : Int) + 4 < 1048576
  · go_wp2_with fail
    go_ret
    rw [M1.out h]; exact ⟨rfl, rfl⟩
  · go_wp2_with fail
    go_ret
    rw [M2.out h]; exact ⟨rfl, rfl⟩
theorem least_Z (n : Nat) (w : World) (hn : n ≤ 1048576) : Calls Try.prog 137 #[.int .i64 ((n : Int) + 3), .int .i64 1048576] w fun e w' => e = .returned (.int .i64 (capZ n : Nat)) ∧ w = w' := by
  have h2 : (n : Int) ≤ 1048576 := by omega
  have M1 := Lib.hid (show (n : Int) + 3 < 1048576 → ((capZ n : Nat) : Int) = (n : Int) + 3 by unfold capZ; omega)
  have M2 := Lib.hid (show ¬ (n : Int) + 3 < 1048576 → ((capZ n : Nat) : Int) = 1048576 by unfold capZ; omega)
  clear hn
  go_enter Try.func137, Try.ntmps137
  by_cases h : (n : Int) + 3 < 1048576
  · go_wp2_with fail
    go_ret
    rw [M1.out h]; exact ⟨rfl, rfl⟩
  · go_wp2_with fail
    go_ret
    rw [M2.out h]; exact ⟨rfl, rfl⟩
theorem rnext_off (bb o rb ob gb n : Nat) (d : Dk) (w : World) (k : Rk w rb ob gb n d) (ho : d.off = true) :
    Calls Try.prog 138 #[.pointer (some ⟨bb, o, none⟩), .pointer (some ⟨rb, ob, none⟩)] w fun e w' => e = .returned (.tuple #[.int .i64 0, .int .i64 100]) ∧ Below w.heap.size w w' := by
  obtain ⟨k0, k1, k2, k3⟩ := k.cells
  rw [ho] at k1
  clear ho
  go_enter Try.func138, Try.ntmps138
  go_wp2_with fail
  go_ret2
  exact ⟨rfl, Below.refl _ _⟩
theorem rnext_end (bb o rb ob gb n : Nat) (B : Bt) (d : Dk) (w : World) (h : RbAt w bb o B) (k : Rk w rb ob gb n d) (ho : d.off = false) (hr : B.round = 1099511627775) :
    Calls Try.prog 138 #[.pointer (some ⟨bb, o, none⟩), .pointer (some ⟨rb, ob, none⟩)] w fun e w' => e = .returned (.tuple #[.int .i64 0, .int .i64 120]) ∧ Below w.heap.size w w' := by
  obtain ⟨k0, k1, k2, k3⟩ := k.cells
  obtain ⟨⟨c0, c1, c2, c3, c4, c5⟩, _⟩ := h.cells
  rw [ho] at k1
  rw [hr] at c4
  clear ho hr
  go_enter Try.func138, Try.ntmps138
  go_wp2_with fail
  go_ret2
  exact ⟨rfl, Below.refl _ _⟩
set_option maxRecDepth 100000 in
set_option maxHeartbeats 1000000 in
theorem rnext_plain (bb o rb ob gb n : Nat) (B : Bt) (d : Dk) (w : World) (h : RbAt w bb o B) (k : Rk w rb ob gb n d) (hne : bb ≠ rb ∧ bb ≠ gb) (ho : d.off = false) (hr : B.round ≠ 1099511627775) (hrl : B.round ≤ 1099511627775) (hk : B.round ≠ B.kround) :
    Calls Try.prog 138 #[.pointer (some ⟨bb, o, none⟩), .pointer (some ⟨rb, ob, none⟩)] w fun e w' => e = .returned (.tuple #[.int .i64 ((B.round + 1 : Nat) : Int), .int .i64 0]) ∧ RbAt w' bb o { B with round := B.round + 1 } ∧ Rk w' rb ob gb n d ∧ ChB w w' bb o rb ob gb := by
  have hrb : ((B.round : Int) == 1099511627775) = false := by simp; omega
  have hkb : (B.round == B.kround) = false := by simp; omega
  have hrl2 : (B.round : Int) ≤ 1099511627775 := by omega
  obtain ⟨k0, k1, k2, k3⟩ := k.cells
  obtain ⟨⟨c0, c1, c2, c3, c4, c5⟩, ⟨f0, f1, f2, f3, f4, f5⟩⟩ := h.cells
  rw [ho] at k1
  have HL := Lib.hid h.lt
  have HR := Lib.hid h
  have HK := Lib.hid k
  have HN := Lib.hid hne
  clear h k hne ho hr hrl hk
  go_enter Try.func138, Try.ntmps138
  go_wp2_with fail
  go_quiet (fail)
  go_wp2_with fail
  go_ret2
  have hd : Below w.heap.size w (w.drewN nq) := below_drewN (Below.refl _ _) nq
  exact ⟨rfl, (HR.out.below hd).round (B.round + 1), (HK.out.below hd).setOther _ HN.out.1 HN.out.2, (ChB.ofBelow hd bb o rb ob gb).set HN.out.1 4 _ (by decide)⟩
/-- What a save from within a life leaves. -/
def RSave (w : World) (bb o rb ob gb n : Nat) (B B0 : Bt) (ok no : Value) (D : Dk × Int) (e : Ending) (w' : World) : Prop :=
  (D.2 = 0 → e = .returned ok ∧ RbAt w' bb o B ∧ Rk w' rb ob gb n D.1) ∧ (D.2 ≠ 0 → e = .returned no ∧ RbAt w' bb o B0 ∧ Rk w' rb ob gb n D.1) ∧ ChB w w' bb o rb ob gb
set_option maxRecDepth 100000 in
set_option maxHeartbeats 1000000 in
theorem rnext_save (bb o rb ob gb n : Nat) (B : Bt) (d : Dk) (w : World) (h : RbAt w bb o B) (k : Rk w rb ob gb n d) (hne : bb ≠ rb ∧ bb ≠ gb) (hn : 256 ≤ n) (ho : d.off = false) (hr : B.round ≠ 1099511627775) (hrl : B.round ≤ 1099511627775) (hk : B.round = B.kround) (hlt : ∀ c ∈ d.bs, c < 256) (hw : d.writes ≤ 4611686018427387901) (hfu : d.fuse ≤ 9223372036854775807) :
    Calls Try.prog 138 #[.pointer (some ⟨bb, o, none⟩), .pointer (some ⟨rb, ob, none⟩)] w fun e w' =>
      RSave w bb o rb ob gb n { B with kround := capR B.kround, round := B.round + 1 } B (.tuple #[.int .i64 ((B.round + 1 : Nat) : Int), .int .i64 0]) (.tuple #[.int .i64 0, .int .i64 (saveW d B.life (capR B.kround : Nat) B.ktag).2]) (saveW d B.life (capR B.kround : Nat) B.ktag) e w' := by
  obtain ⟨D, hDe⟩ : ∃ D, saveW d B.life (capR B.kround : Nat) B.ktag = D := ⟨_, rfl⟩
  rw [hDe]
  have hrb : ((B.round : Int) == 1099511627775) = false := by simp; omega
  have hkb : (B.round == B.kround) = true := by simp; omega
  have hrl2 : (B.round : Int) ≤ 1099511627775 := by omega
  have hrl3 : (B.kround : Int) ≤ 1099511627775 := by omega
  obtain ⟨k0, k1, k2, k3⟩ := k.cells
  obtain ⟨⟨c0, c1, c2, c3, c4, c5⟩, ⟨f0, f1, f2, f3, f4, f5⟩⟩ := h.cells
  rw [ho] at k1
  have HR := Lib.hid h
  have HK := Lib.hid k
  have HN := Lib.hid hne
  have HLS := Lib.hid (fun w => least_R B.kround w (by omega))
  have HS := Lib.hid (fun w (hk : Rk w rb ob gb n d) => refSave_any rb ob gb n d B.life (capR B.kround : Nat) B.ktag w hk hn hlt (by omega) hfu)
  unfold recV at HS
  rw [hDe] at HS
  clear hDe
  obtain ⟨d', er⟩ := D
  dsimp only at HS ⊢
  clear h k hne ho hr hrl hk hlt hw hfu hn
  go_enter Try.func138, Try.ntmps138
  go_wp2_with fail
  go_quiet (fail)
  obtain ⟨W0, hW0⟩ : ∃ W0, w.drewN nq = W0 := ⟨_, rfl⟩
  have hd : Below w.heap.size w W0 := by rw [← hW0]; exact below_drewN (Below.refl _ _) nq
  have hsz : W0.heap.size = w.heap.size := by rw [← hW0]; rfl
  rw [hW0]
  have hal : Below w.heap.size w (W0.alloc (.cells #[.int .i64 (B.life : Int), .int .i64 (B.kround : Int), .int .i64 (B.ktag : Int)] 47)) := hd.alloc hd.size _
  have HX := Lib.hid (box3 W0 (.int .i64 (B.life : Int)) (.int .i64 (B.kround : Int)) (.int .i64 (B.ktag : Int)) 47)
  obtain ⟨⟨c0, c1, c2, c3, c4, c5⟩, _⟩ := (HR.out.below hd).cells
  clear hW0 hsz
  go_upto_region 7 with fail
  have hR2 := HR.out.below hal
  have hK2 := HK.out.below hal
  generalize hgx : World.alloc W0 _ = W1 at *
  obtain ⟨g, hg⟩ : ∃ g, W0.heap.size = g := ⟨_, rfl⟩
  rw [hg] at HX
  (try rw [hg])
  have HG : Hid (g ≠ bb ∧ g ≠ rb ∧ g ≠ gb) := by
    have h1 := hd.size; have h2 := HR.out.lt; have h3 := HK.out.lt
    exact ⟨by omega, by omega, by omega⟩
  have HGE : Hid (w.heap.size ≤ g) := by have h1 := hd.size; show w.heap.size ≤ g; omega
  clear hgx hg hd
  have hx := HX.out
  obtain ⟨y0, y1, y2, z0, z1, z2⟩ := blk3 hx
  clear hx
  go_wp2_with fail
  refine (HLS.out _).mono ?_
  rintro e w2 ⟨rfl, rfl⟩
  go_wp2_with fail
  have hx2 := blk_store HX.out 1 (.int .i64 (capR B.kround : Nat))
  have HK3 := Lib.hid (hK2.setOther (bb := g) (i := 1) (.int .i64 (capR B.kround : Nat)) HG.out.2.1 HG.out.2.2)
  have HR3 := Lib.hid (hR2.heap (Below.heap_setCell W1 ⟨g, 1, none⟩ (.int .i64 (capR B.kround : Nat)) bb (fun e => HG.out.1 e.symm)))
  have HC3 := Lib.hid (ChB.ofBelow hal bb o rb ob gb)
  have HL3 : Hid (ChB w (W1.setCell ⟨g, 1, none⟩ (.int .i64 (capR B.kround : Nat))) bb o rb ob gb) := by
    have hh := hal.setCell (p := ⟨g, 1, none⟩) (by show w.heap.size ≤ g; exact HGE.out) (.int .i64 (capR B.kround : Nat))
    exact ChB.ofBelow hh bb o rb ob gb
  have HX2 := Lib.hid hx2
  clear hx2 hK2 hR2 hal c0 c1 c2 c3 c4 c5
  refine (HS.out _ HK3.out).mono ?_
  rintro e w4 ⟨rfl, hK4, hC4⟩
  have hR4 := HR3.out.heap (hC4.other bb HR3.out.lt HN.out.1 HN.out.2)
  have hx4 := hC4.blk HX2.out HG.out.2.1 HG.out.2.2
  have hL4 := HL3.out.trans (ChB.ofChg hC4 HN.out.1 HN.out.2)
  have HK4 := Lib.hid hK4
  have HR4 := Lib.hid hR4
  have HX4 := Lib.hid hx4
  have HL4 := Lib.hid hL4
  clear hK4 hR4 hx4 hL4 hC4 HC3 HX2 HK3 HR3 HL3 HS HLS y0 y1 y2 z0 z1 z2
  by_cases her : er = 0
  · subst her
    obtain ⟨y0, y1, y2, z0, z1, z2⟩ := blk3 HX4.out
    obtain ⟨⟨c0, c1, c2, c3, c4, c5⟩, ⟨f0, f1, f2, f3, f4, f5⟩⟩ := HR4.out.cells
    go_wp2_with fail
    go_ret2
    have hq := (HR4.out.rec3 (capR B.kround) B.ktag).round (B.round + 1)
    exact ⟨fun _ => ⟨rfl, hq, (((HK4.out.setOther _ HN.out.1 HN.out.2).setOther _ HN.out.1 HN.out.2).setOther _ HN.out.1 HN.out.2).setOther _ HN.out.1 HN.out.2⟩, fun h => absurd rfl h, (HL4.out.rec3 HN.out.1 _ _ _).set HN.out.1 4 _ (by decide)⟩
  · have hne : (er != 0) = true := by simpa using her
    have HER := Lib.hid her
    clear her
    go_wp2_with fail
    go_ret2
    exact ⟨fun h => absurd h HER.out, fun _ => ⟨rfl, HR4.out, HK4.out⟩, HL4.out⟩
end Go.Proofs.Ythkppkecclnlnaa
