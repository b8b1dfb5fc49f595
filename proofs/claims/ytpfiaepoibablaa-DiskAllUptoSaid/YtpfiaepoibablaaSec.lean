/- Walks: sector (the law's own), SameBytes. -/
import Derived.Test.YtpfiaepoibablaaOps
import Derived.StillTail
import Derived.StillTailTactics
import Derived.StillTactics
import Derived.OwnWalk
namespace Go.Proofs.Ytpfiaepoibablaa
set_option linter.unusedVariables false
set_option linter.unusedSimpArgs false
open Go.RowKit

theorem Try.infoByte : (Try.prog.info? 5).map (fun i => (i.zero, i.size, i.bytes)) = some (some (.int .u8 0), 1, 1) := by kernel_rfl
/-- The bytes of a sector. -/
def secB (v : Int) (i : Nat) : Nat := ((v + 7 * i) % 256).toNat
def secL (v : Int) : List Nat := (List.range 32).map (secB v)
def secK (v : Int) (k : Nat) : List Nat := (List.range 32).map fun i => if i < k then secB v i else 0

theorem secK_zero (v : Int) : bC (secK v 0) = List.replicate 32 (.int .u8 0) := rfl
theorem secK_all (v : Int) : secK v 32 = secL v := by
  unfold secK secL
  refine List.map_congr_left fun i hi => ?_
  rw [if_pos (List.mem_range.1 hi)]
theorem secK_set (v : Int) (k : Nat) (hk : k < 32) : (bC (secK v k)).set k (.int .u8 (secB v k : Nat)) = bC (secK v (k + 1)) := by
  apply List.ext_getElem?
  intro j
  unfold bC secK
  rw [List.getElem?_set]
  by_cases hj : k = j
  · subst hj
    simp [hk]
  · rw [if_neg hj]
    simp only [List.getElem?_map]
    by_cases h2 : j < 32
    · rw [List.getElem?_range h2]
      simp only [Option.map_some]
      have : (j < k) = (j < k + 1) := by rw [eq_iff_iff]; omega
      simp only [this]
    · rw [List.getElem?_eq_none (by simp; omega)]; rfl
theorem secB_wrap (v : Int) (k : Nat) : wrap64 (v + 7 * (k : Int)) % 256 = (secB v k : Nat) := by
  unfold secB wrap64
  omega

/- Two rows of bytes, compared. -/
set_option maxRecDepth 100000 in
set_option maxHeartbeats 1000000 in
theorem same_any (v u : Value) (l m : List Nat) (w : World) (a a' : Option Addr) (c c' : Nat) (hv : v = .slice a l.length c) (hu : u = .slice a' m.length c') (hl : l.length ≤ 9223372036854775800) (hm : m.length ≤ 9223372036854775800)
    (h1 : ∀ j x, l[j]? = some x → ∃ b, a = some b ∧ w.cell? (b.add j) = some (.int .u8 (x : Nat))) (h2 : ∀ j x, m[j]? = some x → ∃ b, a' = some b ∧ w.cell? (b.add j) = some (.int .u8 (x : Nat))) :
    Calls Try.prog 25 #[v, u] w fun e w' => e = .returned (.bool (decide (l = m))) ∧ Below w.heap.size w w' := by
  subst hv hu
  go_enter Try.func25, Try.ntmps25
  by_cases hlen : l.length = m.length
  · have HLE := Lib.hid hlen
    rw [hlen] at hl ⊢
    clear hlen
    go_wp2_with fail
    go_loopw [5] (fun i wr => ∃ k : Nat, i = .int .i64 k ∧ k ≤ m.length ∧ Hid (∀ j, j < k → l[j]? = m[j]?) ∧ Below w.heap.size w wr) (fun i _ => m.length - (intOf i).toNat)
    case atStart => exact ⟨0, rfl, by omega, fun j hj => by omega, Below.refl _ _⟩
    case round =>
      obtain ⟨k, rfl, hk, heq, hbl⟩ := hrel
      by_cases hlt : k < m.length
      · obtain ⟨x, hx⟩ : ∃ x, l[k]? = some x := ⟨_, List.getElem?_eq_getElem (by rw [HLE.out]; exact hlt)⟩
        obtain ⟨y, hy⟩ : ∃ y, m[k]? = some y := ⟨_, List.getElem?_eq_getElem hlt⟩
        obtain ⟨p, rfl, hp⟩ := h1 k x hx
        obtain ⟨q, rfl, hq⟩ := h2 k y hy
        have hp := (hbl.cell (cell_lt hp)).trans hp
        have hq := (hbl.cell (cell_lt hq)).trans hq
        have i1 : (k : Int) < (m.length : Int) := by omega
        have i2 : (0 : Int) ≤ (k : Int) := by omega
        have i3 : (k : Int).toNat = k := Int.toNat_natCast k
        have HX := Lib.hid hx
        have HY := Lib.hid hy
        clear hx hy h1 h2
        by_cases hxy : x = y
        · subst hxy
          go_wp2
          refine wp_region_still_tail 8 (by kernel_rfl) (by kernel_rfl) ?_
          simp only [List.take_succ_cons, List.take_zero, List.drop_succ_cons, List.drop_zero]
          repeat still_step
          try refine wpStill_nil ?_
          change wpList _ _ _ _ _ wr.drew
          go_wp2
          go_roundw
          case rel => exact ⟨k + 1, by go_num, by omega, fun j hj => by
            by_cases hjk : j = k
            · subst hjk; rw [HX.out, HY.out]
            · exact heq.out j (by omega), hbl.drew⟩
          case measure => simp [intOf]; omega
        · have hne : ((x : Int) == (y : Int)) = false := by simp; omega
          have hfin : decide (l = m) = false := by
            simp only [decide_eq_false_iff_not]
            intro e
            have := HX.out
            rw [e, HY.out] at this
            exact hxy (Option.some.inj this).symm
          have HF := Lib.hid hfin
          clear hfin
          go_wp2
          refine wp_region_still_tail 8 (by kernel_rfl) (by kernel_rfl) ?_
          simp only [List.take_succ_cons, List.take_zero, List.drop_succ_cons, List.drop_zero]
          repeat still_step
          try refine wpStill_nil ?_
          change wpList _ _ _ _ _ wr.drew
          go_wp2
          go_ret
          refine ⟨?_, hbl.drew⟩
          rw [HF.out]; rfl
      · obtain rfl : k = m.length := by omega
        have hfin : decide (l = m) = true := by
          rw [decide_eq_true_iff]
          apply List.ext_getElem?
          intro j
          by_cases hj : j < m.length
          · exact heq.out j hj
          · rw [List.getElem?_eq_none (by rw [HLE.out]; omega), List.getElem?_eq_none (by omega)]
        have i1 : ¬ (m.length : Int) < (m.length : Int) := by omega
        have HF := Lib.hid hfin
        clear hfin
        go_wp2
        go_ret
        refine ⟨?_, hbl⟩
        rw [HF.out]; rfl
  · have hfin : decide (l = m) = false := by simp; intro e; exact hlen (by rw [e])
    have hne : ((l.length : Int) != (m.length : Int)) = true := by simp; omega
    rw [hfin]
    go_wp2_with fail
    go_ret
    exact ⟨rfl, Below.refl _ _⟩
end Go.Proofs.Ytpfiaepoibablaa
