/- The walk of the law RosterOwn. -/
import Derived.Test.YthbejpgeohhppaaTwo
namespace Go.Proofs.Ythbejpgeohhppaa
set_option linter.unusedVariables false
open Go.RowKit Go.Maps

/-- A roster in a variable. -/
def One (w0 : World) (b B : Nat) (v : Array Value) (o : Option (List Nat)) (W : World) : Prop :=
  W.heap[b]? = some (.cells v 25 (0, 0)) ∧ RostAt W B (.agg v) o ∧ Below w0.heap.size w0 W
theorem One.below {w0 : World} {b B : Nat} {v : Array Value} {o : Option (List Nat)} {W W' : World} (h : One w0 b B v o W) (hb : Below W.heap.size W W') : One w0 b B v o W' :=
  ⟨blk_below' hb h.1, h.2.1.below hb, below_then h.2.2 hb⟩
theorem RostAt.grown {W W' : World} {B : Nat} {v : Value} {o : Option (List Nat)} {k : Nat} (h : RostAt W B v o) (hg : W.grownBy W' (some k)) (hk : ∀ l, o = some l → ∀ j, W.heap[k]? = some j → (∀ cs t f, j ≠ .cells cs t f) ∧ ∀ es c, j ≠ .map es c) (hlt : k < W.heap.size) : RostAt W' B v o := by
  cases o with
  | none => exact h
  | some l =>
    obtain ⟨sv, b, D, rfl, h1, ⟨h2, h3⟩, h4⟩ := h
    obtain ⟨j, hj⟩ : ∃ j, W.heap[k]? = some j := ⟨_, Array.getElem?_eq_getElem hlt⟩
    obtain ⟨n1, n2⟩ := hk l rfl j hj
    refine ⟨sv, b, D, rfl, h1.kept hg ?_, ⟨h2.kept hg ?_, h3⟩, h4⟩
    · rcases h1.2 with ⟨h, _⟩ | ⟨g, cap, cur, rfl, _, hh, _⟩
      · exact .inl (by rw [h]; rfl)
      · refine .inr fun e => ?_
        have : g = k := by simpa [Value.ownBlock] using e
        subst this
        rw [hj] at hh
        exact n1 _ _ _ (Option.some.inj hh)
    · intro e
      have : b = k := by simpa using e
      subst this
      obtain ⟨es, c, hb, _⟩ := h2
      rw [hj] at hb
      exact n2 _ _ (Option.some.inj hb)

set_option maxRecDepth 100000 in
set_option maxHeartbeats 2000000 in
theorem rosterOwn_walk (s : ByteArray) (hs : s.size ≤ 140737488351232) (w : World) :
    Calls Try.prog 5 #[.string s] w fun e w' => e = .returned (.bool true) ∧ Below w.heap.size w w' := by
  have H1 := Lib.hid (fun w => read_any s (by omega) w)
  have H3 := Lib.hid alive_any
  go_enter Try.func5, Try.ntmps5
  go_wp2_with fail
  refine (H1.out _).mono ?_
  rintro e w1 ⟨v, a, x, o, rfl, hv, hr, hB⟩
  obtain ⟨t, sa, sc, m, rfl⟩ := hr.shape
  have HV := Lib.hid hv
  clear hv
  have hT : One w w1.heap.size w.heap.size #[.string t, .slice sa (sgs o).length sc, .map m] o (w1.alloc (.cells #[.string t, .slice sa (sgs o).length sc, .map m] 25)) :=
    ⟨blk_new w1 _, hr.below ((Below.refl _ _).alloc (Nat.le_refl _) _), hB.alloc hB.size _⟩
  have hz1 := hB.size
  clear hr hB H1
  cases o with
  | none =>
    have hx : (x != 0) = true := by have := readV_none HV.out; rw [bne_iff_ne]; omega
    go_wp2_with (first
      | (go_at_call 14; refine (H3.out _).mono ?_; rintro e w2 ⟨rfl, hB2⟩; have hT2 := hT.below hB2; obtain ⟨c0, c1, c2, _⟩ := three_cells hT2.1)
      | (go_at_call 15; refine (size_any _ _ _ _ hT2.2.1).mono ?_; rintro e w3 ⟨rfl, hB3⟩; have hT3 := hT2.below hB3; obtain ⟨d0, d1, d2, _⟩ := three_cells hT3.1)
      | (go_at_call 16; refine (text_any _ _ _ _ hT3.2.1).mono ?_; rintro e w4 ⟨rfl, hB4⟩; have hT4 := hT3.below hB4))
    go_ret
    exact ⟨ret_bool (by simp [textV, ByteArray.toList_eq]), hT4.2.2⟩
  | some l =>
    obtain ⟨ha, rfl, hl, hnd, hl1, hl2, hcl, htx, hs1, hs2, hpl⟩ := readV_some HV.out
    have HL := Lib.hid hl
    have HTX := Lib.hid htx
    have hll : (sgs (some l)).length = l.length := rfl
    clear ha hl htx hll
    go_wp2
    go_loopw [6] (fun n wr => ∃ (pos : Nat) (pre : List Nat), n = .int .i64 pre.length ∧ wr.heap[w1.heap.size + 1]? = some (.stringIter s pos) ∧ One w w1.heap.size w.heap.size #[.string t, .slice sa (sgs (some l)).length sc, .map m] (some l) wr ∧ Hid (st s 0 = pre ++ st s pos) ∧ pos ≤ s.size ∧ pre.length ≤ pos) (fun _ wr => s.size - wr.iterPos (w1.heap.size + 1))
    case atStart =>
      refine ⟨0, [], rfl, ?_, hT.below ((Below.refl _ _).alloc (Nat.le_refl _) _), rfl, by omega, by simp⟩
      have := World.iter_heap (w1.alloc (.cells #[.string t, .slice sa (sgs (some l)).length sc, .map m] 25)) s 0
      simpa using this
    case round =>
      obtain ⟨pos, pre, rfl, hit, hO, hk, hpos, hpl2⟩ := hrel
      have hip := Lib.hid (iterPos_of hit)
      clear hT
      by_cases hp : pos < s.size
      · obtain ⟨W1, hnx, hit1, hg, hzW⟩ := next_at Try.prog hit hp
        have hO1 : One w w1.heap.size w.heap.size #[.string t, .slice sa (sgs (some l)).length sc, .map m] (some l) W1 := by
          refine ⟨blk_grown hg hO.1 (by simp), hO.2.1.grown hg (fun l' _ j hj => ?_) (blk_lt hit), below_grown hO.2.2 hg hO.2.2.size (fun j hj => by cases hj; omega)⟩
          rw [hit] at hj
          cases hj
          exact ⟨(fun _ _ _ h => by cases h), (fun _ _ h => by cases h)⟩
        have hwd := wd_bd s pos hp
        have hrn := rn_bd s pos
        have hat : l[pre.length]? = some (rn s pos) := by
          rw [HL.out, rs, hk.out, st_cons hp]
          simp
        have hlt := (List.getElem?_eq_some_iff.1 hat).1
        have HSG := Lib.hid (show signV (sgs (some l)) pre.length = .tuple #[.int .i32 (rn s pos : Int), .int .i64 0] by
          unfold signV; rw [if_pos (by show _ ∧ ((pre.length : Int) < (l.length : Int)); omega)]; simp [sgs, List.getD_eq_getElem?_getD, hat])
        have HID := Lib.hid (show idV (sgs (some l)) (rn s pos) = .tuple #[.int .i64 pre.length, .int .i64 0] by
          unfold idV; rw [show fnd (sgs (some l)) (rn s pos) = some pre.length from fnd_at hnd hat])
        have hwf : (Lit.int .i32 (rn s pos : Int)).wf = true := WalkArith.wf_i32 (by omega)
        obtain ⟨c0, c1, c2, _⟩ := three_cells hO1.1
        clear hat hg hO hit
        go_wp2_with (first
          | (go_at_call 18; refine (sign_is _ _ _ _ hO1.2.1 _ _ HSG.out).mono ?_; rintro e w3 ⟨rfl, hB3⟩; have hO3 := hO1.below hB3; obtain ⟨d0, d1, d2, _⟩ := three_cells hO3.1)
          | (go_at_call 19; refine (id_is _ _ _ _ hO3.2.1 _ hwf _ HID.out).mono ?_; rintro e w4 ⟨rfl, hB4⟩; have hO4 := hO3.below hB4))
        have hit4 := blk_below' hB4 (blk_below' hB3 hit1)
        go_roundw
        case rel =>
          refine ⟨pos + wd s pos, pre ++ [pos], by rw [List.length_append, List.length_singleton]; go_num, hit4, hO4, ?_, by omega, by simp; omega⟩
          show _ = _
          rw [hk.out, st_cons hp]; simp
        case measure =>
          rw [hip.out, iterPos_of hit4]
          omega
      · have hnx := next_end Try.prog hit hp
        have hlen : pre.length = l.length := by
          have := hk.out
          rw [st_nil hp, List.append_nil] at this
          rw [HL.out, rs, List.length_map, this]
        have HLEN := Lib.hid hlen
        have hll : (sgs (some l)).length = l.length := rfl
        have b1 : (1 : Int) ≤ (pre.length : Int) := by omega
        have b2 : (pre.length : Int) ≤ 100 := by omega
        have b3 : ((pre.length : Int) == ((sgs (some l)).length : Int)) = true := by rw [hll, hlen]; simp
        obtain ⟨c0, c1, c2, _⟩ := three_cells hO.1
        clear hlen hll
        go_wp2_with (first
          | (go_at_call 14; refine (H3.out _).mono ?_; rintro e w2 ⟨rfl, hB2⟩; have hT2 := hO.below hB2; obtain ⟨c0, c1, c2, _⟩ := three_cells hT2.1)
          | (go_at_call 15; refine (size_any _ _ _ _ hT2.2.1).mono ?_; rintro e w3 ⟨rfl, hB3⟩; have hT3 := hT2.below hB3; obtain ⟨d0, d1, d2, _⟩ := three_cells hT3.1)
          | (go_at_call 16; refine (text_is _ _ _ _ hT3.2.1 s HTX.out).mono ?_; rintro e w4 ⟨rfl, hB4⟩; have hT4 := hT3.below hB4))
        go_ret
        exact ⟨rfl, hT4.2.2⟩
end Go.Proofs.Ythbejpgeohhppaa
