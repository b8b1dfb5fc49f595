/- Walks: earshotref4: find, Read, Id. -/
import Derived.Test.YthbejpgeohhppaaRead
import Derived.Test.YthbejpgeohhppaaAt
namespace Go.Proofs.Ythbejpgeohhppaa
set_option linter.unusedVariables false
open Go.RowKit Go.Maps

theorem Try.infoInt : (Try.prog.info? 3).map (fun i => (i.zero, i.size, i.bytes)) = some (some (.int .i64 0), 1, 8) := by kernel_rfl

/-- The cells of the signs as ints; the place of a sign, -1 where it is none. -/
def inC (l : List Nat) : List Value := l.map fun r : Nat => .int .i64 (r : Int)
def fndI (l : List Nat) (c : Int) : Int := match fnd l c with | some k => k | none => -1
theorem inC_len (l : List Nat) : (inC l).length = l.length := by simp [inC]
theorem inC_cell {W : World} {base n cap g : Nat} {l : List Nat} (h : W.ownsRow base 3 1 (.slice (some ⟨g, 0, none⟩) n cap) n (inC l)) (hn : n = l.length) {k r : Nat} (hk : l[k]? = some r) : W.cell? ⟨g, k, none⟩ = some (.int .i64 r) := by
  have hlt := (List.getElem?_eq_some_iff.1 hk).1
  rw [h.cellAt k (by omega)]
  simp [inC, hk]

/-- The place of a sign, from a place on. -/
theorem fnd_step (l : List Nat) (c : Int) (k : Nat) (r : Nat) (hk : l[k]? = some r) (hpre : fnd (l.take k) c = none) (hrc : (r : Int) = c) : fnd l c = some k := by
  have hlt := (List.getElem?_eq_some_iff.1 hk).1
  unfold fnd
  rw [List.findIdx?_eq_some_iff_getElem]
  refine ⟨hlt, by rw [List.getElem?_eq_getElem hlt] at hk; cases hk; simpa using hrc, fun j hj => ?_⟩
  have := fnd_none hpre l[j] (by rw [List.mem_take_iff_getElem]; exact ⟨j, by omega, rfl⟩)
  simpa using this

set_option maxHeartbeats 400000 in
theorem find_any (l : List Nat) (v : Value) (base : Nat) (r : Int) (w : World) (hl : l.length ≤ 1000000) (h : w.ownsRow base 3 1 v l.length (inC l)) :
    Calls Try.prog 29 #[v, .int .i64 r] w fun e w' => e = .returned (.int .i64 (fndI l r)) ∧ w = w' := by
  obtain ⟨a, cap, rfl, ha⟩ := ownsRow_slice h
  go_enter Try.func29, Try.ntmps29
  go_wp2
  go_loop [5] (fun i => ∃ k : Nat, i = .int .i64 k ∧ k ≤ l.length ∧ fnd (l.take k) r = none) (fun i => l.length - (intOf i).toNat)
  case atStart => exact ⟨0, rfl, by omega, by simp [fnd]⟩
  case round =>
    obtain ⟨k, rfl, hk, hf⟩ := hrel
    have HF := Lib.hid hf
    clear hf
    by_cases hlt : k < l.length
    · obtain ⟨x, hx⟩ : ∃ x, l[k]? = some x := ⟨_, List.getElem?_eq_getElem hlt⟩
      rcases ha with h0 | ⟨g, rfl, _, _⟩
      · omega
      have c0 := inC_cell h rfl hx
      have HX := Lib.hid hx
      clear hx
      by_cases hr : (x : Int) = r
      · have hb : ((x : Int) == r) = true := by simpa using hr
        have HR := Lib.hid hr
        clear hr
        go_wp2
        go_ret
        have := fnd_step l r k x HX.out HF.out HR.out
        exact ⟨ret_int (by simp [fndI, this]), rfl⟩
      · have hb : ((x : Int) == r) = false := by simpa using hr
        have HR := Lib.hid hr
        clear hr
        go_wp2
        go_round
        case rel =>
          refine ⟨k + 1, by go_num, by omega, ?_⟩
          rw [List.take_add_one, HX.out, Option.toList_some, fnd_snoc, HF.out, if_neg HR.out]; rfl
        case measure => simp [intOf]; omega
    · obtain rfl : k = l.length := by omega
      go_wp2
      go_ret
      have := HF.out
      rw [List.take_length] at this
      exact ⟨ret_int (by simp [fndI, this]), rfl⟩

set_option maxHeartbeats 400000 in
theorem refClass_w (r : Int) (w : World) : Calls Try.prog 28 #[.int .i64 r] w fun e w' => e = .returned (.int .i64 (classN r)) ∧ w = w' := refClass_any r w

abbrev rr0 : Value := .agg #[.slice none 0 0]
def RefAt (W : World) (base : Nat) (v : Value) : Option (List Nat) → Prop
  | none => v = rr0
  | some l => ∃ sv, v = .agg #[sv] ∧ W.ownsRow base 3 1 sv l.length (inC l)
def RefReadP (s : ByteArray) (w : World) (e : Ending) (w' : World) : Prop :=
  ∃ v a x o, e = .returned (.tuple #[v, .int .i64 (a : Nat), .int .i64 x]) ∧ readV s = (o, a, x) ∧ RefAt w' w.heap.size v o ∧ Below w.heap.size w w'
theorem RefReadP.none {s : ByteArray} {w w' : World} {a : Nat} {x : Int} (h : readV s = (none, a, x)) (hB : Below w.heap.size w w') : RefReadP s w (.returned (.tuple #[rr0, .int .i64 a, .int .i64 x])) w' :=
  ⟨_, a, x, Option.none, rfl, h, rfl, hB⟩

set_option maxRecDepth 100000 in
set_option maxHeartbeats 2000000 in
theorem refRead_any (s : ByteArray) (hs : s.size ≤ 140737488351232) (w : World) :
    Calls Try.prog 13 #[.string s] w (RefReadP s w) := by
  obtain ⟨i0, hi, hz0, hz1, hz2⟩ := info_parts Try.infoInt
  by_cases hlong : 65536 < s.size
  · go_enter Try.func13, Try.ntmps13
    go_wp2
    exact bodyPost_ret (v := .tuple #[rr0, .int .i64 ((0 : Nat) : Int), .int .i64 2]) (by simp [results, Try.results13, go_sem]) rfl (RefReadP.none (by simp [readV, hlong]) ((Below.refl _ _).alloc (Nat.le_refl _) _))
  go_enter Try.func13, Try.ntmps13
  go_wp2
  go_loopw [5, 6] (fun v i wr => ∃ (pos : Nat) (acc : List Nat), i = .int .i64 pos ∧ wr.ownsRow (w.heap.size + 1) 3 1 v acc.length (inC acc) ∧ wr.heap[w.heap.size]? = some (.cells #[.slice none 0 0] 31 (0, 0)) ∧
      Hid (s.size ≠ 0 → readV s = rdGo s (st s pos) acc) ∧ acc.length ≤ 100 ∧ pos ≤ s.size ∧ (acc.length = 0 ↔ pos = 0) ∧ Below w.heap.size w wr ∧ w.heap.size + 1 ≤ wr.heap.size) (fun _ i _ => s.size - (intOf i).toNat)
  case atStart =>
    refine ⟨0, [], rfl, World.ownsRow_nil _ _ _ _, blk_new w _, ?_, by simp, by omega, by simp, (Below.refl _ _).alloc (Nat.le_refl _) _, by simp⟩
    intro h0
    unfold readV
    rw [if_neg hlong, if_neg h0]
  case round =>
    obtain ⟨pos, acc, rfl, hown, b0, hk, hl, hpos, hz, hbw, hsz⟩ := hrel
    have c0 := blk_cell b0 0
    have f0 := blk_free b0 0
    simp at c0
    by_cases hp : pos < s.size
    · obtain ⟨va, vc, rfl, hva⟩ := ownsRow_slice hown
      have hk := Lib.hid (hk.out (by omega))
      have hwd := wd_bd s pos hp
      have hrn := rn_bd s pos
      have hgo := Lib.hid (show rdGo s (st s pos) acc = _ by rw [st_cons hp, rdGo])
      have HA := Lib.hid (fun w => refAt_any s pos hp (by omega) w)
      unfold atV at HA
      obtain ⟨c, hc⟩ : ∃ c, classN (rn s pos) = c := ⟨_, rfl⟩
      have HC := Lib.hid (fun w => refClass_w (rn s pos) w)
      rw [hc] at HC
      obtain ⟨f, hf⟩ : ∃ f, fndI acc (rn s pos) = f := ⟨_, rfl⟩
      have HF := Lib.hid (fun (w2 : World) h => find_any acc (.slice va acc.length vc) (w.heap.size + 1) (rn s pos) w2 (by omega) h)
      rw [hf] at HF
      have HCC := Lib.hid hc
      have HFF := Lib.hid hf
      clear hc hf
      cases hlo : lo s pos with
      | true =>
        rw [hlo] at HA
        have hne : c ≠ 4 := by
          have h1 := ((lo_iff s pos).1 hlo).1
          have h2 := HCC.out
          rw [h1] at h2
          rw [← h2]; exact class_fffd
        clear hlo
        have hE : readV s = (none, acc.length, 41) := by rw [hk.out, hgo.out]; simp [HCC.out, hne]
        have HE := Lib.hid hE
        clear hE
        go_wp2_with (first
          | (go_at_call 27; refine (HA.out _).mono ?_; rintro e w1 ⟨rfl, nq, rfl⟩)
          | (go_at_call 28; refine (HC.out _).mono ?_; rintro e w1 ⟨rfl, rfl⟩)
          | (go_at_call 29; refine (HF.out _ (ownsRow_drewN hown nq)).mono ?_; rintro e w1 ⟨rfl, rfl⟩))
        refine bodyPost_ret (v := .tuple #[rr0, .int .i64 (acc.length : Nat), .int .i64 41]) (by simp [results, Try.results13, go_sem, c0]) rfl ?_
        exact RefReadP.none HE.out ((below_drewN hbw nq).setCell (by simp) _)
      | false =>
        rw [hlo] at HA
        clear hlo
        by_cases h4 : c = 4
        · subst h4
          have hfm := fnd_mem (l := acc) (r := rn s pos)
          have hfd := HFF.out
          unfold fndI at hfd
          cases hx : fnd acc (rn s pos) with
          | some k =>
            rw [hx] at hfm hfd
            have hm : rn s pos ∈ acc := by simpa using hfm.symm
            have hge : 0 ≤ f := by rw [← hfd]; simp
            clear hfm hfd hx
            have hE : readV s = (none, acc.length, 42) := by rw [hk.out, hgo.out]; simp [HCC.out, hm]
            have HE := Lib.hid hE
            clear hE
            go_wp2_with (first
              | (go_at_call 27; refine (HA.out _).mono ?_; rintro e w1 ⟨rfl, nq, rfl⟩)
              | (go_at_call 28; refine (HC.out _).mono ?_; rintro e w1 ⟨rfl, rfl⟩)
              | (go_at_call 29; refine (HF.out _ (ownsRow_drewN hown nq)).mono ?_; rintro e w1 ⟨rfl, rfl⟩))
            refine bodyPost_ret (v := .tuple #[rr0, .int .i64 (acc.length : Nat), .int .i64 42]) (by simp [results, Try.results13, go_sem, c0]) rfl ?_
            exact RefReadP.none HE.out ((below_drewN hbw nq).setCell (by simp) _)
          | none =>
            rw [hx] at hfm hfd
            have hm : rn s pos ∉ acc := by simpa using hfm.symm
            simp only at hfd
            subst hfd
            clear hfm hx
            by_cases hfull : 100 ≤ acc.length
            · have HFU := Lib.hid (show acc.length = 100 by omega)
              have hE : readV s = (none, acc.length, 2) := by rw [hk.out, hgo.out]; simp [HCC.out, hm, HFU.out]
              have HE := Lib.hid hE
              clear hE
              go_wp2_with (first
                | (go_at_call 27; refine (HA.out _).mono ?_; rintro e w1 ⟨rfl, nq, rfl⟩)
                | (go_at_call 28; refine (HC.out _).mono ?_; rintro e w1 ⟨rfl, rfl⟩)
                | (go_at_call 29; refine (HF.out _ (ownsRow_drewN hown nq)).mono ?_; rintro e w1 ⟨rfl, rfl⟩))
              refine bodyPost_ret (v := .tuple #[rr0, .int .i64 (acc.length : Nat), .int .i64 2]) (by simp [results, Try.results13, go_sem, c0]) rfl ?_
              exact RefReadP.none HE.out ((below_drewN hbw nq).setCell (by simp) _)
            · have HM := Lib.hid hm
              clear hm
              go_wp2_with (first
                | (go_at_call 27; refine (HA.out _).mono ?_; rintro e w1 ⟨rfl, nq, rfl⟩)
                | (go_at_call 28; refine (HC.out _).mono ?_; rintro e w1 ⟨rfl, rfl⟩)
                | (go_at_call 29; refine (HF.out _ (ownsRow_drewN hown nq)).mono ?_; rintro e w1 ⟨rfl, rfl⟩)
                | (at_builtin; refine wpList_append_own _ rfl _ _ 29 rfl (w.heap.size + 1) 3 i0 (.int .i64 0) 1 8 Try.underlying29 hi hz0 hz1 hz2 rfl (by decide) _ _ _ rfl ((ownsRow_drewN hown nq).alloc _) ⟨wr.heap.size, 0, none⟩ 1 1 [.int .i64 (rn s pos)] rfl rfl ?c1 ?c2 ?c3 ?c4 ?c5 ?_))
              case c1 => exact cells_new (wr.drewN nq) [_] _
              case c2 => intro u hu; simp at hu; subst hu; rfl
              case c3 => unfold maxLen; omega
              case c4 => omega
              case c5 => simp; omega
              intro v' w3 hown3 hg3 hv3
              have b3 := blk_grown hg3 (blk_old (blk_drewN b0 nq) _) (row_blk hown (by omega))
              have hbw3 := below_append (below_drewN (hbw.mono (Nat.le_refl _)) nq) hbw.size (ownsRow_base (ownsRow_drewN hown nq) (Nat.le_succ _)) hg3
              have hz3 := hg3.size
              rw [World.size_alloc, show (wr.drewN nq).heap.size = wr.heap.size from rfl] at hz3
              clear hown b0 hg3 hbw HA HC HF
              go_wp2
              go_roundw
              case rel =>
                refine ⟨pos + wd s pos, acc ++ [rn s pos], by go_num, ?_, b3, ?_, by simp; omega, by omega, by simp; omega, hbw3, by omega⟩
                · rw [List.length_append, List.length_singleton, show inC (acc ++ [rn s pos]) = inC acc ++ [.int .i64 (rn s pos)] from by simp [inC]]
                  exact hown3
                · intro _
                  rw [hk.out, hgo.out]
                  have : acc.length ≠ 100 := by omega
                  simp [HCC.out, HM.out, this]
              case measure => simp [intOf]; omega
        · have h5 : (c != 4) = true := by simpa using h4
          have hE : readV s = (none, acc.length, 41) := by rw [hk.out, hgo.out]; simp [HCC.out, h4]
          have HE := Lib.hid hE
          clear hE
          go_wp2_with (first
            | (go_at_call 27; refine (HA.out _).mono ?_; rintro e w1 ⟨rfl, nq, rfl⟩)
            | (go_at_call 28; refine (HC.out _).mono ?_; rintro e w1 ⟨rfl, rfl⟩)
            | (go_at_call 29; refine (HF.out _ (ownsRow_drewN hown nq)).mono ?_; rintro e w1 ⟨rfl, rfl⟩))
          refine bodyPost_ret (v := .tuple #[rr0, .int .i64 (acc.length : Nat), .int .i64 41]) (by simp [results, Try.results13, go_sem, c0]) rfl ?_
          exact RefReadP.none HE.out ((below_drewN hbw nq).setCell (by simp) _)
    · obtain ⟨va, vc, rfl, hva⟩ := ownsRow_slice hown
      by_cases h0 : acc.length = 0
      · have hz0 := hz.1 h0
        have h00 : ((acc.length : Int) == 0) = true := by rw [h0]; rfl
        have hs0 : s.size = 0 := by omega
        have hE := Lib.hid (show readV s = (none, 0, 40) by unfold readV; rw [if_neg hlong, if_pos hs0])
        clear hs0 hz0 hz
        go_wp2
        refine bodyPost_ret (v := .tuple #[rr0, .int .i64 ((0 : Nat) : Int), .int .i64 40]) (by simp [results, Try.results13, go_sem, c0]) rfl ?_
        exact RefReadP.none hE.out (hbw.setCell (by simp) _)
      · have h00 : ((acc.length : Int) == 0) = false := by rw [beq_eq_false_iff_ne]; omega
        have hk2 : pos ≠ 0 := fun e => h0 (hz.2 e)
        have hs0 : s.size ≠ 0 := by omega
        clear hz
        go_wp2
        refine bodyPost_ret (v := .tuple #[.agg #[.slice va acc.length vc], .int .i64 ((0 : Nat) : Int), .int .i64 0]) (by simp [results, Try.results13, go_sem, c0]) rfl ?_
        have hh := hk.out hs0
        rw [st_nil hp, rdGo] at hh
        exact ⟨_, 0, 0, some acc, rfl, hh, ⟨_, rfl, ownsRow_base (ownsRow_set hown (by simp) _) (Nat.le_succ _)⟩, hbw.setCell (by simp) _⟩

end Go.Proofs.Ythbejpgeohhppaa
