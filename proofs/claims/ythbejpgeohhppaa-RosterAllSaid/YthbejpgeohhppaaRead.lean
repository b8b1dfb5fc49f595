/- Walk: roster.Read. -/
import Derived.Test.YthbejpgeohhppaaIds
import Derived.Test.YthbejpgeohhppaaShelf
namespace Go.Proofs.Ythbejpgeohhppaa
set_option linter.unusedVariables false
open Go.RowKit Go.Maps

theorem Try.infoRune : (Try.prog.info? 21).map (fun i => (i.zero, i.size, i.bytes)) = some (some (.int .i32 0), 1, 4) := by kernel_rfl

set_option maxHeartbeats 400000 in
theorem clone_any (s : ByteArray) (hs : s.size ≤ 281474976710656) (w : World) :
    Calls Try.prog 25 #[.string s] w fun e w' => e = .returned (.string s) ∧ Below w.heap.size w w' := by
  go_enter Try.func25, Try.ntmps25
  go_wp2_with (go_at_call 42; refine (Try.stringslite_Clone _ _ hs).mono ?_; rintro e w1 ⟨rfl, hB⟩)
  go_ret
  exact ⟨rfl, hB⟩

abbrev r0 : Value := .agg #[.string ⟨#[]⟩, .slice none 0 0, .map none]
def ReadP (s : ByteArray) (w : World) (e : Ending) (w' : World) : Prop :=
  ∃ v a x o, e = .returned (.tuple #[v, .int .i64 (a : Nat), .int .i64 x]) ∧ readV s = (o, a, x) ∧ RostAt w' w.heap.size v o ∧ Below w.heap.size w w'
theorem ReadP.none {s : ByteArray} {w w' : World} {a : Nat} {x : Int} (h : readV s = (none, a, x)) (hB : Below w.heap.size w w') : ReadP s w (.returned (.tuple #[r0, .int .i64 a, .int .i64 x])) w' :=
  ⟨_, a, x, Option.none, rfl, h, rfl, hB⟩

set_option maxHeartbeats 400000 in
theorem read_long (s : ByteArray) (h : 65536 < s.size) (hs : s.size ≤ 9223372036854775807) (w : World) :
    Calls Try.prog 12 #[.string s] w (ReadP s w) := by
  go_enter Try.func12, Try.ntmps12
  go_wp2
  exact bodyPost_ret (v := .tuple #[r0, .int .i64 ((0 : Nat) : Int), .int .i64 2]) (by simp [results, Try.results12, go_sem]) rfl (ReadP.none (by simp [readV, h]) ((Below.refl _ _).alloc (Nat.le_refl _) _))

set_option maxHeartbeats 400000 in
theorem read_empty (s : ByteArray) (h : s.size = 0) (w : World) :
    Calls Try.prog 12 #[.string s] w (ReadP s w) := by
  obtain rfl : s = ByteArray.empty := by
    cases s with | mk d => cases d with | mk l => simp [ByteArray.size] at h; subst h; rfl
  go_enter Try.func12, Try.ntmps12
  go_wp2
  exact bodyPost_ret (v := .tuple #[r0, .int .i64 ((0 : Nat) : Int), .int .i64 40]) (by simp [results, Try.results12, go_sem]) rfl (ReadP.none (by decide +kernel) ((Below.refl _ _).alloc (Nat.le_refl _) _))

set_option maxRecDepth 100000 in
set_option maxHeartbeats 1000000 in
theorem read_some (s : ByteArray) (h1 : 1 ≤ s.size) (h2 : s.size ≤ 65536) (w : World) :
    Calls Try.prog 12 #[.string s] w (ReadP s w) := by
  obtain ⟨i0, hi, hz0, hz1, hz2⟩ := info_parts Try.infoRune
  have hne : (s.toList.isEmpty) = false := by
    rw [ByteArray.toList_eq]
    cases hl : s.data.toList with
    | nil => have : s.data.toList.length = s.size := by rw [Array.length_toList]; rfl
             rw [hl] at this; simp only [List.length_nil] at this; omega
    | cons _ _ => rfl
  have hmm := @run_makeMap Try.prog
  have H := Lib.hid (fun w => clone_any s (by omega) w)
  go_enter Try.func12, Try.ntmps12
  go_wp2_with (go_at_call 25; refine (H.out _).mono ?_; rintro e w1 ⟨rfl, hB⟩)
  clear hmm H
  have z1 := hB.size
  have hsz : w.heap.size + 1 ≤ w1.heap.size := by simpa using z1
  have B0 : w1.heap[w.heap.size]? = some (.cells #[.string ⟨#[]⟩, .slice none 0 0, .map none] 25 (0, 0)) := blk_below' hB (blk_new w _)
  have hbl : Below w.heap.size w w1 := below_alloc_then (Below.refl _ w) hB
  clear hB z1
  go_loopw [] (fun wr => ∃ (pos : Nat) (acc : List Nat) (sv : Value) (D : DataW Unit), wr.heap[w.heap.size]? = some (.cells #[.string ⟨#[]⟩, .slice none 0 0, .map none] 25 (0, 0)) ∧
      wr.heap[w1.heap.size + 1]? = some (.cells #[.string s, sv, .map (some w1.heap.size)] 25 (0, 0)) ∧ wr.heap[w1.heap.size + 1 + 1]? = some (.stringIter s pos) ∧
      wr.ownsRow (w1.heap.size + 1 + 1 + 1) 21 1 sv acc.length (sgC acc) ∧ Ids wr w1.heap.size acc D ∧ Hid (readV s = rdGo s (st s pos) acc) ∧ acc.length ≤ 100 ∧ pos ≤ s.size ∧ w1.heap.size + 1 + 1 + 1 ≤ wr.heap.size ∧ Below w.heap.size w wr) (fun wr => s.size - wr.iterPos (w1.heap.size + 1 + 1))
  case atStart =>
    refine ⟨0, [], .slice none 0 0, .map [], blk_old (blk_old (blk_old B0 _) _) _, ?_, ?_, World.ownsRow_nil _ _ _ _, ⟨?_, idsD_nil⟩, ?_, by simp, by omega, by simp [World.iter], ?_⟩
    · have := blk_new (w1.alloc (.map #[] 0)) (.cells #[.string s, .slice none 0 0, .map (some w1.heap.size)] 25)
      rw [World.size_alloc] at this
      exact blk_old this _
    · have := World.iter_heap ((w1.alloc (.map #[] 0)).alloc (.cells #[.string s, .slice none 0 0, .map (some w1.heap.size)] 25)) s 0
      simpa using this
    · exact ((World.ownsMap_made w1 _ _ _).alloc _).alloc _
    · show _ = _
      unfold readV
      rw [if_neg (by omega), if_neg (by omega)]
    · exact ((hbl.alloc (by omega) _).alloc (by simp; omega) _).alloc (by simp; omega) _
  case round =>
    obtain ⟨pos, acc, sv, D, b0, b1, b2, hown, ⟨hmap, hD⟩, hk, hl, hpos, hzz, hbw⟩ := hrel
    have hip := Lib.hid (iterPos_of b2)
    obtain ⟨sa, sc, rfl, hsl⟩ := ownsRow_slice hown
    by_cases hp : pos < s.size
    · obtain ⟨W1, hnx, hit1, hg, hzW⟩ := next_at Try.prog b2 hp
      have b0' := blk_grown hg b0 (by simp <;> omega)
      have b1' := blk_grown hg b1 (by simp <;> omega)
      have hown' := hown.kept hg (.inr (row_blk hown (by omega)).symm)
      have hmap' := hmap.kept hg (by simp <;> omega)
      have hbw' := below_grown hbw hg hbw.size (fun j hj => by cases hj; have := hbl.size; omega)
      obtain ⟨k10, k11, k12, f10, f11, f12⟩ := three_cells b1'
      obtain ⟨k00, k01, k02, f00, f01, f02⟩ := three_cells b0'
      clear b0 b1 b2 hown hmap hg
      have hrn := rn_bd s pos
      have hwf : (Lit.int .i32 (rn s pos : Int)).wf = true := WalkArith.wf_i32 (by omega)
      have hkey : keyOf Try.prog 21 (.int .i32 (rn s pos : Int)) = some (.int .i32 (rn s pos : Int)) := keyOf_int_mk Try.underlying21 hwf
      have hgo := Lib.hid (show rdGo s (st s pos) acc = _ by rw [st_cons hp, rdGo])
      have hfm := Lib.hid (fnd_mem (l := acc) (r := rn s pos))
      have hD2 := Lib.hid (hD (rn s pos))
      obtain ⟨c, hc⟩ : ∃ c, classN (rn s pos) = c := ⟨_, rfl⟩
      have HC : Hid (∀ w, Calls Try.prog 26 #[.int .i32 (rn s pos : Int)] w fun e w' => e = .returned (.int .i64 c) ∧ w = w') := Lib.hid (fun w => by rw [← hc]; exact class_any _ w)
      have HCC := Lib.hid hc
      clear hc
      by_cases h4 : c = 4
      · subst h4
        cases hh : Maps.has D (.int .i32 (rn s pos : Int)) with
        | true =>
          have hm : rn s pos ∈ acc := by have := hfm.out; rw [← hD2.out.2, hh] at this; simpa using this.symm
          have hE : readV s = (none, acc.length, 42) := by rw [hk.out, hgo.out]; simp [HCC.out, hm]
          have HE := Lib.hid hE
          clear hE
          go_wp2_with (first
            | (at_lookup; refine wpList_lookup_own_ok_int _ rfl _ _ 23 rfl 21 3 .i64 idsLaw Try.underlying23 Try.underlying3 (idsZero _) w1.heap.size acc.length D rfl hmap' _ _ rfl hkey ?_; intro c' hat hwc)
            | (go_at_call 26; refine (HC.out _).mono ?_; rintro e w' ⟨rfl, rfl⟩))
          refine bodyPost_ret (v := .tuple #[r0, .int .i64 (acc.length : Nat), .int .i64 42]) (by simp [results, Try.results12, go_sem, k00, k01, k02]) rfl ?_
          exact ReadP.none HE.out (((hbw'.setCell (by simp) _).setCell (by simp) _).setCell (by simp) _)
        | false =>
          have hm : rn s pos ∉ acc := by have := hfm.out; rw [← hD2.out.2, hh] at this; simpa using this.symm
          by_cases hfull : acc.length = 100
          · have hf : ((acc.length : Int) == 100) = true := by simp; omega
            have hE : readV s = (none, acc.length, 2) := by rw [hk.out, hgo.out]; simp [HCC.out, hm, hfull]
            have HE := Lib.hid hE
            clear hE
            go_wp2_with (first
              | (at_lookup; refine wpList_lookup_own_ok_int _ rfl _ _ 23 rfl 21 3 .i64 idsLaw Try.underlying23 Try.underlying3 (idsZero _) w1.heap.size acc.length D rfl hmap' _ _ rfl hkey ?_; intro c' hat hwc)
              | (go_at_call 26; refine (HC.out _).mono ?_; rintro e w' ⟨rfl, rfl⟩))
            refine bodyPost_ret (v := .tuple #[r0, .int .i64 (acc.length : Nat), .int .i64 2]) (by simp [results, Try.results12, go_sem, k00, k01, k02, hfull]) rfl ?_
            exact ReadP.none HE.out (((hbw'.setCell (by simp) _).setCell (by simp) _).setCell (by simp) _)
          · have hf : ((acc.length : Int) == 100) = false := by simp; omega
            have hf2 : fnd acc (rn s pos) = none := by have := hD2.out.2; rw [hh] at this; cases hx : fnd acc (rn s pos) with
              | none => rfl
              | some k => rw [hx] at this; simp at this
            have HF := Lib.hid hf2
            have HMI := Lib.hid hmap'.isMap
            have HM := Lib.hid hm
            have HFU := Lib.hid hfull
            clear hf2 hm hfull
            go_wp2_with (first
            | (at_lookup; refine wpList_lookup_own_ok_int _ rfl _ _ 23 rfl 21 3 .i64 idsLaw Try.underlying23 Try.underlying3 (idsZero _) w1.heap.size acc.length D rfl hmap' _ _ rfl hkey ?_; intro c' hat hwc)
            | (go_at_call 26; refine (HC.out _).mono ?_; rintro e w' ⟨rfl, rfl⟩)
            | (at_mapUpdate; refine wpList_mapUpdate_own _ rfl _ _ _ 23 rfl 21 3 idsLaw Try.underlying23 (plainElem Try.prog 3) w1.heap.size acc.length D rfl hmap' (by unfold maxLen; omega) _ _ _ rfl rfl hkey (.lit (.int .i64 acc.length)) [] (plainElem_int Try.underlying3 (WalkArith.wf_i64 (by omega))) ?_; intro w2 hmap2 hg2; have b12 := blk_grown hg2 b1' (by simp <;> omega); obtain ⟨j10, j11, j12, g10, g11, g12⟩ := three_cells b12)
            | (at_builtin; refine wpList_append_own _ rfl _ _ 22 rfl (w1.heap.size + 1 + 1 + 1) 21 i0 (.int .i32 0) 1 4 Try.underlying22 hi hz0 hz1 hz2 rfl (by decide) _ _ _ rfl ((hown'.kept hg2 (.inr (row_blk hown' (by omega)).symm)).alloc _) ⟨w2.heap.size, 0, none⟩ 1 1 [.int .i32 (rn s pos)] rfl rfl ?c1 ?c2 ?c3 ?c4 ?c5 ?_))
            case c1 => exact cells_new w2 [_] _
            case c2 => intro u hu; simp at hu; subst hu; rfl
            case c3 => unfold maxLen; omega
            case c4 => omega
            case c5 => have := hg2.size; simp; omega
            intro v' w3 hown3 hg3 hv3
            obtain ⟨va, vc, rfl, hvl⟩ := ownsRow_slice hown3
            have hz2 := hg2.size
            have hz3 := hg3.size
            rw [World.size_alloc] at hz3
            have hnr := row_blk hown' (b := w1.heap.size + 1) (by omega)
            have b13 := blk_grown hg3 (blk_old b12 _) hnr
            obtain ⟨l10, l11, l12, e10, e11, e12⟩ := three_cells b13
            have hmap3 := (hmap2.alloc (.cells #[.int .i32 (rn s pos : Int)] 21)).kept hg3 (row_blk hown' (by omega))
            have hit3 := blk_grown hg3 (blk_old (blk_grown hg2 hit1 (by simp <;> omega)) _) (row_blk hown' (by omega))
            have b03 := blk_grown hg3 (blk_old (blk_grown hg2 b0' (by simp <;> omega)) _) (row_blk hown' (by omega))
            have hbw3 := below_grown ((below_grown hbw' hg2 (by omega) (fun j hj => by cases hj; omega)).alloc (by omega) _) hg3 (by simp; omega) (fun j hj => by have := (hown'.lt j hj).1; omega)
            have hwd := wd_bd s pos hp
            clear hmap' hmap2 hown' hg2 hg3 b12 b1' b0' hit1 hbw' k10 k11 k12 f10 f11 f12 k00 k01 k02 f00 f01 f02 j10 j11 j12 g10 g11 g12
            go_wp2
            go_roundw
            case rel =>
              refine ⟨pos + wd s pos, acc ++ [rn s pos], .slice va (acc.length + 1) vc, D.put (.int .i32 (rn s pos : Int)) (.lit (.int .i64 acc.length)), blk_set b03 _ _ (by simp; omega), ?_, blk_set hit3 _ _ (by simp), ?_, ⟨?_, ?_⟩, ?_, by have := HFU.out; simp; omega, by omega, by simp; omega, hbw3.setCell (by simp; omega) _⟩
              · have := blk_store b13 1 (.slice va (acc.length + 1) vc)
                simpa using this
              · have := ownsRow_set hown3 (p := ⟨w1.heap.size + 1, 1, none⟩) (by simp) (.slice va (acc.length + 1) vc)
                rw [List.length_append, List.length_singleton]
                rwa [show sgC acc ++ [Value.int .i32 (rn s pos : Int)] = sgC (acc ++ [rn s pos]) from by simp [sgC]] at this
              · have := hmap3.setCell (a := ⟨w1.heap.size + 1, 1, none⟩) (by simp) (.slice va (acc.length + 1) vc)
                rwa [List.length_append, List.length_singleton]
              · exact idsD_snoc HMI.out hrn.1 hD HF.out
              · show _ = _
                rw [hk.out, hgo.out]
                simp [HCC.out, HM.out, HFU.out]
            case measure =>
              have h := iterPos_of (blk_set hit3 ⟨w1.heap.size + 1, 1, none⟩ (.slice va (acc.length + 1) vc) (by simp))
              rw [hip.out, h]
              omega
      · have h5 : (c != 4) = true := by simpa using h4
        have hE : readV s = (none, acc.length, 41) := by rw [hk.out, hgo.out]; simp [HCC.out, h4]
        have HE := Lib.hid hE
        clear hE
        go_wp2_with (first
          | (at_lookup; refine wpList_lookup_own_ok_int _ rfl _ _ 23 rfl 21 3 .i64 idsLaw Try.underlying23 Try.underlying3 (idsZero _) w1.heap.size acc.length D rfl hmap' _ _ rfl hkey ?_; intro c' hat hwc)
          | (go_at_call 26; refine (HC.out _).mono ?_; rintro e w' ⟨rfl, rfl⟩))
        refine bodyPost_ret (v := .tuple #[r0, .int .i64 (acc.length : Nat), .int .i64 41]) (by simp [results, Try.results12, go_sem, k00, k01, k02]) rfl ?_
        exact ReadP.none HE.out (((hbw'.setCell (by simp) _).setCell (by simp) _).setCell (by simp) _)
    · have hnx := next_end Try.prog b2 hp
      obtain ⟨k10, k11, k12, f10, f11, f12⟩ := three_cells b1
      obtain ⟨k00, k01, k02, f00, f01, f02⟩ := three_cells b0
      go_wp2
      refine bodyPost_ret (v := .tuple #[.agg #[.string s, .slice sa acc.length sc, .map (some w1.heap.size)], .int .i64 ((0 : Nat) : Int), .int .i64 0]) (by simp [results, Try.results12, go_sem, k00, k01, k02]) rfl ?_
      have hh := hk.out
      rw [st_nil hp, rdGo] at hh
      obtain ⟨_, _, _, _, _, _, _, htx, _⟩ := readV_some hh
      refine ⟨_, 0, 0, some acc, rfl, hh, ⟨_, _, D, by rw [htx], ?_, ⟨?_, hD⟩, by omega⟩, ?_⟩
      · exact ownsRow_base (ownsRow_set (ownsRow_set (ownsRow_set hown (by simp; omega) _) (by simp; omega) _) (by simp; omega) _) (by omega)
      · exact ((hmap.setCell (by simp; omega) _).setCell (by simp; omega) _).setCell (by simp; omega) _
      · exact ((hbw.setCell (by simp) _).setCell (by simp) _).setCell (by simp) _
end Go.Proofs.Ythbejpgeohhppaa
