/- Walk: does no list share memory with another one? -/
import Derived.Test.YtpfiaepoibablaaBkG
import Derived.Test.YtpfiaepoibablaaBkN
namespace Go.Proofs.Ytpfiaepoibablaa
set_option linter.unusedVariables false
set_option linter.unusedSimpArgs false
open Go.RowKit

theorem Gr.mkd {Wb W : World} {S base K : Nat} {vb vw ov : Value} {L : List Ls} (h : Gr Wb S base K vb vw L L.length ov W) (hs : ∀ x ∈ L, x.l.length ≤ 1000) : Mkd W base ov L.length ∧ Mkd W base vb L.length := by
  obtain ⟨G, hG, hg⟩ := h.ro
  refine ⟨⟨G, hG, fun i g hi => ?_⟩, ⟨L.map Ls.v, h.rb, fun i v hi => ?_⟩⟩
  · obtain ⟨x, hx, h1, _⟩ := hg i g hi
    exact ⟨_, by have := hs x (List.mem_of_getElem? hx); omega, h1⟩
  · rw [List.getElem?_map] at hi
    obtain ⟨x, hx, rfl⟩ := Option.map_eq_some_iff.1 hi
    exact ⟨_, by have := hs x (List.mem_of_getElem? hx); omega, h.rd i x hx⟩
theorem nil_cells {W : World} {K : Nat} {vb vw : Value} (h : W.heap[K]? = some (.cells (bookC vb vw) 41 (0, 0))) :
    W.cell? ⟨K, 0, none⟩ = some (.slice none 0 0) ∧ W.cell? ⟨K, 2, none⟩ = some (.slice none 0 0) ∧ W.cell? ⟨K, 4, none⟩ = some (.slice none 0 0) ∧ W.cell? ⟨K, 6, none⟩ = some (.slice none 0 0) ∧ W.cell? ⟨K, 10, none⟩ = some (.slice none 0 0) ∧ W.cell? ⟨K, 12, none⟩ = some (.slice none 0 0) ∧ W.cell? ⟨K, 14, none⟩ = some (.slice none 0 0) ∧ W.cell? ⟨K, 16, none⟩ = some (.slice none 0 0) ∧ W.cell? ⟨K, 18, none⟩ = some (.slice none 0 0) ∧ W.cell? ⟨K, 20, none⟩ = some (.slice none 0 0) ∧ W.cell? ⟨K, 22, none⟩ = some (.slice none 0 0) ∧ W.cell? ⟨K, 8, none⟩ = some vb :=
  ⟨(blk_cell h 0).trans rfl, (blk_cell h 2).trans rfl, (blk_cell h 4).trans rfl, (blk_cell h 6).trans rfl, (blk_cell h 10).trans rfl, (blk_cell h 12).trans rfl, (blk_cell h 14).trans rfl, (blk_cell h 16).trans rfl, (blk_cell h 18).trans rfl, (blk_cell h 20).trans rfl, (blk_cell h 22).trans rfl, (blk_cell h 8).trans rfl⟩
set_option maxRecDepth 100000 in
set_option maxHeartbeats 4000000 in
theorem apart_any (base K : Nat) (vb vw : Value) (L : List Ls) (W : World) (h : Bk W base K vb vw L) (hbase : base ≤ W.heap.size) :
    Calls Try.prog 15 #[.pointer (some ⟨K, 0, none⟩)] W fun e w' => e = .returned (.bool true) ∧ Below base W w' := by
  have HB := Lib.hid h
  clear h
  obtain ⟨c0, c2, c4, c6, c10, c12, c14, c16, c18, c20, c22, c8⟩ := nil_cells HB.out.box
  go_enter Try.func15, Try.ntmps15
  go_wp2_with
    (first
      | (go_at_call 32; refine (stillInts_nil K _ (by assumption)).mono ?_; rintro e w9 ⟨rfl, rfl⟩)
      | (go_at_call 44; refine (putInts_nil K _ (by assumption)).mono ?_; rintro e w9 ⟨rfl, rfl⟩)
      | (go_at_call 56; refine (growInts_nil K _ (by assumption)).mono ?_; rintro e w9 ⟨rfl, rfl⟩)
      | (go_at_call 68; refine (markedInts_nil _).mono ?_; rintro e w9 ⟨rfl, rfl⟩)
      | (go_at_call 33; refine (stillChars_nil K _ (by assumption)).mono ?_; rintro e w9 ⟨rfl, rfl⟩)
      | (go_at_call 45; refine (putChars_nil K _ (by assumption)).mono ?_; rintro e w9 ⟨rfl, rfl⟩)
      | (go_at_call 57; refine (growChars_nil K _ (by assumption)).mono ?_; rintro e w9 ⟨rfl, rfl⟩)
      | (go_at_call 69; refine (markedChars_nil _).mono ?_; rintro e w9 ⟨rfl, rfl⟩)
      | (go_at_call 34; refine (stillTokens_nil K _ (by assumption)).mono ?_; rintro e w9 ⟨rfl, rfl⟩)
      | (go_at_call 46; refine (putTokens_nil K _ (by assumption)).mono ?_; rintro e w9 ⟨rfl, rfl⟩)
      | (go_at_call 58; refine (growTokens_nil K _ (by assumption)).mono ?_; rintro e w9 ⟨rfl, rfl⟩)
      | (go_at_call 70; refine (markedTokens_nil _).mono ?_; rintro e w9 ⟨rfl, rfl⟩)
      | (go_at_call 35; refine (stillNotices_nil K _ (by assumption)).mono ?_; rintro e w9 ⟨rfl, rfl⟩)
      | (go_at_call 47; refine (putNotices_nil K _ (by assumption)).mono ?_; rintro e w9 ⟨rfl, rfl⟩)
      | (go_at_call 59; refine (growNotices_nil K _ (by assumption)).mono ?_; rintro e w9 ⟨rfl, rfl⟩)
      | (go_at_call 71; refine (markedNotices_nil _).mono ?_; rintro e w9 ⟨rfl, rfl⟩)
      | (go_at_call 37; refine (stillSets_nil K _ (by assumption)).mono ?_; rintro e w9 ⟨rfl, rfl⟩)
      | (go_at_call 49; refine (putSets_nil K _ (by assumption)).mono ?_; rintro e w9 ⟨rfl, rfl⟩)
      | (go_at_call 61; refine (growSets_nil K _ (by assumption)).mono ?_; rintro e w9 ⟨rfl, rfl⟩)
      | (go_at_call 73; refine (markedSets_nil _).mono ?_; rintro e w9 ⟨rfl, rfl⟩)
      | (go_at_call 38; refine (stillEvents_nil K _ (by assumption)).mono ?_; rintro e w9 ⟨rfl, rfl⟩)
      | (go_at_call 50; refine (putEvents_nil K _ (by assumption)).mono ?_; rintro e w9 ⟨rfl, rfl⟩)
      | (go_at_call 62; refine (growEvents_nil K _ (by assumption)).mono ?_; rintro e w9 ⟨rfl, rfl⟩)
      | (go_at_call 74; refine (markedEvents_nil _).mono ?_; rintro e w9 ⟨rfl, rfl⟩)
      | (go_at_call 39; refine (stillErrs_nil K _ (by assumption)).mono ?_; rintro e w9 ⟨rfl, rfl⟩)
      | (go_at_call 51; refine (putErrs_nil K _ (by assumption)).mono ?_; rintro e w9 ⟨rfl, rfl⟩)
      | (go_at_call 63; refine (growErrs_nil K _ (by assumption)).mono ?_; rintro e w9 ⟨rfl, rfl⟩)
      | (go_at_call 75; refine (markedErrs_nil _).mono ?_; rintro e w9 ⟨rfl, rfl⟩)
      | (go_at_call 40; refine (stillOuts_nil K _ (by assumption)).mono ?_; rintro e w9 ⟨rfl, rfl⟩)
      | (go_at_call 52; refine (putOuts_nil K _ (by assumption)).mono ?_; rintro e w9 ⟨rfl, rfl⟩)
      | (go_at_call 64; refine (growOuts_nil K _ (by assumption)).mono ?_; rintro e w9 ⟨rfl, rfl⟩)
      | (go_at_call 76; refine (markedOuts_nil _).mono ?_; rintro e w9 ⟨rfl, rfl⟩)
      | (go_at_call 41; refine (stillGrams_nil K _ (by assumption)).mono ?_; rintro e w9 ⟨rfl, rfl⟩)
      | (go_at_call 53; refine (putGrams_nil K _ (by assumption)).mono ?_; rintro e w9 ⟨rfl, rfl⟩)
      | (go_at_call 65; refine (growGrams_nil K _ (by assumption)).mono ?_; rintro e w9 ⟨rfl, rfl⟩)
      | (go_at_call 77; refine (markedGrams_nil _).mono ?_; rintro e w9 ⟨rfl, rfl⟩)
      | (go_at_call 42; refine (stillSteps_nil K _ (by assumption)).mono ?_; rintro e w9 ⟨rfl, rfl⟩)
      | (go_at_call 54; refine (putSteps_nil K _ (by assumption)).mono ?_; rintro e w9 ⟨rfl, rfl⟩)
      | (go_at_call 66; refine (growSteps_nil K _ (by assumption)).mono ?_; rintro e w9 ⟨rfl, rfl⟩)
      | (go_at_call 78; refine (markedSteps_nil _).mono ?_; rintro e w9 ⟨rfl, rfl⟩)
      | (go_at_call 43; refine (stillRows_nil K _ (by assumption)).mono ?_; rintro e w9 ⟨rfl, rfl⟩)
      | (go_at_call 55; refine (putRows_nil K _ (by assumption)).mono ?_; rintro e w9 ⟨rfl, rfl⟩)
      | (go_at_call 67; refine (growRows_nil K _ (by assumption)).mono ?_; rintro e w9 ⟨rfl, rfl⟩)
      | (go_at_call 79; refine (markedRows_nil _).mono ?_; rintro e w9 ⟨rfl, rfl⟩))
  refine (still_any base K vb vw L _ HB.out).mono ?_
  rintro e w1 ⟨rfl, hB1⟩
  have HB1 := Lib.hid (HB.out.below hB1)
  have HL1 : Hid (Below base W w1 ∧ base ≤ w1.heap.size) := ⟨hB1.mono hbase, Nat.le_trans hbase hB1.size⟩
  clear c0 c2 c4 c6 c10 c12 c14 c16 c18 c20 c22 c8
  clear hB1
  obtain ⟨c0, c2, c4, c6, c10, c12, c14, c16, c18, c20, c22, c8⟩ := nil_cells HB1.out.box
  go_wp2_with
    (first
      | (go_at_call 32; refine (stillInts_nil K _ (by assumption)).mono ?_; rintro e w9 ⟨rfl, rfl⟩)
      | (go_at_call 44; refine (putInts_nil K _ (by assumption)).mono ?_; rintro e w9 ⟨rfl, rfl⟩)
      | (go_at_call 56; refine (growInts_nil K _ (by assumption)).mono ?_; rintro e w9 ⟨rfl, rfl⟩)
      | (go_at_call 68; refine (markedInts_nil _).mono ?_; rintro e w9 ⟨rfl, rfl⟩)
      | (go_at_call 33; refine (stillChars_nil K _ (by assumption)).mono ?_; rintro e w9 ⟨rfl, rfl⟩)
      | (go_at_call 45; refine (putChars_nil K _ (by assumption)).mono ?_; rintro e w9 ⟨rfl, rfl⟩)
      | (go_at_call 57; refine (growChars_nil K _ (by assumption)).mono ?_; rintro e w9 ⟨rfl, rfl⟩)
      | (go_at_call 69; refine (markedChars_nil _).mono ?_; rintro e w9 ⟨rfl, rfl⟩)
      | (go_at_call 34; refine (stillTokens_nil K _ (by assumption)).mono ?_; rintro e w9 ⟨rfl, rfl⟩)
      | (go_at_call 46; refine (putTokens_nil K _ (by assumption)).mono ?_; rintro e w9 ⟨rfl, rfl⟩)
      | (go_at_call 58; refine (growTokens_nil K _ (by assumption)).mono ?_; rintro e w9 ⟨rfl, rfl⟩)
      | (go_at_call 70; refine (markedTokens_nil _).mono ?_; rintro e w9 ⟨rfl, rfl⟩)
      | (go_at_call 35; refine (stillNotices_nil K _ (by assumption)).mono ?_; rintro e w9 ⟨rfl, rfl⟩)
      | (go_at_call 47; refine (putNotices_nil K _ (by assumption)).mono ?_; rintro e w9 ⟨rfl, rfl⟩)
      | (go_at_call 59; refine (growNotices_nil K _ (by assumption)).mono ?_; rintro e w9 ⟨rfl, rfl⟩)
      | (go_at_call 71; refine (markedNotices_nil _).mono ?_; rintro e w9 ⟨rfl, rfl⟩)
      | (go_at_call 37; refine (stillSets_nil K _ (by assumption)).mono ?_; rintro e w9 ⟨rfl, rfl⟩)
      | (go_at_call 49; refine (putSets_nil K _ (by assumption)).mono ?_; rintro e w9 ⟨rfl, rfl⟩)
      | (go_at_call 61; refine (growSets_nil K _ (by assumption)).mono ?_; rintro e w9 ⟨rfl, rfl⟩)
      | (go_at_call 73; refine (markedSets_nil _).mono ?_; rintro e w9 ⟨rfl, rfl⟩)
      | (go_at_call 38; refine (stillEvents_nil K _ (by assumption)).mono ?_; rintro e w9 ⟨rfl, rfl⟩)
      | (go_at_call 50; refine (putEvents_nil K _ (by assumption)).mono ?_; rintro e w9 ⟨rfl, rfl⟩)
      | (go_at_call 62; refine (growEvents_nil K _ (by assumption)).mono ?_; rintro e w9 ⟨rfl, rfl⟩)
      | (go_at_call 74; refine (markedEvents_nil _).mono ?_; rintro e w9 ⟨rfl, rfl⟩)
      | (go_at_call 39; refine (stillErrs_nil K _ (by assumption)).mono ?_; rintro e w9 ⟨rfl, rfl⟩)
      | (go_at_call 51; refine (putErrs_nil K _ (by assumption)).mono ?_; rintro e w9 ⟨rfl, rfl⟩)
      | (go_at_call 63; refine (growErrs_nil K _ (by assumption)).mono ?_; rintro e w9 ⟨rfl, rfl⟩)
      | (go_at_call 75; refine (markedErrs_nil _).mono ?_; rintro e w9 ⟨rfl, rfl⟩)
      | (go_at_call 40; refine (stillOuts_nil K _ (by assumption)).mono ?_; rintro e w9 ⟨rfl, rfl⟩)
      | (go_at_call 52; refine (putOuts_nil K _ (by assumption)).mono ?_; rintro e w9 ⟨rfl, rfl⟩)
      | (go_at_call 64; refine (growOuts_nil K _ (by assumption)).mono ?_; rintro e w9 ⟨rfl, rfl⟩)
      | (go_at_call 76; refine (markedOuts_nil _).mono ?_; rintro e w9 ⟨rfl, rfl⟩)
      | (go_at_call 41; refine (stillGrams_nil K _ (by assumption)).mono ?_; rintro e w9 ⟨rfl, rfl⟩)
      | (go_at_call 53; refine (putGrams_nil K _ (by assumption)).mono ?_; rintro e w9 ⟨rfl, rfl⟩)
      | (go_at_call 65; refine (growGrams_nil K _ (by assumption)).mono ?_; rintro e w9 ⟨rfl, rfl⟩)
      | (go_at_call 77; refine (markedGrams_nil _).mono ?_; rintro e w9 ⟨rfl, rfl⟩)
      | (go_at_call 42; refine (stillSteps_nil K _ (by assumption)).mono ?_; rintro e w9 ⟨rfl, rfl⟩)
      | (go_at_call 54; refine (putSteps_nil K _ (by assumption)).mono ?_; rintro e w9 ⟨rfl, rfl⟩)
      | (go_at_call 66; refine (growSteps_nil K _ (by assumption)).mono ?_; rintro e w9 ⟨rfl, rfl⟩)
      | (go_at_call 78; refine (markedSteps_nil _).mono ?_; rintro e w9 ⟨rfl, rfl⟩)
      | (go_at_call 43; refine (stillRows_nil K _ (by assumption)).mono ?_; rintro e w9 ⟨rfl, rfl⟩)
      | (go_at_call 55; refine (putRows_nil K _ (by assumption)).mono ?_; rintro e w9 ⟨rfl, rfl⟩)
      | (go_at_call 67; refine (growRows_nil K _ (by assumption)).mono ?_; rintro e w9 ⟨rfl, rfl⟩)
      | (go_at_call 79; refine (markedRows_nil _).mono ?_; rintro e w9 ⟨rfl, rfl⟩))
  refine (bkPut_any base K vb vw L _ HB1.out HL1.out.2).mono ?_
  rintro e w2 ⟨rfl, hP2, hL2⟩
  have HP2 := Lib.hid hP2
  have HL2 : Hid (Below base W w2 ∧ base ≤ w2.heap.size) := ⟨HL1.out.1.trans hL2, Nat.le_trans HL1.out.2 hL2.size⟩
  clear c0 c2 c4 c6 c10 c12 c14 c16 c18 c20 c22 c8
  clear hP2 hL2
  obtain ⟨c0, c2, c4, c6, c10, c12, c14, c16, c18, c20, c22, c8⟩ := nil_cells HP2.out.box
  go_wp2_with
    (first
      | (go_at_call 32; refine (stillInts_nil K _ (by assumption)).mono ?_; rintro e w9 ⟨rfl, rfl⟩)
      | (go_at_call 44; refine (putInts_nil K _ (by assumption)).mono ?_; rintro e w9 ⟨rfl, rfl⟩)
      | (go_at_call 56; refine (growInts_nil K _ (by assumption)).mono ?_; rintro e w9 ⟨rfl, rfl⟩)
      | (go_at_call 68; refine (markedInts_nil _).mono ?_; rintro e w9 ⟨rfl, rfl⟩)
      | (go_at_call 33; refine (stillChars_nil K _ (by assumption)).mono ?_; rintro e w9 ⟨rfl, rfl⟩)
      | (go_at_call 45; refine (putChars_nil K _ (by assumption)).mono ?_; rintro e w9 ⟨rfl, rfl⟩)
      | (go_at_call 57; refine (growChars_nil K _ (by assumption)).mono ?_; rintro e w9 ⟨rfl, rfl⟩)
      | (go_at_call 69; refine (markedChars_nil _).mono ?_; rintro e w9 ⟨rfl, rfl⟩)
      | (go_at_call 34; refine (stillTokens_nil K _ (by assumption)).mono ?_; rintro e w9 ⟨rfl, rfl⟩)
      | (go_at_call 46; refine (putTokens_nil K _ (by assumption)).mono ?_; rintro e w9 ⟨rfl, rfl⟩)
      | (go_at_call 58; refine (growTokens_nil K _ (by assumption)).mono ?_; rintro e w9 ⟨rfl, rfl⟩)
      | (go_at_call 70; refine (markedTokens_nil _).mono ?_; rintro e w9 ⟨rfl, rfl⟩)
      | (go_at_call 35; refine (stillNotices_nil K _ (by assumption)).mono ?_; rintro e w9 ⟨rfl, rfl⟩)
      | (go_at_call 47; refine (putNotices_nil K _ (by assumption)).mono ?_; rintro e w9 ⟨rfl, rfl⟩)
      | (go_at_call 59; refine (growNotices_nil K _ (by assumption)).mono ?_; rintro e w9 ⟨rfl, rfl⟩)
      | (go_at_call 71; refine (markedNotices_nil _).mono ?_; rintro e w9 ⟨rfl, rfl⟩)
      | (go_at_call 37; refine (stillSets_nil K _ (by assumption)).mono ?_; rintro e w9 ⟨rfl, rfl⟩)
      | (go_at_call 49; refine (putSets_nil K _ (by assumption)).mono ?_; rintro e w9 ⟨rfl, rfl⟩)
      | (go_at_call 61; refine (growSets_nil K _ (by assumption)).mono ?_; rintro e w9 ⟨rfl, rfl⟩)
      | (go_at_call 73; refine (markedSets_nil _).mono ?_; rintro e w9 ⟨rfl, rfl⟩)
      | (go_at_call 38; refine (stillEvents_nil K _ (by assumption)).mono ?_; rintro e w9 ⟨rfl, rfl⟩)
      | (go_at_call 50; refine (putEvents_nil K _ (by assumption)).mono ?_; rintro e w9 ⟨rfl, rfl⟩)
      | (go_at_call 62; refine (growEvents_nil K _ (by assumption)).mono ?_; rintro e w9 ⟨rfl, rfl⟩)
      | (go_at_call 74; refine (markedEvents_nil _).mono ?_; rintro e w9 ⟨rfl, rfl⟩)
      | (go_at_call 39; refine (stillErrs_nil K _ (by assumption)).mono ?_; rintro e w9 ⟨rfl, rfl⟩)
      | (go_at_call 51; refine (putErrs_nil K _ (by assumption)).mono ?_; rintro e w9 ⟨rfl, rfl⟩)
      | (go_at_call 63; refine (growErrs_nil K _ (by assumption)).mono ?_; rintro e w9 ⟨rfl, rfl⟩)
      | (go_at_call 75; refine (markedErrs_nil _).mono ?_; rintro e w9 ⟨rfl, rfl⟩)
      | (go_at_call 40; refine (stillOuts_nil K _ (by assumption)).mono ?_; rintro e w9 ⟨rfl, rfl⟩)
      | (go_at_call 52; refine (putOuts_nil K _ (by assumption)).mono ?_; rintro e w9 ⟨rfl, rfl⟩)
      | (go_at_call 64; refine (growOuts_nil K _ (by assumption)).mono ?_; rintro e w9 ⟨rfl, rfl⟩)
      | (go_at_call 76; refine (markedOuts_nil _).mono ?_; rintro e w9 ⟨rfl, rfl⟩)
      | (go_at_call 41; refine (stillGrams_nil K _ (by assumption)).mono ?_; rintro e w9 ⟨rfl, rfl⟩)
      | (go_at_call 53; refine (putGrams_nil K _ (by assumption)).mono ?_; rintro e w9 ⟨rfl, rfl⟩)
      | (go_at_call 65; refine (growGrams_nil K _ (by assumption)).mono ?_; rintro e w9 ⟨rfl, rfl⟩)
      | (go_at_call 77; refine (markedGrams_nil _).mono ?_; rintro e w9 ⟨rfl, rfl⟩)
      | (go_at_call 42; refine (stillSteps_nil K _ (by assumption)).mono ?_; rintro e w9 ⟨rfl, rfl⟩)
      | (go_at_call 54; refine (putSteps_nil K _ (by assumption)).mono ?_; rintro e w9 ⟨rfl, rfl⟩)
      | (go_at_call 66; refine (growSteps_nil K _ (by assumption)).mono ?_; rintro e w9 ⟨rfl, rfl⟩)
      | (go_at_call 78; refine (markedSteps_nil _).mono ?_; rintro e w9 ⟨rfl, rfl⟩)
      | (go_at_call 43; refine (stillRows_nil K _ (by assumption)).mono ?_; rintro e w9 ⟨rfl, rfl⟩)
      | (go_at_call 55; refine (putRows_nil K _ (by assumption)).mono ?_; rintro e w9 ⟨rfl, rfl⟩)
      | (go_at_call 67; refine (growRows_nil K _ (by assumption)).mono ?_; rintro e w9 ⟨rfl, rfl⟩)
      | (go_at_call 79; refine (markedRows_nil _).mono ?_; rintro e w9 ⟨rfl, rfl⟩))
  refine (grow_any base K vb vw L W _ HP2.out HB.out.sep HL2.out.1 HL2.out.2 HB.out.few HB.out.short HB.out.ty).mono ?_
  rintro e w3 ⟨ov, rfl, hG3⟩
  obtain ⟨hm1, hm2⟩ := hG3.mkd HB.out.short
  have HM1 := Lib.hid hm1
  have HM2 := Lib.hid hm2
  have HX3 := Lib.hid hG3.box
  have HL3 : Hid (Below base W w3 ∧ base ≤ w3.heap.size) := ⟨hG3.low, Nat.le_trans hG3.bs hG3.sz⟩
  clear c0 c2 c4 c6 c10 c12 c14 c16 c18 c20 c22 c8
  clear hG3 hm1 hm2
  obtain ⟨c0, c2, c4, c6, c10, c12, c14, c16, c18, c20, c22, c8⟩ := nil_cells HX3.out
  go_wp2_with
    (first
      | (go_at_call 32; refine (stillInts_nil K _ (by assumption)).mono ?_; rintro e w9 ⟨rfl, rfl⟩)
      | (go_at_call 44; refine (putInts_nil K _ (by assumption)).mono ?_; rintro e w9 ⟨rfl, rfl⟩)
      | (go_at_call 56; refine (growInts_nil K _ (by assumption)).mono ?_; rintro e w9 ⟨rfl, rfl⟩)
      | (go_at_call 68; refine (markedInts_nil _).mono ?_; rintro e w9 ⟨rfl, rfl⟩)
      | (go_at_call 33; refine (stillChars_nil K _ (by assumption)).mono ?_; rintro e w9 ⟨rfl, rfl⟩)
      | (go_at_call 45; refine (putChars_nil K _ (by assumption)).mono ?_; rintro e w9 ⟨rfl, rfl⟩)
      | (go_at_call 57; refine (growChars_nil K _ (by assumption)).mono ?_; rintro e w9 ⟨rfl, rfl⟩)
      | (go_at_call 69; refine (markedChars_nil _).mono ?_; rintro e w9 ⟨rfl, rfl⟩)
      | (go_at_call 34; refine (stillTokens_nil K _ (by assumption)).mono ?_; rintro e w9 ⟨rfl, rfl⟩)
      | (go_at_call 46; refine (putTokens_nil K _ (by assumption)).mono ?_; rintro e w9 ⟨rfl, rfl⟩)
      | (go_at_call 58; refine (growTokens_nil K _ (by assumption)).mono ?_; rintro e w9 ⟨rfl, rfl⟩)
      | (go_at_call 70; refine (markedTokens_nil _).mono ?_; rintro e w9 ⟨rfl, rfl⟩)
      | (go_at_call 35; refine (stillNotices_nil K _ (by assumption)).mono ?_; rintro e w9 ⟨rfl, rfl⟩)
      | (go_at_call 47; refine (putNotices_nil K _ (by assumption)).mono ?_; rintro e w9 ⟨rfl, rfl⟩)
      | (go_at_call 59; refine (growNotices_nil K _ (by assumption)).mono ?_; rintro e w9 ⟨rfl, rfl⟩)
      | (go_at_call 71; refine (markedNotices_nil _).mono ?_; rintro e w9 ⟨rfl, rfl⟩)
      | (go_at_call 37; refine (stillSets_nil K _ (by assumption)).mono ?_; rintro e w9 ⟨rfl, rfl⟩)
      | (go_at_call 49; refine (putSets_nil K _ (by assumption)).mono ?_; rintro e w9 ⟨rfl, rfl⟩)
      | (go_at_call 61; refine (growSets_nil K _ (by assumption)).mono ?_; rintro e w9 ⟨rfl, rfl⟩)
      | (go_at_call 73; refine (markedSets_nil _).mono ?_; rintro e w9 ⟨rfl, rfl⟩)
      | (go_at_call 38; refine (stillEvents_nil K _ (by assumption)).mono ?_; rintro e w9 ⟨rfl, rfl⟩)
      | (go_at_call 50; refine (putEvents_nil K _ (by assumption)).mono ?_; rintro e w9 ⟨rfl, rfl⟩)
      | (go_at_call 62; refine (growEvents_nil K _ (by assumption)).mono ?_; rintro e w9 ⟨rfl, rfl⟩)
      | (go_at_call 74; refine (markedEvents_nil _).mono ?_; rintro e w9 ⟨rfl, rfl⟩)
      | (go_at_call 39; refine (stillErrs_nil K _ (by assumption)).mono ?_; rintro e w9 ⟨rfl, rfl⟩)
      | (go_at_call 51; refine (putErrs_nil K _ (by assumption)).mono ?_; rintro e w9 ⟨rfl, rfl⟩)
      | (go_at_call 63; refine (growErrs_nil K _ (by assumption)).mono ?_; rintro e w9 ⟨rfl, rfl⟩)
      | (go_at_call 75; refine (markedErrs_nil _).mono ?_; rintro e w9 ⟨rfl, rfl⟩)
      | (go_at_call 40; refine (stillOuts_nil K _ (by assumption)).mono ?_; rintro e w9 ⟨rfl, rfl⟩)
      | (go_at_call 52; refine (putOuts_nil K _ (by assumption)).mono ?_; rintro e w9 ⟨rfl, rfl⟩)
      | (go_at_call 64; refine (growOuts_nil K _ (by assumption)).mono ?_; rintro e w9 ⟨rfl, rfl⟩)
      | (go_at_call 76; refine (markedOuts_nil _).mono ?_; rintro e w9 ⟨rfl, rfl⟩)
      | (go_at_call 41; refine (stillGrams_nil K _ (by assumption)).mono ?_; rintro e w9 ⟨rfl, rfl⟩)
      | (go_at_call 53; refine (putGrams_nil K _ (by assumption)).mono ?_; rintro e w9 ⟨rfl, rfl⟩)
      | (go_at_call 65; refine (growGrams_nil K _ (by assumption)).mono ?_; rintro e w9 ⟨rfl, rfl⟩)
      | (go_at_call 77; refine (markedGrams_nil _).mono ?_; rintro e w9 ⟨rfl, rfl⟩)
      | (go_at_call 42; refine (stillSteps_nil K _ (by assumption)).mono ?_; rintro e w9 ⟨rfl, rfl⟩)
      | (go_at_call 54; refine (putSteps_nil K _ (by assumption)).mono ?_; rintro e w9 ⟨rfl, rfl⟩)
      | (go_at_call 66; refine (growSteps_nil K _ (by assumption)).mono ?_; rintro e w9 ⟨rfl, rfl⟩)
      | (go_at_call 78; refine (markedSteps_nil _).mono ?_; rintro e w9 ⟨rfl, rfl⟩)
      | (go_at_call 43; refine (stillRows_nil K _ (by assumption)).mono ?_; rintro e w9 ⟨rfl, rfl⟩)
      | (go_at_call 55; refine (putRows_nil K _ (by assumption)).mono ?_; rintro e w9 ⟨rfl, rfl⟩)
      | (go_at_call 67; refine (growRows_nil K _ (by assumption)).mono ?_; rintro e w9 ⟨rfl, rfl⟩)
      | (go_at_call 79; refine (markedRows_nil _).mono ?_; rintro e w9 ⟨rfl, rfl⟩))
  refine (marked_any base L.length ov _ HM1.out HB.out.few).mono ?_
  rintro e w4 ⟨rfl, hB4⟩
  have HX4 := Lib.hid (blk_below' hB4 HX3.out)
  have HM4 := Lib.hid (HM2.out.below hB4)
  have HL4 : Hid (Below base W w4 ∧ base ≤ w4.heap.size) := ⟨HL3.out.1.trans (hB4.mono HL3.out.2), Nat.le_trans HL3.out.2 hB4.size⟩
  clear c0 c2 c4 c6 c10 c12 c14 c16 c18 c20 c22 c8
  clear hB4
  obtain ⟨c0, c2, c4, c6, c10, c12, c14, c16, c18, c20, c22, c8⟩ := nil_cells HX4.out
  go_wp2_with
    (first
      | (go_at_call 32; refine (stillInts_nil K _ (by assumption)).mono ?_; rintro e w9 ⟨rfl, rfl⟩)
      | (go_at_call 44; refine (putInts_nil K _ (by assumption)).mono ?_; rintro e w9 ⟨rfl, rfl⟩)
      | (go_at_call 56; refine (growInts_nil K _ (by assumption)).mono ?_; rintro e w9 ⟨rfl, rfl⟩)
      | (go_at_call 68; refine (markedInts_nil _).mono ?_; rintro e w9 ⟨rfl, rfl⟩)
      | (go_at_call 33; refine (stillChars_nil K _ (by assumption)).mono ?_; rintro e w9 ⟨rfl, rfl⟩)
      | (go_at_call 45; refine (putChars_nil K _ (by assumption)).mono ?_; rintro e w9 ⟨rfl, rfl⟩)
      | (go_at_call 57; refine (growChars_nil K _ (by assumption)).mono ?_; rintro e w9 ⟨rfl, rfl⟩)
      | (go_at_call 69; refine (markedChars_nil _).mono ?_; rintro e w9 ⟨rfl, rfl⟩)
      | (go_at_call 34; refine (stillTokens_nil K _ (by assumption)).mono ?_; rintro e w9 ⟨rfl, rfl⟩)
      | (go_at_call 46; refine (putTokens_nil K _ (by assumption)).mono ?_; rintro e w9 ⟨rfl, rfl⟩)
      | (go_at_call 58; refine (growTokens_nil K _ (by assumption)).mono ?_; rintro e w9 ⟨rfl, rfl⟩)
      | (go_at_call 70; refine (markedTokens_nil _).mono ?_; rintro e w9 ⟨rfl, rfl⟩)
      | (go_at_call 35; refine (stillNotices_nil K _ (by assumption)).mono ?_; rintro e w9 ⟨rfl, rfl⟩)
      | (go_at_call 47; refine (putNotices_nil K _ (by assumption)).mono ?_; rintro e w9 ⟨rfl, rfl⟩)
      | (go_at_call 59; refine (growNotices_nil K _ (by assumption)).mono ?_; rintro e w9 ⟨rfl, rfl⟩)
      | (go_at_call 71; refine (markedNotices_nil _).mono ?_; rintro e w9 ⟨rfl, rfl⟩)
      | (go_at_call 37; refine (stillSets_nil K _ (by assumption)).mono ?_; rintro e w9 ⟨rfl, rfl⟩)
      | (go_at_call 49; refine (putSets_nil K _ (by assumption)).mono ?_; rintro e w9 ⟨rfl, rfl⟩)
      | (go_at_call 61; refine (growSets_nil K _ (by assumption)).mono ?_; rintro e w9 ⟨rfl, rfl⟩)
      | (go_at_call 73; refine (markedSets_nil _).mono ?_; rintro e w9 ⟨rfl, rfl⟩)
      | (go_at_call 38; refine (stillEvents_nil K _ (by assumption)).mono ?_; rintro e w9 ⟨rfl, rfl⟩)
      | (go_at_call 50; refine (putEvents_nil K _ (by assumption)).mono ?_; rintro e w9 ⟨rfl, rfl⟩)
      | (go_at_call 62; refine (growEvents_nil K _ (by assumption)).mono ?_; rintro e w9 ⟨rfl, rfl⟩)
      | (go_at_call 74; refine (markedEvents_nil _).mono ?_; rintro e w9 ⟨rfl, rfl⟩)
      | (go_at_call 39; refine (stillErrs_nil K _ (by assumption)).mono ?_; rintro e w9 ⟨rfl, rfl⟩)
      | (go_at_call 51; refine (putErrs_nil K _ (by assumption)).mono ?_; rintro e w9 ⟨rfl, rfl⟩)
      | (go_at_call 63; refine (growErrs_nil K _ (by assumption)).mono ?_; rintro e w9 ⟨rfl, rfl⟩)
      | (go_at_call 75; refine (markedErrs_nil _).mono ?_; rintro e w9 ⟨rfl, rfl⟩)
      | (go_at_call 40; refine (stillOuts_nil K _ (by assumption)).mono ?_; rintro e w9 ⟨rfl, rfl⟩)
      | (go_at_call 52; refine (putOuts_nil K _ (by assumption)).mono ?_; rintro e w9 ⟨rfl, rfl⟩)
      | (go_at_call 64; refine (growOuts_nil K _ (by assumption)).mono ?_; rintro e w9 ⟨rfl, rfl⟩)
      | (go_at_call 76; refine (markedOuts_nil _).mono ?_; rintro e w9 ⟨rfl, rfl⟩)
      | (go_at_call 41; refine (stillGrams_nil K _ (by assumption)).mono ?_; rintro e w9 ⟨rfl, rfl⟩)
      | (go_at_call 53; refine (putGrams_nil K _ (by assumption)).mono ?_; rintro e w9 ⟨rfl, rfl⟩)
      | (go_at_call 65; refine (growGrams_nil K _ (by assumption)).mono ?_; rintro e w9 ⟨rfl, rfl⟩)
      | (go_at_call 77; refine (markedGrams_nil _).mono ?_; rintro e w9 ⟨rfl, rfl⟩)
      | (go_at_call 42; refine (stillSteps_nil K _ (by assumption)).mono ?_; rintro e w9 ⟨rfl, rfl⟩)
      | (go_at_call 54; refine (putSteps_nil K _ (by assumption)).mono ?_; rintro e w9 ⟨rfl, rfl⟩)
      | (go_at_call 66; refine (growSteps_nil K _ (by assumption)).mono ?_; rintro e w9 ⟨rfl, rfl⟩)
      | (go_at_call 78; refine (markedSteps_nil _).mono ?_; rintro e w9 ⟨rfl, rfl⟩)
      | (go_at_call 43; refine (stillRows_nil K _ (by assumption)).mono ?_; rintro e w9 ⟨rfl, rfl⟩)
      | (go_at_call 55; refine (putRows_nil K _ (by assumption)).mono ?_; rintro e w9 ⟨rfl, rfl⟩)
      | (go_at_call 67; refine (growRows_nil K _ (by assumption)).mono ?_; rintro e w9 ⟨rfl, rfl⟩)
      | (go_at_call 79; refine (markedRows_nil _).mono ?_; rintro e w9 ⟨rfl, rfl⟩))
  refine (marked_any base L.length vb _ HM4.out HB.out.few).mono ?_
  rintro e w5 ⟨rfl, hB5⟩
  have HX5 := Lib.hid (blk_below' hB5 HX4.out)
  have HL5 : Hid (Below base W w5) := HL4.out.1.trans (hB5.mono HL4.out.2)
  clear c0 c2 c4 c6 c10 c12 c14 c16 c18 c20 c22 c8
  clear hB5
  obtain ⟨c0, c2, c4, c6, c10, c12, c14, c16, c18, c20, c22, c8⟩ := nil_cells HX5.out
  go_wp2_with
    (first
      | (go_at_call 32; refine (stillInts_nil K _ (by assumption)).mono ?_; rintro e w9 ⟨rfl, rfl⟩)
      | (go_at_call 44; refine (putInts_nil K _ (by assumption)).mono ?_; rintro e w9 ⟨rfl, rfl⟩)
      | (go_at_call 56; refine (growInts_nil K _ (by assumption)).mono ?_; rintro e w9 ⟨rfl, rfl⟩)
      | (go_at_call 68; refine (markedInts_nil _).mono ?_; rintro e w9 ⟨rfl, rfl⟩)
      | (go_at_call 33; refine (stillChars_nil K _ (by assumption)).mono ?_; rintro e w9 ⟨rfl, rfl⟩)
      | (go_at_call 45; refine (putChars_nil K _ (by assumption)).mono ?_; rintro e w9 ⟨rfl, rfl⟩)
      | (go_at_call 57; refine (growChars_nil K _ (by assumption)).mono ?_; rintro e w9 ⟨rfl, rfl⟩)
      | (go_at_call 69; refine (markedChars_nil _).mono ?_; rintro e w9 ⟨rfl, rfl⟩)
      | (go_at_call 34; refine (stillTokens_nil K _ (by assumption)).mono ?_; rintro e w9 ⟨rfl, rfl⟩)
      | (go_at_call 46; refine (putTokens_nil K _ (by assumption)).mono ?_; rintro e w9 ⟨rfl, rfl⟩)
      | (go_at_call 58; refine (growTokens_nil K _ (by assumption)).mono ?_; rintro e w9 ⟨rfl, rfl⟩)
      | (go_at_call 70; refine (markedTokens_nil _).mono ?_; rintro e w9 ⟨rfl, rfl⟩)
      | (go_at_call 35; refine (stillNotices_nil K _ (by assumption)).mono ?_; rintro e w9 ⟨rfl, rfl⟩)
      | (go_at_call 47; refine (putNotices_nil K _ (by assumption)).mono ?_; rintro e w9 ⟨rfl, rfl⟩)
      | (go_at_call 59; refine (growNotices_nil K _ (by assumption)).mono ?_; rintro e w9 ⟨rfl, rfl⟩)
      | (go_at_call 71; refine (markedNotices_nil _).mono ?_; rintro e w9 ⟨rfl, rfl⟩)
      | (go_at_call 37; refine (stillSets_nil K _ (by assumption)).mono ?_; rintro e w9 ⟨rfl, rfl⟩)
      | (go_at_call 49; refine (putSets_nil K _ (by assumption)).mono ?_; rintro e w9 ⟨rfl, rfl⟩)
      | (go_at_call 61; refine (growSets_nil K _ (by assumption)).mono ?_; rintro e w9 ⟨rfl, rfl⟩)
      | (go_at_call 73; refine (markedSets_nil _).mono ?_; rintro e w9 ⟨rfl, rfl⟩)
      | (go_at_call 38; refine (stillEvents_nil K _ (by assumption)).mono ?_; rintro e w9 ⟨rfl, rfl⟩)
      | (go_at_call 50; refine (putEvents_nil K _ (by assumption)).mono ?_; rintro e w9 ⟨rfl, rfl⟩)
      | (go_at_call 62; refine (growEvents_nil K _ (by assumption)).mono ?_; rintro e w9 ⟨rfl, rfl⟩)
      | (go_at_call 74; refine (markedEvents_nil _).mono ?_; rintro e w9 ⟨rfl, rfl⟩)
      | (go_at_call 39; refine (stillErrs_nil K _ (by assumption)).mono ?_; rintro e w9 ⟨rfl, rfl⟩)
      | (go_at_call 51; refine (putErrs_nil K _ (by assumption)).mono ?_; rintro e w9 ⟨rfl, rfl⟩)
      | (go_at_call 63; refine (growErrs_nil K _ (by assumption)).mono ?_; rintro e w9 ⟨rfl, rfl⟩)
      | (go_at_call 75; refine (markedErrs_nil _).mono ?_; rintro e w9 ⟨rfl, rfl⟩)
      | (go_at_call 40; refine (stillOuts_nil K _ (by assumption)).mono ?_; rintro e w9 ⟨rfl, rfl⟩)
      | (go_at_call 52; refine (putOuts_nil K _ (by assumption)).mono ?_; rintro e w9 ⟨rfl, rfl⟩)
      | (go_at_call 64; refine (growOuts_nil K _ (by assumption)).mono ?_; rintro e w9 ⟨rfl, rfl⟩)
      | (go_at_call 76; refine (markedOuts_nil _).mono ?_; rintro e w9 ⟨rfl, rfl⟩)
      | (go_at_call 41; refine (stillGrams_nil K _ (by assumption)).mono ?_; rintro e w9 ⟨rfl, rfl⟩)
      | (go_at_call 53; refine (putGrams_nil K _ (by assumption)).mono ?_; rintro e w9 ⟨rfl, rfl⟩)
      | (go_at_call 65; refine (growGrams_nil K _ (by assumption)).mono ?_; rintro e w9 ⟨rfl, rfl⟩)
      | (go_at_call 77; refine (markedGrams_nil _).mono ?_; rintro e w9 ⟨rfl, rfl⟩)
      | (go_at_call 42; refine (stillSteps_nil K _ (by assumption)).mono ?_; rintro e w9 ⟨rfl, rfl⟩)
      | (go_at_call 54; refine (putSteps_nil K _ (by assumption)).mono ?_; rintro e w9 ⟨rfl, rfl⟩)
      | (go_at_call 66; refine (growSteps_nil K _ (by assumption)).mono ?_; rintro e w9 ⟨rfl, rfl⟩)
      | (go_at_call 78; refine (markedSteps_nil _).mono ?_; rintro e w9 ⟨rfl, rfl⟩)
      | (go_at_call 43; refine (stillRows_nil K _ (by assumption)).mono ?_; rintro e w9 ⟨rfl, rfl⟩)
      | (go_at_call 55; refine (putRows_nil K _ (by assumption)).mono ?_; rintro e w9 ⟨rfl, rfl⟩)
      | (go_at_call 67; refine (growRows_nil K _ (by assumption)).mono ?_; rintro e w9 ⟨rfl, rfl⟩)
      | (go_at_call 79; refine (markedRows_nil _).mono ?_; rintro e w9 ⟨rfl, rfl⟩))
  go_ret
  exact ⟨rfl, HL5.out⟩
end Go.Proofs.Ytpfiaepoibablaa
