/- Lemmas of this claim, laid one behind the other. -/
import Derived.Test.YthkppkecclnlnaaWalkNone
import Derived.Test.YthkppkecclnlnaaMBootPlays2
import Derived.Test.YthkppkecclnlnaaMBootPlays3
import Derived.Test.YthkppkecclnlnaaMBootPlays0
import Derived.Deep.DeepCutAuto
namespace Go.Proofs.Ythkppkecclnlnaa
set_option linter.unusedVariables false
set_option linter.unusedSimpArgs false
open Go.RowKit

theorem dk_info : (Try.prog.info? 90).map (·.size) = some 260 := by kernel_rfl
theorem dk_zero : Try.zeroCells90.size = 260 := by kernel_rfl
theorem dkC_one (d : Dk) : (dkC d).all (·.oneCell') = true := by
  unfold dkC
  refine all_oneCell_toArray fun v hv => ?_
  rcases List.mem_append.1 hv with h | h
  · exact bC_one _ v h
  · unfold dkT at h
    simp at h
    rcases h with rfl | rfl | rfl | rfl <;> rfl
set_option maxRecDepth 100000 in
set_option maxHeartbeats 1000000 in
theorem twin_any (b : Nat) (d : Dk) (w : World) (h : DkAt w b d) : Calls Try.prog 33 #[.pointer (some ⟨b, 0, none⟩)] w fun e w' => ∃ c, e = .returned (.pointer (some ⟨c, 0, none⟩)) ∧ w.heap.size ≤ c ∧ DkAt w' c d ∧ Below w.heap.size w w' := by
  have hD := Lib.hid h
  clear h
  go_enter Try.func33, Try.ntmps33
  go_wp2_with (first
    | (refine wpList_load_row rfl _ _ rfl b rfl _ (dkC d) _ _ hD.out.1 Try.underlying90 rfl (dk_info.trans (by rw [dkC_size hD.out.2])) ?_)
    | (refine wpList_store_mid rfl _ _ _ rfl w.heap.size 0 (dkC d) rfl rfl (there_blk (blk_new w _) 0 _ (by rw [dkC_size hD.out.2, dk_zero]; decide)) (dk_info.trans (by rw [dkC_size hD.out.2])) (dkC_one d) ?_; have n3 := new_row w Try.zeroCells90 90 (dkC d).toList (by rw [dk_zero, Array.length_toList, dkC_size hD.out.2])))
  go_ret
  exact ⟨_, rfl, Nat.le_refl _, ⟨by simpa using n3.1, hD.out.2⟩, by simpa using n3.2⟩
end Go.Proofs.Ythkppkecclnlnaa
namespace Go.Proofs.Ythkppkecclnlnaa
set_option linter.unusedVariables false
set_option linter.unusedSimpArgs false
open Go.RowKit

set_option maxRecDepth 100000 in
theorem of_short (a : Option Addr) (n c : Nat) (w : World) (hn : n ≠ 256) : Calls Try.prog 34 #[.slice a n c] w fun e w' => e = .returned (.tuple #[.pointer none, .int .i64 102]) ∧ Below w.heap.size w w' := by
  have hne : ((n : Int) != 256) = true := by simp; omega
  clear hn
  go_enter Try.func34, Try.ntmps34
  go_wp2_with fail
  go_ret2
  exact ⟨rfl, Below.refl _ _⟩
/-- The first k sectors of l, then noughts. -/
def ofL (l : List Nat) (k : Nat) : List Nat := l.take (32 * k) ++ List.replicate (256 - 32 * k) 0
theorem ofL_put {l : List Nat} (hl : l.length = 256) {k : Nat} (hk : k < 8) : putS (ofL l k) k ((l.drop (k * 32)).take 32) = ofL l (k + 1) := by
  have hlen : (l.take (32 * k)).length = 32 * k := by rw [List.length_take]; omega
  have e1 : (l.take (32 * k) ++ List.replicate (256 - 32 * k) 0).drop (32 * k + 32) = List.replicate (256 - 32 * (k + 1)) 0 := by
    rw [List.drop_append, hlen, List.drop_of_length_le (by rw [hlen]; omega), List.nil_append, List.drop_replicate]
    congr 1; omega
  unfold putS ofL
  rw [e1, List.take_append_of_le_length (by omega), List.take_take, Nat.min_self, ← List.append_assoc]
  congr 1
  rw [Nat.mul_comm k 32, show 32 * (k + 1) = 32 * k + 32 from by omega, List.take_add]
set_option maxRecDepth 100000 in
set_option maxHeartbeats 1000000 in
theorem of_any (p : Addr) (c : Nat) (l : List Nat) (w : World) (hl : l.length = 256) (hc : 256 ≤ c) (hp : p.block < w.heap.size) (hr : ∀ j x, l[j]? = some x → w.cell? (p.add j) = some (.int .u8 (x : Nat))) :
    Calls Try.prog 34 #[.slice (some p) 256 c] w fun e w' => ∃ b, e = .returned (.tuple #[.pointer (some ⟨b, 0, none⟩), .int .i64 0]) ∧ w.heap.size ≤ b ∧ DkAt w' b { Dk.new with bs := l } ∧ Below w.heap.size w w' := by
  go_enter Try.func34, Try.ntmps34
  go_wp2_with (go_at_call 21; refine (new_any _).mono ?_; rintro e w1 ⟨rfl, hD1, hB1⟩)
  have hD0 : DkAt w1 w.heap.size { Dk.new with bs := ofL l 0 } := hD1
  clear hD1
  go_loopw [10] (fun i wr => ∃ k : Nat, i = .int .i64 k ∧ k ≤ 8 ∧ DkAt wr w.heap.size { Dk.new with bs := ofL l k } ∧ Below w.heap.size w wr) (fun i _ => 8 - (intOf i).toNat)
  case atStart => exact ⟨0, rfl, by omega, hD0, hB1⟩
  case round =>
    obtain ⟨k, rfl, hk, hD, hb⟩ := hrel
    clear hD0 hB1
    by_cases hlt : k < 8
    · have i1 : (k : Int) < 8 := by omega
      have i2 : (0 : Int) ≤ (k : Int) := by omega
      have i3 : (k : Int).toNat = k := Int.toNat_natCast k
      have i4 : (k : Int) * 32 ≤ 256 := by omega
      have i5 : (256 : Int) ≤ (c : Int) := by omega
      have i6 : ¬ c = k * 32 := by omega
      have i7 : IntKind.i64.wrap ((k : Int) * 32) = (k : Int) * 32 := by rw [IntKind.wrap_i64]; omega
      have i8 : (0 : Int) ≤ (k : Int) * 32 := by omega
      have i9 : ((k : Int) * 32).toNat = k * 32 := by omega
      go_wp2_with fail
      refine wp_region_still_tail 10 (by kernel_rfl) (by kernel_rfl) ?_
      simp only [List.take_succ_cons, List.take_zero, List.drop_succ_cons, List.drop_zero]
      repeat still_step
      try refine wpStill_nil ?_
      change wpList _ _ _ _ _ wr.drew
      have hLl : (bC ((l.drop (k * 32)).take 32)).length = 32 := by rw [bC_len, List.length_take, List.length_drop]; omega
      have hsrc : ∀ j u, (bC ((l.drop (k * 32)).take 32))[j]? = some u → wr.drew.cell? ((p.add (k * 32)).add j) = some u := by
        intro j u hu
        have hj : j < 32 := by have := (List.getElem?_eq_some_iff.1 hu).1; omega
        unfold bC at hu
        rw [List.getElem?_map, List.getElem?_take_of_lt hj, List.getElem?_drop] at hu
        obtain ⟨x, hx, rfl⟩ := Option.map_eq_some_iff.1 hu
        rw [Addr.add_add]
        exact (hb.cell (show (p.add (k * 32 + j)).block < w.heap.size by rw [show (p.add (k * 32 + j)).block = p.block from by unfold Addr.add; split <;> rfl]; exact hp)).trans (hr _ x hx)
      have hD2 := hD.drew.copy hlt (show ((l.drop (k * 32)).take 32).length = 32 by rw [← bC_len]; exact hLl)
      have hb2 := (hb.drew).grown (but_setRow (but_refl wr.drew (some w.heap.size)) ((dkC { Dk.new with bs := ofL l k }).toList.take (k * 32) ++ (bC ((l.drop (k * 32)).take 32) ++ (dkC { Dk.new with bs := ofL l k }).toList.drop (k * 32 + (bC ((l.drop (k * 32)).take 32)).length))).toArray) hb.size (fun j h => by cases h; exact Nat.le_refl _)
      have HS := Lib.hid hsrc
      have HL := Lib.hid hLl
      have HD := Lib.hid hD
      have HD2 := Lib.hid hD2
      have HB2 := Lib.hid hb2
      clear hsrc hLl hD hD2 hb2 hb
      refine wpList_copy_own rfl _ _ 30 30 rfl 5 Try.underlying30 (by kernel_rfl) w.heap.size (k * 32) 32 32 (p.add (k * 32)) (256 - k * 32) (c - k * 32) rfl rfl (dkC { Dk.new with bs := ofL l k }) 90 HD.out.1 (bC ((l.drop (k * 32)).take 32)) (by rw [HL.out]; exact (Nat.min_eq_right (by omega)).symm) HS.out (by rw [HL.out, dkC_size HD.out.2]; omega) (bC_one _) ?_
      go_wp2
      go_roundw
      case rel => exact ⟨k + 1, by go_num, by omega, by rw [← ofL_put hl hlt]; exact HD2.out, HB2.out⟩
      case measure => simp [intOf]; omega
    · obtain rfl : k = 8 := by omega
      have he : ofL l 8 = l := by unfold ofL; rw [List.take_of_length_le (by omega)]; simp
      rw [he] at hD
      go_wp2
      go_ret2
      exact ⟨_, rfl, Nat.le_refl _, hD, hb⟩
end Go.Proofs.Ythkppkecclnlnaa
namespace Go.Proofs.Ythkppkecclnlnaa
set_option linter.unusedVariables false
set_option linter.unusedSimpArgs false
open Go.RowKit

theorem step12_any (w : World) (b c bb rb gb n N : Nat) (k a : Int) (B : Bt) (d : Dk) (W : World) (h : BP w b c bb rb gb n B d B d W) (hI : BI B d N) (hN : N ≤ 500000) (hn : 256 ≤ n) (ha : (Lit.int .i64 a).wf = true) :
    Calls Try.prog 81 #[.pointer (some ⟨bb, 0, none⟩), .agg #[.int .i64 k, .int .i64 a]] W fun e w' => BRes w c bb rb gb n N e w' := by
  by_cases h1 : k = 1
  · subst h1; exact step12_next w b c bb rb gb n N a B d W h hI hN hn
  by_cases h2 : k = 2
  · subst h2; exact step12_raise w b c bb rb gb n N a B d W h hI hN hn
  by_cases h3 : k = 3
  · subst h3; exact step12_open w b c bb rb gb n N a B d W h hI hN hn
  by_cases h4 : k = 4
  · subst h4; exact step12_fuse w b c bb rb gb n N a B d W h hI hN hn ha
  by_cases h5 : k = 5
  · subst h5; exact step12_cut w b c bb rb gb n N a B d W h hI hN hn
  by_cases h6 : k = 6
  · subst h6; exact step12_back w b c bb rb gb n N a B d W h hI hN hn
  exact step12_other w b c bb rb gb n N k a B d W h hI hN hn h1 h2 h3 h4 h5 h6
section
variable {P : Program} {ops : Array Oper} {Q : Exit → Act → World → Prop} {md : Region.Mode} {S S' : World → Prop} {L : Nat → Bool}
/-- What is asked behind each operation may be said anew on the way. -/
theorem wpAnyE_sub (h : ∀ w, S' w → S w) : ∀ (fuel : Nat) (listed : Array Bool) (a : Act) (w : World), wpAnyE P md ops Q S' L fuel listed a w → wpAnyE P md ops Q S L fuel listed a w
  | 0, _, _, _, k => k
  | fuel + 1, _, _, _, k => ⟨k.1, fun i hi => wpOp_mono (fun a' w' h' => ⟨fun hl => h _ (h'.1 hl), wpAnyE_sub h fuel _ a' w' h'.2⟩) (k.2 i hi)⟩
end
theorem rows2 {W : World} {v : Value} {xs : List (List Int)} (h : RowsOf W 2 v xs) {i : Nat} (hi : i < xs.length) :
    ∃ k a g o cap, xs[i]? = some [k, a] ∧ v = .slice (some ⟨g, o, none⟩) xs.length cap ∧ (W.cell? ⟨g, o + i * 2, none⟩ = some (.int .i64 k) ∧ W.cell? ⟨g, o + i * 2 + 1, none⟩ = some (.int .i64 a)) := by
  obtain ⟨p, cap, rfl, _, _, hx⟩ := h
  obtain ⟨h1, g, o, rfl, _, h2⟩ := hx i _ (List.getElem?_eq_getElem hi)
  have h3 := List.getElem?_eq_getElem hi
  generalize xs[i] = l at h1 h2 h3
  match l, h1 with
  | [k, a], _ => exact ⟨k, a, g, o, cap, h3, rfl, h2 0 k rfl, h2 1 a rfl⟩
structure L0ok (l : List Nat) : Prop where
  len : l.length = 256
  lt : ∀ c ∈ l, c < 256
theorem l0_new : L0ok Dk.new.bs := ⟨by decide +kernel, by decide +kernel⟩
theorem l0_put {l : List Nat} (h : l.length = 64) (hl : ∀ c ∈ l, c < 256) : L0ok (l ++ List.replicate 192 0) :=
  ⟨by rw [List.length_append, h, List.length_replicate], fun c hc => by
    rcases List.mem_append.1 hc with hc | hc
    · exact hl c hc
    · rw [(List.mem_replicate.1 hc).2]; decide⟩
theorem spI_of {l : List Nat} (h : L0ok l) : SpI { Dk.new with bs := l } 0 := ⟨h.lt, Nat.le_refl _, Nat.zero_le _⟩
/-- What the document's Encode leaves. -/
def EncR (w W : World) (v : Value) (er : Int) : Prop :=
  (er = 0 ∧ ∃ g l, v = .slice (some ⟨g, 0, none⟩) 64 64 ∧ w.heap.size ≤ g ∧ W.heap[g]? = some (.cells (bC l).toArray 5 (0, 0)) ∧ l.length = 64 ∧ ∀ c ∈ l, c < 256) ∨ (er = 1 ∧ v = .slice none 0 0)
theorem enc_any (a b c s : Int) (w : World) : Calls Try.prog 46 #[.agg #[.int .i64 a, .int .i64 b, .int .i64 c], .int .i64 s] w fun e w' =>
    ∃ v er, e = .returned (.tuple #[v, .int .i64 er]) ∧ EncR w w' v er ∧ Below w.heap.size w w' := by
  by_cases h : encOk a b c s
  · have h0 := refEncode_ok (rcN a b c s) (rcN_may h).1 w
    unfold recV at h0
    obtain ⟨⟨m1, m2, m3, m4, m5, m6⟩, m7, m8⟩ := h
    have e1 : (((rcN a b c s).life : Nat) : Int) = a := Int.toNat_of_nonneg (by omega)
    have e2 : (((rcN a b c s).round : Nat) : Int) = b := Int.toNat_of_nonneg m3
    have e3 : (((rcN a b c s).tag : Nat) : Int) = c := Int.toNat_of_nonneg m5
    have e4 : (((rcN a b c s).seq : Nat) : Int) = s := Int.toNat_of_nonneg (by omega)
    rw [e1, e2, e3, e4] at h0
    refine h0.mono ?_
    rintro e w1 ⟨v, rfl, ⟨g, rfl, hg1, hg2⟩, hB⟩
    exact ⟨_, 0, rfl, .inl ⟨rfl, g, _, rfl, hg1, hg2, encL_len _, encL_lt _⟩, hB⟩
  · refine (refEncode_no a b c s h w).mono ?_
    rintro e w1 ⟨rfl, hB⟩
    exact ⟨_, 1, rfl, .inr ⟨rfl, rfl⟩, hB⟩
theorem put64 (l : List Nat) (rest : List Value) (h : l.length = 64) : (((bC Dk.new.bs ++ rest).toArray).toList.take 0 ++ (bC l ++ ((bC Dk.new.bs ++ rest).toArray).toList.drop (0 + (bC l).length))).toArray = (bC (l ++ List.replicate 192 0) ++ rest).toArray := by
  have hn0 : Dk.new.bs = List.replicate 64 0 ++ List.replicate 192 0 := by decide +kernel
  have hn : bC Dk.new.bs = bC (List.replicate 64 0) ++ bC (List.replicate 192 0) := by rw [hn0]; unfold bC; rw [List.map_append]
  rw [List.take_zero, List.nil_append, List.toList_toArray, Nat.zero_add, bC_len, h, hn, List.append_assoc, List.drop_append, List.drop_of_length_le (by rw [bC_len, List.length_replicate]; exact Nat.le_refl _), List.nil_append, bC_len, List.length_replicate, Nat.sub_self, List.drop_zero, ← List.append_assoc]
  congr 2
  unfold bC; rw [List.map_append]
set_option maxRecDepth 100000 in
set_option maxHeartbeats 4000000 in
theorem play12 (w : World) (a b c s : Int) (v : Value) (xs : List (List Int)) (each : Bool) (hrow : RowsOf w 2 v xs) (hwf : ∀ x ∈ xs, ∀ y ∈ x, (Lit.int .i64 y).wf = true) :
    Calls Try.prog 57 #[.agg #[.int .i64 a, .int .i64 b, .int .i64 c], .int .i64 s, v, .bool each] w fun e w' => e = .returned (.bool true) ∧ Below w.heap.size w w' := by
  have HR := Lib.hid hrow
  have HW := Lib.hid hwf
  obtain ⟨p, cap, rfl, _, _, _⟩ := hrow
  clear hwf
  have hal0 : Below w.heap.size w (w.alloc (.cells #[.int .i64 a, .int .i64 b, .int .i64 c] 47)) := (Below.refl _ _).alloc (Nat.le_refl _) _
  have hx0 := box3 w (.int .i64 a) (.int .i64 b) (.int .i64 c) 47
  by_cases hout : 100 < xs.length
  · have b0 : (100 : Int) < (xs.length : Int) := by omega
    clear hout
    go_enter Try.func57, Try.ntmps57
    go_wp2_with (go_at_call 48; refine (alive12_any _).mono ?_; rintro e w9 ⟨rfl, hB9⟩)
    all_goals (go_ret; exact ⟨rfl, below_then hal0 hB9⟩)
  have b0 : ¬ (100 : Int) < (xs.length : Int) := by omega
  have HN := Lib.hid hout
  have HB0 := Lib.hid hal0
  have HX0 := Lib.hid hx0
  clear hout hal0 hx0
  go_enter Try.func57, Try.ntmps57
  go_upto_region 1 with fail
  generalize World.alloc w _ = W0 at *
  obtain ⟨g0, hg0⟩ : ∃ g0, w.heap.size = g0 := ⟨_, rfl⟩
  have hx0 := HX0.out
  rw [hg0] at hx0
  (try rw [hg0])
  clear hg0 HX0
  go_wp2_with fail
  refine (refNew_any _).mono ?_
  rintro e w1 ⟨v1, rfl, ⟨gb, n, rest, rfl, hn, hg, hcs, hcl⟩, hB1⟩
  have hv : rkV gb n Dk.new = .agg #[.slice (some ⟨gb, 0, none⟩) 256 n, .bool false, .int .i64 (-1), .int .i64 0] := rfl
  rw [hv]
  clear hv
  have hx1 := blk_below' hB1 hx0
  have hb1 := below_then HB0.out hB1
  have hal2 : Below w1.heap.size w1 (w1.alloc (.cells #[.slice (some ⟨gb, 0, none⟩) 256 n, .bool false, .int .i64 (-1), .int .i64 0] 59)) := (Below.refl _ _).alloc (Nat.le_refl _) _
  have HX2 := Lib.hid (blk_below' hal2 hx1)
  have HCS2 := Lib.hid (blk_below' hal2 hcs)
  have HM2 := Lib.hid (blk_new w1 (.cells #[.slice (some ⟨gb, 0, none⟩) 256 n, .bool false, .int .i64 (-1), .int .i64 0] 59))
  have HB2 := Lib.hid (below_then hb1 hal2)
  have HNE : Hid (w.heap.size ≤ gb ∧ gb < w1.heap.size ∧ w.heap.size ≤ w1.heap.size ∧ g0 < w1.heap.size) := by
    have h1 := HB0.out.size; have h2 := blk_lt hcs; have h3 := hb1.size
    exact ⟨by omega, h2, h3, blk_lt hx1⟩
  have HNN := Lib.hid hn
  clear hx0 hx1 hb1 hal2 hcs hg hB1 HB0 hn
  go_upto_region 4 with fail
  generalize World.alloc w1 _ = W2 at *
  obtain ⟨rb, hrb⟩ : ∃ rb, w1.heap.size = rb := ⟨_, rfl⟩
  rw [hrb] at HM2 HNE
  (try rw [hrb])
  clear hrb
  obtain ⟨y0, y1, y2, _⟩ := blk3 HX2.out
  go_wp2_with fail
  refine (enc_any a b c s _).mono ?_
  rintro e w3 ⟨v3, er, rfl, hE3, hB3⟩
  have HCS3 := Lib.hid (blk_below' hB3 HCS2.out)
  have HM3 := Lib.hid (blk_below' hB3 HM2.out)
  have HB3 := Lib.hid (below_then HB2.out hB3)
  have HE3 : Hid (EncR W2 w3 v3 er ∧ rb < W2.heap.size) := ⟨hE3, blk_lt HM2.out⟩
  clear hB3 hE3 y0 y1 y2 HX2 HCS2 HM2 HB2
  go_upto_if 32 with fail
  go_cut [] (fun wx => ∃ l0 : List Nat, Hid (L0ok l0) ∧ Hid (Rk wx rb 0 gb n { Dk.new with bs := l0 }) ∧ Hid (Below w.heap.size w wx))
  case first =>
    obtain ⟨⟨z0, z1, z2, z3⟩, _⟩ := blk4' HM3.out
    rcases HE3.out with ⟨⟨rfl, g, l, rfl, hg, hgc, hll, hlt⟩ | ⟨rfl, rfl⟩, hrb⟩
    · have hgr : g ≠ rb := by omega
      have HQ := Lib.hid (put64 l rest hll)
      have hcs4 := setRow_heap w3 gb _ (((bC Dk.new.bs ++ rest).toArray).toList.take 0 ++ (bC l ++ ((bC Dk.new.bs ++ rest).toArray).toList.drop (0 + (bC l).length))).toArray _ _ HCS3.out
      have hgr4 := but_setRow (but_refl w3 (some gb)) (((bC Dk.new.bs ++ rest).toArray).toList.take 0 ++ (bC l ++ ((bC Dk.new.bs ++ rest).toArray).toList.drop (0 + (bC l).length))).toArray
      obtain ⟨W4, hW4⟩ : ∃ W4, w3.setRow gb (((bC Dk.new.bs ++ rest).toArray).toList.take 0 ++ (bC l ++ ((bC Dk.new.bs ++ rest).toArray).toList.drop (0 + (bC l).length))).toArray = W4 := ⟨_, rfl⟩
      rw [hW4, HQ.out] at hcs4
      rw [hW4] at hgr4
      have HW4 := Lib.hid hW4
      have hnb : rb ≠ gb := by have := HNE.out; omega
      have hm4 := blk_grown hgr4 HM3.out (by simp; omega)
      have hb4 := HB3.out.grown hgr4 HB3.out.size (fun j h => by cases h; exact HNE.out.1)
      have HK4 : Hid (Rk W4 rb 0 gb n { Dk.new with bs := l ++ List.replicate 192 0 }) :=
        .ofBox (t := 59) (rest := rest) hm4 hcs4 (l0_put hll hlt).len hnb
      have HB4 := Lib.hid hb4
      have HL4 := Lib.hid (l0_put hll hlt)
      have HSRC := Lib.hid (show ∀ j u, (bC l)[j]? = some u → w3.cell? ((⟨g, 0, none⟩ : Addr).add j) = some u from fun j u hu => by
        rw [Addr.add_mid, blk_cell hgc, Nat.zero_add, List.getElem?_toArray]; exact hu)
      have HLL := Lib.hid hll
      clear hW4 hcs4 hgr4 hm4 hb4 hgc hll hlt hg hgr hrb
      go_wp2_with (refine wpList_copy_own rfl _ _ 30 30 rfl 5 Try.underlying30 (by kernel_rfl) gb 0 256 n ⟨g, 0, none⟩ 64 64 rfl rfl (bC Dk.new.bs ++ rest).toArray 5 HCS3.out (bC l) (by rw [bC_len, HLL.out]; rfl) HSRC.out (by rw [bC_len, HLL.out]; simp [bC_len, hcl]; omega) (bC_one l) ?_; rw [HW4.out])
      go_meet
      exact ⟨_, HL4, HK4, HB4⟩
    · go_wp2_with fail
      go_meet
      have hnb : rb ≠ gb := by have := HNE.out; omega
      exact ⟨_, l0_new, .ofBox (t := 59) (rest := rest) HM3.out HCS3.out hcl hnb, HB3⟩
  case rest =>
    obtain ⟨l0, HL0, HK0, HBB⟩ := hcut
    clear HCS3 HM3 HB3 HE3
    obtain ⟨D0, hD0⟩ : ∃ D0, ({ Dk.new with bs := l0 } : Dk) = D0 := ⟨_, rfl⟩
    rw [hD0] at HK0
    have HOF : Hid (Calls Try.prog 34 #[.slice (some ⟨gb, 0, none⟩) 256 n] wc fun e w' => ∃ b, e = .returned (.tuple #[.pointer (some ⟨b, 0, none⟩), .int .i64 0]) ∧ wc.heap.size ≤ b ∧ DkAt w' b D0 ∧ Below wc.heap.size wc w') := by
      rw [← hD0]
      refine of_any ⟨gb, 0, none⟩ n l0 wc HL0.out.len HNN.out HK0.out.lt.2 (fun j x hx => ?_)
      rw [Addr.add_mid, Nat.zero_add]
      exact (HK0.out.cell j x (by rw [← hD0]; exact hx)).1
    have HI0 : Hid (SpI D0 0) := by rw [← hD0]; exact spI_of HL0.out
    obtain ⟨k0, k1, k2, k3⟩ := HK0.out.cells
    clear hD0 HL0
    go_wp2_with fail
    refine HOF.out.mono ?_
    rintro e w4 ⟨cb, rfl, hc4, hD4, hB4⟩
    have HC4 : Hid (rb < cb ∧ gb < cb ∧ w.heap.size ≤ cb) := by
      have h1 := HK0.out.lt; have h2 := HBB.out.size
      exact ⟨by omega, by omega, by omega⟩
    have hk4 := HK0.out.below hB4
    have hb4 := below_then HBB.out hB4
    clear HOF k0 k1 k2 k3 hB4 hc4 HK0 HBB
    have HBI := Lib.hid HI0.out.open
    have HFO := Lib.hid (fun w (h : DkAt w cb D0) => bopen_F cb D0 0 w h HI0.out (by decide))
    have HSO := Lib.hid (fun w (h : Rk w rb 0 gb n D0) => ropen_F rb 0 gb n D0 0 w h HNN.out HI0.out (by decide))
    obtain ⟨R, hR⟩ : ∃ R, opF D0 = R := ⟨_, rfl⟩
    rw [hR] at HBI HFO HSO
    obtain ⟨rv, er2, B0, D1⟩ := R
    dsimp only at HBI HFO HSO
    clear hR
    go_wp2_with fail
    refine (HFO.out _ hD4).mono ?_
    rintro e w5 ⟨h0, h1, hg5⟩
    dsimp only at h0 h1
    have HK5 : Hid (Rk w5 rb 0 gb n D0) := by
      obtain ⟨_, _, _, _, hgb⟩ := hg5
      exact hk4.heap (hgb _ hk4.lt.1 (by have := HC4.out; simp; omega)) (hgb _ hk4.lt.2 (by have := HC4.out; simp; omega))
    have HB5 := Lib.hid (hb4.grown hg5 hb4.size (fun j h => by cases h; exact HC4.out.2.2))
    have HD4 : Hid (cb < w4.heap.size ∧ rb < w4.heap.size ∧ gb < w4.heap.size) := ⟨hD4.lt, hk4.lt.1, hk4.lt.2⟩
    clear hk4 hb4 hD4 hg5
    by_cases her : er2 = 0
    · obtain ⟨pb, rfl, hpb, hT5⟩ := h0 her
      subst her
      clear h0 h1 HFO
      go_wp2_with fail
      refine (HSO.out _ HK5.out).mono ?_
      rintro e w6 ⟨k0, _, hC6⟩
      obtain ⟨rfl, hK6⟩ := k0 rfl
      dsimp only at hK6
      unfold rbV rbC
      have HT6 : Hid (BtAt w6 pb cb B0 D1) := by
        have h1 := hC6.blk hT5.boot (by have := HD4.out; omega) (by have := HD4.out; omega)
        have h2 := hC6.blk hT5.disk.1 (by have := HC4.out; omega) (by have := HC4.out; omega)
        exact ⟨h1, ⟨h2, hT5.disk.2⟩, hT5.ne⟩
      have HB6 := Lib.hid (HB5.out.trans (hC6.low HNE.out.2.2.1 HNE.out.1 HB5.out.size))
      have HPB : Hid (cb < pb ∧ rb < pb ∧ gb < pb ∧ w.heap.size ≤ pb) := by
        have h1 := HD4.out; have h2 := HC4.out
        exact ⟨by omega, by omega, by omega, by omega⟩
      have hal : Below w6.heap.size w6 (w6.alloc (.cells #[.int .i64 (B0.life : Int), .int .i64 (B0.kround : Int), .int .i64 (B0.ktag : Int), .int .i64 (B0.life : Int), .int .i64 (B0.round : Int), .int .i64 (B0.tag : Int)] 133)) := (Below.refl _ _).alloc (Nat.le_refl _) _
      have HQ7 := Lib.hid (blk_new w6 (.cells #[.int .i64 (B0.life : Int), .int .i64 (B0.kround : Int), .int .i64 (B0.ktag : Int), .int .i64 (B0.life : Int), .int .i64 (B0.round : Int), .int .i64 (B0.tag : Int)] 133))
      have HT7 := Lib.hid (HT6.out.below hal)
      have HK7 := Lib.hid (hK6.below hal)
      have HB7 := Lib.hid (below_then HB6.out hal)
      clear hal hT5 hK6 hC6 HT6 HB6 HK5 HB5 HSO hpb
      go_upto_region 12 with fail
      generalize World.alloc w6 _ = W7 at *
      obtain ⟨q, hq⟩ : ∃ q, w6.heap.size = q := ⟨_, rfl⟩
      rw [hq] at HQ7
      (try rw [hq])
      clear hq
      obtain ⟨⟨x0, x1, x2, x3, x4, x5⟩, _⟩ := blk6 HQ7.out
      have hal : Below W7.heap.size W7 (W7.alloc (.cells #[.pointer (some ⟨pb, 0, none⟩), .pointer (some ⟨cb, 0, none⟩), .int .i64 (B0.life : Int), .int .i64 (B0.kround : Int), .int .i64 (B0.ktag : Int), .int .i64 (B0.life : Int), .int .i64 (B0.round : Int), .int .i64 (B0.tag : Int), .pointer (some ⟨rb, 0, none⟩)] 138)) := (Below.refl _ _).alloc (Nat.le_refl _) _
      have HS8 : Hid (BP w pb cb W7.heap.size rb gb n B0 D1 B0 D1 (W7.alloc (.cells #[.pointer (some ⟨pb, 0, none⟩), .pointer (some ⟨cb, 0, none⟩), .int .i64 (B0.life : Int), .int .i64 (B0.kround : Int), .int .i64 (B0.ktag : Int), .int .i64 (B0.life : Int), .int .i64 (B0.round : Int), .int .i64 (B0.tag : Int), .pointer (some ⟨rb, 0, none⟩)] 138))) := by
        have h1 := HPB.out; have h2 := HC4.out; have h3 := HNE.out; have h4 := blk_lt HT7.out.boot; have h5 := HB7.out.size
        exact ⟨HT7.out.below hal, blk_new W7 _, HK7.out.below hal, below_then HB7.out hal, ⟨by omega, by omega, by omega, by omega, by omega⟩, ⟨by omega, by omega, by omega, by omega⟩, ⟨by omega, by omega⟩, ⟨by omega, by omega⟩⟩
      clear hal
      go_upto_region 17 with fail
      generalize World.alloc W7 _ = W8 at *
      obtain ⟨bb, hbb⟩ : ∃ bb, W7.heap.size = bb := ⟨_, rfl⟩
      rw [hbb] at HS8
      (try rw [hbb])
      clear hbb x0 x1 x2 x3 x4 x5 HQ7 HT7 HK7 HB7 HPB HC4 HD4 HI0 HNE
      go_wp2_with fail
      go_loopw [19] (fun iv wr => ∃ (i pb : Nat) (B : Bt) (d : Dk), iv = .int .i64 i ∧ i ≤ xs.length ∧ Hid (BI B d (1 + 100 * i)) ∧ Hid (BP w pb cb bb rb gb n B d B d wr)) (fun iv _ => xs.length - (intOf iv).toNat)
      case atStart => exact ⟨0, pb, B0, D1, rfl, by omega, HBI.out, HS8.out⟩
      case round =>
        clear HS8 HBI
        obtain ⟨i, pb, B, d, rfl, hi, HI, HS⟩ := hrel
        by_cases hlt : i < xs.length
        · obtain ⟨kk, aa, go, oo, cap', hx, hv, r0, r1⟩ := rows2 HR.out hlt
          injection hv with hv1 hv2 hv3
          subst hv1 hv3
          have i1 : (i : Int) < (xs.length : Int) := by omega
          have i2 : (0 : Int) ≤ (i : Int) := by omega
          have i3 : (i : Int).toNat = i := Int.toNat_natCast i
          have R0 := Lib.hid r0
          have R1 := Lib.hid r1
          have HWF := Lib.hid (show (Lit.int .i64 aa).wf = true from HW.out _ (List.mem_of_getElem? hx) aa (by simp))
          have HIN := Lib.hid (show 1 + 100 * i ≤ 500000 by have := HN.out; omega)
          clear hx r0 r1
          go_upto_region 20 with fail
          refine wp_region_early (fun w' => w'.cell? ⟨go, oo + i * 2, none⟩ = some (.int .i64 kk) ∧ w'.cell? ⟨go, oo + i * 2 + 1, none⟩ = some (.int .i64 aa)) (fun _ => false) (by kernel_rfl) ?_
          simp only [List.size_toArray, List.length_cons, List.length_nil, Nat.reduceAdd, Array.replicate_succ, Array.replicate_zero, List.push_toArray, List.nil_append, List.cons_append]
          have hS := HS.out.drew
          clear HS
          generalize wr.drew = W9 at *
          have HCELL := Lib.hid (fun (W : World) (h : Below w.heap.size w W) => And.intro ((h.cell (cell_lt R0.out)).trans R0.out) ((h.cell (cell_lt R1.out)).trans R1.out))
          have hSS := HCELL.out _ hS.low
          refine wpAnyE_take (i := 0) (v := ?_) rfl (by kernel_rfl) (by kernel_rfl) (by kernel_rfl) (by kernel_rfl) (fun _ _ _ h => h) (Or.inl ⟨by rfl, ?_⟩) hSS ?_
          rotate_left
          · intro w hSw
            obtain ⟨k0, k1⟩ := hSw
            go_simp
            all_goals with_reducible rfl
          simp only [Act.put, List.setIfInBounds_toArray, List.set_cons_zero, List.set_cons_succ, List.getElem_toArray, List.getElem_cons_zero, List.getElem_cons_succ]
          refine wpAnyE_take (i := 1) (v := ?_) rfl (by kernel_rfl) (by kernel_rfl) (by kernel_rfl) (by kernel_rfl) (fun _ _ _ h => h) (Or.inl ⟨by rfl, ?_⟩) hSS ?_
          rotate_left
          · intro w hSw
            obtain ⟨k0, k1⟩ := hSw
            go_simp
            all_goals with_reducible rfl
          simp only [Act.put, List.setIfInBounds_toArray, List.set_cons_zero, List.set_cons_succ, List.getElem_toArray, List.getElem_cons_zero, List.getElem_cons_succ]
          refine wpAnyE_take (i := 2) (v := ?_) rfl (by kernel_rfl) (by kernel_rfl) (by kernel_rfl) (by kernel_rfl) (fun _ _ _ h => h) (Or.inl ⟨by rfl, ?_⟩) hSS ?_
          rotate_left
          · intro w hSw
            obtain ⟨k0, k1⟩ := hSw
            go_simp
            all_goals with_reducible rfl
          simp only [Act.put, List.setIfInBounds_toArray, List.set_cons_zero, List.set_cons_succ, List.getElem_toArray, List.getElem_cons_zero, List.getElem_cons_succ]
          refine wpAnyE_take (i := 3) (v := ?_) rfl (by kernel_rfl) (by kernel_rfl) (by kernel_rfl) (by kernel_rfl) (fun _ _ _ h => h) (Or.inl ⟨by rfl, ?_⟩) hSS ?_
          rotate_left
          · intro w hSw
            obtain ⟨k0, k1⟩ := hSw
            go_simp
            all_goals with_reducible rfl
          simp only [Act.put, List.setIfInBounds_toArray, List.set_cons_zero, List.set_cons_succ, List.getElem_toArray, List.getElem_cons_zero, List.getElem_cons_succ]
          refine wpAnyE_take (i := 4) (v := ?_) rfl (by kernel_rfl) (by kernel_rfl) (by kernel_rfl) (by kernel_rfl) (fun _ _ _ h => h) (Or.inl ⟨by rfl, ?_⟩) hSS ?_
          rotate_left
          · intro w hSw
            obtain ⟨k0, k1⟩ := hSw
            go_simp
            all_goals with_reducible rfl
          simp only [Act.put, List.setIfInBounds_toArray, List.set_cons_zero, List.set_cons_succ, List.getElem_toArray, List.getElem_cons_zero, List.getElem_cons_succ]
          refine wpAnyE_one (i := 5) (by kernel_rfl) rfl ?_
          change wpList _ _ (Exit.then _ _) [_] _ _
          try simp only [List.setIfInBounds_toArray, List.set_cons_zero, List.set_cons_succ, List.getElem_toArray, List.getElem_cons_zero, List.getElem_cons_succ]
          go_wp2_with (go_at_call 81; refine (step12_any w pb cb bb rb gb n (1 + 100 * i) kk aa B d _ hS HI.out HIN.out HNN.out HWF.out).mono ?_; rintro e w10 ⟨rfl, pb2, B2, d2, hI2, hS2⟩)
          have HI2 := Lib.hid (hI2.more (j := 1 + 100 * (i + 1)) (by omega))
          clear hS hSS HI hI2
          have hSS := HCELL.out _ hS2.low
          refine ⟨fun _ => hSS, ?_⟩
          try simp only [List.setIfInBounds_toArray, List.set_cons_zero, List.set_cons_succ, List.getElem_toArray, List.getElem_cons_zero, List.getElem_cons_succ]
          refine wpAnyE_take (i := 6) (v := ?_) rfl (by kernel_rfl) (by kernel_rfl) (by kernel_rfl) (by kernel_rfl) (fun _ _ _ h => h) (Or.inl ⟨by rfl, ?_⟩) hSS ?_
          rotate_left
          · intro w hSw
            obtain ⟨k0, k1⟩ := hSw
            go_simp
            all_goals with_reducible rfl
          simp only [Act.put, List.setIfInBounds_toArray, List.set_cons_zero, List.set_cons_succ, List.getElem_toArray, List.getElem_cons_zero, List.getElem_cons_succ]
          refine wpAnyE_take (i := 7) (v := ?_) rfl (by kernel_rfl) (by kernel_rfl) (by kernel_rfl) (by kernel_rfl) (fun _ _ _ h => h) (Or.inl ⟨by rfl, ?_⟩) hSS ?_
          rotate_left
          · intro w hSw
            obtain ⟨k0, k1⟩ := hSw
            go_simp
            all_goals with_reducible rfl
          simp only [Act.put, List.setIfInBounds_toArray, List.set_cons_zero, List.set_cons_succ, List.getElem_toArray, List.getElem_cons_zero, List.getElem_cons_succ]
          refine wpAnyE_take (i := 8) (v := ?_) rfl (by kernel_rfl) (by kernel_rfl) (by kernel_rfl) (by kernel_rfl) (fun _ _ _ h => h) (Or.inl ⟨by rfl, ?_⟩) hSS ?_
          rotate_left
          · intro w hSw
            obtain ⟨k0, k1⟩ := hSw
            go_simp
            all_goals with_reducible rfl
          simp only [Act.put, List.setIfInBounds_toArray, List.set_cons_zero, List.set_cons_succ, List.getElem_toArray, List.getElem_cons_zero, List.getElem_cons_succ]
          refine wpAnyE_take (i := 9) (v := ?_) rfl (by kernel_rfl) (by kernel_rfl) (by kernel_rfl) (by kernel_rfl) (fun _ _ _ h => h) (Or.inl ⟨by rfl, ?_⟩) hSS ?_
          rotate_left
          · intro w hSw
            obtain ⟨k0, k1⟩ := hSw
            go_simp
            all_goals with_reducible rfl
          simp only [Act.put, List.setIfInBounds_toArray, List.set_cons_zero, List.set_cons_succ, List.getElem_toArray, List.getElem_cons_zero, List.getElem_cons_succ]
          cases each with
          | true =>
            refine wpAnyE_take (i := 10) (v := ?_) rfl (by kernel_rfl) (by kernel_rfl) (by kernel_rfl) (by kernel_rfl) (fun _ _ _ h => h) (Or.inl ⟨by rfl, ?_⟩) hSS ?_
            rotate_left
            · intro w hSw
              obtain ⟨k0, k1⟩ := hSw
              go_simp
              all_goals with_reducible rfl
            simp only [Act.put, List.setIfInBounds_toArray, List.set_cons_zero, List.set_cons_succ, List.getElem_toArray, List.getElem_cons_zero, List.getElem_cons_succ]
            refine wpAnyE_one (i := 11) (by kernel_rfl) rfl ?_
            change wpList _ _ (Exit.then _ _) [_] _ _
            try simp only [List.setIfInBounds_toArray, List.set_cons_zero, List.set_cons_succ, List.getElem_toArray, List.getElem_cons_zero, List.getElem_cons_succ]
            go_wp2_with (go_at_call 82; refine (looks12 w pb2 cb bb rb gb n B2 d2 _ hS2).mono ?_; rintro e w11 ⟨rfl, hB11⟩)
            have hS3 := hS2.below hB11
            clear hS2 hSS hB11
            have hSS := HCELL.out _ hS3.low
            refine ⟨fun _ => hSS, ?_⟩
            try simp only [List.setIfInBounds_toArray, List.set_cons_zero, List.set_cons_succ, List.getElem_toArray, List.getElem_cons_zero, List.getElem_cons_succ]
            refine wpAnyE_take (i := 12) (v := ?_) rfl (by kernel_rfl) (by kernel_rfl) (by kernel_rfl) (by kernel_rfl) (fun _ _ _ h => h) (Or.inl ⟨by rfl, ?_⟩) hSS ?_
            rotate_left
            · intro w hSw
              obtain ⟨k0, k1⟩ := hSw
              go_simp
              all_goals with_reducible rfl
            simp only [Act.put, List.setIfInBounds_toArray, List.set_cons_zero, List.set_cons_succ, List.getElem_toArray, List.getElem_cons_zero, List.getElem_cons_succ]
            refine wpAnyE_take (i := 13) (v := ?_) rfl (by kernel_rfl) (by kernel_rfl) (by kernel_rfl) (by kernel_rfl) (fun _ _ _ h => h) (Or.inl ⟨by rfl, ?_⟩) hSS ?_
            rotate_left
            · intro w hSw
              obtain ⟨k0, k1⟩ := hSw
              go_simp
              all_goals with_reducible rfl
            simp only [Act.put, List.setIfInBounds_toArray, List.set_cons_zero, List.set_cons_succ, List.getElem_toArray, List.getElem_cons_zero, List.getElem_cons_succ]
            refine wpAnyE_take (i := 14) (v := ?_) rfl (by kernel_rfl) (by kernel_rfl) (by kernel_rfl) (by kernel_rfl) (fun _ _ _ h => h) (Or.inl ⟨by rfl, ?_⟩) hSS ?_
            rotate_left
            · intro w hSw
              obtain ⟨k0, k1⟩ := hSw
              go_simp
              all_goals with_reducible rfl
            simp only [Act.put, List.setIfInBounds_toArray, List.set_cons_zero, List.set_cons_succ, List.getElem_toArray, List.getElem_cons_zero, List.getElem_cons_succ]
            refine wpAnyE_take (i := 15) (v := ?_) rfl (by kernel_rfl) (by kernel_rfl) (by kernel_rfl) (by kernel_rfl) (fun _ _ _ h => h) (Or.inl ⟨by rfl, ?_⟩) hSS ?_
            rotate_left
            · intro w hSw
              obtain ⟨k0, k1⟩ := hSw
              go_simp
              all_goals with_reducible rfl
            simp only [Act.put, List.setIfInBounds_toArray, List.set_cons_zero, List.set_cons_succ, List.getElem_toArray, List.getElem_cons_zero, List.getElem_cons_succ]
            refine wpAnyE_sub (S' := fun w' => w'.cell? ⟨go, oo + i * 2, none⟩ = some (.int .i64 kk) ∧ w'.cell? ⟨go, oo + i * 2 + 1, none⟩ = some (.int .i64 aa) ∧ w'.cell? ⟨rb, 0, none⟩ = some (.slice (some ⟨gb, 0, none⟩) 256 n) ∧ w'.cell? ⟨rb, 0 + 1, none⟩ = some (.bool d2.off) ∧ w'.cell? ⟨rb, 0 + 3, none⟩ = some (.int .i64 (d2.writes : Nat))) (fun w h => ⟨h.1, h.2.1⟩) _ _ _ _ ?_
            have HC5 := Lib.hid (fun (W : World) (h : BP w pb2 cb bb rb gb n B2 d2 B2 d2 W) => And.intro (HCELL.out _ h.low).1 (And.intro (HCELL.out _ h.low).2 (And.intro h.rk.cells.1 (And.intro h.rk.cells.2.1 h.rk.cells.2.2.2))))
            clear hSS
            have hSS := HC5.out _ hS3
            refine wpAnyE_take (i := 16) (v := ?_) rfl (by kernel_rfl) (by kernel_rfl) (by kernel_rfl) (by kernel_rfl) (fun _ _ _ h => h) (Or.inl ⟨by rfl, ?_⟩) hSS ?_
            rotate_left
            · intro w hSw
              obtain ⟨k0, k1, k2, k3, k4⟩ := hSw
              go_simp
              all_goals with_reducible rfl
            simp only [Act.put, List.setIfInBounds_toArray, List.set_cons_zero, List.set_cons_succ, List.getElem_toArray, List.getElem_cons_zero, List.getElem_cons_succ]
            refine wpAnyE_take (i := 18) (v := ?_) rfl (by kernel_rfl) (by kernel_rfl) (by kernel_rfl) (by kernel_rfl) (fun _ _ _ h => h) (Or.inl ⟨by rfl, ?_⟩) hSS ?_
            rotate_left
            · intro w hSw
              obtain ⟨k0, k1, k2, k3, k4⟩ := hSw
              go_simp
              all_goals with_reducible rfl
            simp only [Act.put, List.setIfInBounds_toArray, List.set_cons_zero, List.set_cons_succ, List.getElem_toArray, List.getElem_cons_zero, List.getElem_cons_succ]
            refine wpAnyE_take (i := 19) (v := ?_) rfl (by kernel_rfl) (by kernel_rfl) (by kernel_rfl) (by kernel_rfl) (fun _ _ _ h => h) (Or.inl ⟨by rfl, ?_⟩) hSS ?_
            rotate_left
            · intro w hSw
              obtain ⟨k0, k1, k2, k3, k4⟩ := hSw
              go_simp
              all_goals with_reducible rfl
            simp only [Act.put, List.setIfInBounds_toArray, List.set_cons_zero, List.set_cons_succ, List.getElem_toArray, List.getElem_cons_zero, List.getElem_cons_succ]
            refine wpAnyE_one (i := 17) (by kernel_rfl) rfl ?_
            change wpList _ _ (Exit.then _ _) [_] _ _
            try simp only [List.setIfInBounds_toArray, List.set_cons_zero, List.set_cons_succ, List.getElem_toArray, List.getElem_cons_zero, List.getElem_cons_succ]
            go_wp2_with (go_at_call 25; refine (image_any cb d2 _ hS3.bt.disk).mono ?_; rintro e w12 ⟨v5, rfl, ho5, hB5⟩)
            have hS4 := hS3.below hB5
            obtain ⟨g5, c5, rfl, _, _⟩ := ownsRow_pos ho5 (by omega)
            have HRC := Lib.hid (row_all ho5 hS3.bt.disk.2)
            clear ho5
            clear hSS
            have hSS := HC5.out _ hS4
            refine ⟨fun _ => hSS, ?_⟩
            try simp only [List.setIfInBounds_toArray, List.set_cons_zero, List.set_cons_succ, List.getElem_toArray, List.getElem_cons_zero, List.getElem_cons_succ]
            refine wpAnyE_one (i := 20) (by kernel_rfl) rfl ?_
            change wpList _ _ (Exit.then _ _) [_] _ _
            try simp only [List.setIfInBounds_toArray, List.set_cons_zero, List.set_cons_succ, List.getElem_toArray, List.getElem_cons_zero, List.getElem_cons_succ]
            go_wp2_with (go_at_call 26; refine (same_any _ _ d2.bs d2.bs _ _ _ _ _ (by rw [hS4.bt.disk.2]) (by rw [hS4.bt.disk.2]) (by rw [hS4.bt.disk.2]; decide) (by rw [hS4.bt.disk.2]; decide) HRC.out (fun j x hx => ⟨_, rfl, by rw [Addr.add_mid, Nat.zero_add]; exact (hS4.rk.cell j x hx).1⟩)).mono ?_; rintro e w13 ⟨rfl, hB6⟩; rw [decide_eq_true (rfl : d2.bs = d2.bs)])
            have hS5 := hS4.below hB6
            clear hSS
            have hSS := HC5.out _ hS5
            refine ⟨fun _ => hSS, ?_⟩
            try simp only [List.setIfInBounds_toArray, List.set_cons_zero, List.set_cons_succ, List.getElem_toArray, List.getElem_cons_zero, List.getElem_cons_succ]
            refine wpAnyE_take (i := 21) (v := ?_) rfl (by kernel_rfl) (by kernel_rfl) (by kernel_rfl) (by kernel_rfl) (fun _ _ _ h => h) (Or.inl ⟨by rfl, ?_⟩) hSS ?_
            rotate_left
            · intro w hSw
              obtain ⟨k0, k1, k2, k3, k4⟩ := hSw
              go_simp
              all_goals with_reducible rfl
            simp only [Act.put, List.setIfInBounds_toArray, List.set_cons_zero, List.set_cons_succ, List.getElem_toArray, List.getElem_cons_zero, List.getElem_cons_succ]
            refine wpAnyE_take (i := 22) (v := ?_) rfl (by kernel_rfl) (by kernel_rfl) (by kernel_rfl) (by kernel_rfl) (fun _ _ _ h => h) (Or.inl ⟨by rfl, ?_⟩) hSS ?_
            rotate_left
            · intro w hSw
              obtain ⟨k0, k1, k2, k3, k4⟩ := hSw
              go_simp
              all_goals with_reducible rfl
            simp only [Act.put, List.setIfInBounds_toArray, List.set_cons_zero, List.set_cons_succ, List.getElem_toArray, List.getElem_cons_zero, List.getElem_cons_succ]
            refine wpAnyE_take (i := 23) (v := ?_) rfl (by kernel_rfl) (by kernel_rfl) (by kernel_rfl) (by kernel_rfl) (fun _ _ _ h => h) (Or.inl ⟨by rfl, ?_⟩) hSS ?_
            rotate_left
            · intro w hSw
              obtain ⟨k0, k1, k2, k3, k4⟩ := hSw
              go_simp
              all_goals with_reducible rfl
            simp only [Act.put, List.setIfInBounds_toArray, List.set_cons_zero, List.set_cons_succ, List.getElem_toArray, List.getElem_cons_zero, List.getElem_cons_succ]
            refine wpAnyE_take (i := 24) (v := ?_) rfl (by kernel_rfl) (by kernel_rfl) (by kernel_rfl) (by kernel_rfl) (fun _ _ _ h => h) (Or.inl ⟨by rfl, ?_⟩) hSS ?_
            rotate_left
            · intro w hSw
              obtain ⟨k0, k1, k2, k3, k4⟩ := hSw
              go_simp
              all_goals with_reducible rfl
            simp only [Act.put, List.setIfInBounds_toArray, List.set_cons_zero, List.set_cons_succ, List.getElem_toArray, List.getElem_cons_zero, List.getElem_cons_succ]
            refine wpAnyE_take (i := 26) (v := ?_) rfl (by kernel_rfl) (by kernel_rfl) (by kernel_rfl) (by kernel_rfl) (fun _ _ _ h => h) (Or.inl ⟨by rfl, ?_⟩) hSS ?_
            rotate_left
            · intro w hSw
              obtain ⟨k0, k1, k2, k3, k4⟩ := hSw
              go_simp
              all_goals with_reducible rfl
            simp only [Act.put, List.setIfInBounds_toArray, List.set_cons_zero, List.set_cons_succ, List.getElem_toArray, List.getElem_cons_zero, List.getElem_cons_succ]
            refine wpAnyE_take (i := 27) (v := ?_) rfl (by kernel_rfl) (by kernel_rfl) (by kernel_rfl) (by kernel_rfl) (fun _ _ _ h => h) (Or.inl ⟨by rfl, ?_⟩) hSS ?_
            rotate_left
            · intro w hSw
              obtain ⟨k0, k1, k2, k3, k4⟩ := hSw
              go_simp
              all_goals with_reducible rfl
            simp only [Act.put, List.setIfInBounds_toArray, List.set_cons_zero, List.set_cons_succ, List.getElem_toArray, List.getElem_cons_zero, List.getElem_cons_succ]
            refine wpAnyE_one (i := 25) (by kernel_rfl) rfl ?_
            change wpList _ _ (Exit.then _ _) [_] _ _
            try simp only [List.setIfInBounds_toArray, List.set_cons_zero, List.set_cons_succ, List.getElem_toArray, List.getElem_cons_zero, List.getElem_cons_succ]
            go_wp2_with (go_at_call 27; refine (writes_any cb d2 _ hS5.bt.disk).mono ?_; rintro e w14 ⟨rfl, hB7⟩)
            have hS6 := hS5.below hB7
            clear hSS
            have hSS := HC5.out _ hS6
            refine ⟨fun _ => hSS, ?_⟩
            try simp only [List.setIfInBounds_toArray, List.set_cons_zero, List.set_cons_succ, List.getElem_toArray, List.getElem_cons_zero, List.getElem_cons_succ]
            refine wpAnyE_take (i := 28) (v := ?_) rfl (by kernel_rfl) (by kernel_rfl) (by kernel_rfl) (by kernel_rfl) (fun _ _ _ h => h) (Or.inl ⟨by rfl, ?_⟩) hSS ?_
            rotate_left
            · intro w hSw
              obtain ⟨k0, k1, k2, k3, k4⟩ := hSw
              go_simp
              all_goals with_reducible rfl
            simp only [Act.put, List.setIfInBounds_toArray, List.set_cons_zero, List.set_cons_succ, List.getElem_toArray, List.getElem_cons_zero, List.getElem_cons_succ]
            refine wpAnyE_take (i := 29) (v := ?_) rfl (by kernel_rfl) (by kernel_rfl) (by kernel_rfl) (by kernel_rfl) (fun _ _ _ h => h) (Or.inl ⟨by rfl, ?_⟩) hSS ?_
            rotate_left
            · intro w hSw
              obtain ⟨k0, k1, k2, k3, k4⟩ := hSw
              go_simp
              all_goals with_reducible rfl
            simp only [Act.put, List.setIfInBounds_toArray, List.set_cons_zero, List.set_cons_succ, List.getElem_toArray, List.getElem_cons_zero, List.getElem_cons_succ]
            refine wpAnyE_take (i := 30) (v := ?_) rfl (by kernel_rfl) (by kernel_rfl) (by kernel_rfl) (by kernel_rfl) (fun _ _ _ h => h) (Or.inl ⟨by rfl, ?_⟩) hSS ?_
            rotate_left
            · intro w hSw
              obtain ⟨k0, k1, k2, k3, k4⟩ := hSw
              go_simp
              all_goals with_reducible rfl
            simp only [Act.put, List.setIfInBounds_toArray, List.set_cons_zero, List.set_cons_succ, List.getElem_toArray, List.getElem_cons_zero, List.getElem_cons_succ]
            refine wpAnyE_take (i := 31) (v := ?_) rfl (by kernel_rfl) (by kernel_rfl) (by kernel_rfl) (by kernel_rfl) (fun _ _ _ h => h) (Or.inl ⟨by rfl, ?_⟩) hSS ?_
            rotate_left
            · intro w hSw
              obtain ⟨k0, k1, k2, k3, k4⟩ := hSw
              go_simp
              all_goals with_reducible rfl
            simp only [Act.put, List.setIfInBounds_toArray, List.set_cons_zero, List.set_cons_succ, List.getElem_toArray, List.getElem_cons_zero, List.getElem_cons_succ]
            refine wpAnyE_take (i := 33) (v := ?_) rfl (by kernel_rfl) (by kernel_rfl) (by kernel_rfl) (by kernel_rfl) (fun _ _ _ h => h) (Or.inl ⟨by rfl, ?_⟩) hSS ?_
            rotate_left
            · intro w hSw
              obtain ⟨k0, k1, k2, k3, k4⟩ := hSw
              go_simp
              all_goals with_reducible rfl
            simp only [Act.put, List.setIfInBounds_toArray, List.set_cons_zero, List.set_cons_succ, List.getElem_toArray, List.getElem_cons_zero, List.getElem_cons_succ]
            refine wpAnyE_take (i := 34) (v := ?_) rfl (by kernel_rfl) (by kernel_rfl) (by kernel_rfl) (by kernel_rfl) (fun _ _ _ h => h) (Or.inl ⟨by rfl, ?_⟩) hSS ?_
            rotate_left
            · intro w hSw
              obtain ⟨k0, k1, k2, k3, k4⟩ := hSw
              go_simp
              all_goals with_reducible rfl
            simp only [Act.put, List.setIfInBounds_toArray, List.set_cons_zero, List.set_cons_succ, List.getElem_toArray, List.getElem_cons_zero, List.getElem_cons_succ]
            refine wpAnyE_one (i := 32) (by kernel_rfl) rfl ?_
            change wpList _ _ (Exit.then _ _) [_] _ _
            try simp only [List.setIfInBounds_toArray, List.set_cons_zero, List.set_cons_succ, List.getElem_toArray, List.getElem_cons_zero, List.getElem_cons_succ]
            go_wp2_with (go_at_call 28; refine (on_any cb d2 _ hS6.bt.disk).mono ?_; rintro e w15 ⟨rfl, hB8⟩)
            have hS7 := hS6.below hB8
            clear hSS
            have hSS := HC5.out _ hS7
            refine ⟨fun _ => hSS, ?_⟩
            try simp only [List.setIfInBounds_toArray, List.set_cons_zero, List.set_cons_succ, List.getElem_toArray, List.getElem_cons_zero, List.getElem_cons_succ]
            refine wpAnyE_take (i := 35) (v := ?_) rfl (by kernel_rfl) (by kernel_rfl) (by kernel_rfl) (by kernel_rfl) (fun _ _ _ h => h) (Or.inl ⟨by rfl, ?_⟩) hSS ?_
            rotate_left
            · intro w hSw
              obtain ⟨k0, k1, k2, k3, k4⟩ := hSw
              go_simp
              all_goals with_reducible rfl
            simp only [Act.put, List.setIfInBounds_toArray, List.set_cons_zero, List.set_cons_succ, List.getElem_toArray, List.getElem_cons_zero, List.getElem_cons_succ]
            refine wpAnyE_take (i := 36) (v := ?_) rfl (by kernel_rfl) (by kernel_rfl) (by kernel_rfl) (by kernel_rfl) (fun _ _ _ h => h) (Or.inl ⟨by rfl, ?_⟩) hSS ?_
            rotate_left
            · intro w hSw
              obtain ⟨k0, k1, k2, k3, k4⟩ := hSw
              go_simp
              all_goals with_reducible rfl
            simp only [Act.put, List.setIfInBounds_toArray, List.set_cons_zero, List.set_cons_succ, List.getElem_toArray, List.getElem_cons_zero, List.getElem_cons_succ]
            refine wpAnyE_end (by kernel_rfl) ?_
            clear hSS hS3 hS4 hS5 hS6
            go_wp2_with fail
            go_roundw
            case rel => exact ⟨i + 1, pb2, B2, d2, by go_num, by omega, HI2.out, hS7⟩
            case measure => simp [intOf]; omega
          | false =>
            have hS3 := hS2
            clear hS2
            refine wpAnyE_take (i := 10) (v := _) rfl (by kernel_rfl) (by kernel_rfl) (by kernel_rfl) (by kernel_rfl) (fun _ _ _ h => h) (Or.inr ⟨by rfl, rfl⟩) hSS ?_
            simp only [Act.put, List.setIfInBounds_toArray, List.set_cons_zero, List.set_cons_succ, List.getElem_toArray, List.getElem_cons_zero, List.getElem_cons_succ]
            refine wpAnyE_take (i := 11) (v := _) rfl (by kernel_rfl) (by kernel_rfl) (by kernel_rfl) (by kernel_rfl) (fun _ _ _ h => h) (Or.inr ⟨by rfl, rfl⟩) hSS ?_
            simp only [Act.put, List.setIfInBounds_toArray, List.set_cons_zero, List.set_cons_succ, List.getElem_toArray, List.getElem_cons_zero, List.getElem_cons_succ]
            refine wpAnyE_take (i := 12) (v := _) rfl (by kernel_rfl) (by kernel_rfl) (by kernel_rfl) (by kernel_rfl) (fun _ _ _ h => h) (Or.inr ⟨by rfl, rfl⟩) hSS ?_
            simp only [Act.put, List.setIfInBounds_toArray, List.set_cons_zero, List.set_cons_succ, List.getElem_toArray, List.getElem_cons_zero, List.getElem_cons_succ]
            refine wpAnyE_take (i := 13) (v := ?_) rfl (by kernel_rfl) (by kernel_rfl) (by kernel_rfl) (by kernel_rfl) (fun _ _ _ h => h) (Or.inl ⟨by rfl, ?_⟩) hSS ?_
            rotate_left
            · intro w hSw
              obtain ⟨k0, k1⟩ := hSw
              go_simp
              all_goals with_reducible rfl
            simp only [Act.put, List.setIfInBounds_toArray, List.set_cons_zero, List.set_cons_succ, List.getElem_toArray, List.getElem_cons_zero, List.getElem_cons_succ]
            refine wpAnyE_take (i := 14) (v := ?_) rfl (by kernel_rfl) (by kernel_rfl) (by kernel_rfl) (by kernel_rfl) (fun _ _ _ h => h) (Or.inl ⟨by rfl, ?_⟩) hSS ?_
            rotate_left
            · intro w hSw
              obtain ⟨k0, k1⟩ := hSw
              go_simp
              all_goals with_reducible rfl
            simp only [Act.put, List.setIfInBounds_toArray, List.set_cons_zero, List.set_cons_succ, List.getElem_toArray, List.getElem_cons_zero, List.getElem_cons_succ]
            refine wpAnyE_take (i := 15) (v := ?_) rfl (by kernel_rfl) (by kernel_rfl) (by kernel_rfl) (by kernel_rfl) (fun _ _ _ h => h) (Or.inl ⟨by rfl, ?_⟩) hSS ?_
            rotate_left
            · intro w hSw
              obtain ⟨k0, k1⟩ := hSw
              go_simp
              all_goals with_reducible rfl
            simp only [Act.put, List.setIfInBounds_toArray, List.set_cons_zero, List.set_cons_succ, List.getElem_toArray, List.getElem_cons_zero, List.getElem_cons_succ]
            refine wpAnyE_sub (S' := fun w' => w'.cell? ⟨go, oo + i * 2, none⟩ = some (.int .i64 kk) ∧ w'.cell? ⟨go, oo + i * 2 + 1, none⟩ = some (.int .i64 aa) ∧ w'.cell? ⟨rb, 0, none⟩ = some (.slice (some ⟨gb, 0, none⟩) 256 n) ∧ w'.cell? ⟨rb, 0 + 1, none⟩ = some (.bool d2.off) ∧ w'.cell? ⟨rb, 0 + 3, none⟩ = some (.int .i64 (d2.writes : Nat))) (fun w h => ⟨h.1, h.2.1⟩) _ _ _ _ ?_
            have HC5 := Lib.hid (fun (W : World) (h : BP w pb2 cb bb rb gb n B2 d2 B2 d2 W) => And.intro (HCELL.out _ h.low).1 (And.intro (HCELL.out _ h.low).2 (And.intro h.rk.cells.1 (And.intro h.rk.cells.2.1 h.rk.cells.2.2.2))))
            clear hSS
            have hSS := HC5.out _ hS3
            refine wpAnyE_take (i := 16) (v := ?_) rfl (by kernel_rfl) (by kernel_rfl) (by kernel_rfl) (by kernel_rfl) (fun _ _ _ h => h) (Or.inl ⟨by rfl, ?_⟩) hSS ?_
            rotate_left
            · intro w hSw
              obtain ⟨k0, k1, k2, k3, k4⟩ := hSw
              go_simp
              all_goals with_reducible rfl
            simp only [Act.put, List.setIfInBounds_toArray, List.set_cons_zero, List.set_cons_succ, List.getElem_toArray, List.getElem_cons_zero, List.getElem_cons_succ]
            refine wpAnyE_take (i := 18) (v := ?_) rfl (by kernel_rfl) (by kernel_rfl) (by kernel_rfl) (by kernel_rfl) (fun _ _ _ h => h) (Or.inl ⟨by rfl, ?_⟩) hSS ?_
            rotate_left
            · intro w hSw
              obtain ⟨k0, k1, k2, k3, k4⟩ := hSw
              go_simp
              all_goals with_reducible rfl
            simp only [Act.put, List.setIfInBounds_toArray, List.set_cons_zero, List.set_cons_succ, List.getElem_toArray, List.getElem_cons_zero, List.getElem_cons_succ]
            refine wpAnyE_take (i := 19) (v := ?_) rfl (by kernel_rfl) (by kernel_rfl) (by kernel_rfl) (by kernel_rfl) (fun _ _ _ h => h) (Or.inl ⟨by rfl, ?_⟩) hSS ?_
            rotate_left
            · intro w hSw
              obtain ⟨k0, k1, k2, k3, k4⟩ := hSw
              go_simp
              all_goals with_reducible rfl
            simp only [Act.put, List.setIfInBounds_toArray, List.set_cons_zero, List.set_cons_succ, List.getElem_toArray, List.getElem_cons_zero, List.getElem_cons_succ]
            refine wpAnyE_one (i := 17) (by kernel_rfl) rfl ?_
            change wpList _ _ (Exit.then _ _) [_] _ _
            try simp only [List.setIfInBounds_toArray, List.set_cons_zero, List.set_cons_succ, List.getElem_toArray, List.getElem_cons_zero, List.getElem_cons_succ]
            go_wp2_with (go_at_call 25; refine (image_any cb d2 _ hS3.bt.disk).mono ?_; rintro e w12 ⟨v5, rfl, ho5, hB5⟩)
            have hS4 := hS3.below hB5
            obtain ⟨g5, c5, rfl, _, _⟩ := ownsRow_pos ho5 (by omega)
            have HRC := Lib.hid (row_all ho5 hS3.bt.disk.2)
            clear ho5
            clear hSS
            have hSS := HC5.out _ hS4
            refine ⟨fun _ => hSS, ?_⟩
            try simp only [List.setIfInBounds_toArray, List.set_cons_zero, List.set_cons_succ, List.getElem_toArray, List.getElem_cons_zero, List.getElem_cons_succ]
            refine wpAnyE_one (i := 20) (by kernel_rfl) rfl ?_
            change wpList _ _ (Exit.then _ _) [_] _ _
            try simp only [List.setIfInBounds_toArray, List.set_cons_zero, List.set_cons_succ, List.getElem_toArray, List.getElem_cons_zero, List.getElem_cons_succ]
            go_wp2_with (go_at_call 26; refine (same_any _ _ d2.bs d2.bs _ _ _ _ _ (by rw [hS4.bt.disk.2]) (by rw [hS4.bt.disk.2]) (by rw [hS4.bt.disk.2]; decide) (by rw [hS4.bt.disk.2]; decide) HRC.out (fun j x hx => ⟨_, rfl, by rw [Addr.add_mid, Nat.zero_add]; exact (hS4.rk.cell j x hx).1⟩)).mono ?_; rintro e w13 ⟨rfl, hB6⟩; rw [decide_eq_true (rfl : d2.bs = d2.bs)])
            have hS5 := hS4.below hB6
            clear hSS
            have hSS := HC5.out _ hS5
            refine ⟨fun _ => hSS, ?_⟩
            try simp only [List.setIfInBounds_toArray, List.set_cons_zero, List.set_cons_succ, List.getElem_toArray, List.getElem_cons_zero, List.getElem_cons_succ]
            refine wpAnyE_take (i := 21) (v := ?_) rfl (by kernel_rfl) (by kernel_rfl) (by kernel_rfl) (by kernel_rfl) (fun _ _ _ h => h) (Or.inl ⟨by rfl, ?_⟩) hSS ?_
            rotate_left
            · intro w hSw
              obtain ⟨k0, k1, k2, k3, k4⟩ := hSw
              go_simp
              all_goals with_reducible rfl
            simp only [Act.put, List.setIfInBounds_toArray, List.set_cons_zero, List.set_cons_succ, List.getElem_toArray, List.getElem_cons_zero, List.getElem_cons_succ]
            refine wpAnyE_take (i := 22) (v := ?_) rfl (by kernel_rfl) (by kernel_rfl) (by kernel_rfl) (by kernel_rfl) (fun _ _ _ h => h) (Or.inl ⟨by rfl, ?_⟩) hSS ?_
            rotate_left
            · intro w hSw
              obtain ⟨k0, k1, k2, k3, k4⟩ := hSw
              go_simp
              all_goals with_reducible rfl
            simp only [Act.put, List.setIfInBounds_toArray, List.set_cons_zero, List.set_cons_succ, List.getElem_toArray, List.getElem_cons_zero, List.getElem_cons_succ]
            refine wpAnyE_take (i := 23) (v := ?_) rfl (by kernel_rfl) (by kernel_rfl) (by kernel_rfl) (by kernel_rfl) (fun _ _ _ h => h) (Or.inl ⟨by rfl, ?_⟩) hSS ?_
            rotate_left
            · intro w hSw
              obtain ⟨k0, k1, k2, k3, k4⟩ := hSw
              go_simp
              all_goals with_reducible rfl
            simp only [Act.put, List.setIfInBounds_toArray, List.set_cons_zero, List.set_cons_succ, List.getElem_toArray, List.getElem_cons_zero, List.getElem_cons_succ]
            refine wpAnyE_take (i := 24) (v := ?_) rfl (by kernel_rfl) (by kernel_rfl) (by kernel_rfl) (by kernel_rfl) (fun _ _ _ h => h) (Or.inl ⟨by rfl, ?_⟩) hSS ?_
            rotate_left
            · intro w hSw
              obtain ⟨k0, k1, k2, k3, k4⟩ := hSw
              go_simp
              all_goals with_reducible rfl
            simp only [Act.put, List.setIfInBounds_toArray, List.set_cons_zero, List.set_cons_succ, List.getElem_toArray, List.getElem_cons_zero, List.getElem_cons_succ]
            refine wpAnyE_take (i := 26) (v := ?_) rfl (by kernel_rfl) (by kernel_rfl) (by kernel_rfl) (by kernel_rfl) (fun _ _ _ h => h) (Or.inl ⟨by rfl, ?_⟩) hSS ?_
            rotate_left
            · intro w hSw
              obtain ⟨k0, k1, k2, k3, k4⟩ := hSw
              go_simp
              all_goals with_reducible rfl
            simp only [Act.put, List.setIfInBounds_toArray, List.set_cons_zero, List.set_cons_succ, List.getElem_toArray, List.getElem_cons_zero, List.getElem_cons_succ]
            refine wpAnyE_take (i := 27) (v := ?_) rfl (by kernel_rfl) (by kernel_rfl) (by kernel_rfl) (by kernel_rfl) (fun _ _ _ h => h) (Or.inl ⟨by rfl, ?_⟩) hSS ?_
            rotate_left
            · intro w hSw
              obtain ⟨k0, k1, k2, k3, k4⟩ := hSw
              go_simp
              all_goals with_reducible rfl
            simp only [Act.put, List.setIfInBounds_toArray, List.set_cons_zero, List.set_cons_succ, List.getElem_toArray, List.getElem_cons_zero, List.getElem_cons_succ]
            refine wpAnyE_one (i := 25) (by kernel_rfl) rfl ?_
            change wpList _ _ (Exit.then _ _) [_] _ _
            try simp only [List.setIfInBounds_toArray, List.set_cons_zero, List.set_cons_succ, List.getElem_toArray, List.getElem_cons_zero, List.getElem_cons_succ]
            go_wp2_with (go_at_call 27; refine (writes_any cb d2 _ hS5.bt.disk).mono ?_; rintro e w14 ⟨rfl, hB7⟩)
            have hS6 := hS5.below hB7
            clear hSS
            have hSS := HC5.out _ hS6
            refine ⟨fun _ => hSS, ?_⟩
            try simp only [List.setIfInBounds_toArray, List.set_cons_zero, List.set_cons_succ, List.getElem_toArray, List.getElem_cons_zero, List.getElem_cons_succ]
            refine wpAnyE_take (i := 28) (v := ?_) rfl (by kernel_rfl) (by kernel_rfl) (by kernel_rfl) (by kernel_rfl) (fun _ _ _ h => h) (Or.inl ⟨by rfl, ?_⟩) hSS ?_
            rotate_left
            · intro w hSw
              obtain ⟨k0, k1, k2, k3, k4⟩ := hSw
              go_simp
              all_goals with_reducible rfl
            simp only [Act.put, List.setIfInBounds_toArray, List.set_cons_zero, List.set_cons_succ, List.getElem_toArray, List.getElem_cons_zero, List.getElem_cons_succ]
            refine wpAnyE_take (i := 29) (v := ?_) rfl (by kernel_rfl) (by kernel_rfl) (by kernel_rfl) (by kernel_rfl) (fun _ _ _ h => h) (Or.inl ⟨by rfl, ?_⟩) hSS ?_
            rotate_left
            · intro w hSw
              obtain ⟨k0, k1, k2, k3, k4⟩ := hSw
              go_simp
              all_goals with_reducible rfl
            simp only [Act.put, List.setIfInBounds_toArray, List.set_cons_zero, List.set_cons_succ, List.getElem_toArray, List.getElem_cons_zero, List.getElem_cons_succ]
            refine wpAnyE_take (i := 30) (v := ?_) rfl (by kernel_rfl) (by kernel_rfl) (by kernel_rfl) (by kernel_rfl) (fun _ _ _ h => h) (Or.inl ⟨by rfl, ?_⟩) hSS ?_
            rotate_left
            · intro w hSw
              obtain ⟨k0, k1, k2, k3, k4⟩ := hSw
              go_simp
              all_goals with_reducible rfl
            simp only [Act.put, List.setIfInBounds_toArray, List.set_cons_zero, List.set_cons_succ, List.getElem_toArray, List.getElem_cons_zero, List.getElem_cons_succ]
            refine wpAnyE_take (i := 31) (v := ?_) rfl (by kernel_rfl) (by kernel_rfl) (by kernel_rfl) (by kernel_rfl) (fun _ _ _ h => h) (Or.inl ⟨by rfl, ?_⟩) hSS ?_
            rotate_left
            · intro w hSw
              obtain ⟨k0, k1, k2, k3, k4⟩ := hSw
              go_simp
              all_goals with_reducible rfl
            simp only [Act.put, List.setIfInBounds_toArray, List.set_cons_zero, List.set_cons_succ, List.getElem_toArray, List.getElem_cons_zero, List.getElem_cons_succ]
            refine wpAnyE_take (i := 33) (v := ?_) rfl (by kernel_rfl) (by kernel_rfl) (by kernel_rfl) (by kernel_rfl) (fun _ _ _ h => h) (Or.inl ⟨by rfl, ?_⟩) hSS ?_
            rotate_left
            · intro w hSw
              obtain ⟨k0, k1, k2, k3, k4⟩ := hSw
              go_simp
              all_goals with_reducible rfl
            simp only [Act.put, List.setIfInBounds_toArray, List.set_cons_zero, List.set_cons_succ, List.getElem_toArray, List.getElem_cons_zero, List.getElem_cons_succ]
            refine wpAnyE_take (i := 34) (v := ?_) rfl (by kernel_rfl) (by kernel_rfl) (by kernel_rfl) (by kernel_rfl) (fun _ _ _ h => h) (Or.inl ⟨by rfl, ?_⟩) hSS ?_
            rotate_left
            · intro w hSw
              obtain ⟨k0, k1, k2, k3, k4⟩ := hSw
              go_simp
              all_goals with_reducible rfl
            simp only [Act.put, List.setIfInBounds_toArray, List.set_cons_zero, List.set_cons_succ, List.getElem_toArray, List.getElem_cons_zero, List.getElem_cons_succ]
            refine wpAnyE_one (i := 32) (by kernel_rfl) rfl ?_
            change wpList _ _ (Exit.then _ _) [_] _ _
            try simp only [List.setIfInBounds_toArray, List.set_cons_zero, List.set_cons_succ, List.getElem_toArray, List.getElem_cons_zero, List.getElem_cons_succ]
            go_wp2_with (go_at_call 28; refine (on_any cb d2 _ hS6.bt.disk).mono ?_; rintro e w15 ⟨rfl, hB8⟩)
            have hS7 := hS6.below hB8
            clear hSS
            have hSS := HC5.out _ hS7
            refine ⟨fun _ => hSS, ?_⟩
            try simp only [List.setIfInBounds_toArray, List.set_cons_zero, List.set_cons_succ, List.getElem_toArray, List.getElem_cons_zero, List.getElem_cons_succ]
            refine wpAnyE_take (i := 35) (v := ?_) rfl (by kernel_rfl) (by kernel_rfl) (by kernel_rfl) (by kernel_rfl) (fun _ _ _ h => h) (Or.inl ⟨by rfl, ?_⟩) hSS ?_
            rotate_left
            · intro w hSw
              obtain ⟨k0, k1, k2, k3, k4⟩ := hSw
              go_simp
              all_goals with_reducible rfl
            simp only [Act.put, List.setIfInBounds_toArray, List.set_cons_zero, List.set_cons_succ, List.getElem_toArray, List.getElem_cons_zero, List.getElem_cons_succ]
            refine wpAnyE_take (i := 36) (v := ?_) rfl (by kernel_rfl) (by kernel_rfl) (by kernel_rfl) (by kernel_rfl) (fun _ _ _ h => h) (Or.inl ⟨by rfl, ?_⟩) hSS ?_
            rotate_left
            · intro w hSw
              obtain ⟨k0, k1, k2, k3, k4⟩ := hSw
              go_simp
              all_goals with_reducible rfl
            simp only [Act.put, List.setIfInBounds_toArray, List.set_cons_zero, List.set_cons_succ, List.getElem_toArray, List.getElem_cons_zero, List.getElem_cons_succ]
            refine wpAnyE_end (by kernel_rfl) ?_
            clear hSS hS3 hS4 hS5 hS6
            go_wp2_with fail
            go_roundw
            case rel => exact ⟨i + 1, pb2, B2, d2, by go_num, by omega, HI2.out, hS7⟩
            case measure => simp [intOf]; omega
        · go_wp2_with (first | (go_at_call 48; refine (alive12_any _).mono ?_; rintro e w9 ⟨rfl, hB9⟩; have hS9 := HS.out.below hB9) | (go_at_call 82; refine (looks12 w pb cb bb rb gb n B d _ hS9).mono ?_; rintro e w10 ⟨rfl, hB10⟩))
          go_ret
          exact ⟨rfl, below_then hS9.low hB10⟩
    · obtain ⟨rfl, hD5⟩ := h1 her
      have her2 : (er2 == 0) = false := by simpa using her
      have HER := Lib.hid her
      clear h0 h1 her HFO
      go_wp2_with fail
      refine (HSO.out _ HK5.out).mono ?_
      rintro e w6 ⟨_, k1, hC6⟩
      obtain ⟨rfl, hK6⟩ := k1 HER.out
      have hb6 := HB5.out.trans (hC6.low HNE.out.2.2.1 HNE.out.1 HB5.out.size)
      unfold zB
      go_wp2_with (go_at_call 48; refine (alive12_any _).mono ?_; rintro e w9 ⟨rfl, hB9⟩)
      go_ret
      exact ⟨rfl, below_then (hb6.alloc hb6.size _) hB9⟩
end Go.Proofs.Ythkppkecclnlnaa
namespace Go.Proofs.Ythkppkecclnlnaa
set_option linter.unusedVariables false
set_option linter.unusedSimpArgs false
open Go.RowKit

theorem bootPlays_w (w : World) (a b c s : Int) (v : Value) (h0 : ∀ y ∈ [a, b, c], (Lit.int .i64 y).wf = true) (h1 : (Lit.int .i64 s).wf = true) (xs : List (List Int)) (hrow : RowsOf w 2 v xs) (hwf : ∀ x ∈ xs, ∀ y ∈ x, (Lit.int .i64 y).wf = true) :
    Calls Try.prog 18 #[.agg #[.int .i64 a, .int .i64 b, .int .i64 c], .int .i64 s, v] w fun e w' => e = .returned (.bool true) ∧ Below w.heap.size w w' := by
  have hal0 : Below w.heap.size w (w.alloc (.cells #[.int .i64 a, .int .i64 b, .int .i64 c] 47)) := (Below.refl _ _).alloc (Nat.le_refl _) _
  have hx0 := box3 w (.int .i64 a) (.int .i64 b) (.int .i64 c) 47
  have HP := Lib.hid (play12 (w.alloc (.cells #[.int .i64 a, .int .i64 b, .int .i64 c] 47)) a b c s v xs false (hrow.below hal0) hwf)
  obtain ⟨y0, y1, y2, z0, z1, z2⟩ := blk3 hx0
  clear hrow hwf h0 h1 hx0
  go_enter Try.func18, Try.ntmps18
  go_upto_region 1 with fail
  generalize World.alloc w _ = W0 at *
  go_wp2_with fail
  refine HP.out.mono ?_
  rintro e w1 ⟨rfl, hB1⟩
  go_wp2_with fail
  go_ret
  exact ⟨rfl, below_then hal0 hB1⟩
theorem bootAll_w (w : World) (a b c s : Int) (v : Value) (h0 : ∀ y ∈ [a, b, c], (Lit.int .i64 y).wf = true) (h1 : (Lit.int .i64 s).wf = true) (xs : List (List Int)) (hrow : RowsOf w 2 v xs) (hwf : ∀ x ∈ xs, ∀ y ∈ x, (Lit.int .i64 y).wf = true) :
    Calls Try.prog 19 #[.agg #[.int .i64 a, .int .i64 b, .int .i64 c], .int .i64 s, v] w fun e w' => e = .returned (.bool true) ∧ Below w.heap.size w w' := by
  have hal0 : Below w.heap.size w (w.alloc (.cells #[.int .i64 a, .int .i64 b, .int .i64 c] 47)) := (Below.refl _ _).alloc (Nat.le_refl _) _
  have hx0 := box3 w (.int .i64 a) (.int .i64 b) (.int .i64 c) 47
  have HP := Lib.hid (play12 (w.alloc (.cells #[.int .i64 a, .int .i64 b, .int .i64 c] 47)) a b c s v xs true (hrow.below hal0) hwf)
  obtain ⟨y0, y1, y2, z0, z1, z2⟩ := blk3 hx0
  clear hrow hwf h0 h1 hx0
  go_enter Try.func19, Try.ntmps19
  go_upto_region 1 with fail
  generalize World.alloc w _ = W0 at *
  go_wp2_with fail
  refine HP.out.mono ?_
  rintro e w1 ⟨rfl, hB1⟩
  go_wp2_with fail
  go_ret
  exact ⟨rfl, below_then hal0 hB1⟩
end Go.Proofs.Ythkppkecclnlnaa
