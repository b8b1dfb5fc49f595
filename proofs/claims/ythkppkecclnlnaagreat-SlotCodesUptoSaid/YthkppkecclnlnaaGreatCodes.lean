/- The walk of SlotCodes. -/
import Derived.Test.YthkppkecclnlnaaGreatLent
import Derived.Test.YthkppkecclnlnaaGreatRefC
import Derived.Test.YthkppkecclnlnaaGreatSlotAl
import Derived.Test.YthkppkecclnlnaaGreatArgs
namespace Go.Proofs.YthkppkecclnlnaaGreat
set_option linter.unusedVariables false
set_option linter.unusedSimpArgs false
open Go.RowKit

def encE (a b c s : Int) : Int := if encOk a b c s then 0 else 1
def encLs (a b c s : Int) : List Nat := if encOk a b c s then encL (rcN a b c s) else []
theorem encLs_len (a b c s : Int) : (encLs a b c s).length ≤ 64 := by
  unfold encLs; split
  · rw [encL_len]; exact Nat.le_refl _
  · exact Nat.zero_le _
/-- What Encode leaves: bytes in a block of their own. -/
def EncW (w W : World) (v : Value) (l : List Nat) : Prop := ∃ t, (t = 5 ∨ ∃ a, v = .slice a l.length l.length) ∧ W.ownsRow w.heap.size t 1 v l.length (bC l)
theorem own_of {w W : World} {g n : Nat} {t : TypeId} {l : List Nat} (hl : l.length = n) (hn : n ≤ 1000) (hg : w.heap.size ≤ g) (h : W.heap[g]? = some (.cells (bC l).toArray t (0, 0))) : W.ownsRow w.heap.size t 1 (.slice (some ⟨g, 0, none⟩) n n) n (bC l) :=
  ⟨by rw [bC_len, hl, Nat.mul_one], .inr ⟨g, n, _, rfl, hg, h, Nat.le_refl _, by unfold maxLen; omega, by rw [List.size_toArray, bC_len, hl, Nat.mul_one], by rw [List.toList_toArray, List.take_of_length_le (by rw [bC_len, hl]; omega)]⟩⟩
theorem enc_o (a b c s : Int) (w : World) : Calls Tryz.prog 5 #[.agg #[.int .i64 a, .int .i64 b, .int .i64 c], .int .i64 s] w fun e w' =>
    ∃ v, e = .returned (.tuple #[v, .int .i64 (encE a b c s)]) ∧ EncW w w' v (encLs a b c s) ∧ Below w.heap.size w w' := by
  unfold encE encLs
  by_cases h : encOk a b c s
  · rw [if_pos h, if_pos h]
    refine (encode_ok a b c s h w).mono ?_
    rintro e w1 ⟨v, rfl, ⟨g, rfl, hg1, hg2⟩, hB⟩
    refine ⟨_, rfl, ⟨57, .inr ⟨_, by rw [encL_len]⟩, ?_⟩, hB⟩
    rw [encL_len]; exact own_of (encL_len _) (by decide) hg1 hg2
  · rw [if_neg h, if_neg h]
    refine (encode_no a b c s h w).mono ?_
    rintro e w1 ⟨rfl, hB⟩
    exact ⟨_, rfl, ⟨5, .inl rfl, World.ownsRow_nil _ _ _ _⟩, hB⟩
theorem renc_o (a b c s : Int) (w : World) : Calls Tryz.prog 6 #[.agg #[.int .i64 a, .int .i64 b, .int .i64 c], .int .i64 s] w fun e w' =>
    ∃ v, e = .returned (.tuple #[v, .int .i64 (encE a b c s)]) ∧ EncW w w' v (encLs a b c s) ∧ Below w.heap.size w w' := by
  unfold encE encLs
  by_cases h : encOk a b c s
  · rw [if_pos h, if_pos h]
    have h0 := refEncode_ok (rcN a b c s) (rcN_may h).1 w
    unfold recV at h0
    have h' := h
    obtain ⟨⟨m1, m2, m3, m4, m5, m6⟩, m7, m8⟩ := h
    have e1 : (((rcN a b c s).life : Nat) : Int) = a := Int.toNat_of_nonneg (by omega)
    have e2 : (((rcN a b c s).round : Nat) : Int) = b := Int.toNat_of_nonneg m3
    have e3 : (((rcN a b c s).tag : Nat) : Int) = c := Int.toNat_of_nonneg m5
    have e4 : (((rcN a b c s).seq : Nat) : Int) = s := Int.toNat_of_nonneg (by omega)
    rw [e1, e2, e3, e4] at h0
    refine h0.mono ?_
    rintro e w1 ⟨v, rfl, ⟨g, rfl, hg1, hg2⟩, hB⟩
    refine ⟨_, rfl, ⟨5, .inr ⟨_, by rw [encL_len]⟩, ?_⟩, hB⟩
    rw [encL_len]; exact own_of (encL_len _) (by decide) hg1 hg2
  · rw [if_neg h, if_neg h]
    refine (refEncode_no a b c s h w).mono ?_
    rintro e w1 ⟨rfl, hB⟩
    exact ⟨_, rfl, ⟨5, .inl rfl, World.ownsRow_nil _ _ _ _⟩, hB⟩
set_option maxRecDepth 100000 in
theorem refDecode_size (a : Option Addr) (n cp : Nat) (h : n ≠ 64) (w : World) : Calls Tryz.prog 9 #[.slice a n cp] w fun e w' =>
    e = .returned (.tuple #[recV 0 0 0, .int .i64 0, .int .i64 102]) ∧ Below w.heap.size w w' := by
  have hne : ((n : Int) != 64) = true := by simp; omega
  have hr0 := box3 w (.int .i64 0) (.int .i64 0) (.int .i64 0) 23
  have hb0 : Below w.heap.size w (w.alloc (.cells #[.int .i64 0, .int .i64 0, .int .i64 0] 23)) := (Below.refl _ _).alloc (Nat.le_refl _) _
  unfold recV
  clear h
  go_enter Tryz.func9, Tryz.ntmps9
  go_upto_region 1 with fail
  generalize World.alloc w _ = W1 at *
  obtain ⟨g, hg⟩ : ∃ g, w.heap.size = g := ⟨_, rfl⟩
  have HG := Lib.hid hg
  rw [hg] at hr0
  (try rw [hg])
  clear hg
  obtain ⟨z0, z1, z2, f0, f1, f2⟩ := blk3 hr0
  have HR := Lib.hid hr0
  have HB := Lib.hid hb0
  clear hr0 hb0
  go_wp2_with fail
  generalize hWF : World.setCell (World.setCell (World.setCell _ _ _) _ _) _ _ = WF
  have hfb : WF.heap[g]? = some (.cells #[.int .i64 0, .int .i64 0, .int .i64 0] 23 (0, 0)) := by
    rw [← hWF]; exact blk_store (blk_store (blk_store HR.out 0 _) 1 _) 2 _
  have hfl : Below w.heap.size w WF := by
    have hge : w.heap.size ≤ g := Nat.le_of_eq HG.out
    rw [← hWF]; exact ((HB.out.setCell hge _).setCell hge _).setCell hge _
  obtain ⟨y0, y1, y2, _⟩ := blk3 hfb
  exact bodyPost_ret (v := .tuple #[.agg #[.int .i64 0, .int .i64 0, .int .i64 0], .int .i64 0, .int .i64 102]) (by simp [results, Tryz.results9, go_sem, y0, y1, y2]) rfl ⟨rfl, hfl⟩
/-- What Decode tells of n bytes. -/
def decV (l : List Nat) : Value := if l.length = 64 then decA (decL l) else .tuple #[recV 0 0 0, .int .i64 0, .int .i64 102]
theorem decV_form (l : List Nat) : ∃ l1 l2 l3 l4 l5 : Int, decV l = .tuple #[.agg #[.int .i64 l1, .int .i64 l2, .int .i64 l3], .int .i64 l4, .int .i64 l5] := by
  unfold decV decA recV
  split
  · split
    · exact ⟨_, _, _, _, _, rfl⟩
    · exact ⟨_, _, _, _, _, rfl⟩
  · exact ⟨_, _, _, _, _, rfl⟩
theorem dec_o (g cp : Nat) (l : List Nat) (hlt : ∀ c ∈ l, c < 256) (hcp : l.length ≤ cp) (w : World) (hc : CellsAt w ⟨g, 0, none⟩ l) (hgw : g < w.heap.size) : Calls Tryz.prog 8 #[.slice (some ⟨g, 0, none⟩) l.length cp] w fun e w' => e = .returned (decV l) ∧ Below w.heap.size w w' := by
  unfold decV
  by_cases h : l.length = 64
  · rw [if_pos h, h]; exact decode_any g 0 cp l h hlt (by omega) w hc hgw
  · rw [if_neg h]; exact decode_size _ _ _ h w
theorem rdec_o (av : Option Addr) (cp : Nat) (l : List Nat) (hlt : ∀ c ∈ l, c < 256) (w : World) (hr : RdP w av l) : Calls Tryz.prog 9 #[.slice av l.length cp] w fun e w' => e = .returned (decV l) ∧ Below w.heap.size w w' := by
  unfold decV
  by_cases h : l.length = 64
  · rw [if_pos h, h]
    obtain ⟨b, rfl, hb⟩ := hr 0 l[0] (List.getElem?_eq_getElem (by omega))
    obtain ⟨g, q, sp⟩ := b
    have hsp : sp = none := by have := World.cell?_spot hb; simpa [Addr.add] using this
    subst hsp
    refine refDecode_any g q cp l h hlt w (fun j x hx => ?_) (by have := cell_lt hb; rwa [Addr.add_mid] at this)
    obtain ⟨b', e, hc⟩ := hr j x hx
    cases e
    exact ⟨_, rfl, hc⟩
  · rw [if_neg h]; exact refDecode_size _ _ _ h w
end Go.Proofs.YthkppkecclnlnaaGreat
