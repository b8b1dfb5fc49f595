/- Walk: glyph.Escape. -/
import Derived.Test.YtcfbbmgpfeholaaEsc
import Derived.Test.YtcfbbmgpfeholaaJumps
namespace Go.Proofs.Ytcfbbmgpfeholaa
set_option linter.unusedVariables false
set_option linter.unusedSimpArgs false
open Go.RowKit

def clo (b : Nat) : Value := .func (.func 25) #[] #[.pointer (some ⟨b, 0, none⟩)]
/-- What holds at the labels: twoDigits 0, brace 1, none 2, more 3. -/
def escS (t : ByteArray) (v i : Int) : Nat → Prop
  | 0 => v = 0 ∧ i = 2 ∧ ab t 1 = 120
  | 1 => v = 0 ∧ i = 2 ∧ ab t 1 = 117
  | 2 => escV t = none
  | 3 => ∃ k : Nat, k ≤ 6 ∧ ab t 1 = 117 ∧ ab t 2 = 123 ∧ v = (hv t k : Nat) ∧ i = 2 + (k : Nat) ∧ ∀ j < k, (dg (ab t (3 + j))).isSome = true
  | _ => False
def escJ (t : ByteArray) (b : Nat) (W : World) (l : Nat) (a : Act) (w : World) : Prop :=
  ∃ (v i : Int) (u2 u3 u4 u8 u9 u10 u11 u12 u13 u14 u15 u16 u17 u18 u19 u20 u21 u22 u23 u24 u25 u26 u27 u28 u29 u30 u31 u32 u33 u34 u35 u36 u37 u38 u39 u40 u41 u42 u43 u44 u45 u46 u47 u48 u49 u50 u51 u52 u53 u54 u55 u56 u57 u58 u59 u60 u61 u62 u63 u64 u65 u66 u67 u68 u69 u70 u71 u72 u73 u74 u75 u76 u77 u78 u79 u80 u81 u82 u83 u84 u85 u86 u87 u88 u89 u90 u91 : Value), a = { tmps := #[.string t, .pointer (some ⟨b, 0, none⟩), u2, u3, u4, .func (.func 25) #[] #[.pointer (some ⟨b, 0, none⟩)], .int .i64 v, .int .i64 i, u8, u9, u10, u11, u12, u13, u14, u15, u16, u17, u18, u19, u20, u21, u22, u23, u24, u25, u26, u27, u28, u29, u30, u31, u32, u33, u34, u35, u36, u37, u38, u39, u40, u41, u42, u43, u44, u45, u46, u47, u48, u49, u50, u51, u52, u53, u54, u55, u56, u57, u58, u59, u60, u61, u62, u63, u64, u65, u66, u67, u68, u69, u70, u71, u72, u73, u74, u75, u76, u77, u78, u79, u80, u81, u82, u83, u84, u85, u86, u87, u88, u89, u90, u91], defers := [] } ∧ w = W ∧ Hid (escS t v i l)
def escM (l : Nat) (a : Act) (w : World) : Nat := match l with
  | 0 => 1
  | 1 => 100
  | 3 => 20 - (intOf (a.tmps.getD 7 undef)).toNat
  | _ => 0
theorem hnF_stop {t : ByteArray} {k : Nat} (f : Nat) (h : f = 0 ∨ dg (ab t (3 + k)) = none) : hnF t f k = k := by
  cases f with
  | zero => rfl
  | succ f =>
    rcases h with h | h
    · cases h
    · unfold hnF; rw [h]; rfl
theorem hnF_go {t : ByteArray} {k : Nat} (hd : ∀ j < k, (dg (ab t (3 + j))).isSome = true) (hs : k = 6 ∨ dg (ab t (3 + k)) = none) : ∀ f m, m + f = 6 → m ≤ k → k ≤ 6 → hnF t f m = k := by
  intro f
  induction f with
  | zero => intro m h1 h2 h3; show m = k; omega
  | succ f ih =>
    intro m h1 h2 h3
    rcases Nat.lt_or_ge m k with h | h
    · unfold hnF
      rw [if_pos (hd m h)]
      exact ih (m + 1) (by omega) (by omega) h3
    · obtain rfl : m = k := by omega
      exact hnF_stop _ (by rcases hs with hs | hs; omega; exact .inr hs)
theorem hn_is {t : ByteArray} {k : Nat} (hk : k ≤ 6) (hd : ∀ j < k, (dg (ab t (3 + j))).isSome = true) (hs : k = 6 ∨ dg (ab t (3 + k)) = none) : hn t = k := hnF_go hd hs 6 0 rfl (Nat.zero_le _) hk
theorem hv_lt (t : ByteArray) (k : Nat) : hv t k < 16 ^ k := by
  induction k with
  | zero => show 0 < 1; decide
  | succ k ih =>
    have : (dg (ab t (3 + k))).getD 0 < 16 := by
      cases h : dg (ab t (3 + k)) with
      | none => decide
      | some d => exact dg_lt h
    unfold hv
    rw [Nat.pow_succ]
    omega
theorem or16 (v d : Nat) (hd : d < 16) (hv : v < 1099511627776) : bits .or .i64 ((v : Int) * 16) (d : Int) = ((16 * v + d : Nat) : Int) := by
  have e : ((v : Int) * 16) = ((v * 16 : Nat) : Int) := by omega
  obtain ⟨m, hm⟩ : ∃ m, (BitVec.ofInt 64 ((v * 16 : Nat) : Int) ||| BitVec.ofInt 64 (d : Int)).toNat = m := ⟨_, rfl⟩
  have hb : bits .or .i64 ((v : Int) * 16) (d : Int) = IntKind.i64.wrap (m : Int) := by
    rw [e]
    unfold bits
    show IntKind.i64.wrap (((BitVec.ofInt 64 ((v * 16 : Nat) : Int) ||| BitVec.ofInt 64 (d : Int)).toNat : Nat) : Int) = _
    rw [hm]
  have h2 : m = 16 * v + d := by
    rw [← hm, BitVec.toNat_or, BitVec.ofInt_natCast, BitVec.ofInt_natCast, BitVec.toNat_ofNat, BitVec.toNat_ofNat, Nat.mod_eq_of_lt (by omega), Nat.mod_eq_of_lt (by omega)]
    have := Nat.shiftLeft_add_eq_or_of_lt (a := v) (i := 4) (b := d) (by omega)
    rw [Nat.shiftLeft_eq] at this
    rw [← this]; omega
  rw [hb, h2, IntKind.wrap_i64]
  omega
theorem conv_one (W : World) (x : Int) (n : Nat) (hx : x = (n : Int)) (hn : n < 256) (t5 : TypeId) :
    (convert 30 9 (.slice (some ⟨W.heap.size, 0, none⟩) 1 1)).run Try.prog (W.alloc (.cells #[.int .u8 x] 5)) = .ok (.string ⟨#[UInt8.ofNat n]⟩) (W.alloc (.cells #[.int .u8 x] 5)) := by
  refine run_convert_bytes_back _ 30 9 5 ⟨W.heap.size, 0, none⟩ 1 [UInt8.ofNat n] Try.underlying30 Try.underlying5 Try.underlying9 (fun j hj => ?_)
  have h0 : j = 0 := by simp at hj; exact hj
  subst h0
  have h := cells_new W [.int .u8 x] 5 0 (.int .u8 x) rfl
  have e : ([UInt8.ofNat n][0].toNat : Int) = x := by
    rw [hx]
    show (((UInt8.ofNat n).toNat : Nat) : Int) = _
    rw [UInt8.toNat_ofNat_of_lt' (by show n < 256; exact hn)]
  exact h.trans (by rw [e])
theorem esc_none {t : ByteArray} (h1 : ab t 1 = 117) (h : ¬ (ab t 2 = 123 ∧ hn t ≠ 0 ∧ ab t (3 + hn t) = 125 ∧ okB (hv t (hn t)) = true)) : escV t = none := by
  unfold escV
  rw [h1, if_neg (by decide), if_neg (by decide), if_neg (by decide), if_neg (by decide), if_neg (by decide), if_pos rfl, if_neg h]
theorem esc_some {t : ByteArray} (h1 : ab t 1 = 117) (h : ab t 2 = 123 ∧ hn t ≠ 0 ∧ ab t (3 + hn t) = 125 ∧ okB (hv t (hn t)) = true) : escV t = some (enc (hv t (hn t)), 4 + hn t) := by
  unfold escV
  rw [h1, if_neg (by decide), if_neg (by decide), if_neg (by decide), if_neg (by decide), if_neg (by decide), if_pos rfl, if_pos h]
def fixE (r : Int) : Nat := if 0 ≤ r ∧ r ≤ 0x10FFFF ∧ ¬ (0xD800 ≤ r ∧ r ≤ 0xDFFF) then r.toNat else 65533
theorem encode_fixE (r : Int) : (Utf8.encode r).data.toList = enc (fixE r) := by
  have hv : (if Utf8.valid r then r.toNat else Utf8.runeError) = fixE r := by
    unfold fixE
    by_cases h : 0 ≤ r ∧ r ≤ 0x10FFFF ∧ ¬ (0xD800 ≤ r ∧ r ≤ 0xDFFF)
    · rw [if_pos h, if_pos (by simp [Utf8.valid]; omega)]
    · rw [if_neg h, if_neg (by simp [Utf8.valid]; omega)]; rfl
  unfold Utf8.encode
  simp only [hv]
  unfold enc encN
  by_cases a : fixE r ≤ 127
  · rw [if_pos (by omega), if_pos a]; rfl
  · rw [if_neg (by omega), if_neg a]
    by_cases b : fixE r ≤ 2047
    · rw [if_pos (by omega), if_pos b]; rfl
    · rw [if_neg (by omega), if_neg b]
      by_cases c : fixE r ≤ 65535
      · rw [if_pos (by omega), if_pos c]; rfl
      · rw [if_neg (by omega), if_neg c]; rfl
theorem enc_utf8 {r : Nat} (h : okR r) : Utf8.encode (r : Int) = ⟨(enc r).toArray⟩ := by
  refine ba_ext ?_
  rw [encode_fixE]
  unfold fixE
  obtain ⟨h1, h2⟩ := h
  rw [if_pos (by omega), Int.toNat_natCast]
theorem ext12 {t : ByteArray} (h0 : 2 ≤ t.size) : t.extract 1 2 = ⟨#[UInt8.ofNat (ab t 1)]⟩ := by
  refine ba_ext ?_
  have h1 := drop_bt t 1 (by omega)
  have e : ab t 1 = bt t 1 := by unfold ab; rw [if_pos (by omega)]
  rw [e]
  simp [ByteArray.data_extract, List.extract, h1]
set_option maxRecDepth 100000 in
set_option maxHeartbeats 2000000 in
theorem escape_any (t : ByteArray) (h0 : 2 ≤ t.size) (ht : t.size ≤ 9223372036854775800) (w : World) :
    Calls Try.prog 18 #[.string t] w fun e w' => e = .returned (escA t) ∧ Below w.heap.size w w' := by
  have hbl : Below w.heap.size w (w.alloc (.cells #[.string t] 9)) := (Below.refl _ _).alloc (Nat.le_refl _) _
  have hbx := blk_new w (.cells #[.string t] 9)
  go_enter Try.func18, Try.ntmps18
  go_wp2_with fail
  obtain ⟨b, hb⟩ : ∃ b, w.heap.size = b := ⟨_, rfl⟩
  generalize World.alloc w _ = W at *
  rw [hb] at hbx
  (try rw [hb])
  have hc : W.cell? ⟨b, 0, none⟩ = some (.string t) := by simp [World.cell?, hbx]
  have HAT := Lib.hid (fun i hi => at_any b t i W hi (by omega) hc)
  have HBL := Lib.hid hbl
  have HT := Lib.hid ht
  have HX := Lib.hid (ext12 h0)
  have i1 : (1 : Int) ≤ (t.size : Int) := by omega
  have i2 : (2 : Int) ≤ (t.size : Int) := by omega
  have HAT1 : Hid (Calls Try.prog 25 #[.int .i64 1, .pointer (some ⟨b, 0, none⟩)] W fun e w' => e = .returned (.int .u8 (ab t 1 : Nat)) ∧ w' = W) := HAT.out 1 (by decide)
  clear hbl hb hbx
  refine wp_scope_many (escJ t b W) escM ?_ ?_
  · by_cases h1 : ab t 1 = 110
    · have HV : Hid (escA t = .tuple #[.string ⟨#[10]⟩, .int .i64 2, .bool true]) := by show _ = _; unfold escA escV; rw [h1]; rfl
      have HA1 := HAT1
      rw [h1] at HA1
      clear h1 HAT HAT1
      go_wp2_with fail
      refine HA1.out.mono ?_
      rintro e w1 ⟨rfl, rfl⟩
      go_wp2_with fail
      rw [jumps_ret]
      go_wp2_with fail
      go_ret3
      exact ⟨by rw [HV.out]; rfl, HBL.out⟩
    have k1 := h1
    clear h1
    by_cases h1 : ab t 1 = 34
    · have HV : Hid (escA t = .tuple #[.string (t.extract 1 2), .int .i64 2, .bool true]) := by show _ = _; rw [HX.out]; unfold escA escV; rw [h1]; rfl
      have HA1 := HAT1
      rw [h1] at HA1
      clear h1 HAT HAT1
      go_wp2_with fail
      refine HA1.out.mono ?_
      rintro e w1 ⟨rfl, rfl⟩
      go_wp2_with fail
      rw [jumps_ret]
      go_wp2_with fail
      go_ret3
      exact ⟨by rw [HV.out]; rfl, HBL.out⟩
    have k2 := h1
    clear h1
    by_cases h1 : ab t 1 = 92
    · have HV : Hid (escA t = .tuple #[.string (t.extract 1 2), .int .i64 2, .bool true]) := by show _ = _; rw [HX.out]; unfold escA escV; rw [h1]; rfl
      have HA1 := HAT1
      rw [h1] at HA1
      clear h1 HAT HAT1
      go_wp2_with fail
      refine HA1.out.mono ?_
      rintro e w1 ⟨rfl, rfl⟩
      go_wp2_with fail
      rw [jumps_ret]
      go_wp2_with fail
      go_ret3
      exact ⟨by rw [HV.out]; rfl, HBL.out⟩
    have k3 := h1
    clear h1
    by_cases h1 : ab t 1 = 116
    · have HV : Hid (escA t = .tuple #[.string ⟨#[9]⟩, .int .i64 2, .bool true]) := by show _ = _; unfold escA escV; rw [h1]; rfl
      have HA1 := HAT1
      rw [h1] at HA1
      clear h1 HAT HAT1
      go_wp2_with fail
      refine HA1.out.mono ?_
      rintro e w1 ⟨rfl, rfl⟩
      go_wp2_with fail
      rw [jumps_ret]
      go_wp2_with fail
      go_ret3
      exact ⟨by rw [HV.out]; rfl, HBL.out⟩
    have k4 := h1
    clear h1
    by_cases h1 : ab t 1 = 114
    · have HV : Hid (escA t = .tuple #[.string ⟨#[13]⟩, .int .i64 2, .bool true]) := by show _ = _; unfold escA escV; rw [h1]; rfl
      have HA1 := HAT1
      rw [h1] at HA1
      clear h1 HAT HAT1
      go_wp2_with fail
      refine HA1.out.mono ?_
      rintro e w1 ⟨rfl, rfl⟩
      go_wp2_with fail
      rw [jumps_ret]
      go_wp2_with fail
      go_ret3
      exact ⟨by rw [HV.out]; rfl, HBL.out⟩
    have k5 := h1
    clear h1
    by_cases h1 : ab t 1 = 120
    · skip
      have HA1 := HAT1
      rw [h1] at HA1
      go_wp2_with fail
      refine HA1.out.mono ?_
      rintro e w1 ⟨rfl, rfl⟩
      go_wp2_with fail
      go_step3
      refine ⟨0, 2, ?_⟩
      iterate 87 (apply Exists.intro)
      exact ⟨rfl, rfl, ⟨rfl, rfl, h1⟩⟩
    have k6 := h1
    clear h1
    by_cases h1 : ab t 1 = 117
    · skip
      have HA1 := HAT1
      rw [h1] at HA1
      go_wp2_with fail
      refine HA1.out.mono ?_
      rintro e w1 ⟨rfl, rfl⟩
      go_wp2_with fail
      go_step3
      refine ⟨0, 2, ?_⟩
      iterate 87 (apply Exists.intro)
      exact ⟨rfl, rfl, ⟨rfl, rfl, h1⟩⟩
    have HV : Hid (escV t = none) := by
      show _ = _
      unfold escV
      rw [if_neg (by omega), if_neg k1, if_neg k4, if_neg k5, if_neg k6, if_neg h1]
    have HA1 := HAT1
    generalize ab t 1 = c at *
    have e1 : ((c : Int) == 110) = false := by simp; omega
    have e2 : ((c : Int) == 34) = false := by simp; omega
    have e3 : ((c : Int) == 92) = false := by simp; omega
    have e4 : ((c : Int) == 116) = false := by simp; omega
    have e5 : ((c : Int) == 114) = false := by simp; omega
    have e6 : ((c : Int) == 120) = false := by simp; omega
    have e7 : ((c : Int) == 117) = false := by simp; omega
    clear h1 k1 k2 k3 k4 k5 k6
    go_wp2_with fail
    refine HA1.out.mono ?_
    rintro e w1 ⟨rfl, rfl⟩
    go_wp2_with fail
    go_step3
    refine ⟨0, 2, ?_⟩
    iterate 87 (apply Exists.intro)
    exact ⟨rfl, rfl, HV.out⟩
  · rintro l a' w' ⟨v, i, hh⟩
    obtain ⟨u2, hh⟩ := hh
    obtain ⟨u3, hh⟩ := hh
    obtain ⟨u4, hh⟩ := hh
    obtain ⟨u8, hh⟩ := hh
    obtain ⟨u9, hh⟩ := hh
    obtain ⟨u10, hh⟩ := hh
    obtain ⟨u11, hh⟩ := hh
    obtain ⟨u12, hh⟩ := hh
    obtain ⟨u13, hh⟩ := hh
    obtain ⟨u14, hh⟩ := hh
    obtain ⟨u15, hh⟩ := hh
    obtain ⟨u16, hh⟩ := hh
    obtain ⟨u17, hh⟩ := hh
    obtain ⟨u18, hh⟩ := hh
    obtain ⟨u19, hh⟩ := hh
    obtain ⟨u20, hh⟩ := hh
    obtain ⟨u21, hh⟩ := hh
    obtain ⟨u22, hh⟩ := hh
    obtain ⟨u23, hh⟩ := hh
    obtain ⟨u24, hh⟩ := hh
    obtain ⟨u25, hh⟩ := hh
    obtain ⟨u26, hh⟩ := hh
    obtain ⟨u27, hh⟩ := hh
    obtain ⟨u28, hh⟩ := hh
    obtain ⟨u29, hh⟩ := hh
    obtain ⟨u30, hh⟩ := hh
    obtain ⟨u31, hh⟩ := hh
    obtain ⟨u32, hh⟩ := hh
    obtain ⟨u33, hh⟩ := hh
    obtain ⟨u34, hh⟩ := hh
    obtain ⟨u35, hh⟩ := hh
    obtain ⟨u36, hh⟩ := hh
    obtain ⟨u37, hh⟩ := hh
    obtain ⟨u38, hh⟩ := hh
    obtain ⟨u39, hh⟩ := hh
    obtain ⟨u40, hh⟩ := hh
    obtain ⟨u41, hh⟩ := hh
    obtain ⟨u42, hh⟩ := hh
    obtain ⟨u43, hh⟩ := hh
    obtain ⟨u44, hh⟩ := hh
    obtain ⟨u45, hh⟩ := hh
    obtain ⟨u46, hh⟩ := hh
    obtain ⟨u47, hh⟩ := hh
    obtain ⟨u48, hh⟩ := hh
    obtain ⟨u49, hh⟩ := hh
    obtain ⟨u50, hh⟩ := hh
    obtain ⟨u51, hh⟩ := hh
    obtain ⟨u52, hh⟩ := hh
    obtain ⟨u53, hh⟩ := hh
    obtain ⟨u54, hh⟩ := hh
    obtain ⟨u55, hh⟩ := hh
    obtain ⟨u56, hh⟩ := hh
    obtain ⟨u57, hh⟩ := hh
    obtain ⟨u58, hh⟩ := hh
    obtain ⟨u59, hh⟩ := hh
    obtain ⟨u60, hh⟩ := hh
    obtain ⟨u61, hh⟩ := hh
    obtain ⟨u62, hh⟩ := hh
    obtain ⟨u63, hh⟩ := hh
    obtain ⟨u64, hh⟩ := hh
    obtain ⟨u65, hh⟩ := hh
    obtain ⟨u66, hh⟩ := hh
    obtain ⟨u67, hh⟩ := hh
    obtain ⟨u68, hh⟩ := hh
    obtain ⟨u69, hh⟩ := hh
    obtain ⟨u70, hh⟩ := hh
    obtain ⟨u71, hh⟩ := hh
    obtain ⟨u72, hh⟩ := hh
    obtain ⟨u73, hh⟩ := hh
    obtain ⟨u74, hh⟩ := hh
    obtain ⟨u75, hh⟩ := hh
    obtain ⟨u76, hh⟩ := hh
    obtain ⟨u77, hh⟩ := hh
    obtain ⟨u78, hh⟩ := hh
    obtain ⟨u79, hh⟩ := hh
    obtain ⟨u80, hh⟩ := hh
    obtain ⟨u81, hh⟩ := hh
    obtain ⟨u82, hh⟩ := hh
    obtain ⟨u83, hh⟩ := hh
    obtain ⟨u84, hh⟩ := hh
    obtain ⟨u85, hh⟩ := hh
    obtain ⟨u86, hh⟩ := hh
    obtain ⟨u87, hh⟩ := hh
    obtain ⟨u88, hh⟩ := hh
    obtain ⟨u89, hh⟩ := hh
    obtain ⟨u90, hh⟩ := hh
    obtain ⟨u91, hh⟩ := hh
    obtain ⟨rfl, rfl, hS⟩ := hh
    match l, hS with
    | 0, hS =>
      obtain ⟨rfl, rfl, h1⟩ := hS.out
      refine ⟨_, rfl, ?_⟩
      have HA2 : Hid (Calls Try.prog 25 #[.int .i64 2, .pointer (some ⟨b, 0, none⟩)] w' fun e w'' => e = .returned (.int .u8 (ab t 2 : Nat)) ∧ w'' = w') := HAT.out 2 (by decide)
      have HA3 : Hid (Calls Try.prog 25 #[.int .i64 3, .pointer (some ⟨b, 0, none⟩)] w' fun e w'' => e = .returned (.int .u8 (ab t 3 : Nat)) ∧ w'' = w') := HAT.out 3 (by decide)
      have l2 := ab_lt t 2
      have l3 := ab_lt t 3
      have HD2 := Lib.hid (digit_any (ab t 2) l2 w')
      have HD3 := Lib.hid (digit_any (ab t 3) l3 w')
      clear HAT HAT1 l2 l3
      cases hd2 : dg (ab t 2) with
      | none =>
        have HV : Hid (escV t = none) := by show _ = _; unfold escV; rw [h1, hd2]; rfl
        unfold dgI at HD2
        rw [hd2] at HD2
        dsimp only at HD2
        go_wp2_with fail
        refine HA2.out.mono ?_
        rintro e w1 ⟨rfl, rfl⟩
        go_wp2_with fail
        refine HD2.out.mono ?_
        rintro e w1 ⟨rfl, rfl⟩
        go_wp2_with fail
        go_step3
        refine ⟨?_, ?_⟩
        · refine ⟨0, 2, ?_⟩
          iterate 87 (apply Exists.intro)
          exact ⟨rfl, rfl, HV.out⟩
        show 0 < 1
        decide
      | some d2 =>
        have dl2 := dg_lt hd2
        unfold dgI at HD2
        rw [hd2] at HD2
        dsimp only at HD2
        have g2 : ¬ (d2 : Int) < 0 := by omega
        cases hd3 : dg (ab t 3) with
        | none =>
          have HV : Hid (escV t = none) := by show _ = _; unfold escV; rw [h1, hd2, hd3]; rfl
          unfold dgI at HD3
          rw [hd3] at HD3
          dsimp only at HD3
          go_wp2_with fail
          refine HA2.out.mono ?_
          rintro e w1 ⟨rfl, rfl⟩
          go_wp2_with fail
          refine HD2.out.mono ?_
          rintro e w1 ⟨rfl, rfl⟩
          go_wp2_with fail
          refine HA3.out.mono ?_
          rintro e w1 ⟨rfl, rfl⟩
          go_wp2_with fail
          refine HD3.out.mono ?_
          rintro e w1 ⟨rfl, rfl⟩
          go_wp2_with fail
          go_step3
          refine ⟨?_, ?_⟩
          · refine ⟨0, 2, ?_⟩
            iterate 87 (apply Exists.intro)
            exact ⟨rfl, rfl, HV.out⟩
          show 0 < 1
          decide
        | some d3 =>
          have dl3 := dg_lt hd3
          have HV : Hid (escV t = some ([UInt8.ofNat (16 * d2 + d3)], 4)) := by show _ = _; unfold escV; rw [h1, hd2, hd3]; rfl
          unfold dgI at HD3
          rw [hd3] at HD3
          dsimp only at HD3
          have g3 : ¬ (d3 : Int) < 0 := by omega
          have hor : bits .or .i64 ((d2 : Int) * 16) (d3 : Int) % 256 = ((16 * d2 + d3 : Nat) : Int) := by rw [or16 d2 d3 dl3 (by omega)]; omega
          have hcv := conv_one w' _ _ hor (by omega) 0
          have HBA := Lib.hid (HBL.out.alloc HBL.out.size (.cells #[.int .u8 (bits .or .i64 ((d2 : Int) * 16) (d3 : Int) % 256)] 5))
          have HV2 : Hid (escA t = .tuple #[.string ⟨#[UInt8.ofNat (16 * d2 + d3)]⟩, .int .i64 4, .bool true]) := by show _ = _; unfold escA; rw [HV.out]; rfl
          generalize UInt8.ofNat (16 * d2 + d3) = B at *
          clear hor
          go_wp2_with fail
          refine HA2.out.mono ?_
          rintro e w1 ⟨rfl, rfl⟩
          go_wp2_with fail
          refine HD2.out.mono ?_
          rintro e w1 ⟨rfl, rfl⟩
          go_wp2_with fail
          refine HA3.out.mono ?_
          rintro e w1 ⟨rfl, rfl⟩
          go_wp2_with fail
          refine HD3.out.mono ?_
          rintro e w1 ⟨rfl, rfl⟩
          go_wp2_with fail
          refine HA2.out.mono ?_
          rintro e w1 ⟨rfl, rfl⟩
          go_wp2_with fail
          refine HD2.out.mono ?_
          rintro e w1 ⟨rfl, rfl⟩
          go_wp2_with fail
          refine HA3.out.mono ?_
          rintro e w1 ⟨rfl, rfl⟩
          go_wp2_with fail
          refine HD3.out.mono ?_
          rintro e w1 ⟨rfl, rfl⟩
          go_wp2_with fail
          go_ret3
          exact ⟨by rw [HV2.out]; rfl, HBA.out⟩
    | 1, hS =>
      obtain ⟨rfl, rfl, h1⟩ := hS.out
      refine ⟨_, rfl, ?_⟩
      have HA2 : Hid (Calls Try.prog 25 #[.int .i64 2, .pointer (some ⟨b, 0, none⟩)] w' fun e w'' => e = .returned (.int .u8 (ab t 2 : Nat)) ∧ w'' = w') := HAT.out 2 (by decide)
      by_cases h2 : ab t 2 = 123
      · rw [h2] at HA2
        go_wp2_with fail
        refine HA2.out.mono ?_
        rintro e w1 ⟨rfl, rfl⟩
        go_wp2_with fail
        go_step3
        have HAK : Hid (Calls Try.prog 25 #[.int .i64 3, .pointer (some ⟨b, 0, none⟩)] w1 fun e w'' => e = .returned (.int .u8 (ab t 3 : Nat)) ∧ w'' = w1) := HAT.out 3 (by decide)
        have HDK := Lib.hid (digit_any (ab t 3) (ab_lt t _) w1)
        unfold dgI at HDK
        cases hdk : dg (ab t 3) with
        | none =>
          have HV : Hid (escV t = none) := by
            have hn0 : hn t = 0 := hn_is (k := 0) (by omega) (fun j hj => by omega) (.inr hdk)
            exact esc_none h1 (fun h => h.2.1 hn0)
          rw [hdk] at HDK
          dsimp only at HDK
          go_wp2_with fail
          refine HAK.out.mono ?_
          rintro e w1 ⟨rfl, rfl⟩
          go_wp2_with fail
          refine HDK.out.mono ?_
          rintro e w1 ⟨rfl, rfl⟩
          go_wp2_with fail
          go_step3
          refine ⟨?_, ?_⟩
          · refine ⟨0, 3, ?_⟩
            iterate 87 (apply Exists.intro)
            exact ⟨rfl, rfl, HV.out⟩
          show 0 < 100
          decide
        | some d =>
          have hd16 := dg_lt hdk
          rw [hdk] at HDK
          dsimp only at HDK
          have g1 : (0 : Int) ≤ (d : Int) := by omega
          have hor : bits .or .i64 0 (d : Int) = (d : Int) := by have := or16 0 d hd16 (by omega); simpa using this
          go_wp2_with fail
          refine HAK.out.mono ?_
          rintro e w1 ⟨rfl, rfl⟩
          go_wp2_with fail
          refine HDK.out.mono ?_
          rintro e w1 ⟨rfl, rfl⟩
          go_wp2_with fail
          go_step3
          refine ⟨?_, ?_⟩
          · refine ⟨(d : Int), 3, ?_⟩
            iterate 87 (apply Exists.intro)
            exact ⟨rfl, rfl, ⟨1, by omega, h1, h2, by unfold hv hv; rw [hdk]; simp, by omega, fun j hj => by obtain rfl : j = 0 := (by omega); rw [Nat.add_zero, hdk]; rfl⟩⟩
          show 20 - _ < 100
          omega
      · have HV : Hid (escV t = none) := by
          show _ = _
          unfold escV
          rw [h1, if_neg (by decide), if_neg (by decide), if_neg (by decide), if_neg (by decide), if_neg (by decide), if_pos rfl, if_neg (fun h => h2 h.1)]
        have e2 : ((ab t 2 : Int) != 123) = true := by simp; omega
        go_wp2_with fail
        refine HA2.out.mono ?_
        rintro e w1 ⟨rfl, rfl⟩
        go_wp2_with fail
        go_step3
        refine ⟨?_, ?_⟩
        · refine ⟨0, 2, ?_⟩
          iterate 87 (apply Exists.intro)
          exact ⟨rfl, rfl, HV.out⟩
        show 0 < 100
        decide
    | 2, hS =>
      have HV : Hid (escA t = .tuple #[.string ⟨#[]⟩, .int .i64 0, .bool false]) := by show _ = _; unfold escA; rw [hS.out]
      refine ⟨_, rfl, ?_⟩
      go_wp2_with fail
      go_ret3
      exact ⟨by rw [HV.out]; rfl, HBL.out⟩
    | 3, hS =>
      obtain ⟨k, hk, h1, h2, rfl, rfl, hd⟩ := hS.out
      refine ⟨_, rfl, ?_⟩
      dsimp only
      have hi3 : (2 : Int) + (k : Int) + 1 = ((3 + k : Nat) : Int) := by omega
      have HAK : Hid (Calls Try.prog 25 #[.int .i64 (2 + (k : Int) + 1), .pointer (some ⟨b, 0, none⟩)] w' fun e w'' => e = .returned (.int .u8 (ab t (3 + k) : Nat)) ∧ w'' = w') := by rw [hi3]; exact HAT.out (3 + k) (by omega)
      have HDK := Lib.hid (digit_any (ab t (3 + k)) (ab_lt t _) w')
      unfold dgI at HDK
      clear hi3
      cases hdk : dg (ab t (3 + k)) with
      | none =>
        have hnk : hn t = k := hn_is hk hd (.inr hdk)
        rw [hdk] at HDK
        dsimp only at HDK
        go_wp2_with fail
        refine HAK.out.mono ?_
        rintro e w1 ⟨rfl, rfl⟩
        go_wp2_with fail
        refine HDK.out.mono ?_
        rintro e w1 ⟨rfl, rfl⟩
        · by_cases hk0 : k = 0
          · have HV : Hid (escV t = none) := esc_none h1 (fun h => h.2.1 (hnk.trans hk0))
            first
              | (exfalso; omega)
              | (subst hk0
                 go_wp2_with fail
                 go_step3
                 refine ⟨?_, ?_⟩
                 · refine ⟨((hv t 0 : Nat) : Int), 3, ?_⟩
                   iterate 87 (apply Exists.intro)
                   exact ⟨rfl, rfl, HV.out⟩
                 show 0 < 20 - _
                 simp [intOf])
          · have c3 : ((2 : Int) + (k : Int) + 1 == 3) = false := by simp; omega
            by_cases hb : ab t (3 + k) = 125
            · rw [hb] at HAK
              by_cases hok : okB (hv t k) = true
              · have hr := (okB_iff _).1 hok
                have HV : Hid (escA t = .tuple #[.string (Utf8.encode ((hv t k : Nat) : Int)), .int .i64 (2 + (k : Int) + 1 + 1), .bool true]) := by
                  show _ = _
                  unfold escA
                  rw [esc_some h1 ⟨h2, by rw [hnk]; exact hk0, by rw [hnk]; exact hb, by rw [hnk]; exact hok⟩, hnk, enc_utf8 hr, show (2 : Int) + (k : Int) + 1 + 1 = ((4 + k : Nat) : Int) by omega]
                have r1 : ¬ (1114111 : Int) < ((hv t k : Nat) : Int) := by have := hr.1; omega
                have hsur : hv t k < 55296 ∨ 57343 < hv t k := by
                  have := hr.2
                  omega
                rcases hsur with hlo | hhi
                · have r2 : ((hv t k : Nat) : Int) < 55296 := by omega
                  have r0 : (0 : Int) ≤ ((hv t k : Nat) : Int) := by omega
                  clear hlo hr hok
                  generalize ((hv t k : Nat) : Int) = V at *
                  go_wp2_with fail
                  refine HAK.out.mono ?_
                  rintro e w1 ⟨rfl, rfl⟩
                  go_wp2_with fail
                  all_goals first
                    | (rw [jumps_ret]; go_wp2_with fail; go_ret3; exact ⟨by rw [HV.out]; rfl, HBL.out⟩)
                    | (go_ret3; exact ⟨by rw [HV.out]; rfl, HBL.out⟩)
                · have r2 : (55296 : Int) ≤ ((hv t k : Nat) : Int) := by omega
                  have r3 : (57343 : Int) < ((hv t k : Nat) : Int) := by omega
                  clear hhi hr hok
                  generalize ((hv t k : Nat) : Int) = V at *
                  go_wp2_with fail
                  refine HAK.out.mono ?_
                  rintro e w1 ⟨rfl, rfl⟩
                  go_wp2_with fail
                  all_goals first
                    | (rw [jumps_ret]; go_wp2_with fail; go_ret3; exact ⟨by rw [HV.out]; rfl, HBL.out⟩)
                    | (go_ret3; exact ⟨by rw [HV.out]; rfl, HBL.out⟩)
              · have HV : Hid (escV t = none) := esc_none h1 (fun h => hok (by rw [← hnk]; exact h.2.2.2))
                have hr := fun h => hok ((okB_iff _).2 h)
                by_cases r1 : (1114111 : Int) < ((hv t k : Nat) : Int)
                · go_wp2_with fail
                  refine HAK.out.mono ?_
                  rintro e w1 ⟨rfl, rfl⟩
                  go_wp2_with fail
                  go_step3
                  refine ⟨?_, ?_⟩
                  · refine ⟨((hv t k : Nat) : Int), 2 + (k : Int) + 1, ?_⟩
                    iterate 87 (apply Exists.intro)
                    exact ⟨rfl, rfl, HV.out⟩
                  show 0 < 20 - _
                  simp [intOf]; omega
                · have r2 : (55296 : Int) ≤ ((hv t k : Nat) : Int) := by
                    rcases Nat.lt_or_ge (hv t k) 55296 with h | h
                    · exact absurd ⟨by omega, by omega⟩ hr
                    · omega
                  have r3 : ((hv t k : Nat) : Int) ≤ 57343 := by
                    rcases Nat.lt_or_ge 57343 (hv t k) with h | h
                    · exact absurd ⟨by omega, by omega⟩ hr
                    · omega
                  go_wp2_with fail
                  refine HAK.out.mono ?_
                  rintro e w1 ⟨rfl, rfl⟩
                  go_wp2_with fail
                  go_step3
                  refine ⟨?_, ?_⟩
                  · refine ⟨((hv t k : Nat) : Int), 2 + (k : Int) + 1, ?_⟩
                    iterate 87 (apply Exists.intro)
                    exact ⟨rfl, rfl, HV.out⟩
                  show 0 < 20 - _
                  simp [intOf]; omega
            · have HV : Hid (escV t = none) := esc_none h1 (fun h => hb (by rw [← hnk]; exact h.2.2.1))
              have e5 : ((ab t (3 + k) : Int) != 125) = true := by simp; omega
              go_wp2_with fail
              refine HAK.out.mono ?_
              rintro e w1 ⟨rfl, rfl⟩
              go_wp2_with fail
              go_step3
              refine ⟨?_, ?_⟩
              · refine ⟨((hv t k : Nat) : Int), 2 + (k : Int) + 1, ?_⟩
                iterate 87 (apply Exists.intro)
                exact ⟨rfl, rfl, HV.out⟩
              show 0 < 20 - _
              simp [intOf]; omega
      | some d =>
        have hd16 := dg_lt hdk
        rw [hdk] at HDK
        dsimp only at HDK
        have g1 : (0 : Int) ≤ (d : Int) := by omega
        by_cases hk6 : k < 6
        · have g2 : (2 : Int) + (k : Int) + 1 < 9 := by omega
          have hvl := hv_lt t k
          have hv6 : hv t k < 1099511627776 := Nat.lt_of_lt_of_le hvl (Nat.le_trans (Nat.pow_le_pow_right (by decide) hk) (by decide))
          have hor := or16 (hv t k) d hd16 hv6
          go_wp2_with fail
          refine HAK.out.mono ?_
          rintro e w1 ⟨rfl, rfl⟩
          go_wp2_with fail
          refine HDK.out.mono ?_
          rintro e w1 ⟨rfl, rfl⟩
          have HS3 : Hid (escS t ((16 * hv t k + d : Nat) : Int) (2 + (k : Int) + 1) 3) := by
            refine ⟨k + 1, by omega, h1, h2, ?_, by omega, fun j hj => ?_⟩
            · show _ = ((16 * hv t k + (dg (ab t (3 + k))).getD 0 : Nat) : Int)
              rw [hdk]; rfl
            · by_cases h : j < k
              · exact hd j h
              · obtain rfl : j = k := by omega
                rw [hdk]; rfl
          go_wp2_with fail
          go_step3
          refine ⟨?_, ?_⟩
          · refine ⟨((16 * hv t k + d : Nat) : Int), 2 + (k : Int) + 1, ?_⟩
            iterate 87 (apply Exists.intro)
            exact ⟨rfl, rfl, HS3.out⟩
          show 20 - _ < 20 - _
          simp [intOf]; omega
        · have hk6' : k = 6 := by omega
          have hnk : hn t = k := hn_is hk hd (.inl hk6')
          have g2 : ¬ (2 : Int) + (k : Int) + 1 < 9 := by omega
          clear hk6'
          go_wp2_with fail
          refine HAK.out.mono ?_
          rintro e w1 ⟨rfl, rfl⟩
          go_wp2_with fail
          refine HDK.out.mono ?_
          rintro e w1 ⟨rfl, rfl⟩
          · by_cases hk0 : k = 0
            · have HV : Hid (escV t = none) := esc_none h1 (fun h => h.2.1 (hnk.trans hk0))
              first
                | (exfalso; omega)
                | (subst hk0
                   go_wp2_with fail
                   go_step3
                   refine ⟨?_, ?_⟩
                   · refine ⟨((hv t 0 : Nat) : Int), 3, ?_⟩
                     iterate 87 (apply Exists.intro)
                     exact ⟨rfl, rfl, HV.out⟩
                   show 0 < 20 - _
                   simp [intOf])
            · have c3 : ((2 : Int) + (k : Int) + 1 == 3) = false := by simp; omega
              by_cases hb : ab t (3 + k) = 125
              · rw [hb] at HAK
                by_cases hok : okB (hv t k) = true
                · have hr := (okB_iff _).1 hok
                  have HV : Hid (escA t = .tuple #[.string (Utf8.encode ((hv t k : Nat) : Int)), .int .i64 (2 + (k : Int) + 1 + 1), .bool true]) := by
                    show _ = _
                    unfold escA
                    rw [esc_some h1 ⟨h2, by rw [hnk]; exact hk0, by rw [hnk]; exact hb, by rw [hnk]; exact hok⟩, hnk, enc_utf8 hr, show (2 : Int) + (k : Int) + 1 + 1 = ((4 + k : Nat) : Int) by omega]
                  have r1 : ¬ (1114111 : Int) < ((hv t k : Nat) : Int) := by have := hr.1; omega
                  have hsur : hv t k < 55296 ∨ 57343 < hv t k := by
                    have := hr.2
                    omega
                  rcases hsur with hlo | hhi
                  · have r2 : ((hv t k : Nat) : Int) < 55296 := by omega
                    have r0 : (0 : Int) ≤ ((hv t k : Nat) : Int) := by omega
                    clear hlo hr hok
                    generalize ((hv t k : Nat) : Int) = V at *
                    go_wp2_with fail
                    refine HAK.out.mono ?_
                    rintro e w1 ⟨rfl, rfl⟩
                    go_wp2_with fail
                    all_goals first
                      | (rw [jumps_ret]; go_wp2_with fail; go_ret3; exact ⟨by rw [HV.out]; rfl, HBL.out⟩)
                      | (go_ret3; exact ⟨by rw [HV.out]; rfl, HBL.out⟩)
                  · have r2 : (55296 : Int) ≤ ((hv t k : Nat) : Int) := by omega
                    have r3 : (57343 : Int) < ((hv t k : Nat) : Int) := by omega
                    clear hhi hr hok
                    generalize ((hv t k : Nat) : Int) = V at *
                    go_wp2_with fail
                    refine HAK.out.mono ?_
                    rintro e w1 ⟨rfl, rfl⟩
                    go_wp2_with fail
                    all_goals first
                      | (rw [jumps_ret]; go_wp2_with fail; go_ret3; exact ⟨by rw [HV.out]; rfl, HBL.out⟩)
                      | (go_ret3; exact ⟨by rw [HV.out]; rfl, HBL.out⟩)
                · have HV : Hid (escV t = none) := esc_none h1 (fun h => hok (by rw [← hnk]; exact h.2.2.2))
                  have hr := fun h => hok ((okB_iff _).2 h)
                  by_cases r1 : (1114111 : Int) < ((hv t k : Nat) : Int)
                  · go_wp2_with fail
                    refine HAK.out.mono ?_
                    rintro e w1 ⟨rfl, rfl⟩
                    go_wp2_with fail
                    go_step3
                    refine ⟨?_, ?_⟩
                    · refine ⟨((hv t k : Nat) : Int), 2 + (k : Int) + 1, ?_⟩
                      iterate 87 (apply Exists.intro)
                      exact ⟨rfl, rfl, HV.out⟩
                    show 0 < 20 - _
                    simp [intOf]; omega
                  · have r2 : (55296 : Int) ≤ ((hv t k : Nat) : Int) := by
                      rcases Nat.lt_or_ge (hv t k) 55296 with h | h
                      · exact absurd ⟨by omega, by omega⟩ hr
                      · omega
                    have r3 : ((hv t k : Nat) : Int) ≤ 57343 := by
                      rcases Nat.lt_or_ge 57343 (hv t k) with h | h
                      · exact absurd ⟨by omega, by omega⟩ hr
                      · omega
                    go_wp2_with fail
                    refine HAK.out.mono ?_
                    rintro e w1 ⟨rfl, rfl⟩
                    go_wp2_with fail
                    go_step3
                    refine ⟨?_, ?_⟩
                    · refine ⟨((hv t k : Nat) : Int), 2 + (k : Int) + 1, ?_⟩
                      iterate 87 (apply Exists.intro)
                      exact ⟨rfl, rfl, HV.out⟩
                    show 0 < 20 - _
                    simp [intOf]; omega
              · have HV : Hid (escV t = none) := esc_none h1 (fun h => hb (by rw [← hnk]; exact h.2.2.1))
                have e5 : ((ab t (3 + k) : Int) != 125) = true := by simp; omega
                go_wp2_with fail
                refine HAK.out.mono ?_
                rintro e w1 ⟨rfl, rfl⟩
                go_wp2_with fail
                go_step3
                refine ⟨?_, ?_⟩
                · refine ⟨((hv t k : Nat) : Int), 2 + (k : Int) + 1, ?_⟩
                  iterate 87 (apply Exists.intro)
                  exact ⟨rfl, rfl, HV.out⟩
                show 0 < 20 - _
                simp [intOf]; omega
    | l + 4, hS => exact hS.out.elim
end Go.Proofs.Ytcfbbmgpfeholaa
