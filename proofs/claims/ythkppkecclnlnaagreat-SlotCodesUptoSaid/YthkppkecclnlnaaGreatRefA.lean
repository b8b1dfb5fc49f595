/- Walks: the document's May, lay, value, Encode. -/
import Derived.Test.YthkppkecclnlnaaGreatSlotE
namespace Go.Proofs.YthkppkecclnlnaaGreat
set_option linter.unusedVariables false
set_option linter.unusedSimpArgs false
open Go.RowKit

set_option maxRecDepth 100000 in
theorem refMay_any (a b c : Int) (w : World) : Calls Tryz.prog 21 #[recV a b c] w fun e w' => e = .returned (.bool (decide (mayR a b c))) ∧ Below w.heap.size w w' := by
  unfold recV
  have HB : Below w.heap.size w (w.alloc (.cells #[.int .i64 a, .int .i64 b, .int .i64 c] 23)) := (Below.refl _ w).alloc (Nat.le_refl _) _
  by_cases h1 : 1 ≤ a
  · by_cases h2 : a ≤ 1073741824
    · by_cases h3 : 0 ≤ b
      · by_cases h4 : b ≤ 1099511627775
        · by_cases h5 : 0 ≤ c
          · by_cases h6 : c ≤ 1048576
            · rw [decide_eq_true (show mayR a b c from ⟨h1, h2, h3, h4, h5, h6⟩)]
              go_enter Tryz.func21, Tryz.ntmps21
              go_wp2_with fail
              go_ret
              exact ⟨rfl, HB⟩
            · rw [decide_eq_false (show ¬ mayR a b c from fun h => h6 h.2.2.2.2.2)]
              go_enter Tryz.func21, Tryz.ntmps21
              go_wp2_with fail
              go_ret
              exact ⟨rfl, HB⟩
          · rw [decide_eq_false (show ¬ mayR a b c from fun h => h5 h.2.2.2.2.1)]
            go_enter Tryz.func21, Tryz.ntmps21
            go_wp2_with fail
            go_ret
            exact ⟨rfl, HB⟩
        · rw [decide_eq_false (show ¬ mayR a b c from fun h => h4 h.2.2.2.1)]
          go_enter Tryz.func21, Tryz.ntmps21
          go_wp2_with fail
          go_ret
          exact ⟨rfl, HB⟩
      · rw [decide_eq_false (show ¬ mayR a b c from fun h => h3 h.2.2.1)]
        go_enter Tryz.func21, Tryz.ntmps21
        go_wp2_with fail
        go_ret
        exact ⟨rfl, HB⟩
    · rw [decide_eq_false (show ¬ mayR a b c from fun h => h2 h.2.1)]
      go_enter Tryz.func21, Tryz.ntmps21
      go_wp2_with fail
      go_ret
      exact ⟨rfl, HB⟩
  · rw [decide_eq_false (show ¬ mayR a b c from fun h => h1 h.1)]
    go_enter Tryz.func21, Tryz.ntmps21
    go_wp2_with fail
    go_ret
    exact ⟨rfl, HB⟩
set_option maxRecDepth 100000 in
theorem lay_any (b o n x m : Nat) (l : List Nat) (t : TypeId) (w : World) (h : w.heap[b]? = some (.cells (bC l).toArray t (0, 0))) (hm : m = l.length) (hn : o + n ≤ m) (hm2 : m ≤ 1000) (hn8 : n ≤ 8) (hx : x < 4611686018427387904) :
    Calls Tryz.prog 22 #[.slice (some ⟨b, 0, none⟩) m m, .int .i64 (o : Int), .int .i64 (n : Int), .int .i64 (x : Int)] w fun e w' => e = .returned (.tuple #[]) ∧ w'.heap[b]? = some (.cells (bC (putAt l o (be n x))).toArray t (0, 0)) ∧ w.grownBy w' (some b) := by
  have hlt0 := blk_lt h
  have h0 : putAt l o ((be n x).take 0) = l := by unfold putAt; simp
  have HN := Lib.hid (And.intro hm (And.intro hn hm2))
  clear hn hm hm2
  go_enter Tryz.func22, Tryz.ntmps22
  go_wp2_with fail
  go_loopw [8] (fun i wr => ∃ (k : Nat), i = .int .i64 k ∧ k ≤ n ∧ wr.heap[b]? = some (.cells (bC (putAt l o ((be n x).take k))).toArray t (0, 0)) ∧ w.grownBy wr (some b)) (fun i _ => n - (intOf i).toNat)
  case atStart => exact ⟨0, rfl, by omega, by rw [h0]; exact h, but_refl _ _⟩
  case round =>
    obtain ⟨k, rfl, hk, hB, hg⟩ := hrel
    clear h0
    by_cases hlt : k < n
    · have i1 : (k : Int) < (n : Int) := by omega
      have i2 : (0 : Int) ≤ (k : Int) := by omega
      have hv := be_get (x := x) hlt
      have hst := putAt_step l (be n x) o k _ (by rw [be_len]; have := HN.out; omega) hv
      have HST := Lib.hid hst
      have hlen : (putAt l o ((be n x).take k)).length = l.length := putAt_len (by rw [List.length_take, be_len]; have := HN.out; omega)
      obtain ⟨y, hy⟩ : ∃ y, (putAt l o ((be n x).take k))[o + k]? = some y := ⟨_, List.getElem?_eq_getElem (by rw [hlen]; have := HN.out; omega)⟩
      have c0 : wr.cell? ⟨b, o + k, none⟩ = some (.int .u8 (y : Int)) := by rw [blk_cell hB, List.getElem?_toArray, bC_get, hy]; rfl
      have z0 := blk_free hB (o + k)
      clear hst hv hy hlen
      have e0 : (n : Int) - 1 - (k : Int) = ((n - 1 - k : Nat) : Int) := by omega
      have i3 : (o : Int) + (k : Int) < (m : Int) := by have := HN.out; omega
      have i4 : (0 : Int) ≤ (o : Int) + (k : Int) := by omega
      have i5 : ((o : Int) + (k : Int)).toNat = o + k := by omega
      have i6 : (o : Int) + (k : Int) ≤ 1000 := by have := HN.out; omega
      go_wp2_with fail
      go_roundw
      case rel =>
        have hval : ((x : Int) / 2 ^ (8 * (n - 1 - k)) % 256) = ((x / 256 ^ (n - 1 - k) % 256 : Nat) : Int) := by
          rw [show (256 : Nat) ^ (n - 1 - k) = 2 ^ (8 * (n - 1 - k)) from by rw [Nat.pow_mul]]; push_cast; rfl
        rw [hval]
        refine ⟨k + 1, by go_num, by omega, ?_, but_set hg hlt0 _ _⟩
        have := blk_store hB (o + k) (.int .u8 ((x / 256 ^ (n - 1 - k) % 256 : Nat) : Int))
        rw [this, List.setIfInBounds_toArray, bC_set, HST.out]
      case measure => simp [intOf]; omega
    · obtain rfl : k = n := by omega
      have i1 : ¬ (k : Int) < (k : Int) := by omega
      rw [List.take_of_length_le (by rw [be_len]; exact Nat.le_refl _)] at hB
      go_wp2_with fail
      go_end0
      exact ⟨rfl, hB, hg⟩
def valF : Nat → List Nat → Nat
  | x, [] => x
  | x, c :: l => valF (x * 256 + c) l
theorem valF_snoc : ∀ (l : List Nat) (x c : Nat), valF x (l ++ [c]) = valF x l * 256 + c
  | [], x, c => rfl
  | d :: l, x, c => valF_snoc l (x * 256 + d) c
theorem valF_lt : ∀ (l : List Nat) (x n : Nat), (∀ c ∈ l, c < 256) → x < n → valF x l < n * 256 ^ l.length
  | [], x, n, _, h => by simpa [valF] using h
  | c :: l, x, n, hc, h => by
    have h1 := valF_lt l (x * 256 + c) (n * 256) (fun d hd => hc d (by simp [hd])) (by have := hc c (by simp); omega)
    show valF (x * 256 + c) l < _
    rw [List.length_cons, Nat.pow_succ, Nat.mul_comm (256 ^ l.length) 256, ← Nat.mul_assoc]; exact h1
theorem valF_take {l : List Nat} {k c : Nat} (h : l[k]? = some c) : valF 0 (l.take (k + 1)) = valF 0 (l.take k) * 256 + c := by
  rw [List.take_add_one, h]; exact valF_snoc _ _ _
theorem valF_be : ∀ (n x y : Nat), valF x (be n y) = x * 256 ^ n + y % 256 ^ n
  | 0, x, y => by show x = _; simp [Nat.mod_one]
  | n + 1, x, y => by
    have hpe : 256 ^ (n + 1) = 256 ^ n * 256 := Nat.pow_succ 256 n
    have hm : y % 256 ^ (n + 1) = 256 ^ n * (y / 256 ^ n % 256) + y % 256 ^ n := by rw [hpe, Nat.mod_mul]; omega
    rw [be_succ]
    show valF (x * 256 + y / 256 ^ n % 256) (be n y) = _
    rw [valF_be n, hm, hpe, Nat.add_mul, Nat.mul_assoc, Nat.mul_comm 256 (256 ^ n), Nat.mul_comm (y / 256 ^ n % 256) (256 ^ n)]; omega
set_option maxRecDepth 100000 in
theorem value_any (g q o n m cap : Nat) (l : List Nat) (w : World) (hl : l.length = m) (hn : o + n ≤ m) (hm2 : m ≤ 1000) (hlt : ∀ c ∈ l, c < 256) (hb : ∀ k, k ≤ n → valF 0 (((l.drop o).take n).take k) < 72057594037927936) (hc : CellsAt w ⟨g, q, none⟩ l) :
    Calls Tryz.prog 24 #[.slice (some ⟨g, q, none⟩) m cap, .int .i64 (o : Int), .int .i64 (n : Int)] w fun e w' => e = .returned (.int .i64 (valF 0 ((l.drop o).take n) : Nat)) ∧ Below w.heap.size w w' := by
  have HC := Lib.hid hc
  have HL := Lib.hid (And.intro hl (And.intro hn hm2))
  have HB := Lib.hid hb
  have HLT := Lib.hid hlt
  clear hc hb hl hn hm2 hlt
  go_enter Tryz.func24, Tryz.ntmps24
  go_wp2_with fail
  go_loopw [7, 8] (fun xv i wr => ∃ (k x : Nat), i = .int .i64 k ∧ k ≤ n ∧ xv = .int .i64 (x : Int) ∧ Hid (x = valF 0 (((l.drop o).take n).take k)) ∧ Below w.heap.size w wr) (fun _ i _ => n - (intOf i).toNat)
  case atStart => exact ⟨0, 0, rfl, by omega, rfl, rfl, Below.refl _ _⟩
  case round =>
    obtain ⟨k, x, rfl, hk, rfl, hx, hbl⟩ := hrel
    by_cases hlt : k < n
    · obtain ⟨c, hcx⟩ : ∃ c, l[o + k]? = some c := ⟨_, List.getElem?_eq_getElem (by have := HL.out; omega)⟩
      obtain ⟨p, hp1, hp⟩ := HC.out (o + k) c hcx
      cases hp1
      have hp := (hbl.cell (cell_lt hp)).trans hp
      rw [Addr.add_mid] at hp
      have hc2 := HLT.out c (List.mem_of_getElem? hcx)
      have hcy : ((l.drop o).take n)[k]? = some c := by rw [List.getElem?_take_of_lt hlt, List.getElem?_drop]; exact hcx
      have hs := valF_take hcy
      have hb1 := HB.out (k + 1) (by omega)
      rw [hs, ← hx.out] at hb1
      have HS := Lib.hid hs
      have i1 : (k : Int) < (n : Int) := by omega
      have i2 : (0 : Int) ≤ (o : Int) + (k : Int) := by omega
      have i3 : (o : Int) + (k : Int) < (m : Int) := by have := HL.out; omega
      have i5 : ((o : Int) + (k : Int)).toNat = o + k := by omega
      have i6 : (o : Int) + (k : Int) ≤ 1000 := by have := HL.out; omega
      have j2 : (x : Int) * 256 + (c : Int) < 72057594037927936 := by omega
      have j3 : (x : Int) * 256 < 72057594037927936 := by omega
      have j4 : (0 : Int) ≤ (x : Int) * 256 := by omega
      clear hcx hs hb1 hcy
      go_wp2_with fail
      go_roundw
      case rel => exact ⟨k + 1, x * 256 + c, by go_num, by omega, by go_num, by show _ = _; rw [HS.out, hx.out], hbl⟩
      case measure => simp [intOf]; omega
    · obtain rfl : k = n := by omega
      have i1 : ¬ (k : Int) < (k : Int) := by omega
      go_wp2_with fail
      go_ret
      refine ⟨?_, hbl⟩
      rw [hx.out, List.take_of_length_le (by rw [List.length_take]; omega)]; rfl
end Go.Proofs.YthkppkecclnlnaaGreat
