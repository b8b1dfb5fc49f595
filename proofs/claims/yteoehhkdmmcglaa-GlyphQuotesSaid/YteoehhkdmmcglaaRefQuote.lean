/- Walks: earshotref1.unseen, earshotref1.Quoted, earshotref1.Quote. -/
import Derived.Test.YteoehhkdmmcglaaGlyphQuote
import Derived.Test.YteoehhkdmmcglaaRefMend
import Derived.Test.YteoehhkdmmcglaaEarly
namespace Go.Proofs.Yteoehhkdmmcglaa
set_option linter.unusedVariables false
set_option linter.unusedSimpArgs false
open Go.RowKit

set_option maxHeartbeats 400000 in
theorem unseen_any (r : Int) (w : World) :
    Calls Try.prog 62 #[.int .i64 r] w fun e w' => e = .returned (.bool (hiddenB r)) ∧ w = w' := by
  go_enter Try.func62, Try.ntmps62
  go_wp2
  all_goals go_light
  all_goals (go_ret; refine ⟨ret_bool ?_, rfl⟩)
  all_goals (
    try simp only [beq_iff_eq, beq_eq_false_iff_ne, ne_eq] at *
    unfold hiddenB
    rw [Bool.eq_iff_iff]
    simp only [beq_iff_eq, decide_eq_true_eq, Bool.or_eq_true, Bool.false_eq_true, iff_true, true_iff, iff_false, false_iff]
    omega)

theorem ownsRow_block {w : World} {B g : Nat} {e : TypeId} {xs : List Value} (h : w.heap[g]? = some (.cells xs.toArray e (0, 0))) (hB : B ≤ g) (hx : xs.length ≤ maxLen) : w.ownsRow B e 1 (.slice (some ⟨g, 0, none⟩) xs.length xs.length) xs.length xs :=
  ⟨by simp, .inr ⟨g, xs.length, xs.toArray, rfl, hB, h, Nat.le_refl _, hx, by simp, by simp⟩⟩

theorem hexF_stable {q : Nat} (h1 : q < 16 ^ 6) (h2 : q < 16 ^ 6) : hexF 7 q = hexF 8 q := by
  have key : ∀ f g q, q < 16 ^ f → q < 16 ^ g → hexF f q = hexF g q := by
    intro f
    induction f with
    | zero => intro g q h1 h2; have : q = 0 := by simpa using h1
              subst this; rw [hexF_zero, hexF_zero]
    | succ f ih =>
      intro g q h1 h2
      by_cases h : 0 < q
      · cases g with
        | zero => simp at h2; omega
        | succ g =>
          rw [hexF_succ f h, hexF_succ g h, ih g (q / 16) (by rw [Nat.pow_succ] at h1; omega) (by rw [Nat.pow_succ] at h2; omega)]
      · rw [show q = 0 from by omega, hexF_zero, hexF_zero]
  exact key 7 8 q (Nat.lt_of_lt_of_le h1 (by decide)) (Nat.lt_of_lt_of_le h1 (by decide))

theorem i64_and15 (q : Nat) (h : q < 2147483648) : bits .and .i64 (q : Int) 15 = ((q % 16 : Nat) : Int) := by
  have := bits_mask .i64 31 (by decide) (fun n h0 h1 => IntWalk.i64_in _ (by omega)) 4 (by decide) (q : Int) (by omega) (by omega)
  simpa using this

/-- The quotients of a rune by the powers of sixteen. -/
theorem quots (r : Nat) (h : r < 16 ^ 6) : ∃ qq : Nat → Nat, qq 6 = 0 ∧ qq 0 = r ∧ (∀ j, qq j < 16 ^ 6) ∧
    ∀ j, ∃ d, d < 16 ∧ qq j = 16 * qq (j + 1) + d ∧ bits .and .i64 ((r : Int) / 2 ^ (4 * j)) 15 = (d : Int) := by
  refine ⟨fun j => r / 16 ^ j, Nat.div_eq_of_lt h, by simp, fun j => Nat.lt_of_le_of_lt (Nat.div_le_self _ _) h, fun j => ⟨r / 16 ^ j % 16, Nat.mod_lt _ (by decide), ?_, ?_⟩⟩
  · show r / 16 ^ j = 16 * (r / 16 ^ (j + 1)) + r / 16 ^ j % 16
    rw [Nat.pow_succ, ← Nat.div_div_eq_div_mul]; omega
  · have e : (r : Int) / 2 ^ (4 * j) = ((r / 16 ^ j : Nat) : Int) := by
      have e2 : ((2 : Int) ^ (4 * j)) = ((16 ^ j : Nat) : Int) := by
        rw [show (16 : Nat) = 2 ^ 4 from rfl, ← Nat.pow_mul]; simp
      rw [e2]; simp
    rw [e]
    exact i64_and15 _ (Nat.lt_of_le_of_lt (Nat.div_le_self _ _) (by omega))

theorem hex_get (d : Nat) (h : d < 16) : ∀ h2, ((⟨#[48, 49, 50, 51, 52, 53, 54, 55, 56, 57, 97, 98, 99, 100, 101, 102]⟩ : ByteArray)[d]'h2).toNat = (hexd d).toNat := by
  have : ∀ d : Fin 16, ((⟨#[48, 49, 50, 51, 52, 53, 54, 55, 56, 57, 97, 98, 99, 100, 101, 102]⟩ : ByteArray).get! d.val).toNat = (hexd d.val).toNat := by decide
  intro h2
  rw [← get_at _ d h2]
  exact this ⟨d, h⟩

theorem plain_of_rn {s : ByteArray} {p : Nat} (h : rn s p ≠ 65533) : lo s p = false := by
  cases hl : lo s p with
  | false => rfl
  | true => exact absurd ((lo_iff s p).1 hl).1 h


set_option maxRecDepth 100000 in
set_option maxHeartbeats 4000000 in
theorem quoted_any (s : ByteArray) (hs : s.size ≤ 4398046511103) (w : World) :
    Calls Try.prog 50 #[.string s] w fun e w' => e = .returned (.string ⟨(34 :: (quoteL s (st s 0) ++ [34])).toArray⟩) ∧ Below w.heap.size w w' := by
  have HA : Hid (∀ i, i < s.size → ∀ w, Calls Try.prog 38 #[.string s, .int .i64 i] w fun e w' => e = .returned (.tuple #[.int .i64 (rn s i), .int .i64 (wd s i), .bool (lo s i)]) ∧ ∃ n, w' = w.drewN n) :=
    Lib.hid (fun i hi w => refAt_any s i hi (by omega) w)
  obtain ⟨i0, hi, hz0, hz1, hz2⟩ := info_parts Try.infoByte
  have e34 : ∀ {r k : Nat} {c : Bool}, decide (r = k) = c → ((r : Int) == (k : Int)) = c := by
    intro r k c h; rw [← h, Bool.eq_iff_iff]; simp; omega
  have h0 : (w.alloc (.cells #[.int .u8 34] 5)).ownsRow w.heap.size 5 1 (.slice (some ⟨w.heap.size, 0, none⟩) 1 1) 1 (Lib.byteCells [34]) := ownsRow_block (xs := Lib.byteCells [34]) (blk_new w _) (Nat.le_refl _) (by decide)
  go_enter Try.func50, Try.ntmps50
  go_wp2_with fail
  go_loopw [3, 4] (fun v i wr => ∃ (pos : Nat) (pre : List Nat), i = .int .i64 pos ∧ wr.ownsRow w.heap.size 5 1 v ((quoteL s pre).length + 1) (Lib.byteCells (34 :: quoteL s pre)) ∧ Hid (st s 0 = pre ++ st s pos) ∧ Below w.heap.size w wr ∧ (quoteL s pre).length ≤ 16 * pos ∧ pos ≤ s.size) (fun _ i _ => s.size - (intOf i).toNat)
  case atStart => exact ⟨0, [], rfl, h0, rfl, (Below.refl _ _).alloc (Nat.le_refl _) _, by simp [quoteL], by omega⟩
  case round =>
    obtain ⟨pos, pre, rfl, hown, hpre, hbl, hal, hle⟩ := hrel
    clear h0
    by_cases hp : pos < s.size
    · have hw := wd_bd s pos hp
      have hr := rn_bd s pos
      have hql := qb_len s pos hp
      have hsl : quoteL s (pre ++ [pos]) = quoteL s pre ++ qb s pos := by simp [quoteL]
      have hsn : (quoteL s (pre ++ [pos])).length + 1 = (quoteL s pre).length + 1 + (qb s pos).length := by rw [hsl, List.length_append]; omega
      have H := Lib.hid (HA.out pos hp)
      go_wp2_with fail
      refine (H.out _).mono ?_
      rintro e w1 ⟨rfl, nq, rfl⟩
      have hownW := ownsRow_drewN hown nq
      have hblW := below_drewN hbl nq
      generalize wr.drewN nq = W at hownW hblW ⊢
      clear hown hbl H HA
      have hqb : qb s pos = pc (rn s pos) (lo s pos) (bt s pos) (bl s pos) := rfl
      by_cases c1 : rn s pos = 34
      · have q1 : ((rn s pos : Int) == 34) = true := e34 (by simpa using c1)
        have q : qb s pos = [92, 34] := by rw [hqb, bl_enc s pos hp (plain_of_rn (by omega)), c1, pc, if_pos (.inl rfl)]; rfl
        go_wp2_with (first
          | (at_builtin; refine wpList_append_own _ rfl _ _ 57 rfl w.heap.size 5 i0 (.int .u8 0) 1 1 Try.underlying57 hi hz0 hz1 hz2 rfl (by decide) _ _ _ rfl (hownW.alloc _) ⟨W.heap.size, 0, none⟩ 2 2 (Lib.byteCells [92, 34]) rfl rfl (cells_new W (Lib.byteCells [92, 34]) _) (byteCells_one _) (by unfold maxLen; omega) (by omega) (by have := hblW.size; simp; omega) ?_; intro v' w4 hown4 hg4 _)
          | fail)
        have hbl1 : Below w.heap.size w w4 := (hblW.alloc (o := _) hblW.size).grown hg4 (by have := hblW.size; simp; omega) (fun j hj => (hownW.lt _ hj).1)
        have hfin : w4.ownsRow w.heap.size 5 1 v' ((quoteL s (pre ++ [pos])).length + 1) (Lib.byteCells (34 :: quoteL s (pre ++ [pos]))) := by
          rw [hsn, hsl, q, ← List.cons_append, byteCells_app]; exact hown4
        clear hownW hg4 hblW hown4
        go_roundw
        case rel => exact ⟨pos + wd s pos, pre ++ [pos], by go_num, hfin, by show _ = _; rw [hpre.out, st_cons hp]; simp, hbl1, by rw [hsl, List.length_append]; omega, by omega⟩
        case measure => simp [intOf]; omega
      have q34 : ((rn s pos : Int) == 34) = false := e34 (by simpa using c1)
      by_cases c2 : rn s pos = 92
      · have q1 : ((rn s pos : Int) == 92) = true := e34 (by simpa using c2)
        have q : qb s pos = [92, 92] := by rw [hqb, bl_enc s pos hp (plain_of_rn (by omega)), c2, pc, if_pos (.inr rfl)]; rfl
        go_wp2_with (first
          | (at_builtin; refine wpList_append_own _ rfl _ _ 57 rfl w.heap.size 5 i0 (.int .u8 0) 1 1 Try.underlying57 hi hz0 hz1 hz2 rfl (by decide) _ _ _ rfl (hownW.alloc _) ⟨W.heap.size, 0, none⟩ 2 2 (Lib.byteCells [92, 92]) rfl rfl (cells_new W (Lib.byteCells [92, 92]) _) (byteCells_one _) (by unfold maxLen; omega) (by omega) (by have := hblW.size; simp; omega) ?_; intro v' w4 hown4 hg4 _)
          | fail)
        have hbl1 : Below w.heap.size w w4 := (hblW.alloc (o := _) hblW.size).grown hg4 (by have := hblW.size; simp; omega) (fun j hj => (hownW.lt _ hj).1)
        have hfin : w4.ownsRow w.heap.size 5 1 v' ((quoteL s (pre ++ [pos])).length + 1) (Lib.byteCells (34 :: quoteL s (pre ++ [pos]))) := by
          rw [hsn, hsl, q, ← List.cons_append, byteCells_app]; exact hown4
        clear hownW hg4 hblW hown4
        go_roundw
        case rel => exact ⟨pos + wd s pos, pre ++ [pos], by go_num, hfin, by show _ = _; rw [hpre.out, st_cons hp]; simp, hbl1, by rw [hsl, List.length_append]; omega, by omega⟩
        case measure => simp [intOf]; omega
      have q92 : ((rn s pos : Int) == 92) = false := e34 (by simpa using c2)
      by_cases c3 : rn s pos = 10
      · have q1 : ((rn s pos : Int) == 10) = true := e34 (by simpa using c3)
        have q : qb s pos = [92, 110] := by rw [hqb, pc]; simp [c3]
        go_wp2_with (first
          | (at_builtin; refine wpList_append_own _ rfl _ _ 57 rfl w.heap.size 5 i0 (.int .u8 0) 1 1 Try.underlying57 hi hz0 hz1 hz2 rfl (by decide) _ _ _ rfl (hownW.alloc _) ⟨W.heap.size, 0, none⟩ 2 2 (Lib.byteCells [92, 110]) rfl rfl (cells_new W (Lib.byteCells [92, 110]) _) (byteCells_one _) (by unfold maxLen; omega) (by omega) (by have := hblW.size; simp; omega) ?_; intro v' w4 hown4 hg4 _)
          | fail)
        have hbl1 : Below w.heap.size w w4 := (hblW.alloc (o := _) hblW.size).grown hg4 (by have := hblW.size; simp; omega) (fun j hj => (hownW.lt _ hj).1)
        have hfin : w4.ownsRow w.heap.size 5 1 v' ((quoteL s (pre ++ [pos])).length + 1) (Lib.byteCells (34 :: quoteL s (pre ++ [pos]))) := by
          rw [hsn, hsl, q, ← List.cons_append, byteCells_app]; exact hown4
        clear hownW hg4 hblW hown4
        go_roundw
        case rel => exact ⟨pos + wd s pos, pre ++ [pos], by go_num, hfin, by show _ = _; rw [hpre.out, st_cons hp]; simp, hbl1, by rw [hsl, List.length_append]; omega, by omega⟩
        case measure => simp [intOf]; omega
      have q10 : ((rn s pos : Int) == 10) = false := e34 (by simpa using c3)
      by_cases c4 : rn s pos = 9
      · have q1 : ((rn s pos : Int) == 9) = true := e34 (by simpa using c4)
        have q : qb s pos = [92, 116] := by rw [hqb, pc]; simp [c4]
        go_wp2_with (first
          | (at_builtin; refine wpList_append_own _ rfl _ _ 57 rfl w.heap.size 5 i0 (.int .u8 0) 1 1 Try.underlying57 hi hz0 hz1 hz2 rfl (by decide) _ _ _ rfl (hownW.alloc _) ⟨W.heap.size, 0, none⟩ 2 2 (Lib.byteCells [92, 116]) rfl rfl (cells_new W (Lib.byteCells [92, 116]) _) (byteCells_one _) (by unfold maxLen; omega) (by omega) (by have := hblW.size; simp; omega) ?_; intro v' w4 hown4 hg4 _)
          | fail)
        have hbl1 : Below w.heap.size w w4 := (hblW.alloc (o := _) hblW.size).grown hg4 (by have := hblW.size; simp; omega) (fun j hj => (hownW.lt _ hj).1)
        have hfin : w4.ownsRow w.heap.size 5 1 v' ((quoteL s (pre ++ [pos])).length + 1) (Lib.byteCells (34 :: quoteL s (pre ++ [pos]))) := by
          rw [hsn, hsl, q, ← List.cons_append, byteCells_app]; exact hown4
        clear hownW hg4 hblW hown4
        go_roundw
        case rel => exact ⟨pos + wd s pos, pre ++ [pos], by go_num, hfin, by show _ = _; rw [hpre.out, st_cons hp]; simp, hbl1, by rw [hsl, List.length_append]; omega, by omega⟩
        case measure => simp [intOf]; omega
      have q9 : ((rn s pos : Int) == 9) = false := e34 (by simpa using c4)
      by_cases c5 : rn s pos = 13
      · have q1 : ((rn s pos : Int) == 13) = true := e34 (by simpa using c5)
        have q : qb s pos = [92, 114] := by rw [hqb, pc]; simp [c5]
        go_wp2_with (first
          | (at_builtin; refine wpList_append_own _ rfl _ _ 57 rfl w.heap.size 5 i0 (.int .u8 0) 1 1 Try.underlying57 hi hz0 hz1 hz2 rfl (by decide) _ _ _ rfl (hownW.alloc _) ⟨W.heap.size, 0, none⟩ 2 2 (Lib.byteCells [92, 114]) rfl rfl (cells_new W (Lib.byteCells [92, 114]) _) (byteCells_one _) (by unfold maxLen; omega) (by omega) (by have := hblW.size; simp; omega) ?_; intro v' w4 hown4 hg4 _)
          | fail)
        have hbl1 : Below w.heap.size w w4 := (hblW.alloc (o := _) hblW.size).grown hg4 (by have := hblW.size; simp; omega) (fun j hj => (hownW.lt _ hj).1)
        have hfin : w4.ownsRow w.heap.size 5 1 v' ((quoteL s (pre ++ [pos])).length + 1) (Lib.byteCells (34 :: quoteL s (pre ++ [pos]))) := by
          rw [hsn, hsl, q, ← List.cons_append, byteCells_app]; exact hown4
        clear hownW hg4 hblW hown4
        go_roundw
        case rel => exact ⟨pos + wd s pos, pre ++ [pos], by go_num, hfin, by show _ = _; rw [hpre.out, st_cons hp]; simp, hbl1, by rw [hsl, List.length_append]; omega, by omega⟩
        case measure => simp [intOf]; omega
      have q13 : ((rn s pos : Int) == 13) = false := e34 (by simpa using c5)
      by_cases c6 : lo s pos = true ∨ rn s pos < 32 ∨ rn s pos = 127
      · have q : qb s pos = [92, 120, hexd (bt s pos / 16), hexd (bt s pos % 16)] := by rw [hqb, pc, if_neg (by omega), if_neg c3, if_neg c4, if_neg c5, if_pos c6]
        have hcs : lo s pos = true ∨ (lo s pos = false ∧ rn s pos < 32) ∨ (lo s pos = false ∧ ¬ rn s pos < 32 ∧ rn s pos = 127) := by
          cases h : lo s pos
          · simp [h] at c6; simp; omega
          · simp
        clear c6
        have b256 := bt_lt s pos
        have hbg := bt_get s pos hp
        obtain ⟨d1, hd1, d1lt⟩ : ∃ d, bt s pos / 16 = d ∧ d < 16 := ⟨_, rfl, by omega⟩
        obtain ⟨d2, hd2, d2lt⟩ : ∃ d, bt s pos % 16 = d ∧ d < 16 := ⟨_, rfl, by omega⟩
        have x1 : (bt s pos : Int) / 16 = (d1 : Int) := by omega
        have x2 : (bt s pos : Int).tmod 16 = (d2 : Int) := by rw [Int.tmod_eq_emod_of_nonneg (by omega)]; omega
        have x3 : IntKind.u8.wrap (d1 : Int) = (d1 : Int) := by rw [IntKind.wrap_u8]; omega
        have x4 : IntKind.u8.wrap (d2 : Int) = (d2 : Int) := by rw [IntKind.wrap_u8]; omega
        have x5 : (d1 : Int).toNat = d1 := Int.toNat_natCast _
        have x6 : (d2 : Int).toNat = d2 := Int.toNat_natCast _
        have g1 := hex_get d1 d1lt
        have g2 := hex_get d2 d2lt
        rw [hd1, hd2] at q
        have t1 : (d1 : Int) < 16 := by omega
        have t2 : (d2 : Int) < 16 := by omega
        have u1 : (0 : Int) ≤ (d1 : Int) := by omega
        have u2 : (0 : Int) ≤ (d2 : Int) := by omega
        have v1 : (pos : Int) < (s.size : Int) := by omega
        have v2 : (0 : Int) ≤ (pos : Int) := by omega
        rcases hcs with hl | ⟨hl, c6⟩ | ⟨hl, c6, c7⟩
        · rw [hl]
          go_wp2_with fail
          refine wp_region_early (fun _ => True) (fun j => j == 12 || j == 13) (by kernel_rfl) ?_
          have hSS : True := trivial
          simp only [List.size_toArray, List.length_cons, List.length_nil, Nat.reduceAdd, Array.replicate_succ, Array.replicate_zero, List.push_toArray, List.nil_append, List.cons_append]
          refine wpAnyE_take (i := 0) (v := ?_) rfl (by kernel_rfl) (by kernel_rfl) (by kernel_rfl) (by kernel_rfl) (fun _ _ _ h => h) (Or.inl ⟨by rfl, ?_⟩) hSS ?_
          rotate_left
          · intro w hSw
            (try have kc0 := hSw.1.cell); (try have kc1 := hSw.2.cell)
            go_simp
            all_goals with_reducible rfl
          simp only [Act.put, List.setIfInBounds_toArray, List.set_cons_zero, List.set_cons_succ, List.getElem_toArray, List.getElem_cons_zero, List.getElem_cons_succ]
          refine wpAnyE_take (i := 1) (v := ?_) rfl (by kernel_rfl) (by kernel_rfl) (by kernel_rfl) (by kernel_rfl) (fun _ _ _ h => h) (Or.inl ⟨by rfl, ?_⟩) hSS ?_
          rotate_left
          · intro w hSw
            (try have kc0 := hSw.1.cell); (try have kc1 := hSw.2.cell)
            go_simp
            all_goals with_reducible rfl
          simp only [Act.put, List.setIfInBounds_toArray, List.set_cons_zero, List.set_cons_succ, List.getElem_toArray, List.getElem_cons_zero, List.getElem_cons_succ]
          refine wpAnyE_take (i := 2) (v := ?_) rfl (by kernel_rfl) (by kernel_rfl) (by kernel_rfl) (by kernel_rfl) (fun _ _ _ h => h) (Or.inl ⟨by rfl, ?_⟩) hSS ?_
          rotate_left
          · intro w hSw
            (try have kc0 := hSw.1.cell); (try have kc1 := hSw.2.cell)
            go_simp
            all_goals with_reducible rfl
          simp only [Act.put, List.setIfInBounds_toArray, List.set_cons_zero, List.set_cons_succ, List.getElem_toArray, List.getElem_cons_zero, List.getElem_cons_succ]
          refine wpAnyE_take (i := 3) (v := ?_) rfl (by kernel_rfl) (by kernel_rfl) (by kernel_rfl) (by kernel_rfl) (fun _ _ _ h => h) (Or.inl ⟨by rfl, ?_⟩) hSS ?_
          rotate_left
          · intro w hSw
            (try have kc0 := hSw.1.cell); (try have kc1 := hSw.2.cell)
            go_simp
            all_goals with_reducible rfl
          simp only [Act.put, List.setIfInBounds_toArray, List.set_cons_zero, List.set_cons_succ, List.getElem_toArray, List.getElem_cons_zero, List.getElem_cons_succ]
          refine wpAnyE_take (i := 4) (v := ?_) rfl (by kernel_rfl) (by kernel_rfl) (by kernel_rfl) (by kernel_rfl) (fun _ _ _ h => h) (Or.inl ⟨by rfl, ?_⟩) hSS ?_
          rotate_left
          · intro w hSw
            (try have kc0 := hSw.1.cell); (try have kc1 := hSw.2.cell)
            go_simp
            all_goals with_reducible rfl
          simp only [Act.put, List.setIfInBounds_toArray, List.set_cons_zero, List.set_cons_succ, List.getElem_toArray, List.getElem_cons_zero, List.getElem_cons_succ]
          refine wpAnyE_take (i := 5) (v := ?_) rfl (by kernel_rfl) (by kernel_rfl) (by kernel_rfl) (by kernel_rfl) (fun _ _ _ h => h) (Or.inl ⟨by rfl, ?_⟩) hSS ?_
          rotate_left
          · intro w hSw
            (try have kc0 := hSw.1.cell); (try have kc1 := hSw.2.cell)
            go_simp
            all_goals with_reducible rfl
          simp only [Act.put, List.setIfInBounds_toArray, List.set_cons_zero, List.set_cons_succ, List.getElem_toArray, List.getElem_cons_zero, List.getElem_cons_succ]
          refine wpAnyE_take (i := 6) (v := ?_) rfl (by kernel_rfl) (by kernel_rfl) (by kernel_rfl) (by kernel_rfl) (fun _ _ _ h => h) (Or.inl ⟨by rfl, ?_⟩) hSS ?_
          rotate_left
          · intro w hSw
            (try have kc0 := hSw.1.cell); (try have kc1 := hSw.2.cell)
            go_simp
            all_goals with_reducible rfl
          simp only [Act.put, List.setIfInBounds_toArray, List.set_cons_zero, List.set_cons_succ, List.getElem_toArray, List.getElem_cons_zero, List.getElem_cons_succ]
          refine wpAnyE_take (i := 7) (v := ?_) rfl (by kernel_rfl) (by kernel_rfl) (by kernel_rfl) (by kernel_rfl) (fun _ _ _ h => h) (Or.inl ⟨by rfl, ?_⟩) hSS ?_
          rotate_left
          · intro w hSw
            (try have kc0 := hSw.1.cell); (try have kc1 := hSw.2.cell)
            go_simp
            all_goals with_reducible rfl
          simp only [Act.put, List.setIfInBounds_toArray, List.set_cons_zero, List.set_cons_succ, List.getElem_toArray, List.getElem_cons_zero, List.getElem_cons_succ]
          refine wpAnyE_take (i := 8) (v := ?_) rfl (by kernel_rfl) (by kernel_rfl) (by kernel_rfl) (by kernel_rfl) (fun _ _ _ h => h) (Or.inl ⟨by rfl, ?_⟩) hSS ?_
          rotate_left
          · intro w hSw
            (try have kc0 := hSw.1.cell); (try have kc1 := hSw.2.cell)
            go_simp
            all_goals with_reducible rfl
          simp only [Act.put, List.setIfInBounds_toArray, List.set_cons_zero, List.set_cons_succ, List.getElem_toArray, List.getElem_cons_zero, List.getElem_cons_succ]
          refine wpAnyE_take (i := 9) (v := ?_) rfl (by kernel_rfl) (by kernel_rfl) (by kernel_rfl) (by kernel_rfl) (fun _ _ _ h => h) (Or.inl ⟨by rfl, ?_⟩) hSS ?_
          rotate_left
          · intro w hSw
            (try have kc0 := hSw.1.cell); (try have kc1 := hSw.2.cell)
            go_simp
            all_goals with_reducible rfl
          simp only [Act.put, List.setIfInBounds_toArray, List.set_cons_zero, List.set_cons_succ, List.getElem_toArray, List.getElem_cons_zero, List.getElem_cons_succ]
          refine wpAnyE_take (i := 10) (v := ?_) rfl (by kernel_rfl) (by kernel_rfl) (by kernel_rfl) (by kernel_rfl) (fun _ _ _ h => h) (Or.inl ⟨by rfl, ?_⟩) hSS ?_
          rotate_left
          · intro w hSw
            (try have kc0 := hSw.1.cell); (try have kc1 := hSw.2.cell)
            go_simp
            all_goals with_reducible rfl
          simp only [Act.put, List.setIfInBounds_toArray, List.set_cons_zero, List.set_cons_succ, List.getElem_toArray, List.getElem_cons_zero, List.getElem_cons_succ]
          refine wpAnyE_tail 11 rfl (by kernel_rfl) ?_
          simp only [List.drop_succ_cons, List.drop_zero]
          change wpList _ _ (Exit.then _ _) [_] _ _
          go_wp2
          refine ⟨fun _ => trivial, wpListE_late _ _ _ _ (fun j hj => by rcases j with _ | _ | j <;> first | rfl | exact absurd hj (by simp only [List.length_cons, List.length_nil]; omega)) ?_⟩
          at_builtin
          refine wpList_append_own _ rfl _ _ 57 rfl w.heap.size 5 i0 (.int .u8 0) 1 1 Try.underlying57 hi hz0 hz1 hz2 rfl (by decide) _ _ _ rfl (hownW.alloc _) ⟨W.heap.size, 0, none⟩ 4 4 (Lib.byteCells [92, 120, hexd d1, hexd d2]) rfl rfl (cells_new W (Lib.byteCells [92, 120, hexd d1, hexd d2]) _) (byteCells_one _) (by unfold maxLen; omega) (by omega) (by have := hblW.size; simp; omega) ?_
          intro v' w4 hown4 hg4 _
          have hbl1 : Below w.heap.size w w4 := ((hblW.alloc (o := _) hblW.size).drew).grown hg4 (by have := hblW.size; simp; omega) (fun j hj => (hownW.lt _ hj).1)
          have hfin : w4.ownsRow w.heap.size 5 1 v' ((quoteL s (pre ++ [pos])).length + 1) (Lib.byteCells (34 :: quoteL s (pre ++ [pos]))) := by
            rw [hsn, hsl, q, ← List.cons_append, byteCells_app]; exact hown4
          clear hownW hg4 hblW hown4 x1 x2 x3 x4 x5 x6 g1 g2 t1 t2 u1 u2 v1 v2
          go_wp2
          go_roundw
          case rel => exact ⟨pos + wd s pos, pre ++ [pos], by go_num, hfin, by show _ = _; rw [hpre.out, st_cons hp]; simp, hbl1, by rw [hsl, List.length_append]; omega, by omega⟩
          case measure => simp [intOf]; omega
        · have i1 : (rn s pos : Int) < 32 := by omega
          rw [hl]
          go_wp2_with fail
          refine wp_region_early (fun _ => True) (fun j => j == 12 || j == 13) (by kernel_rfl) ?_
          have hSS : True := trivial
          simp only [List.size_toArray, List.length_cons, List.length_nil, Nat.reduceAdd, Array.replicate_succ, Array.replicate_zero, List.push_toArray, List.nil_append, List.cons_append]
          refine wpAnyE_take (i := 0) (v := ?_) rfl (by kernel_rfl) (by kernel_rfl) (by kernel_rfl) (by kernel_rfl) (fun _ _ _ h => h) (Or.inl ⟨by rfl, ?_⟩) hSS ?_
          rotate_left
          · intro w hSw
            (try have kc0 := hSw.1.cell); (try have kc1 := hSw.2.cell)
            go_simp
            all_goals with_reducible rfl
          simp only [Act.put, List.setIfInBounds_toArray, List.set_cons_zero, List.set_cons_succ, List.getElem_toArray, List.getElem_cons_zero, List.getElem_cons_succ]
          refine wpAnyE_take (i := 1) (v := ?_) rfl (by kernel_rfl) (by kernel_rfl) (by kernel_rfl) (by kernel_rfl) (fun _ _ _ h => h) (Or.inl ⟨by rfl, ?_⟩) hSS ?_
          rotate_left
          · intro w hSw
            (try have kc0 := hSw.1.cell); (try have kc1 := hSw.2.cell)
            go_simp
            all_goals with_reducible rfl
          simp only [Act.put, List.setIfInBounds_toArray, List.set_cons_zero, List.set_cons_succ, List.getElem_toArray, List.getElem_cons_zero, List.getElem_cons_succ]
          refine wpAnyE_take (i := 2) (v := ?_) rfl (by kernel_rfl) (by kernel_rfl) (by kernel_rfl) (by kernel_rfl) (fun _ _ _ h => h) (Or.inl ⟨by rfl, ?_⟩) hSS ?_
          rotate_left
          · intro w hSw
            (try have kc0 := hSw.1.cell); (try have kc1 := hSw.2.cell)
            go_simp
            all_goals with_reducible rfl
          simp only [Act.put, List.setIfInBounds_toArray, List.set_cons_zero, List.set_cons_succ, List.getElem_toArray, List.getElem_cons_zero, List.getElem_cons_succ]
          refine wpAnyE_take (i := 3) (v := ?_) rfl (by kernel_rfl) (by kernel_rfl) (by kernel_rfl) (by kernel_rfl) (fun _ _ _ h => h) (Or.inl ⟨by rfl, ?_⟩) hSS ?_
          rotate_left
          · intro w hSw
            (try have kc0 := hSw.1.cell); (try have kc1 := hSw.2.cell)
            go_simp
            all_goals with_reducible rfl
          simp only [Act.put, List.setIfInBounds_toArray, List.set_cons_zero, List.set_cons_succ, List.getElem_toArray, List.getElem_cons_zero, List.getElem_cons_succ]
          refine wpAnyE_take (i := 4) (v := ?_) rfl (by kernel_rfl) (by kernel_rfl) (by kernel_rfl) (by kernel_rfl) (fun _ _ _ h => h) (Or.inl ⟨by rfl, ?_⟩) hSS ?_
          rotate_left
          · intro w hSw
            (try have kc0 := hSw.1.cell); (try have kc1 := hSw.2.cell)
            go_simp
            all_goals with_reducible rfl
          simp only [Act.put, List.setIfInBounds_toArray, List.set_cons_zero, List.set_cons_succ, List.getElem_toArray, List.getElem_cons_zero, List.getElem_cons_succ]
          refine wpAnyE_take (i := 5) (v := ?_) rfl (by kernel_rfl) (by kernel_rfl) (by kernel_rfl) (by kernel_rfl) (fun _ _ _ h => h) (Or.inl ⟨by rfl, ?_⟩) hSS ?_
          rotate_left
          · intro w hSw
            (try have kc0 := hSw.1.cell); (try have kc1 := hSw.2.cell)
            go_simp
            all_goals with_reducible rfl
          simp only [Act.put, List.setIfInBounds_toArray, List.set_cons_zero, List.set_cons_succ, List.getElem_toArray, List.getElem_cons_zero, List.getElem_cons_succ]
          refine wpAnyE_take (i := 6) (v := ?_) rfl (by kernel_rfl) (by kernel_rfl) (by kernel_rfl) (by kernel_rfl) (fun _ _ _ h => h) (Or.inl ⟨by rfl, ?_⟩) hSS ?_
          rotate_left
          · intro w hSw
            (try have kc0 := hSw.1.cell); (try have kc1 := hSw.2.cell)
            go_simp
            all_goals with_reducible rfl
          simp only [Act.put, List.setIfInBounds_toArray, List.set_cons_zero, List.set_cons_succ, List.getElem_toArray, List.getElem_cons_zero, List.getElem_cons_succ]
          refine wpAnyE_take (i := 7) (v := ?_) rfl (by kernel_rfl) (by kernel_rfl) (by kernel_rfl) (by kernel_rfl) (fun _ _ _ h => h) (Or.inl ⟨by rfl, ?_⟩) hSS ?_
          rotate_left
          · intro w hSw
            (try have kc0 := hSw.1.cell); (try have kc1 := hSw.2.cell)
            go_simp
            all_goals with_reducible rfl
          simp only [Act.put, List.setIfInBounds_toArray, List.set_cons_zero, List.set_cons_succ, List.getElem_toArray, List.getElem_cons_zero, List.getElem_cons_succ]
          refine wpAnyE_take (i := 8) (v := ?_) rfl (by kernel_rfl) (by kernel_rfl) (by kernel_rfl) (by kernel_rfl) (fun _ _ _ h => h) (Or.inl ⟨by rfl, ?_⟩) hSS ?_
          rotate_left
          · intro w hSw
            (try have kc0 := hSw.1.cell); (try have kc1 := hSw.2.cell)
            go_simp
            all_goals with_reducible rfl
          simp only [Act.put, List.setIfInBounds_toArray, List.set_cons_zero, List.set_cons_succ, List.getElem_toArray, List.getElem_cons_zero, List.getElem_cons_succ]
          refine wpAnyE_take (i := 9) (v := ?_) rfl (by kernel_rfl) (by kernel_rfl) (by kernel_rfl) (by kernel_rfl) (fun _ _ _ h => h) (Or.inl ⟨by rfl, ?_⟩) hSS ?_
          rotate_left
          · intro w hSw
            (try have kc0 := hSw.1.cell); (try have kc1 := hSw.2.cell)
            go_simp
            all_goals with_reducible rfl
          simp only [Act.put, List.setIfInBounds_toArray, List.set_cons_zero, List.set_cons_succ, List.getElem_toArray, List.getElem_cons_zero, List.getElem_cons_succ]
          refine wpAnyE_take (i := 10) (v := ?_) rfl (by kernel_rfl) (by kernel_rfl) (by kernel_rfl) (by kernel_rfl) (fun _ _ _ h => h) (Or.inl ⟨by rfl, ?_⟩) hSS ?_
          rotate_left
          · intro w hSw
            (try have kc0 := hSw.1.cell); (try have kc1 := hSw.2.cell)
            go_simp
            all_goals with_reducible rfl
          simp only [Act.put, List.setIfInBounds_toArray, List.set_cons_zero, List.set_cons_succ, List.getElem_toArray, List.getElem_cons_zero, List.getElem_cons_succ]
          refine wpAnyE_tail 11 rfl (by kernel_rfl) ?_
          simp only [List.drop_succ_cons, List.drop_zero]
          change wpList _ _ (Exit.then _ _) [_] _ _
          go_wp2
          refine ⟨fun _ => trivial, wpListE_late _ _ _ _ (fun j hj => by rcases j with _ | _ | j <;> first | rfl | exact absurd hj (by simp only [List.length_cons, List.length_nil]; omega)) ?_⟩
          at_builtin
          refine wpList_append_own _ rfl _ _ 57 rfl w.heap.size 5 i0 (.int .u8 0) 1 1 Try.underlying57 hi hz0 hz1 hz2 rfl (by decide) _ _ _ rfl (hownW.alloc _) ⟨W.heap.size, 0, none⟩ 4 4 (Lib.byteCells [92, 120, hexd d1, hexd d2]) rfl rfl (cells_new W (Lib.byteCells [92, 120, hexd d1, hexd d2]) _) (byteCells_one _) (by unfold maxLen; omega) (by omega) (by have := hblW.size; simp; omega) ?_
          intro v' w4 hown4 hg4 _
          have hbl1 : Below w.heap.size w w4 := ((hblW.alloc (o := _) hblW.size).drew).grown hg4 (by have := hblW.size; simp; omega) (fun j hj => (hownW.lt _ hj).1)
          have hfin : w4.ownsRow w.heap.size 5 1 v' ((quoteL s (pre ++ [pos])).length + 1) (Lib.byteCells (34 :: quoteL s (pre ++ [pos]))) := by
            rw [hsn, hsl, q, ← List.cons_append, byteCells_app]; exact hown4
          clear hownW hg4 hblW hown4 x1 x2 x3 x4 x5 x6 g1 g2 t1 t2 u1 u2 v1 v2
          go_wp2
          go_roundw
          case rel => exact ⟨pos + wd s pos, pre ++ [pos], by go_num, hfin, by show _ = _; rw [hpre.out, st_cons hp]; simp, hbl1, by rw [hsl, List.length_append]; omega, by omega⟩
          case measure => simp [intOf]; omega
        · have i1 : ¬ (rn s pos : Int) < 32 := by omega
          have i2 : ((rn s pos : Int) == 127) = true := e34 (by simpa using c7)
          rw [hl]
          go_wp2_with fail
          refine wp_region_early (fun _ => True) (fun j => j == 12 || j == 13) (by kernel_rfl) ?_
          have hSS : True := trivial
          simp only [List.size_toArray, List.length_cons, List.length_nil, Nat.reduceAdd, Array.replicate_succ, Array.replicate_zero, List.push_toArray, List.nil_append, List.cons_append]
          refine wpAnyE_take (i := 0) (v := ?_) rfl (by kernel_rfl) (by kernel_rfl) (by kernel_rfl) (by kernel_rfl) (fun _ _ _ h => h) (Or.inl ⟨by rfl, ?_⟩) hSS ?_
          rotate_left
          · intro w hSw
            (try have kc0 := hSw.1.cell); (try have kc1 := hSw.2.cell)
            go_simp
            all_goals with_reducible rfl
          simp only [Act.put, List.setIfInBounds_toArray, List.set_cons_zero, List.set_cons_succ, List.getElem_toArray, List.getElem_cons_zero, List.getElem_cons_succ]
          refine wpAnyE_take (i := 1) (v := ?_) rfl (by kernel_rfl) (by kernel_rfl) (by kernel_rfl) (by kernel_rfl) (fun _ _ _ h => h) (Or.inl ⟨by rfl, ?_⟩) hSS ?_
          rotate_left
          · intro w hSw
            (try have kc0 := hSw.1.cell); (try have kc1 := hSw.2.cell)
            go_simp
            all_goals with_reducible rfl
          simp only [Act.put, List.setIfInBounds_toArray, List.set_cons_zero, List.set_cons_succ, List.getElem_toArray, List.getElem_cons_zero, List.getElem_cons_succ]
          refine wpAnyE_take (i := 2) (v := ?_) rfl (by kernel_rfl) (by kernel_rfl) (by kernel_rfl) (by kernel_rfl) (fun _ _ _ h => h) (Or.inl ⟨by rfl, ?_⟩) hSS ?_
          rotate_left
          · intro w hSw
            (try have kc0 := hSw.1.cell); (try have kc1 := hSw.2.cell)
            go_simp
            all_goals with_reducible rfl
          simp only [Act.put, List.setIfInBounds_toArray, List.set_cons_zero, List.set_cons_succ, List.getElem_toArray, List.getElem_cons_zero, List.getElem_cons_succ]
          refine wpAnyE_take (i := 3) (v := ?_) rfl (by kernel_rfl) (by kernel_rfl) (by kernel_rfl) (by kernel_rfl) (fun _ _ _ h => h) (Or.inl ⟨by rfl, ?_⟩) hSS ?_
          rotate_left
          · intro w hSw
            (try have kc0 := hSw.1.cell); (try have kc1 := hSw.2.cell)
            go_simp
            all_goals with_reducible rfl
          simp only [Act.put, List.setIfInBounds_toArray, List.set_cons_zero, List.set_cons_succ, List.getElem_toArray, List.getElem_cons_zero, List.getElem_cons_succ]
          refine wpAnyE_take (i := 4) (v := ?_) rfl (by kernel_rfl) (by kernel_rfl) (by kernel_rfl) (by kernel_rfl) (fun _ _ _ h => h) (Or.inl ⟨by rfl, ?_⟩) hSS ?_
          rotate_left
          · intro w hSw
            (try have kc0 := hSw.1.cell); (try have kc1 := hSw.2.cell)
            go_simp
            all_goals with_reducible rfl
          simp only [Act.put, List.setIfInBounds_toArray, List.set_cons_zero, List.set_cons_succ, List.getElem_toArray, List.getElem_cons_zero, List.getElem_cons_succ]
          refine wpAnyE_take (i := 5) (v := ?_) rfl (by kernel_rfl) (by kernel_rfl) (by kernel_rfl) (by kernel_rfl) (fun _ _ _ h => h) (Or.inl ⟨by rfl, ?_⟩) hSS ?_
          rotate_left
          · intro w hSw
            (try have kc0 := hSw.1.cell); (try have kc1 := hSw.2.cell)
            go_simp
            all_goals with_reducible rfl
          simp only [Act.put, List.setIfInBounds_toArray, List.set_cons_zero, List.set_cons_succ, List.getElem_toArray, List.getElem_cons_zero, List.getElem_cons_succ]
          refine wpAnyE_take (i := 6) (v := ?_) rfl (by kernel_rfl) (by kernel_rfl) (by kernel_rfl) (by kernel_rfl) (fun _ _ _ h => h) (Or.inl ⟨by rfl, ?_⟩) hSS ?_
          rotate_left
          · intro w hSw
            (try have kc0 := hSw.1.cell); (try have kc1 := hSw.2.cell)
            go_simp
            all_goals with_reducible rfl
          simp only [Act.put, List.setIfInBounds_toArray, List.set_cons_zero, List.set_cons_succ, List.getElem_toArray, List.getElem_cons_zero, List.getElem_cons_succ]
          refine wpAnyE_take (i := 7) (v := ?_) rfl (by kernel_rfl) (by kernel_rfl) (by kernel_rfl) (by kernel_rfl) (fun _ _ _ h => h) (Or.inl ⟨by rfl, ?_⟩) hSS ?_
          rotate_left
          · intro w hSw
            (try have kc0 := hSw.1.cell); (try have kc1 := hSw.2.cell)
            go_simp
            all_goals with_reducible rfl
          simp only [Act.put, List.setIfInBounds_toArray, List.set_cons_zero, List.set_cons_succ, List.getElem_toArray, List.getElem_cons_zero, List.getElem_cons_succ]
          refine wpAnyE_take (i := 8) (v := ?_) rfl (by kernel_rfl) (by kernel_rfl) (by kernel_rfl) (by kernel_rfl) (fun _ _ _ h => h) (Or.inl ⟨by rfl, ?_⟩) hSS ?_
          rotate_left
          · intro w hSw
            (try have kc0 := hSw.1.cell); (try have kc1 := hSw.2.cell)
            go_simp
            all_goals with_reducible rfl
          simp only [Act.put, List.setIfInBounds_toArray, List.set_cons_zero, List.set_cons_succ, List.getElem_toArray, List.getElem_cons_zero, List.getElem_cons_succ]
          refine wpAnyE_take (i := 9) (v := ?_) rfl (by kernel_rfl) (by kernel_rfl) (by kernel_rfl) (by kernel_rfl) (fun _ _ _ h => h) (Or.inl ⟨by rfl, ?_⟩) hSS ?_
          rotate_left
          · intro w hSw
            (try have kc0 := hSw.1.cell); (try have kc1 := hSw.2.cell)
            go_simp
            all_goals with_reducible rfl
          simp only [Act.put, List.setIfInBounds_toArray, List.set_cons_zero, List.set_cons_succ, List.getElem_toArray, List.getElem_cons_zero, List.getElem_cons_succ]
          refine wpAnyE_take (i := 10) (v := ?_) rfl (by kernel_rfl) (by kernel_rfl) (by kernel_rfl) (by kernel_rfl) (fun _ _ _ h => h) (Or.inl ⟨by rfl, ?_⟩) hSS ?_
          rotate_left
          · intro w hSw
            (try have kc0 := hSw.1.cell); (try have kc1 := hSw.2.cell)
            go_simp
            all_goals with_reducible rfl
          simp only [Act.put, List.setIfInBounds_toArray, List.set_cons_zero, List.set_cons_succ, List.getElem_toArray, List.getElem_cons_zero, List.getElem_cons_succ]
          refine wpAnyE_tail 11 rfl (by kernel_rfl) ?_
          simp only [List.drop_succ_cons, List.drop_zero]
          change wpList _ _ (Exit.then _ _) [_] _ _
          go_wp2
          refine ⟨fun _ => trivial, wpListE_late _ _ _ _ (fun j hj => by rcases j with _ | _ | j <;> first | rfl | exact absurd hj (by simp only [List.length_cons, List.length_nil]; omega)) ?_⟩
          at_builtin
          refine wpList_append_own _ rfl _ _ 57 rfl w.heap.size 5 i0 (.int .u8 0) 1 1 Try.underlying57 hi hz0 hz1 hz2 rfl (by decide) _ _ _ rfl (hownW.alloc _) ⟨W.heap.size, 0, none⟩ 4 4 (Lib.byteCells [92, 120, hexd d1, hexd d2]) rfl rfl (cells_new W (Lib.byteCells [92, 120, hexd d1, hexd d2]) _) (byteCells_one _) (by unfold maxLen; omega) (by omega) (by have := hblW.size; simp; omega) ?_
          intro v' w4 hown4 hg4 _
          have hbl1 : Below w.heap.size w w4 := ((hblW.alloc (o := _) hblW.size).drew).grown hg4 (by have := hblW.size; simp; omega) (fun j hj => (hownW.lt _ hj).1)
          have hfin : w4.ownsRow w.heap.size 5 1 v' ((quoteL s (pre ++ [pos])).length + 1) (Lib.byteCells (34 :: quoteL s (pre ++ [pos]))) := by
            rw [hsn, hsl, q, ← List.cons_append, byteCells_app]; exact hown4
          clear hownW hg4 hblW hown4 x1 x2 x3 x4 x5 x6 g1 g2 t1 t2 u1 u2 v1 v2
          go_wp2
          go_roundw
          case rel => exact ⟨pos + wd s pos, pre ++ [pos], by go_num, hfin, by show _ = _; rw [hpre.out, st_cons hp]; simp, hbl1, by rw [hsl, List.length_append]; omega, by omega⟩
          case measure => simp [intOf]; omega
      have U := Lib.hid (fun w => unseen_any (rn s pos : Int) w)
      by_cases c7 : hiddenB (rn s pos : Int) = true
      · have hl : lo s pos = false := by cases h : lo s pos <;> simp_all
        have q : qb s pos = [92, 117, 123] ++ hexL (rn s pos) ++ [125] := by rw [hqb, pc, if_neg (by omega), if_neg c3, if_neg c4, if_neg c5, if_neg c6, if_pos c7]
        have i1 : ¬ (rn s pos : Int) < 32 := by omega
        have i2 : ((rn s pos : Int) == 127) = false := e34 (by simp; omega)
        rw [c7] at U
        rw [hl]
        go_wp2_with (first
          | (go_at_call 62; refine (U.out _).mono ?_; rintro e w2 ⟨rfl, rfl⟩)
          | (at_builtin; refine wpList_append_own _ rfl _ _ 57 rfl w.heap.size 5 i0 (.int .u8 0) 1 1 Try.underlying57 hi hz0 hz1 hz2 rfl (by decide) _ _ _ rfl (hownW.alloc _) ⟨W.heap.size, 0, none⟩ 3 3 (Lib.byteCells [92, 117, 123]) rfl rfl (cells_new W (Lib.byteCells [92, 117, 123]) _) (byteCells_one _) (by unfold maxLen; omega) (by omega) (by have := hblW.size; simp; omega) ?_; intro v' w4 hown4 hg4 _)
          )
        have hbl4 : Below w.heap.size w w4 := (hblW.alloc (o := _) hblW.size).grown hg4 (by have := hblW.size; simp; omega) (fun j hj => (hownW.lt _ hj).1)
        obtain ⟨qq, hq6, hq0, hqb2, hqs⟩ := quots (rn s pos) (by omega)
        have HQB := Lib.hid hqb2
        clear hqb2
        have hown5 : w4.ownsRow w.heap.size 5 1 v' ((quoteL s pre).length + 4 + (hexL (qq 6)).length) (Lib.byteCells (34 :: quoteL s pre ++ [92, 117, 123] ++ hexL (qq 6))) := by
          rw [hq6, show hexL 0 = [] from rfl, List.append_nil, byteCells_app]; exact hown4
        have HQS := Lib.hid hqs
        have HQ := Lib.hid q
        clear hown4 hg4 hownW hblW U c6 hqs q
        go_loopw [3, 8, 9] (fun v on kv wr => ∃ (j : Nat) (ob : Bool), kv = .int .i64 ((j : Int) - 1) ∧ j ≤ 6 ∧ on = .bool ob ∧ Hid (ob = decide (0 < qq j)) ∧ wr.ownsRow w.heap.size 5 1 v ((quoteL s pre).length + 4 + (hexL (qq j)).length) (Lib.byteCells (34 :: quoteL s pre ++ [92, 117, 123] ++ hexL (qq j))) ∧ Below w.heap.size w wr) (fun _ _ kv _ => (intOf kv + 1).toNat)
        case atStart => exact ⟨6, false, rfl, by omega, rfl, by show _ = _; rw [hq6]; rfl, hown5, hbl4⟩
        case round =>
          obtain ⟨j, ob, rfl, hj6, rfl, hob, hown6, hbl6⟩ := hrel
          cases j with
          | zero =>
            have j1 : ((0 : Nat) : Int) - 1 = -1 := by omega
            rw [j1]
            have hh8 := hexL_len (rn s pos)
            rw [hq0] at hown6
            go_wp2_with (first
              | (at_builtin; refine wpList_append_own _ rfl _ _ 57 rfl w.heap.size 5 i0 (.int .u8 0) 1 1 Try.underlying57 hi hz0 hz1 hz2 rfl (by decide) _ _ _ rfl (hown6.alloc _) ⟨wr.heap.size, 0, none⟩ 1 1 (Lib.byteCells [125]) rfl rfl (cells_new wr (Lib.byteCells [125]) _) (byteCells_one _) (by unfold maxLen; omega) (by omega) (by have := hbl6.size; simp; omega) ?_; intro v7 w7 hown7 hg7 _))
            have hbl1 : Below w.heap.size w w7 := (hbl6.alloc (o := _) hbl6.size).grown hg7 (by have := hbl6.size; simp; omega) (fun j hj => (hown6.lt _ hj).1)
            have hfin : w7.ownsRow w.heap.size 5 1 v7 ((quoteL s (pre ++ [pos])).length + 1) (Lib.byteCells (34 :: quoteL s (pre ++ [pos]))) := by
              rw [hsn, hsl, HQ.out]
              rw [← byteCells_app] at hown7
              simp only [List.length_append, List.cons_append, List.append_assoc, List.nil_append, List.length_cons, List.length_nil] at hown7 ⊢
              rwa [show (quoteL s pre).length + 1 + ((hexL (rn s pos)).length + (0 + 1) + 1 + 1 + 1) = (quoteL s pre).length + 4 + (hexL (rn s pos)).length + 1 from by omega]
            clear hown6 hg7 hown7 hown5
            go_roundw
            case rel => exact ⟨pos + wd s pos, pre ++ [pos], by go_num, hfin, by show _ = _; rw [hpre.out, st_cons hp]; simp, hbl1, by rw [hsl, List.length_append]; omega, by omega⟩
            case measure => simp [intOf]; omega
          | succ j =>
            have j1 : ((j + 1 : Nat) : Int) - 1 = (j : Int) := by omega
            rw [j1]
            obtain ⟨d, d16, hqd, hbit⟩ := HQS.out j
            obtain ⟨a, ha⟩ : ∃ a, qq (j + 1) = a := ⟨_, rfl⟩
            have gd := hex_get d d16
            have j2 : (0 : Int) ≤ (j : Int) := by omega
            have j3 : ¬ (4 * (j : Int)) < 0 := by omega
            have j4 : (d : Int) < 16 := by omega
            have j5 : (0 : Int) ≤ (d : Int) := by omega
            have j6 : (d : Int).toNat = d := Int.toNat_natCast d
            have hh8 := hexL_len a
            have HA2 := Lib.hid ha
            have HQD := Lib.hid hqd
            rw [ha] at hown6
            have hcs : (0 < d ∧ 0 < qq j) ∨ (d = 0 ∧ ob = true ∧ 0 < qq j) ∨ (d = 0 ∧ ob = false ∧ a = 0 ∧ qq j = 0) := by
              have := hob.out
              rw [ha] at this
              rw [ha] at hqd
              rcases Nat.eq_zero_or_pos d with h | h
              · right
                cases ob
                · right; have : ¬ 0 < a := by simpa using this
                  exact ⟨h, rfl, by omega, by omega⟩
                · left; have : 0 < a := by simpa using this
                  exact ⟨h, rfl, by omega⟩
              · left; exact ⟨h, by omega⟩
            have hst : 0 < qq j → hexL (qq j) = hexL a ++ [hexd d] := fun h => by
              have e1 : qq j / 16 = a := by rw [ha] at hqd; omega
              have e2 : qq j % 16 = d := by omega
              show hexF 8 (qq j) = _
              rw [hexF_succ 7 h, e1, e2]
              congr 1
              have hb := HQB.out (j + 1)
              rw [ha] at hb
              exact hexF_stable hb hb
            clear ha hqd hob hown5
            rcases hcs with ⟨k1, k2⟩ | ⟨rfl, rfl, k2⟩ | ⟨rfl, rfl, k3, k2⟩
            · have k5 : (0 : Int) < (d : Int) := by omega
              go_wp2_with (first
                | (at_builtin; refine wpList_append_own _ rfl _ _ 57 rfl w.heap.size 5 i0 (.int .u8 0) 1 1 Try.underlying57 hi hz0 hz1 hz2 rfl (by decide) _ _ _ rfl (hown6.alloc _) ⟨wr.heap.size, 0, none⟩ 1 1 (Lib.byteCells [hexd _]) rfl rfl (cells_new wr (Lib.byteCells [hexd _]) _) (byteCells_one _) (by unfold maxLen; omega) (by omega) (by have := hbl6.size; simp; omega) ?_; intro v7 w7 hown7 hg7 _))
              have hbl7 : Below w.heap.size w w7 := (hbl6.alloc (o := _) hbl6.size).grown hg7 (by have := hbl6.size; simp; omega) (fun j hj => (hown6.lt _ hj).1)
              go_roundw
              case rel =>
                refine ⟨j, true, by go_num, by omega, rfl, by show _ = _; simp [k2], ?_, hbl7⟩
                rw [hst k2, List.length_append, ← List.append_assoc, byteCells_app, ← Nat.add_assoc]
                exact hown7
              case measure => simp [intOf]
            · skip
              go_wp2_with (first
                | (at_builtin; refine wpList_append_own _ rfl _ _ 57 rfl w.heap.size 5 i0 (.int .u8 0) 1 1 Try.underlying57 hi hz0 hz1 hz2 rfl (by decide) _ _ _ rfl (hown6.alloc _) ⟨wr.heap.size, 0, none⟩ 1 1 (Lib.byteCells [hexd _]) rfl rfl (cells_new wr (Lib.byteCells [hexd _]) _) (byteCells_one _) (by unfold maxLen; omega) (by omega) (by have := hbl6.size; simp; omega) ?_; intro v7 w7 hown7 hg7 _))
              have hbl7 : Below w.heap.size w w7 := (hbl6.alloc (o := _) hbl6.size).grown hg7 (by have := hbl6.size; simp; omega) (fun j hj => (hown6.lt _ hj).1)
              go_roundw
              case rel =>
                refine ⟨j, true, by go_num, by omega, rfl, by show _ = _; simp [k2], ?_, hbl7⟩
                rw [hst k2, List.length_append, ← List.append_assoc, byteCells_app, ← Nat.add_assoc]
                exact hown7
              case measure => simp [intOf]
            · subst k3
              go_wp2_with fail
              go_roundw
              case rel => exact ⟨j, false, by go_num, by omega, rfl, by show _ = _; rw [k2]; rfl, by rw [k2]; exact hown6, hbl6⟩
              case measure => simp [intOf]
      · have c8 : hiddenB (rn s pos : Int) = false := by simpa using c7
        have hl : lo s pos = false := by cases h : lo s pos <;> simp_all
        have q : qb s pos = bl s pos := by rw [hqb, pc, if_neg (by omega), if_neg c3, if_neg c4, if_neg c5, if_neg c6, if_neg c7]
        have i1 : ¬ (rn s pos : Int) < 32 := by omega
        have i2 : ((rn s pos : Int) == 127) = false := e34 (by simp; omega)
        have i3 : ((pos : Int) + (wd s pos : Int)).toNat = pos + wd s pos := by omega
        have i4 : IntKind.i64.wrap ((pos : Int) + (wd s pos : Int)) = (pos : Int) + (wd s pos : Int) := IntWalk.i64_in _ (by omega)
        have i5 : (pos : Int) + (wd s pos : Int) ≤ (s.size : Int) := by omega
        have i6 : (pos : Int) ≤ (pos : Int) + (wd s pos : Int) := by omega
        have i7 : (0 : Int) ≤ (pos : Int) + (wd s pos : Int) := by omega
        rw [c8] at U
        rw [hl]
        go_wp2_with (first
          | (go_at_call 62; refine (U.out _).mono ?_; rintro e w2 ⟨rfl, rfl⟩)
          | (at_builtin; refine Lib.wpList_append_own_string _ rfl _ _ 57 9 rfl w.heap.size 5 i0 Try.underlying57 Try.underlying9 hi hz0 hz1 hz2 _ _ _ rfl hownW (s.extract pos (pos + wd s pos)) rfl (by rw [ByteArray.size_extract]; unfold maxLen; omega) (by rw [ByteArray.size_extract]; omega) hblW.size ?_; intro v' w4 hown4 hg4 _))
        have hbl1 : Below w.heap.size w w4 := hblW.grown hg4 hblW.size (fun j hj => (hownW.lt _ hj).1)
        have hfin : w4.ownsRow w.heap.size 5 1 v' ((quoteL s (pre ++ [pos])).length + 1) (Lib.byteCells (34 :: quoteL s (pre ++ [pos]))) := by
          rw [hsn, hsl, q, ← List.cons_append, byteCells_app, bl_len s pos hp, ← bl_extract]
          rwa [show (s.extract pos (pos + wd s pos)).size = wd s pos from by rw [ByteArray.size_extract]; omega] at hown4
        clear hownW hg4 hblW hown4
        go_roundw
        case rel => exact ⟨pos + wd s pos, pre ++ [pos], by go_num, hfin, by show _ = _; rw [hpre.out, st_cons hp]; simp, hbl1, by rw [hsl, List.length_append]; omega, by omega⟩
        case measure => simp [intOf]; omega
    · have hpp : pos = s.size := by omega
      have hh := hpre.out
      rw [st_nil hp, List.append_nil] at hh
      go_wp2_with (first
        | (at_builtin; refine wpList_append_own _ rfl _ _ 57 rfl w.heap.size 5 i0 (.int .u8 0) 1 1 Try.underlying57 hi hz0 hz1 hz2 rfl (by decide) _ _ _ rfl (hown.alloc _) ⟨wr.heap.size, 0, none⟩ 1 1 (Lib.byteCells [34]) rfl rfl (cells_new wr (Lib.byteCells [34]) _) (byteCells_one _) (by unfold maxLen; omega) (by omega) (by have := hbl.size; simp; omega) ?_; intro v' w4 hown4 hg4 _; rw [← byteCells_app, List.cons_append] at hown4; have hcv := own_string (P := Try.prog) (dst := 9) Try.underlying57 Try.underlying5 Try.underlying9 hown4 (by simp)))
      go_light
      go_ret
      have hbl1 : Below w.heap.size w w4 := (hbl.alloc (o := _) hbl.size).grown hg4 (by have := hbl.size; simp; omega) (fun j hj => (hown.lt _ hj).1)
      refine ⟨?_, hbl1⟩
      rw [hh]; rfl

end Go.Proofs.Yteoehhkdmmcglaa
