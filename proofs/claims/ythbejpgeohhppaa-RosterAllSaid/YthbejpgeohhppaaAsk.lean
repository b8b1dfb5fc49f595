/- Walks: what a roster is asked: Size, Text, Sign, Id; and earshotref4.Id, Text. -/
import Derived.Test.YthbejpgeohhppaaRefRead
import Derived.Test.YthbejpgeohhppaaPut
namespace Go.Proofs.Ythbejpgeohhppaa
set_option linter.unusedVariables false
open Go.RowKit Go.Maps

def sgs (o : Option (List Nat)) : List Nat := o.getD []
theorem RostAt.below {W W' : World} {B : Nat} {v : Value} {o : Option (List Nat)} (h : RostAt W B v o) (hb : Below W.heap.size W W') : RostAt W' B v o := by
  cases o with
  | none => exact h
  | some l =>
    obtain ⟨sv, b, D, rfl, h1, ⟨h2, h3⟩, h4⟩ := h
    exact ⟨sv, b, D, rfl, ownsRow_below h1 hb, ⟨h2.kept (row := none) ⟨hb.os, hb.tape, hb.output, hb.size, fun k hk _ => hb.block k hk⟩ (by simp), h3⟩, h4⟩
theorem RefAt.below {W W' : World} {B : Nat} {v : Value} {o : Option (List Nat)} (h : RefAt W B v o) (hb : Below W.heap.size W W') : RefAt W' B v o := by
  cases o with
  | none => exact h
  | some l =>
    obtain ⟨sv, rfl, h1⟩ := h
    exact ⟨sv, rfl, ownsRow_below h1 hb⟩

set_option maxHeartbeats 400000 in
theorem size_any (v : Value) (o : Option (List Nat)) (B : Nat) (W : World) (h : RostAt W B v o) :
    Calls Try.prog 15 #[v] W fun e w' => e = .returned (.int .i64 (sgs o).length) ∧ Below W.heap.size W w' := by
  cases o with
  | none =>
    obtain rfl := h
    go_enter Try.func15, Try.ntmps15
    go_wp2
    go_ret
    exact ⟨rfl, (Below.refl _ _).alloc (Nat.le_refl _) _⟩
  | some l =>
    obtain ⟨sv, b, D, rfl, h1, _, h4⟩ := h
    obtain ⟨sa, sc, rfl, hsl⟩ := ownsRow_slice h1
    go_enter Try.func15, Try.ntmps15
    go_wp2
    go_ret
    exact ⟨rfl, (Below.refl _ _).alloc (Nat.le_refl _) _⟩

def textV (o : Option (List Nat)) : ByteArray := match o with | none => ⟨#[]⟩ | some l => txt l
set_option maxHeartbeats 400000 in
theorem text_any (v : Value) (o : Option (List Nat)) (B : Nat) (W : World) (h : RostAt W B v o) :
    Calls Try.prog 16 #[v] W fun e w' => e = .returned (.string (textV o)) ∧ Below W.heap.size W w' := by
  cases o with
  | none =>
    obtain rfl := h
    go_enter Try.func16, Try.ntmps16
    go_wp2
    go_ret
    exact ⟨rfl, (Below.refl _ _).alloc (Nat.le_refl _) _⟩
  | some l =>
    obtain ⟨sv, b, D, rfl, h1, _, h4⟩ := h
    obtain ⟨sa, sc, rfl, hsl⟩ := ownsRow_slice h1
    go_enter Try.func16, Try.ntmps16
    go_wp2
    go_ret
    exact ⟨rfl, (Below.refl _ _).alloc (Nat.le_refl _) _⟩

/-- Sign's and Id's answers. -/
def signV (l : List Nat) (i : Int) : Value := if 0 ≤ i ∧ i < l.length then .tuple #[.int .i32 ((l.getD i.toNat 0 : Nat) : Int), .int .i64 0] else .tuple #[.int .i32 0, .int .i64 30]
def idV (l : List Nat) (c : Int) : Value := match fnd l c with | some k => .tuple #[.int .i64 (k : Nat), .int .i64 0] | none => .tuple #[.int .i64 0, .int .i64 41]

theorem sgC_cell {W : World} {base n cap g : Nat} {l : List Nat} (h : W.ownsRow base 21 1 (.slice (some ⟨g, 0, none⟩) n cap) n (sgC l)) (hn : n = l.length) {k r : Nat} (hk : l[k]? = some r) : W.cell? ⟨g, k, none⟩ = some (.int .i32 r) := by
  have hlt := (List.getElem?_eq_some_iff.1 hk).1
  rw [h.cellAt k (by omega)]
  simp [sgC, hk]

set_option maxHeartbeats 400000 in
theorem sign_any (v : Value) (o : Option (List Nat)) (B : Nat) (W : World) (h : RostAt W B v o) (i : Int) :
    Calls Try.prog 18 #[v, .int .i64 i] W fun e w' => e = .returned (signV (sgs o) i) ∧ Below W.heap.size W w' := by
  by_cases hi : i < 0
  · cases o with
    | none =>
      obtain rfl := h
      go_enter Try.func18, Try.ntmps18
      go_wp2
      go_ret2
      exact ⟨by unfold signV; rw [if_neg (by omega)]; rfl, (Below.refl _ _).alloc (Nat.le_refl _) _⟩
    | some l =>
      obtain ⟨sv, b, D, rfl, h1, _, h4⟩ := h
      obtain ⟨sa, sc, rfl, hsl⟩ := ownsRow_slice h1
      go_enter Try.func18, Try.ntmps18
      go_wp2
      go_ret2
      exact ⟨by unfold signV; rw [if_neg (by omega)]; rfl, (Below.refl _ _).alloc (Nat.le_refl _) _⟩
  · cases o with
    | none =>
      obtain rfl := h
      have hi2 : 0 ≤ i := by omega
      go_enter Try.func18, Try.ntmps18
      go_wp2
      go_ret2
      exact ⟨by unfold signV; rw [if_neg (by simp [sgs] <;> omega)]; rfl, (Below.refl _ _).alloc (Nat.le_refl _) _⟩
    | some l =>
      obtain ⟨sv, b, D, rfl, h1, _, h4⟩ := h
      obtain ⟨sa, sc, rfl, hsl⟩ := ownsRow_slice h1
      obtain ⟨k, rfl⟩ := Int.eq_ofNat_of_zero_le (show 0 ≤ i by omega)
      by_cases hk : k < l.length
      · obtain ⟨x, hx⟩ : ∃ x, l[k]? = some x := ⟨_, List.getElem?_eq_getElem hk⟩
        rcases hsl with h0 | ⟨g, rfl, _, _⟩
        · omega
        have c0 := sgC_cell (h1.alloc (.cells #[.string (txt l), .slice (some ⟨g, 0, none⟩) l.length sc, .map (some b)] 25)) rfl hx
        have hl2 : (k : Int) < (l.length : Int) := by omega
        have HX := Lib.hid hx
        clear hx
        go_enter Try.func18, Try.ntmps18
        go_wp2
        go_ret2
        refine ⟨?_, (Below.refl _ _).alloc (Nat.le_refl _) _⟩
        unfold signV
        rw [if_pos (by simp [sgs]; omega)]
        simp [sgs, List.getD_eq_getElem?_getD, HX.out]
      · have hl2 : (l.length : Int) ≤ (k : Int) := by omega
        go_enter Try.func18, Try.ntmps18
        go_wp2
        go_ret2
        exact ⟨by unfold signV; rw [if_neg (by simp [sgs] <;> omega)]; rfl, (Below.refl _ _).alloc (Nat.le_refl _) _⟩

set_option maxHeartbeats 400000 in
theorem id_any (v : Value) (o : Option (List Nat)) (B : Nat) (W : World) (h : RostAt W B v o) (c : Int) (hc : (Lit.int .i32 c).wf = true) :
    Calls Try.prog 19 #[v, .int .i32 c] W fun e w' => e = .returned (idV (sgs o) c) ∧ Below W.heap.size W w' := by
  have hkey : keyOf Try.prog 21 (.int .i32 c) = some (.int .i32 c) := keyOf_int_mk Try.underlying21 hc
  cases o with
  | none =>
    obtain rfl := h
    have hn : ∀ w : World, (Instr.lookup 23 (.map none) (.int .i32 c) true).run Try.prog w = .ok (.tuple #[.int .i64 0, .bool false]) w := fun w => Maps.look_nil true idsLaw Try.underlying23 (idsZero w) hkey
    go_enter Try.func19, Try.ntmps19
    go_wp2
    go_ret2
    exact ⟨rfl, (Below.refl _ _).alloc (Nat.le_refl _) _⟩
  | some l =>
    obtain ⟨sv, b, D, rfl, h1, ⟨h2, h3⟩, h4⟩ := h
    obtain ⟨sa, sc, rfl, hsl⟩ := ownsRow_slice h1
    have HD := Lib.hid (h3 c)
    clear h3
    cases hh : Maps.has D (.int .i32 c) with
    | true =>
      go_enter Try.func19, Try.ntmps19
      go_wp2_with (first
        | (at_lookup; refine wpList_lookup_own_ok_int _ rfl _ _ 23 rfl 21 3 .i64 idsLaw Try.underlying23 Try.underlying3 (idsZero _) b l.length D rfl (h2.alloc _) _ _ rfl hkey ?_; intro c' hat hwc; have HAT := Lib.hid hat; clear hat))
      go_ret2
      refine ⟨?_, (Below.refl _ _).alloc (Nat.le_refl _) _⟩
      have e1 := HD.out.1 (.lit (.int .i64 0))
      have e2 := HD.out.2
      rw [HAT.out] at e1
      rw [hh] at e2
      unfold idV
      show _ = Ending.returned (match fnd l c with | some k => _ | none => _)
      cases hf : fnd l c with
      | none => rw [hf] at e2; simp at e2
      | some k => rw [hf] at e1; simp at e1; rw [e1]; rfl
    | false =>
      go_enter Try.func19, Try.ntmps19
      go_wp2_with (first
        | (at_lookup; refine wpList_lookup_own_ok_int _ rfl _ _ 23 rfl 21 3 .i64 idsLaw Try.underlying23 Try.underlying3 (idsZero _) b l.length D rfl (h2.alloc _) _ _ rfl hkey ?_; intro c' hat hwc; have HAT := Lib.hid hat; clear hat))
      go_ret2
      refine ⟨?_, (Below.refl _ _).alloc (Nat.le_refl _) _⟩
      have e2 := HD.out.2
      rw [hh] at e2
      unfold idV
      show _ = Ending.returned (match fnd l c with | some k => _ | none => _)
      cases hf : fnd l c with
      | none => rfl
      | some k => rw [hf] at e2; simp at e2

set_option maxHeartbeats 400000 in
theorem refId_any (v : Value) (o : Option (List Nat)) (B : Nat) (W : World) (h : RefAt W B v o) (hl : (sgs o).length ≤ 100) (c : Int) :
    Calls Try.prog 20 #[v, .int .i64 c] W fun e w' => e = .returned (.int .i64 (fndI (sgs o) c)) ∧ Below W.heap.size W w' := by
  obtain ⟨sv, rfl, h1⟩ : ∃ sv, v = .agg #[sv] ∧ W.ownsRow B 3 1 sv (sgs o).length (inC (sgs o)) := by
    cases o with
    | none => exact ⟨_, h, World.ownsRow_nil _ _ _ _⟩
    | some l => exact h
  obtain ⟨sa, sc, rfl, hsl⟩ := ownsRow_slice h1
  have H := Lib.hid (fun (w2 : World) h => find_any (sgs o) (.slice sa (sgs o).length sc) B c w2 (by omega) h)
  go_enter Try.func20, Try.ntmps20
  go_wp2_with (go_at_call 29; refine (H.out _ (h1.alloc _)).mono ?_; rintro e w1 ⟨rfl, rfl⟩)
  go_ret
  exact ⟨rfl, (Below.refl _ _).alloc (Nat.le_refl _) _⟩

set_option maxHeartbeats 1000000 in
theorem refText_any (v : Value) (o : Option (List Nat)) (B : Nat) (W : World) (h : RefAt W B v o) (hl : (sgs o).length ≤ 100) (hr : ∀ r ∈ sgs o, okR r) :
    Calls Try.prog 17 #[v] W fun e w' => e = .returned (.string (txt (sgs o))) ∧ Below W.heap.size W w' := by
  obtain ⟨sv, rfl, h1⟩ : ∃ sv, v = .agg #[sv] ∧ W.ownsRow B 3 1 sv (sgs o).length (inC (sgs o)) := by
    cases o with
    | none => exact ⟨_, h, World.ownsRow_nil _ _ _ _⟩
    | some l => exact h
  generalize sgs o = l at *
  obtain ⟨sa, sc, rfl, hsl⟩ := ownsRow_slice h1
  go_enter Try.func17, Try.ntmps17
  go_wp2
  go_loopw [3, 4] (fun v i wr => ∃ k : Nat, i = .int .i64 k ∧ k ≤ l.length ∧ wr.ownsRow (W.heap.size + 1) 5 1 v ((l.take k).flatMap enc).length (Lib.byteCells ((l.take k).flatMap enc)) ∧ Below (W.heap.size + 1) (W.alloc (.cells #[.slice sa l.length sc] 31)) wr) (fun _ i _ => l.length - (intOf i).toNat)
  case atStart => exact ⟨0, rfl, by omega, World.ownsRow_nil _ _ _ _, Below.refl _ _⟩
  case round =>
    obtain ⟨k, rfl, hk, hown, hb⟩ := hrel
    have b0 := blk_below hb (blk_new W (.cells #[.slice sa l.length sc] 31)) (Nat.lt_succ_self _)
    have c0 := blk_cell b0 0
    simp at c0
    have hsz : W.heap.size + 1 ≤ wr.heap.size := by have := hb.size; simpa using this
    have hfl : ((l.take k).flatMap enc).length ≤ 400 := by have := (flat_len (l.take k)).2; rw [List.length_take] at this; omega
    by_cases hlt : k < l.length
    · obtain ⟨x, hx⟩ : ∃ x, l[k]? = some x := ⟨_, List.getElem?_eq_getElem hlt⟩
      rcases hsl with h0 | ⟨g, rfl, _, hg⟩
      · omega
      have hr1 := hr x (List.mem_of_getElem? hx)
      have c1 : wr.cell? ⟨g, k, none⟩ = some (.int .i64 x) := (hb.cell (p := ⟨g, k, none⟩) (by simp; omega)).trans (inC_cell (h1.alloc _) rfl hx)
      have htk : (l.take (k + 1)).flatMap enc = (l.take k).flatMap enc ++ enc x := by rw [List.take_add_one, hx]; simp
      have HTK := Lib.hid htk
      have H := Lib.hid (put_any x hr1.1 _ _ _ _ hown (by omega) hsz)
      clear htk hx
      go_wp2_with (go_at_call 30; refine H.out.mono ?_; rintro e w1 ⟨v', rfl, hown1, hB1⟩)
      go_roundw
      case rel => exact ⟨k + 1, by go_num, by omega, by rw [HTK.out]; exact hown1, hb.trans hB1⟩
      case measure => simp [intOf]; omega
    · obtain rfl : k = l.length := by omega
      rw [List.take_length] at hown
      have hcv : ∀ v w, w.ownsRow (W.heap.size + 1) 5 1 v (l.flatMap enc).length (Lib.byteCells (l.flatMap enc)) → (convert 69 9 v).run Try.prog w = .ok (.string (txt l)) w := fun v w h => own_string Try.underlying69 Try.underlying5 Try.underlying9 h rfl
      have hc := hcv _ _ hown
      clear hcv
      go_wp2
      go_ret
      exact ⟨rfl, ((Below.refl _ _).alloc (Nat.le_refl _) _).trans (hb.mono (Nat.le_succ _))⟩
end Go.Proofs.Ythbejpgeohhppaa
