/- Lists of rosters and of texts, for the law RosterAll. -/
import Derived.Test.YthbejpgeohhppaaWalkParses
import Derived.Test.YthbejpgeohhppaaRefPrint
import Derived.Test.YthbejpgeohhppaaShape
import Derived.Maps.AppendAt
namespace Go.Proofs.Ythbejpgeohhppaa
set_option linter.unusedVariables false
set_option linter.unusedSimpArgs false
open Go.RowKit Go.Maps

theorem Try.infoRost : (Try.prog.info? 25).map (fun i => (i.zero, i.size, i.bytes)) = some (some (.agg #[.string ⟨#[]⟩, .slice none 0 0, .map none]), 3, 48) := by kernel_rfl
theorem Try.infoRef4 : (Try.prog.info? 31).map (fun i => (i.zero, i.size, i.bytes)) = some (some (.agg #[.slice none 0 0]), 1, 24) := by kernel_rfl
/-- Texts in a row. -/
def StrAt (W : World) (a : Option Addr) (ts : List ByteArray) : Prop := ∀ i s, ts[i]? = some s → ∃ b, a = some b ∧ W.cell? (b.add i) = some (.string s)
theorem StrAt.below {W W' : World} {a : Option Addr} {ts : List ByteArray} (h : StrAt W a ts) (hb : Below W.heap.size W W') : StrAt W' a ts := fun i s hi => by
  obtain ⟨b, e, hc⟩ := h i s hi
  exact ⟨b, e, (hb.cell (cell_lt hc)).trans hc⟩
theorem shl_str {W : World} : ∀ {x : List Value}, ShL W [.str] x → ∃ s : ByteArray, x = [.string s] ∧ s.size ≤ maxLen
  | [v], h => by obtain ⟨⟨s, rfl, hs⟩, _⟩ := h; exact ⟨s, rfl, hs⟩
  | [], h => h.elim
  | _ :: _ :: _, h => h.2.elim
def strO : List Value → ByteArray
  | [.string s] => s
  | _ => ByteArray.empty
theorem RowsS.strs {W : World} {v : Value} {xs : List (List Value)} (h : RowsS W [.str] v xs) : ∃ a cap ts, v = .slice a ts.length cap ∧ ts.length ≤ cap ∧ (∀ s ∈ ts, s.size ≤ maxLen) ∧ StrAt W a ts := by
  obtain ⟨a, cap, rfl, h1, h2, h3⟩ := h
  refine ⟨a, cap, xs.map strO, by rw [List.length_map], by rw [List.length_map]; exact h1, ?_, ?_⟩
  · intro s hs
    obtain ⟨x, hx, rfl⟩ := List.mem_map.1 hs
    obtain ⟨i, hi⟩ := List.getElem?_of_mem hx
    obtain ⟨hh, _⟩ := h3 i x hi
    obtain ⟨s, rfl, hsz⟩ := shl_str hh
    exact hsz
  · intro i s hi
    rw [List.getElem?_map] at hi
    obtain ⟨x, hx, rfl⟩ := Option.map_eq_some_iff.1 hi
    obtain ⟨hh, g, o, rfl, hg, hc⟩ := h3 i x hx
    obtain ⟨s, rfl, _⟩ := shl_str hh
    exact ⟨_, rfl, by rw [add_midS]; have := hc 0 (.string s) rfl; simpa [strO] using this⟩
theorem flat_get {α β : Type} (f : α → List β) (n : Nat) : ∀ (L : List α), (∀ x ∈ L, (f x).length = n) → ∀ (i j : Nat) (x : α), L[i]? = some x → j < n → (L.flatMap f)[i * n + j]? = (f x)[j]?
  | [], _, i, j, x, hx, _ => by simp at hx
  | a :: L, hf, i, j, x, hx, hj => by
    have ha := hf a (by simp)
    rw [List.flatMap_cons]
    cases i with
    | zero =>
      obtain rfl : a = x := by simpa using hx
      rw [Nat.zero_mul, Nat.zero_add, List.getElem?_append_left (by omega)]
    | succ i =>
      rw [List.getElem?_append_right (by rw [ha, Nat.succ_mul]; omega), ha, Nat.succ_mul, show i * n + n + j - n = i * n + j by omega]
      exact flat_get f n L (fun y hy => hf y (by simp [hy])) i j x (by simpa using hx) hj
/-- A roster, the document's, what both hold, the text. -/
structure Pr where
  v : Value
  u : Value
  o : Option (List Nat)
  s : ByteArray
def RAll (W : World) (B : Nat) (L : List Pr) : Prop := ∀ p ∈ L, RostAt W B p.v p.o ∧ RefAt W B p.u p.o ∧ ∃ a x, readV p.s = (p.o, a, x)
def lC (L : List Pr) : List Value := L.flatMap fun p => p.v.cells.toList
def mC (L : List Pr) : List Value := L.flatMap fun p => p.u.cells.toList
theorem RAll.below {W W' : World} {B : Nat} {L : List Pr} (h : RAll W B L) (hb : Below W.heap.size W W') : RAll W' B L := fun p hp => ⟨(h p hp).1.below hb, (h p hp).2.1.below hb, (h p hp).2.2⟩
theorem RostAt.grown2 {W W' : World} {B : Nat} {v : Value} {o : Option (List Nat)} {ob : Option Nat} (h : RostAt W B v o) (hg : W.grownBy W' ob) (hk : ∀ k, ob = some k → ∃ cs T fz, W.heap[k]? = some (.cells cs T fz) ∧ T ≠ 21) : RostAt W' B v o := by
  cases o with
  | none => exact h
  | some l =>
    obtain ⟨sv, b, D, rfl, h1, ⟨h2, h3⟩, h4⟩ := h
    refine ⟨sv, b, D, rfl, h1.kept hg ?_, ⟨h2.kept hg ?_, h3⟩, h4⟩
    · rcases h1.2 with ⟨h, _⟩ | ⟨g, cap, cur, rfl, _, hh, _⟩
      · exact .inl (by rw [h]; rfl)
      · refine .inr fun e => ?_
        obtain ⟨cs, T, fz, hc, hT⟩ := hk g e.symm
        rw [hh] at hc
        injection hc with hc
        injection hc with _ hc
        exact hT hc.symm
    · intro e
      obtain ⟨cs, T, fz, hc, hT⟩ := hk b e.symm
      obtain ⟨es, c, hb, _⟩ := h2
      rw [hb] at hc
      cases hc
theorem RefAt.grown2 {W W' : World} {B : Nat} {v : Value} {o : Option (List Nat)} {ob : Option Nat} (h : RefAt W B v o) (hg : W.grownBy W' ob) (hk : ∀ k, ob = some k → ∃ cs T fz, W.heap[k]? = some (.cells cs T fz) ∧ T ≠ 3) : RefAt W' B v o := by
  cases o with
  | none => exact h
  | some l =>
    obtain ⟨sv, rfl, h1⟩ := h
    refine ⟨sv, rfl, h1.kept hg ?_⟩
    rcases h1.2 with ⟨h, _⟩ | ⟨g, cap, cur, rfl, _, hh, _⟩
    · exact .inl (by rw [h]; rfl)
    · refine .inr fun e => ?_
      obtain ⟨cs, T, fz, hc, hT⟩ := hk g e.symm
      rw [hh] at hc
      injection hc with hc
      injection hc with _ hc
      exact hT hc.symm
theorem RostAt.base {W : World} {B B' : Nat} {v : Value} {o : Option (List Nat)} (h : RostAt W B v o) (hb : B' ≤ B) : RostAt W B' v o := by
  cases o with
  | none => exact h
  | some l =>
    obtain ⟨sv, b, D, rfl, h1, h2, h4⟩ := h
    exact ⟨sv, b, D, rfl, ownsRow_base h1 hb, h2, Nat.le_trans hb h4⟩
theorem RefAt.base {W : World} {B B' : Nat} {v : Value} {o : Option (List Nat)} (h : RefAt W B v o) (hb : B' ≤ B) : RefAt W B' v o := by
  cases o with
  | none => exact h
  | some l =>
    obtain ⟨sv, rfl, h1⟩ := h
    exact ⟨sv, rfl, ownsRow_base h1 hb⟩
theorem row_block {W : World} {B n sz : Nat} {t : TypeId} {v : Value} {xs : List Value} (h : W.ownsRow B t sz v n xs) : ∀ k, v.ownBlock = some k → ∃ cs T fz, W.heap[k]? = some (.cells cs T fz) ∧ T = t := by
  intro k e
  rcases h.2 with ⟨rfl, _⟩ | ⟨g, cap, cur, rfl, _, hh, _⟩
  · cases e
  · cases e; exact ⟨_, _, _, hh, rfl⟩
theorem RAll.grown {W W' : World} {B n sz : Nat} {t : TypeId} {v : Value} {xs : List Value} {L : List Pr} (h : RAll W B L) (hown : W.ownsRow B t sz v n xs) (hg : W.grownBy W' v.ownBlock) (h1 : t ≠ 21) (h2 : t ≠ 3) : RAll W' B L := fun p hp => by
  refine ⟨(h p hp).1.grown2 hg fun k e => ?_, (h p hp).2.1.grown2 hg fun k e => ?_, (h p hp).2.2⟩
  · obtain ⟨cs, T, fz, a, b⟩ := row_block hown k e; exact ⟨cs, T, fz, a, b ▸ h1⟩
  · obtain ⟨cs, T, fz, a, b⟩ := row_block hown k e; exact ⟨cs, T, fz, a, b ▸ h2⟩
theorem other_grown {W W' : World} {B B' n n' sz sz' : Nat} {t t' : TypeId} {v v' : Value} {xs xs' : List Value} (h : W.ownsRow B t sz v n xs) (hown : W.ownsRow B' t' sz' v' n' xs') (hg : W.grownBy W' v'.ownBlock) (hne : t' ≠ t) : W'.ownsRow B t sz v n xs := by
  refine h.kept hg ?_
  rcases h.2 with ⟨h, _⟩ | ⟨g, cap, cur, rfl, _, hh, _⟩
  · exact .inl (by rw [h]; rfl)
  · refine .inr fun e => ?_
    obtain ⟨cs, T, fz, a, b⟩ := row_block hown g e.symm
    rw [hh] at a
    injection a with a
    injection a with _ a
    exact hne (b ▸ a.symm)
set_option maxRecDepth 100000 in
theorem refRead_all (s : ByteArray) (hs : s.size ≤ 9223372036854775807) (w : World) : Calls Try.prog 13 #[.string s] w (RefReadP s w) := by
  by_cases hlong : 65536 < s.size
  · go_enter Try.func13, Try.ntmps13
    go_wp2
    exact bodyPost_ret (v := .tuple #[rr0, .int .i64 ((0 : Nat) : Int), .int .i64 2]) (by simp [results, Try.results13, go_sem]) rfl (RefReadP.none (by simp [readV, hlong]) ((Below.refl _ _).alloc (Nat.le_refl _) _))
  · exact refRead_any s (by omega) w
end Go.Proofs.Ythbejpgeohhppaa
