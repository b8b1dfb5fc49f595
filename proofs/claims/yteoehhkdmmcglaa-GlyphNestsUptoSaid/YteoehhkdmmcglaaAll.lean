/- Walks: glyph.All, and the iterator that it hands back: it gives the places and runes of the characters, in order, as far as it is asked. -/
import Derived.RangeFuncNested
import Derived.RangeFuncBound
import Derived.RangeFuncBox
import Derived.RangeFuncCalls
import Derived.RangeFuncLeaves
import Derived.Shelf.Abstract
import Derived.Shelf.RegionOpen
import Derived.OwnWalkIn
import Derived.TacticsInMore
import Derived.LoopNIn
import Derived.LoopIn
import Derived.Test.YteoehhkdmmcglaaRows
import Derived.Test.YteoehhkdmmcglaaWorld
import Derived.Test.YteoehhkdmmcglaaChars
namespace Go.Proofs.Yteoehhkdmmcglaa
set_option linter.unusedVariables false
open Go.RowKit Go.Shelf

/-- What a slice owns speaks of cells alone. -/
theorem row_own {β : Type} (n₀ : Nat) (e : TypeId) (size : Nat) (v : Value) (k : Nat) (xs : List Value) : Own (fun (_ : β) W => W.ownsRow n₀ e size v k xs) := by
  intro s X Y row hr hg hrow
  refine hr.kept hg ?_
  rcases hr.2 with ⟨rfl, _⟩ | ⟨g, cap, cur, rfl, _, hgb, _⟩
  · exact .inl rfl
  · refine .inr fun e' => ?_
    obtain ⟨o, ho, hc⟩ := hrow g (by simpa [Value.ownBlock] using e'.symm)
    rw [hgb] at ho; cases ho; cases hc

theorem keeps_below {W W' : World} (h : Below W.heap.size W W') : KeepsOthers W W' := ⟨h.size, fun k o hk _ => blk_below' h hk⟩

theorem snoc_get {l pre : List Nat} {x : Nat} (h : pre ++ [x] <+: l) : l[pre.length]? = some x := by
  obtain ⟨t, rfl⟩ := h; simp
theorem snoc_of_get {l pre : List Nat} {x : Nat} (h : pre <+: l) (hx : l[pre.length]? = some x) : pre ++ [x] <+: l := by
  obtain ⟨t, rfl⟩ := h
  cases t with
  | nil => simp at hx
  | cons y t => simp at hx; subst hx; exact ⟨t, by simp⟩

abbrev allEnc (s : ByteArray) (p : Nat) : Array Value := #[.int .i64 p, .int .i32 (rn s p)]

set_option maxHeartbeats 400000 in
theorem all_any (s : ByteArray) (w : World) :
    Calls Try.prog 16 #[.string s] w fun e w' => e = .returned (.func (.func 39) #[] #[.pointer (some ⟨w.heap.size, 0, none⟩)]) ∧ w.alloc (.cells #[.string s] 9) = w' := by
  go_enter Try.func16, Try.ntmps16
  go_wp2
  go_ret
  exact ⟨rfl, rfl⟩

set_option maxHeartbeats 1000000 in
theorem all1_stops (s : ByteArray) (n : Nat) (hn : 1 ≤ n) (w : World) (Bs : Nat) (hs : w.heap[Bs]? = some (.cells #[.string s] 9 (0, 0))) :
    SeqStopsA Fence.wide n Try.prog 39 #[.pointer (some ⟨Bs, 0, none⟩)] (allEnc s) (fun xs => xs = st s 0) (fun pre => pre <+: st s 0) (st s 0).length w := fun l J Jx W hW hJ hJx hY h0 => by
  have hs1 := blk_below hW hs (blk_lt hs)
  obtain ⟨c0, f0⟩ := one_cell hs1
  refine callsIn_of_wp Try.func39 rfl trivial ?_ rfl
  simp only [Try.ntmps39, List.size_toArray, List.length_cons, List.length_nil, Nat.reduceAdd, Nat.reduceSub, Array.replicate_succ, Array.replicate_zero, List.push_toArray, List.append_toArray, List.nil_append, List.cons_append]
  gi_wp2
  gi_loopw [] (fun wr => ∃ pos : Nat, ∃ pre : List Nat, wr.heap[W.heap.size]? = some (.stringIter s pos) ∧ Hid (st s 0 = pre ++ st s pos) ∧ J pre wr ∧ W.heap.size ≤ wr.heap.size) (fun wr => s.size - wr.iterPos W.heap.size)
  case atStart =>
    exact ⟨0, [], blk_new W _, rfl, hJ _ W _ none h0 (World.grownBy_alloc W _ none) (fun r e => by cases e), by simp [World.iter]⟩
  case round =>
    obtain ⟨pos, pre, hit, hpre, hJs, hz⟩ := hrel
    have hpos := iterPos_of hit
    by_cases hp : pos < s.size
    · obtain ⟨W1, hnx, hit1, hg, hz1⟩ := next_at Try.prog hit hp
      have hJ1 : J pre W1 := hJ _ wr _ _ hJs hg (fun r e => by cases e; exact ⟨Nat.le_refl _, _, hit, rfl⟩)
      have hlen : pre.length < (st s 0).length := by rw [hpre.out, st_cons hp]; simp
      have hw := wd_bd s pos hp
      obtain ⟨fn, tmps, assign, body, hy, hR⟩ := hY pre pos W1 hJ1 hlen
      dsimp only [allEnc] at hy
      have HP := Lib.hid hpos
      have HR := Lib.hid hR
      clear hpos hit hJs hg hY hR hJ hJx h0
      gi_wp2
      refine HR.out.mono ?_
      rintro e W' (⟨rfl, hJ', hk⟩ | ⟨rfl, hJx'⟩)
      · have hit' := hk.same _ _ hit1 rfl
        have hz' := hk.size
        gi_wp2
        go_roundw
        case rel => exact ⟨pos + wd s pos, pre ++ [pos], hit', by show _ = _; rw [hpre.out, st_cons hp]; simp, hJ', by omega⟩
        case measure => rw [iterPos_of hit', HP.out]; omega
      · gi_wp2
        refine bodyPost_ret (results_none rfl _ _ _) rfl ?_
        exact ⟨⟨_, rfl⟩, .inr ⟨pre ++ [pos], ⟨st s (pos + wd s pos), by rw [hpre.out, st_cons hp]; simp⟩, hJx'⟩⟩
    · have hnx := next_end Try.prog hit hp
      clear hpos hit hY hJ hJx h0
      gi_wp2
      go_end0
      exact ⟨⟨_, rfl⟩, .inl ⟨pre, by rw [hpre.out, st_nil hp]; simp, hJs⟩⟩

abbrev allEncS (s : ByteArray) (p : { p : Nat // p < s.size }) : Array Value := #[.int .i64 p.1, .int .i32 (rn s p.1)]

set_option maxHeartbeats 1000000 in
theorem all1_stopsS (s : ByteArray) (n : Nat) (hn : 1 ≤ n) (w : World) (Bs : Nat) (hs : w.heap[Bs]? = some (.cells #[.string s] 9 (0, 0))) :
    SeqStopsA Fence.wide n Try.prog 39 #[.pointer (some ⟨Bs, 0, none⟩)] (allEncS s) (fun xs => xs.map (·.1) = st s 0) (fun pre => pre.map (·.1) <+: st s 0) (st s 0).length w := fun l J Jx W hW hJ hJx hY h0 => by
  have hs1 := blk_below hW hs (blk_lt hs)
  obtain ⟨c0, f0⟩ := one_cell hs1
  refine callsIn_of_wp Try.func39 rfl trivial ?_ rfl
  simp only [Try.ntmps39, List.size_toArray, List.length_cons, List.length_nil, Nat.reduceAdd, Nat.reduceSub, Array.replicate_succ, Array.replicate_zero, List.push_toArray, List.append_toArray, List.nil_append, List.cons_append]
  gi_wp2
  gi_loopw [] (fun wr => ∃ pos : Nat, ∃ pre : List { p : Nat // p < s.size }, wr.heap[W.heap.size]? = some (.stringIter s pos) ∧ Hid (st s 0 = pre.map (·.1) ++ st s pos) ∧ J pre wr ∧ W.heap.size ≤ wr.heap.size) (fun wr => s.size - wr.iterPos W.heap.size)
  case atStart =>
    exact ⟨0, [], blk_new W _, rfl, hJ _ W _ none h0 (World.grownBy_alloc W _ none) (fun r e => by cases e), by simp [World.iter]⟩
  case round =>
    obtain ⟨pos, pre, hit, hpre, hJs, hz⟩ := hrel
    have hpos := iterPos_of hit
    by_cases hp : pos < s.size
    · obtain ⟨W1, hnx, hit1, hg, hz1⟩ := next_at Try.prog hit hp
      have hJ1 : J pre W1 := hJ _ wr _ _ hJs hg (fun r e => by cases e; exact ⟨Nat.le_refl _, _, hit, rfl⟩)
      have hlen : pre.length < (st s 0).length := by have := congrArg List.length hpre.out; rw [st_cons hp] at this; simp at this; omega
      have hw := wd_bd s pos hp
      obtain ⟨fn, tmps, assign, body, hy, hR⟩ := hY pre ⟨pos, hp⟩ W1 hJ1 hlen
      dsimp only [allEncS] at hy
      have HP := Lib.hid hpos
      have HR := Lib.hid hR
      clear hpos hit hJs hg hY hR hJ hJx h0
      gi_wp2
      refine HR.out.mono ?_
      rintro e W' (⟨rfl, hJ', hk⟩ | ⟨rfl, hJx'⟩)
      · have hit' := hk.same _ _ hit1 rfl
        have hz' := hk.size
        gi_wp2
        go_roundw
        case rel => exact ⟨pos + wd s pos, pre ++ [⟨pos, hp⟩], hit', by show _ = _; rw [hpre.out, st_cons hp]; simp, hJ', by omega⟩
        case measure => rw [iterPos_of hit', HP.out]; omega
      · gi_wp2
        refine bodyPost_ret (results_none rfl _ _ _) rfl ?_
        exact ⟨⟨_, rfl⟩, .inr ⟨pre ++ [⟨pos, hp⟩], ⟨st s (pos + wd s pos), by rw [hpre.out, st_cons hp]; simp⟩, hJx'⟩⟩
    · have hnx := next_end Try.prog hit hp
      clear hpos hit hY hJ hJx h0
      gi_wp2
      go_end0
      exact ⟨⟨_, rfl⟩, .inl ⟨pre, by rw [hpre.out, st_nil hp]; simp, hJs⟩⟩

end Go.Proofs.Yteoehhkdmmcglaa
