/- The book of lists that were answered: lists of bytes, and copies, each in memory of its own. -/
import Derived.Test.YtpfiaepoibablaaRead
import Derived.Test.YtpfiaepoibablaaCells
import Derived.Test.YtpfiaepoibablaaEarly
import Derived.Test.YtpfiaepoibablaaFloat
import Derived.Maps.AppendAt
namespace Go.Proofs.Ytpfiaepoibablaa
set_option linter.unusedVariables false
set_option linter.unusedSimpArgs false
open Go.RowKit

theorem Try.infoSl : (Try.prog.info? 22).map (fun i => (i.zero, i.size, i.bytes)) = some (some (.slice none 0 0), 1, 24) := by kernel_rfl
def obs (v : Value) : List Nat := v.ownBlock.toList
theorem obs_mem {v : Value} {g : Nat} : g ∈ obs v ↔ v.ownBlock = some g := by unfold obs; cases v.ownBlock <;> simp [eq_comm]
theorem ownsRow_same {W X : World} {base : Nat} {e : TypeId} {size : Nat} {v : Value} {n : Nat} {xs : List Value} (h : W.ownsRow base e size v n xs) (hk : ∀ g ∈ obs v, X.heap[g]? = W.heap[g]?) : X.ownsRow base e size v n xs := by
  refine ⟨h.1, ?_⟩
  rcases h.2 with hn | ⟨g, cap, cur, rfl, hb, hg, rest⟩
  · exact .inl hn
  · exact .inr ⟨g, cap, cur, rfl, hb, (hk g (obs_mem.2 rfl)).trans hg, rest⟩
theorem ownsRow_obs {W : World} {base : Nat} {e : TypeId} {size : Nat} {v : Value} {n : Nat} {xs : List Value} (h : W.ownsRow base e size v n xs) : ∀ g ∈ obs v, base ≤ g ∧ g < W.heap.size := fun g hg => h.lt g (obs_mem.1 hg)
/-- One list: as it was answered, its copy, what it holds. -/
structure Ls where
  v : Value
  u : Value
  l : List Nat
  t : TypeId
def Ls.bl (x : Ls) : List Nat := obs x.v ++ obs x.u
def bookC (vb vw : Value) : Array Value := #[.slice none 0 0, .slice none 0 0, .slice none 0 0, .slice none 0 0, .slice none 0 0, .slice none 0 0, .slice none 0 0, .slice none 0 0, vb, vw, .slice none 0 0, .slice none 0 0, .slice none 0 0, .slice none 0 0, .slice none 0 0, .slice none 0 0, .slice none 0 0, .slice none 0 0, .slice none 0 0, .slice none 0 0, .slice none 0 0, .slice none 0 0, .slice none 0 0, .slice none 0 0]
def bkB (K : Nat) (vb vw : Value) (L : List Ls) : List Nat := K :: (obs vb ++ (obs vw ++ L.flatMap Ls.bl))
structure Bk (W : World) (base K : Nat) (vb vw : Value) (L : List Ls) : Prop where
  box : W.heap[K]? = some (.cells (bookC vb vw) 41 (0, 0))
  rb : W.ownsRow base 22 1 vb L.length (L.map Ls.v)
  rw : W.ownsRow base 22 1 vw L.length (L.map Ls.u)
  own : ∀ x ∈ L, W.ownsRow base x.t 1 x.v x.l.length (bC x.l)
  was : ∀ x ∈ L, W.ownsRow base 5 1 x.u x.l.length (bC x.l)
  nd : (bkB K vb vw L).Nodup
  ge : base ≤ K
  few : L.length ≤ 400
  short : ∀ x ∈ L, x.l.length ≤ 1000
  ty : ∀ x ∈ L, x.t = 5 ∨ ∃ a, x.v = .slice a x.l.length x.l.length
theorem Bk.lt {W : World} {base K : Nat} {vb vw : Value} {L : List Ls} (h : Bk W base K vb vw L) : ∀ g ∈ bkB K vb vw L, base ≤ g ∧ g < W.heap.size := by
  intro g hg
  unfold bkB at hg
  simp only [List.mem_cons, List.mem_append, List.mem_flatMap] at hg
  rcases hg with rfl | hg | hg | ⟨x, hx, hg⟩
  · exact ⟨h.ge, blk_lt h.box⟩
  · exact ownsRow_obs h.rb g hg
  · exact ownsRow_obs h.rw g hg
  · unfold Ls.bl at hg
    rcases List.mem_append.1 hg with hg | hg
    · exact ownsRow_obs (h.own x hx) g hg
    · exact ownsRow_obs (h.was x hx) g hg
theorem Bk.keep {W X : World} {base K : Nat} {vb vw : Value} {L : List Ls} (h : Bk W base K vb vw L) (hk : ∀ g ∈ bkB K vb vw L, X.heap[g]? = W.heap[g]?) : Bk X base K vb vw L := by
  have hm : ∀ x ∈ L, ∀ g ∈ x.bl, g ∈ bkB K vb vw L := fun x hx g hg => by
    unfold bkB; simp only [List.mem_cons, List.mem_append, List.mem_flatMap]; exact .inr (.inr (.inr ⟨x, hx, hg⟩))
  exact ⟨(hk K (by simp [bkB])).trans h.box, ownsRow_same h.rb (fun g hg => hk g (by simp [bkB, hg])), ownsRow_same h.rw (fun g hg => hk g (by simp [bkB, hg])),
    fun x hx => ownsRow_same (h.own x hx) (fun g hg => hk g (hm x hx g (by simp [Ls.bl, hg]))), fun x hx => ownsRow_same (h.was x hx) (fun g hg => hk g (hm x hx g (by simp [Ls.bl, hg]))), h.nd, h.ge, h.few, h.short, h.ty⟩
theorem Bk.below {W X : World} {base K : Nat} {vb vw : Value} {L : List Ls} (h : Bk W base K vb vw L) (hb : Below W.heap.size W X) : Bk X base K vb vw L := h.keep fun g hg => hb.block g (h.lt g hg).2
theorem Bk.new {w W : World} {K : Nat} (hK : W.heap[K]? = some (.cells (bookC (.slice none 0 0) (.slice none 0 0)) 41 (0, 0))) {base : Nat} (hb : base ≤ K) : Bk W base K (.slice none 0 0) (.slice none 0 0) [] :=
  ⟨hK, World.ownsRow_nil _ _ _ _, World.ownsRow_nil _ _ _ _, by simp, by simp, by simp [bkB, obs, Value.ownBlock], hb, by simp, by simp, by simp⟩
/-- What changes when a list is put into the book: its own block and its two rows; new blocks. -/
structure BkF (W X : World) (K : Nat) (vb vw : Value) : Prop where
  os : X.os = W.os
  tape : X.tape = W.tape
  output : X.output = W.output
  size : W.heap.size ≤ X.heap.size
  block : ∀ k, k < W.heap.size → k ≠ K → k ∉ obs vb → k ∉ obs vw → X.heap[k]? = W.heap[k]?
theorem BkF.low {W X : World} {K base : Nat} {vb vw : Value} {L : List Ls} (h : BkF W X K vb vw) (hB : Bk W base K vb vw L) (hs : base ≤ W.heap.size) : Below base W X :=
  ⟨h.os, h.tape, h.output, by have := h.size; omega, fun k hk => by
    refine h.block k (by omega) (fun e => ?_) (fun e => ?_) (fun e => ?_)
    · have := hB.ge; omega
    · have := (ownsRow_obs hB.rb k e).1; omega
    · have := (ownsRow_obs hB.rw k e).1; omega⟩

/-- The marks of a list. -/
def markL (i from_ n : Nat) : List Nat := (List.range n).map fun j => (i * 31 + (from_ + j) * 7 + i / 7) % 251
theorem markL_len (i f n : Nat) : (markL i f n).length = n := by simp [markL]
theorem markL_succ (i f n : Nat) : markL i f (n + 1) = markL i f n ++ [(i * 31 + (f + n) * 7 + i / 7) % 251] := by
  unfold markL; rw [List.range_succ, List.map_append]; rfl
theorem markL_app (i f m n : Nat) : markL i f (m + n) = markL i f m ++ markL i (f + m) n := by
  induction n with
  | zero => simp [markL]
  | succ n ih => rw [← Nat.add_assoc, markL_succ, ih, markL_succ, List.append_assoc, Nat.add_assoc f m n]
theorem bC_app (a b : List Nat) : bC (a ++ b) = bC a ++ bC b := by unfold bC; rw [List.map_append]
set_option maxRecDepth 100000 in
set_option maxHeartbeats 1000000 in
theorem mark_any (i f n : Nat) (w : World) (hi : i ≤ 1000) (hf : f ≤ 2000) (hn : n ≤ 2000) :
    Calls Try.prog 97 #[.int .i64 (i : Int), .int .i64 (f : Int), .int .i64 (n : Int)] w fun e w' => ∃ v, e = .returned v ∧ w'.ownsRow w.heap.size 5 1 v n (bC (markL i f n)) ∧ Below w.heap.size w w' := by
  obtain ⟨i0, hi0, hz0, hz1, hz2⟩ := info_parts Try.infoByte
  have b1 : (i : Int) ≤ 1000 := by omega
  have b2 : (f : Int) ≤ 2000 := by omega
  have b3 : (n : Int) ≤ 2000 := by omega
  go_enter Try.func97, Try.ntmps97
  go_wp2
  go_loopw [7, 8] (fun v k wr => ∃ j : Nat, j ≤ n ∧ k = .int .i64 ((f + j : Nat) : Int) ∧ Hid (wr.ownsRow w.heap.size 5 1 v j (bC (markL i f j))) ∧ Below w.heap.size w wr) (fun _ k _ => f + n - (intOf k).toNat)
  case atStart => exact ⟨0, Nat.zero_le _, rfl, World.ownsRow_nil _ _ _ _, Below.refl _ _⟩
  case round =>
    obtain ⟨j, hj, rfl, hown, hbl⟩ := hrel
    by_cases hlt : j < n
    · have b4 : ((f + j : Nat) : Int) < (f : Int) + (n : Int) := by omega
      have b5 : ((f + j : Nat) : Int) ≤ 4000 := by omega
      have b6 : (0 : Int) ≤ ((f + j : Nat) : Int) := by omega
      obtain ⟨x, hx⟩ : ∃ x : Nat, f + j = x := ⟨_, rfl⟩
      rw [hx] at b4 b5 b6 ⊢
      have hm : (((i : Int) * 31 + (x : Int) * 7 + (i : Int) / 7) % 251) = (((i * 31 + x * 7 + i / 7) % 251 : Nat) : Int) := by omega
      have HM := Lib.hid hm
      have HBL := Lib.hid hbl
      have hsz : w.heap.size ≤ wr.heap.size := hbl.size
      have hnl : j ≤ 2000 := by omega
      have HX := Lib.hid hx
      clear hm hbl hx
      go_wp2_with (at_builtin; refine wpList_append_own _ rfl _ _ 22 rfl w.heap.size 5 i0 (.int .u8 0) 1 1 Try.underlying22 hi0 hz0 hz1 hz2 rfl (by decide) _ _ _ rfl (hown.out.alloc _) ⟨wr.heap.size, 0, none⟩ 1 1 [.int .u8 (((i : Int) * 31 + (x : Int) * 7 + (i : Int) / 7) % 251)] rfl rfl (cell_one_new wr _ _) (by simp; rfl) (by unfold maxLen; omega) (by omega) (by simp; omega) ?_; intro v' w4 hown4 hg4 _)
      have hb4 := (HBL.out.alloc (o := .cells #[.int .u8 (((i : Int) * 31 + (x : Int) * 7 + (i : Int) / 7) % 251)] 5) hsz).grown hg4 (by simp; omega) (fun k hk => (hown.out.lt _ hk).1)
      rw [HM.out, ← HX.out, show ([.int .u8 (((i * 31 + (f + j) * 7 + i / 7) % 251 : Nat) : Int)] : List Value) = bC [(i * 31 + (f + j) * 7 + i / 7) % 251] from rfl, ← bC_app, ← markL_succ] at hown4
      have HO4 := Lib.hid hown4
      clear hown4 hg4 hown HM
      go_wp2
      go_roundw
      case rel => exact ⟨j + 1, by omega, by rw [← Nat.add_assoc, HX.out]; go_num, HO4.out, hb4⟩
      case measure => simp [intOf]; omega
    · have b4 : ¬ ((f + j : Nat) : Int) < (f : Int) + (n : Int) := by omega
      obtain rfl : j = n := by omega
      go_wp2
      go_ret
      exact ⟨_, rfl, hown.out, hbl⟩
end Go.Proofs.Ytpfiaepoibablaa
