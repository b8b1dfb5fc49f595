/- Walk: earshotref1.Put, behind bytes that the caller owns. -/
import Derived.Test.YthbejpgeohhppaaChecked
import Derived.Test.YthbejpgeohhppaaRow
import Derived.Test.YthbejpgeohhppaaRunes
namespace Go.Proofs.Ythbejpgeohhppaa
set_option linter.unusedVariables false
open Go.RowKit

theorem Try.infoByte : (Try.prog.info? 5).map (fun i => (i.zero, i.size, i.bytes)) = some (some (.int .u8 0), 1, 1) := by kernel_rfl
def PutP (l : List UInt8) (r base : Nat) (w : World) (e : Ending) (w' : World) : Prop := ∃ v', e = .returned v' ∧ w'.ownsRow base 5 1 v' (l ++ enc r).length (Lib.byteCells (l ++ enc r)) ∧ Below base w w'
theorem byteCells_nums (l : List Nat) (h : ∀ x ∈ l, x < 256) : Lib.byteCells (l.map UInt8.ofNat) = l.map fun x : Nat => Value.int .u8 (x : Int) := by
  simp only [Lib.byteCells, List.map_map]
  refine List.map_congr_left fun x hx => ?_
  have := h x hx
  simp; omega
theorem encN_lt {r : Nat} (hr : r ≤ 0x10FFFF) : ∀ x ∈ encN r, x < 256 := by
  intro x hx
  unfold encN at hx
  by_cases h1 : r ≤ 127
  · rw [if_pos h1] at hx; simp at hx; omega
  by_cases h2 : r ≤ 2047
  · rw [if_neg h1, if_pos h2] at hx; simp at hx; omega
  by_cases h3 : r ≤ 65535
  · rw [if_neg h1, if_neg h2, if_pos h3] at hx; simp at hx; omega
  · rw [if_neg h1, if_neg h2, if_neg h3] at hx; simp at hx; omega
theorem put_end {r base n : Nat} {l : List UInt8} {w w' : World} {v' : Value} {cs : List Value} (hr : r ≤ 0x10FFFF) (he : (encN r).map (fun x : Nat => Value.int .u8 (x : Int)) = cs)
    (h : w'.ownsRow base 5 1 v' (l.length + n) (Lib.byteCells l ++ cs)) (hn : cs.length = n) (hb : Below base w w') : PutP l r base w (.returned v') w' := by
  refine ⟨v', rfl, ?_, hb⟩
  rw [byteCells_app, show enc r = (encN r).map UInt8.ofNat from rfl, byteCells_nums _ (encN_lt hr), he, List.length_append]
  have : (encN r).length = n := by rw [← hn, ← he, List.length_map]
  rw [show (List.map UInt8.ofNat (encN r)).length = n from by rw [List.length_map, this]]; exact h

set_option maxRecDepth 100000 in
set_option maxHeartbeats 1000000 in
theorem put_1 (r : Nat) (hr : (r : Int) < 128) (v : Value) (l : List UInt8) (base : Nat) (w : World) (h : w.ownsRow base 5 1 v l.length (Lib.byteCells l)) (hl : l.length ≤ 70368744177664) (hb : base ≤ w.heap.size) :
    Calls Try.prog 30 #[v, .int .i64 r] w (PutP l r base w) := by
  obtain ⟨i0, hi, hz0, hz1, hz2⟩ := info_parts Try.infoByte
  have he : (encN r).map (fun x : Nat => Value.int .u8 (x : Int)) = [.int .u8 ((r : Int))] := by
    unfold encN
    rw [if_pos (by omega)]
    simp
  have HE := Lib.hid he
  clear he
  go_enter Try.func30, Try.ntmps30
  go_wp2_with (first
    | (at_builtin; refine wpList_append_own _ rfl _ _ 69 rfl base 5 i0 (.int .u8 0) 1 1 Try.underlying69 hi hz0 hz1 hz2 rfl (by decide) _ _ _ rfl (h.alloc _) ⟨w.heap.size, 0, none⟩ 1 1 [.int .u8 ((r : Int))] rfl rfl ?c1 ?c2 ?c3 ?c4 ?c5 ?_))
  case c1 => exact cells_new w [_] _
  case c2 => intro u hu; simp at hu; subst hu; rfl
  case c3 => unfold maxLen; omega
  case c4 => omega
  case c5 => simp; omega
  intro v' w3 hown3 hg3 hv3
  have hB := below_append (Below.refl base w) hb h hg3
  clear h hg3
  go_wp2
  go_ret
  exact put_end (by omega) HE.out hown3 rfl hB

set_option maxRecDepth 100000 in
set_option maxHeartbeats 1000000 in
theorem put_2 (r : Nat) (hr0 : ¬ (r : Int) < 128) (hr : (r : Int) < 2048) (v : Value) (l : List UInt8) (base : Nat) (w : World) (h : w.ownsRow base 5 1 v l.length (Lib.byteCells l)) (hl : l.length ≤ 70368744177664) (hb : base ≤ w.heap.size) :
    Calls Try.prog 30 #[v, .int .i64 r] w (PutP l r base w) := by
  obtain ⟨i0, hi, hz0, hz1, hz2⟩ := info_parts Try.infoByte
  have he : (encN r).map (fun x : Nat => Value.int .u8 (x : Int)) = [.int .u8 (192 + (r : Int) / 64), .int .u8 (128 + (r : Int) % 64)] := by
    unfold encN
    rw [if_neg (by omega), if_pos (by omega)]
    simp
  have HE := Lib.hid he
  clear he
  go_enter Try.func30, Try.ntmps30
  go_wp2_with (first
    | (at_builtin; refine wpList_append_own _ rfl _ _ 69 rfl base 5 i0 (.int .u8 0) 1 1 Try.underlying69 hi hz0 hz1 hz2 rfl (by decide) _ _ _ rfl (h.alloc _) ⟨w.heap.size, 0, none⟩ 2 2 [.int .u8 (192 + (r : Int) / 64), .int .u8 (128 + (r : Int) % 64)] rfl rfl ?c1 ?c2 ?c3 ?c4 ?c5 ?_))
  skip
  case c2 => exact ⟨rfl, rfl⟩
  case c3 => unfold maxLen; omega
  case c4 => omega
  case c5 => omega
  intro v' w3 hown3 hg3 hv3
  have hB := below_append (Below.refl base w) hb h hg3
  clear h hg3
  go_wp2
  go_ret
  exact put_end (by omega) HE.out hown3 rfl hB

set_option maxRecDepth 100000 in
set_option maxHeartbeats 1000000 in
theorem put_3 (r : Nat) (hr0 : ¬ (r : Int) < 2048) (hr1 : ¬ (r : Int) < 128) (hr : (r : Int) < 65536) (v : Value) (l : List UInt8) (base : Nat) (w : World) (h : w.ownsRow base 5 1 v l.length (Lib.byteCells l)) (hl : l.length ≤ 70368744177664) (hb : base ≤ w.heap.size) :
    Calls Try.prog 30 #[v, .int .i64 r] w (PutP l r base w) := by
  obtain ⟨i0, hi, hz0, hz1, hz2⟩ := info_parts Try.infoByte
  have he : (encN r).map (fun x : Nat => Value.int .u8 (x : Int)) = [.int .u8 (224 + (r : Int) / 4096), .int .u8 (128 + (r : Int) / 64 % 64), .int .u8 (128 + (r : Int) % 64)] := by
    unfold encN
    rw [if_neg (by omega), if_neg (by omega), if_pos (by omega)]
    simp
  have HE := Lib.hid he
  clear he
  go_enter Try.func30, Try.ntmps30
  go_wp2_with (first
    | (at_builtin; refine wpList_append_own _ rfl _ _ 69 rfl base 5 i0 (.int .u8 0) 1 1 Try.underlying69 hi hz0 hz1 hz2 rfl (by decide) _ _ _ rfl (h.alloc _) ⟨w.heap.size, 0, none⟩ 3 3 [.int .u8 (224 + (r : Int) / 4096), .int .u8 (128 + (r : Int) / 64 % 64), .int .u8 (128 + (r : Int) % 64)] rfl rfl ?c1 ?c2 ?c3 ?c4 ?c5 ?_))
  skip
  case c2 => exact ⟨rfl, rfl, rfl⟩
  case c3 => unfold maxLen; omega
  case c4 => omega
  case c5 => omega
  intro v' w3 hown3 hg3 hv3
  have hB := below_append (Below.refl base w) hb h hg3
  clear h hg3
  go_wp2
  go_ret
  exact put_end (by omega) HE.out hown3 rfl hB

set_option maxRecDepth 100000 in
set_option maxHeartbeats 1000000 in
theorem put_4 (r : Nat) (hr0 : ¬ (r : Int) < 65536) (hr1 : ¬ (r : Int) < 128) (hr2 : ¬ (r : Int) < 2048) (hr : (r : Int) ≤ 1114111) (v : Value) (l : List UInt8) (base : Nat) (w : World) (h : w.ownsRow base 5 1 v l.length (Lib.byteCells l)) (hl : l.length ≤ 70368744177664) (hb : base ≤ w.heap.size) :
    Calls Try.prog 30 #[v, .int .i64 r] w (PutP l r base w) := by
  obtain ⟨i0, hi, hz0, hz1, hz2⟩ := info_parts Try.infoByte
  have he : (encN r).map (fun x : Nat => Value.int .u8 (x : Int)) = [.int .u8 (240 + (r : Int) / 262144), .int .u8 (128 + (r : Int) / 4096 % 64), .int .u8 (128 + (r : Int) / 64 % 64), .int .u8 (128 + (r : Int) % 64)] := by
    unfold encN
    rw [if_neg (by omega), if_neg (by omega), if_neg (by omega), ]
    simp
  have HE := Lib.hid he
  clear he
  go_enter Try.func30, Try.ntmps30
  go_wp2_with (first
    | (at_builtin; refine wpList_append_own _ rfl _ _ 69 rfl base 5 i0 (.int .u8 0) 1 1 Try.underlying69 hi hz0 hz1 hz2 rfl (by decide) _ _ _ rfl (h.alloc _) ⟨w.heap.size, 0, none⟩ 4 4 [.int .u8 (240 + (r : Int) / 262144), .int .u8 (128 + (r : Int) / 4096 % 64), .int .u8 (128 + (r : Int) / 64 % 64), .int .u8 (128 + (r : Int) % 64)] rfl rfl ?c1 ?c2 ?c3 ?c4 ?c5 ?_))
  skip
  case c2 => exact ⟨rfl, rfl, rfl, rfl⟩
  case c3 => unfold maxLen; omega
  case c4 => omega
  case c5 => omega
  intro v' w3 hown3 hg3 hv3
  have hB := below_append (Below.refl base w) hb h hg3
  clear h hg3
  go_wp2
  go_ret
  exact put_end (by omega) HE.out hown3 rfl hB

theorem put_any (r : Nat) (hr : r ≤ 0x10FFFF) (v : Value) (l : List UInt8) (base : Nat) (w : World) (h : w.ownsRow base 5 1 v l.length (Lib.byteCells l)) (hl : l.length ≤ 70368744177664) (hb : base ≤ w.heap.size) :
    Calls Try.prog 30 #[v, .int .i64 r] w (PutP l r base w) := by
  by_cases h1 : r < 128
  · exact put_1 r (by omega) v l base w h hl hb
  by_cases h2 : r < 2048
  · exact put_2 r (by omega) (by omega) v l base w h hl hb
  by_cases h3 : r < 65536
  · exact put_3 r (by omega) (by omega) (by omega) v l base w h hl hb
  · exact put_4 r (by omega) (by omega) (by omega) (by omega) v l base w h hl hb
end Go.Proofs.Ythbejpgeohhppaa
