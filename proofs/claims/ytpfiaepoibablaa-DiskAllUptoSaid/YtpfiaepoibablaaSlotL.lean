/- Plain laws of a slot's bytes. -/
import Derived.Test.YtpfiaepoibablaaWhole
namespace Go.Proofs.Ytpfiaepoibablaa
set_option linter.unusedVariables false

/-- A number in n bytes, the highest one first. -/
def be (n x : Nat) : List Nat := (List.range n).map fun i => x / 256 ^ (n - 1 - i) % 256
theorem be_len (n x : Nat) : (be n x).length = n := by simp [be]
theorem be_succ (n x : Nat) : be (n + 1) x = (x / 256 ^ n % 256) :: be n x := by
  unfold be
  rw [List.range_succ_eq_map, List.map_cons, List.map_map]
  congr 1
  refine List.map_congr_left fun i hi => ?_
  show x / 256 ^ (n + 1 - 1 - (i + 1)) % 256 = _
  rw [show n + 1 - 1 - (i + 1) = n - 1 - i from by omega]
theorem be_lt (n x : Nat) : ∀ c ∈ be n x, c < 256 := by
  intro c hc
  obtain ⟨i, _, rfl⟩ := List.mem_map.1 hc
  exact Nat.mod_lt _ (by decide)
/-- What the bytes tell; what is too great is told as one number that is. -/
def takeF : Nat → List Nat → Nat
  | x, [] => x
  | x, c :: l => if 281474976710656 ≤ x then 72057594037927936 else takeF (x * 256 + c) l
theorem takeF_be : ∀ (n x y : Nat), x * 256 ^ n + y % 256 ^ n ≤ 281474976710656 → takeF x (be n y) = x * 256 ^ n + y % 256 ^ n
  | 0, x, y, _ => by show x = _; simp [Nat.mod_one]
  | n + 1, x, y, h => by
    have hp : 0 < 256 ^ n := Nat.pow_pos (by decide)
    have hpe : 256 ^ (n + 1) = 256 ^ n * 256 := Nat.pow_succ 256 n
    have hm : y % 256 ^ (n + 1) = 256 ^ n * (y / 256 ^ n % 256) + y % 256 ^ n := by
      rw [hpe, Nat.mod_mul]; omega
    have h2 : (x * 256 + y / 256 ^ n % 256) * 256 ^ n + y % 256 ^ n = x * 256 ^ (n + 1) + y % 256 ^ (n + 1) := by
      rw [hm, hpe, Nat.add_mul, Nat.mul_assoc, Nat.mul_comm 256 (256 ^ n), Nat.mul_comm (y / 256 ^ n % 256) (256 ^ n)]; omega
    rw [be_succ]
    show (if 281474976710656 ≤ x then 72057594037927936 else takeF (x * 256 + y / 256 ^ n % 256) (be n y)) = _
    have hx : ¬ 281474976710656 ≤ x := by
      intro hx
      have h3 : x * 256 ≤ x * 256 ^ (n + 1) := Nat.mul_le_mul_left x (by rw [hpe]; exact Nat.le_mul_of_pos_left _ hp)
      omega
    rw [if_neg hx, takeF_be n _ y (by rw [h2]; exact h), h2]
/-- A record that may be, and its number. -/
structure Rc where
  life : Nat
  round : Nat
  tag : Nat
  seq : Nat
def Rc.may (r : Rc) : Prop := 1 ≤ r.life ∧ r.life ≤ 1073741824 ∧ r.round ≤ 1099511627775 ∧ r.tag ≤ 1048576 ∧ 1 ≤ r.seq ∧ r.seq ≤ 1099511627776
instance (r : Rc) : Decidable r.may := by unfold Rc.may; infer_instance
def encL (r : Rc) : List Nat := [101, 97, 114, 49] ++ (be 8 r.seq ++ (be 4 r.life ++ (be 5 r.round ++ (List.replicate 11 0 ++ ([101, 97, 114, 50] ++ (be 8 r.seq ++ (be 3 r.tag ++ List.replicate 17 0)))))))
theorem encL_len (r : Rc) : (encL r).length = 64 := by simp [encL, be_len]
theorem encL_lt (r : Rc) : ∀ c ∈ encL r, c < 256 := by
  intro c hc
  unfold encL at hc
  simp only [List.mem_append] at hc
  rcases hc with h | h | h | h | h | h | h | h | h
  · have h1 : ∀ c ∈ [101, 97, 114, 49], c < 256 := by decide
    exact h1 c h
  · exact be_lt _ _ c h
  · exact be_lt _ _ c h
  · exact be_lt _ _ c h
  · rw [(List.mem_replicate.1 h).2]; decide
  · have h1 : ∀ c ∈ [101, 97, 114, 50], c < 256 := by decide
    exact h1 c h
  · exact be_lt _ _ c h
  · exact be_lt _ _ c h
  · rw [(List.mem_replicate.1 h).2]; decide
/-- The record that the bytes would be of. -/
def rcOf (l : List Nat) : Rc := ⟨takeF 0 ((l.drop 12).take 4), takeF 0 ((l.drop 16).take 5), takeF 0 ((l.drop 44).take 3), takeF 0 ((l.drop 4).take 8)⟩
def decL (l : List Nat) : Option Rc := if (rcOf l).may ∧ encL (rcOf l) = l then some (rcOf l) else none
theorem take_be {n x : Nat} (h : x < 256 ^ n) (h2 : x ≤ 281474976710656) : takeF 0 (be n x) = x := by
  rw [takeF_be n 0 x (by rw [Nat.mod_eq_of_lt h]; omega), Nat.mod_eq_of_lt h]; omega
theorem drop_app {α : Type} {a b : List α} {n : Nat} (h : a.length = n) (k : Nat) : (a ++ b).drop (n + k) = b.drop k := by
  rw [List.drop_append, List.drop_of_length_le (by omega), List.nil_append, h]; congr 1; omega
theorem take_app {α : Type} {a b : List α} {n : Nat} (h : a.length = n) : (a ++ b).take n = a := by
  rw [← h]; exact List.take_left
theorem rcOf_enc {r : Rc} (h : r.may) : rcOf (encL r) = r := by
  obtain ⟨h1, h2, h3, h4, h5, h6⟩ := h
  obtain ⟨life, round, tag, seq⟩ := r
  simp only at h1 h2 h3 h4 h5 h6
  have e1 : (encL ⟨life, round, tag, seq⟩).drop 4 = be 8 seq ++ (be 4 life ++ (be 5 round ++ (List.replicate 11 0 ++ ([101, 97, 114, 50] ++ (be 8 seq ++ (be 3 tag ++ List.replicate 17 0)))))) := drop_app (n := 4) rfl 0
  have e2 : (encL ⟨life, round, tag, seq⟩).drop 12 = be 4 life ++ (be 5 round ++ (List.replicate 11 0 ++ ([101, 97, 114, 50] ++ (be 8 seq ++ (be 3 tag ++ List.replicate 17 0))))) := by
    rw [show (12 : Nat) = 4 + 8 from rfl, ← List.drop_drop, e1]; exact drop_app (n := 8) (be_len 8 _) 0
  have e3 : (encL ⟨life, round, tag, seq⟩).drop 16 = be 5 round ++ (List.replicate 11 0 ++ ([101, 97, 114, 50] ++ (be 8 seq ++ (be 3 tag ++ List.replicate 17 0)))) := by
    rw [show (16 : Nat) = 12 + 4 from rfl, ← List.drop_drop, e2]; exact drop_app (n := 4) (be_len 4 _) 0
  have e4 : (encL ⟨life, round, tag, seq⟩).drop 44 = be 3 tag ++ List.replicate 17 0 := by
    rw [show (44 : Nat) = 16 + 28 from rfl, ← List.drop_drop, e3, show (28 : Nat) = 5 + 23 from rfl, drop_app (n := 5) (be_len 5 _) 23, show (23 : Nat) = 11 + 12 from rfl, drop_app (n := 11) (by simp) 12, show (12 : Nat) = 4 + 8 from rfl, drop_app (n := 4) rfl 8]
    exact drop_app (n := 8) (be_len 8 _) 0
  unfold rcOf
  rw [e1, e2, e3, e4, take_app (be_len 8 _), take_app (be_len 4 _), take_app (be_len 5 _), take_app (be_len 3 _),
    take_be (n := 4) (by omega) (by omega), take_be (n := 5) (by omega) (by omega), take_be (n := 3) (by omega) (by omega), take_be (n := 8) (by omega) (by omega)]
theorem decL_enc {r : Rc} (h : r.may) : decL (encL r) = some r := by
  unfold decL
  rw [rcOf_enc h, if_pos ⟨h, rfl⟩]
theorem decL_some {l : List Nat} {r : Rc} (h : decL l = some r) : r.may ∧ l = encL r := by
  unfold decL at h
  split at h
  · rename_i hc
    cases h
    exact ⟨hc.1, hc.2.symm⟩
  · cases h
end Go.Proofs.Ytpfiaepoibablaa
