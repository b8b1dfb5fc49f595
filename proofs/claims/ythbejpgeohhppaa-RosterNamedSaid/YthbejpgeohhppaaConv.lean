/- Texts and runes: '[]rune(s)', 'string(runes)'. -/
import Derived.Test.YthbejpgeohhppaaRunes
import Derived.Test.YthbejpgeohhppaaRow
import Derived.Laws.Cover4
import Derived.Laws.IdiomStrings
namespace Go.Proofs.Ythbejpgeohhppaa
set_option linter.unusedVariables false
set_option linter.unusedSimpArgs false
open Go.RowKit

def fixR (r : Int) : Nat := if 0 ≤ r ∧ r ≤ 0x10FFFF ∧ ¬ (0xD800 ≤ r ∧ r ≤ 0xDFFF) then r.toNat else 65533
theorem fixR_ok (r : Int) : okR (fixR r) := by
  unfold fixR okR; split <;> omega
theorem encode_fix (r : Int) : (Utf8.encode r).data.toList = enc (fixR r) := by
  have hv : (if Utf8.valid r then r.toNat else Utf8.runeError) = fixR r := by
    unfold fixR
    by_cases h : 0 ≤ r ∧ r ≤ 0x10FFFF ∧ ¬ (0xD800 ≤ r ∧ r ≤ 0xDFFF)
    · rw [if_pos h, if_pos (by simp [Utf8.valid]; omega)]
    · rw [if_neg h, if_neg (by simp [Utf8.valid]; omega)]; rfl
  unfold Utf8.encode
  simp only [hv]
  unfold enc encN
  by_cases a : fixR r ≤ 127
  · rw [if_pos (by omega), if_pos a]; rfl
  · rw [if_neg (by omega), if_neg a]
    by_cases b : fixR r ≤ 2047
    · rw [if_pos (by omega), if_pos b]; rfl
    · rw [if_neg (by omega), if_neg b]
      by_cases c : fixR r ≤ 65535
      · rw [if_pos (by omega), if_pos c]; rfl
      · rw [if_neg (by omega), if_neg c]; rfl
theorem encode_len (r : Int) : (Utf8.encode r).size ≤ 4 := by
  have h : (Utf8.encode r).data.toList.length = (Utf8.encode r).size := by simp
  rw [← h, encode_fix]; exact (enc_len _).2
theorem txt_snoc (l : List Nat) (r : Int) : txt l ++ Utf8.encode r = txt (l ++ [fixR r]) := by
  refine ba_ext ?_
  rw [ByteArray.data_append, Array.toList_append, txt_list, txt_list, encode_fix]; simp

theorem fixR_same {r : Nat} (h : okR r) : fixR (r : Int) = r := by
  unfold fixR
  unfold okR at h
  rw [if_pos (by omega)]; simp
theorem runesFrom_st (s : ByteArray) : ∀ (f p : Nat) (acc : Array Value), Conv.runesFrom s f p acc = acc ++ ((sts s f p).map fun q => Value.int .i32 (rn s q : Int)).toArray
  | 0, p, acc => by simp [Conv.runesFrom, sts]
  | f + 1, p, acc => by
    unfold Conv.runesFrom sts
    by_cases hp : p < s.size
    · rw [if_pos hp, if_pos hp, decode_dec, show dec s p = (rn s p, wd s p) from rfl]
      show Conv.runesFrom s f (p + wd s p) (acc.push (.int .i32 (rn s p : Int))) = _
      rw [runesFrom_st s f]
      simp
    · rw [if_neg hp, if_neg hp]; simp
theorem runesFrom_rs (s : ByteArray) : Conv.runesFrom s s.size 0 #[] = ((rs s).map fun r : Nat => Value.int .i32 (r : Int)).toArray := by
  rw [runesFrom_st]
  simp [rs, st, List.map_map, Function.comp_def]
theorem runesBytes_txt : ∀ (l : List Nat) (acc : List Nat), (∀ r ∈ l, okR r) → (l.map fun r : Nat => (r : Int)).foldl (fun r n => r ++ Utf8.encode n) (txt acc) = txt (acc ++ l)
  | [], acc, _ => by simp
  | r :: l, acc, h => by
    rw [List.map_cons, List.foldl_cons, txt_snoc, fixR_same (h r (by simp)), runesBytes_txt l _ (fun q hq => h q (by simp [hq]))]
    simp
theorem runesBytes_eq (l : List Nat) (h : ∀ r ∈ l, okR r) : runesBytes (l.map fun r : Nat => (r : Int)) = txt l := by
  have := runesBytes_txt l [] h
  rw [List.nil_append] at this
  exact this
end Go.Proofs.Ythbejpgeohhppaa
