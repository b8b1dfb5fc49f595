/- Walks: put, bytes (the slot's). -/
import Derived.Test.YtpfiaepoibablaaSlotA
import Derived.Test.YtpfiaepoibablaaMid
namespace Go.Proofs.Ytpfiaepoibablaa
set_option linter.unusedVariables false
set_option linter.unusedSimpArgs false
open Go.RowKit

/-- Some bytes laid over others from a place on. -/
def putAt (l : List Nat) (o : Nat) (m : List Nat) : List Nat := l.take o ++ (m ++ l.drop (o + m.length))
theorem putAt_len {l m : List Nat} {o : Nat} (h : o + m.length ≤ l.length) : (putAt l o m).length = l.length := by
  unfold putAt; simp only [List.length_append, List.length_take, List.length_drop]; omega
theorem putAt_step (l m : List Nat) (o k v : Nat) (h : o + m.length ≤ l.length) (hk : m[k]? = some v) : (putAt l o (m.take k)).set (o + k) v = putAt l o (m.take (k + 1)) := by
  have hkl := (List.getElem?_eq_some_iff.1 hk).1
  have h1 : (m.take k).length = k := by rw [List.length_take]; omega
  have h2 : (m.take (k + 1)).length = k + 1 := by rw [List.length_take]; omega
  have h3 : (l.take o).length = o := by rw [List.length_take]; omega
  unfold putAt
  rw [h1, h2, List.set_append_right _ _ (by omega), h3, Nat.add_sub_cancel_left, List.set_append_right _ _ (by omega), h1, Nat.sub_self, List.take_add_one, hk]
  rw [List.drop_eq_getElem_cons (show o + k < l.length by omega), List.set_cons_zero, Option.toList_some, List.append_assoc, Nat.add_assoc]
  rfl
theorem bC_get (l : List Nat) (j : Nat) : (bC l)[j]? = (l[j]?).map fun x : Nat => Value.int .u8 (x : Int) := by unfold bC; rw [List.getElem?_map]
theorem bC_set (l : List Nat) (j v : Nat) : (bC l).set j (.int .u8 (v : Int)) = bC (l.set j v) := by unfold bC; rw [List.map_set]
theorem be_get {n x k : Nat} (h : k < n) : (be n x)[k]? = some (x / 256 ^ (n - 1 - k) % 256) := by
  unfold be; rw [List.getElem?_map, List.getElem?_range h]; rfl
theorem b1' (w : World) (a b : Obj) : ((w.alloc a).alloc b).heap[w.heap.size + 1]? = some b := by have := blk_new (w.alloc a) b; rwa [World.size_alloc] at this
theorem b2' (w : World) (a b c : Obj) : (((w.alloc a).alloc b).alloc c).heap[w.heap.size + 1 + 1]? = some c := by have := blk_new ((w.alloc a).alloc b) c; rwa [World.size_alloc, World.size_alloc] at this
theorem setCells_grown {b : Nat} (vs : List Value) : ∀ (o : Nat) (W W0 : World), W0.grownBy W (some b) → b < W0.heap.size → W0.grownBy (W.setCells b o vs) (some b) := by
  induction vs with
  | nil => intro o W W0 h _; exact h
  | cons v vs ih => intro o W W0 h hb; exact ih (o + 1) _ _ (but_set h hb _ _) hb
/-- 'copy(b, s)', s a text, into a block of bytes that is known whole. -/
theorem copy_text {P : Program} (w : World) (dT sT ty elem : TypeId) (b o dLen dCap : Nat) (s : ByteArray) (m l : List Nat) (t : TypeId)
    (hu : P.underlying dT = some (.slice elem)) (hs : (P.info? elem).map (·.size) = some 1) (hm : Lib.strCells s = bC m) (hn : m.length ≤ dLen)
    (hb : w.heap[b]? = some (.cells (bC l).toArray t (0, 0))) (ho : o + m.length ≤ l.length) :
    ∃ W', (Builtin.copy_ #[dT, sT] ty #[.slice (some ⟨b, o, none⟩) dLen dCap, .string s]).run P w = .ok (goInt s.size) W' ∧ W'.heap[b]? = some (.cells (bC (putAt l o m)).toArray t (0, 0)) ∧ w.grownBy W' (some b) := by
  have hL := Lib.strCells_length s
  have hml : m.length = s.size := by rw [← hL, hm, bC_len]
  have hth := there_blk hb o s.size (by simp [bC_len]; omega)
  have hst := run_storeCells_cells (P := P) b o (Lib.strCells s) 0 w (fun j hj => by
    rw [Nat.add_zero, blk_cell hb, List.getElem?_toArray, List.getElem?_eq_getElem (by rw [bC_len]; omega)]; rfl) (fun j _ => blk_free hb _) (Lib.strCells_oneCell s)
  have hq : min s.size dLen = s.size := by omega
  refine ⟨w.setCells b o (Lib.strCells s), ?_, ?_, ?_⟩
  · cases hq2 : P.info? elem with
    | none => simp [hq2] at hs
    | some i =>
      have hi : i.size = 1 := by simpa [hq2] using hs
      have hf := Lib.run_firstCells_string (P := P) w 1 s
      simp [Builtin.copy_, run_underlying hu, Builtin.lenOf, sizeOf, typeInfo, hq2, hi, hq, hf, hst]
  · rw [setCells_blk _ o w _ hb, hm]
    congr 2
    apply Array.ext_getElem?
    intro j
    rw [setAll_get, List.getElem?_toArray, List.getElem?_toArray, bC_len, bC_get, bC_get, bC_get]
    unfold putAt
    rw [List.getElem?_append, List.getElem?_append, List.length_take, List.getElem?_take, List.getElem?_drop]
    simp only [List.size_toArray, bC_len]
    have e : min o l.length = o := by omega
    rw [e]
    by_cases c1 : j < o
    · rw [if_neg (by omega), if_pos c1, if_pos c1]
    · by_cases c2 : j < o + m.length
      · rw [if_pos (by omega), if_neg c1, if_pos (by omega)]
      · rw [if_neg (by omega), if_neg c1, if_neg (by omega)]; congr 2; omega
  · exact setCells_grown _ o w _ (but_refl _ _) (blk_lt hb)
theorem enc_puts (r : Rc) : putAt (putAt (putAt (putAt (putAt (putAt (putAt (List.replicate 64 0) 0 [101, 97, 114, 49]) 4 (be 8 r.seq)) 12 (be 4 r.life)) 16 (be 5 r.round)) 32 [101, 97, 114, 50]) 36 (be 8 r.seq)) 44 (be 3 r.tag) = encL r := by
  rfl
end Go.Proofs.Ytpfiaepoibablaa
