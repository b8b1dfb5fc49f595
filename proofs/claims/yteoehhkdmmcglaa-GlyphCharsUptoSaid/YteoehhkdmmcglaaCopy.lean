/- copy of a text's bytes into a block that is known whole; 'make' of bytes. -/
import Derived.Test.YteoehhkdmmcglaaBytes
import Derived.Deep.OwnRows
namespace Go.Proofs.Yteoehhkdmmcglaa
set_option linter.unusedVariables false
open Go.RowKit

theorem heap_setCell_same {w : World} {b o : Nat} {v : Value} {cs : Array Value} {t : TypeId} {fr : Nat × Nat} (h : w.heap[b]? = some (.cells cs t fr)) : (w.setCell ⟨b, o, none⟩ v).heap[b]? = some (.cells (cs.setIfInBounds o v) t fr) := by
  simp [World.setCell, Array.getElem?_modify, h]

theorem heap_setCells_same (b : Nat) (t : TypeId) (fr : Nat × Nat) : ∀ (vs : List Value) (o : Nat) (w : World) (pre mid post : List Value), w.heap[b]? = some (.cells (pre ++ mid ++ post).toArray t fr) → pre.length = o → mid.length = vs.length →
    (w.setCells b o vs).heap[b]? = some (.cells (pre ++ vs ++ post).toArray t fr)
  | [], o, w, pre, mid, post, h, hp, hm => by
    have : mid = [] := List.length_eq_zero_iff.1 hm
    subst this; exact h
  | v :: vs, o, w, pre, mid, post, h, hp, hm => by
    cases mid with
    | nil => simp at hm
    | cons m mid =>
      have h1 := heap_setCell_same (o := o) (v := v) h
      have e : (pre ++ m :: mid ++ post).toArray.setIfInBounds o v = ((pre ++ [v]) ++ mid ++ post).toArray := by
        rw [List.setIfInBounds_toArray]
        congr 1
        subst hp
        simp
      rw [e] at h1
      have := heap_setCells_same b t fr vs (o + 1) _ (pre ++ [v]) mid post h1 (by simp [hp]) (by simpa using hm)
      simpa [World.setCells] using this

theorem heap_setCells_else (b : Nat) {k : Nat} (hk : k ≠ b) : ∀ (vs : List Value) (o : Nat) (w : World), (w.setCells b o vs).heap[k]? = w.heap[k]?
  | [], _, _ => rfl
  | v :: vs, o, w => by
    show ((w.setCell ⟨b, o, none⟩ v).setCells b (o + 1) vs).heap[k]? = _
    rw [heap_setCells_else b hk vs]
    exact Below.heap_setCell w _ v k hk
theorem size_setCells (b : Nat) : ∀ (vs : List Value) (o : Nat) (w : World), (w.setCells b o vs).heap.size = w.heap.size
  | [], _, _ => rfl
  | v :: vs, o, w => by
    show ((w.setCell ⟨b, o, none⟩ v).setCells b (o + 1) vs).heap.size = _
    rw [size_setCells b vs]
    exact World.size_setCell _ _ _
theorem below_setCells {B : Nat} {w0 : World} (b : Nat) (hb : B ≤ b) : ∀ (vs : List Value) (o : Nat) (w : World), Below B w0 w → Below B w0 (w.setCells b o vs)
  | [], _, _, h => h
  | v :: vs, o, w, h => below_setCells b hb vs (o + 1) _ (h.setCell hb v)

/-- 'copy(b, s)', s a text: as many bytes as there are. -/
theorem run_copy_text {P : Program} (w : World) (dT sT ty elem : TypeId) (b o dLen dCap : Nat) (s : ByteArray) (t : TypeId) (pre mid post : List Value)
    (hu : P.underlying dT = some (.slice elem)) (hs : (P.info? elem).map (·.size) = some 1) (hn : s.size ≤ dLen)
    (hb : w.heap[b]? = some (.cells (pre ++ mid ++ post).toArray t (0, 0))) (hp : pre.length = o) (hm : mid.length = s.size) :
    (Builtin.copy_ #[dT, sT] ty #[.slice (some ⟨b, o, none⟩) dLen dCap, .string s]).run P w = .ok (goInt s.size) (w.setCells b o (Lib.strCells s)) := by
  have hcell : ∀ j, w.cell? ⟨b, j, none⟩ = (pre ++ mid ++ post)[j]? := fun j => by simp [World.cell?, hb]
  have hfro : ∀ j, w.frozen? ⟨b, j, none⟩ = false := fun j => by simp [World.frozen?, hb]
  have hL := Lib.strCells_length s
  have hst := run_storeCells_cells (P := P) b o (Lib.strCells s) 0 w (fun j hj => by
    rw [Nat.add_zero, hcell, List.getElem?_eq_getElem (by simp; omega)]; rfl) (fun j _ => hfro _) (Lib.strCells_oneCell s)
  have hq : min s.size dLen = s.size := by omega
  cases hq2 : P.info? elem with
  | none => simp [hq2] at hs
  | some i =>
    have hi : i.size = 1 := by simpa [hq2] using hs
    have hf := Lib.run_firstCells_string (P := P) w 1 s
    simp [Builtin.copy_, run_underlying hu, Builtin.lenOf, sizeOf, typeInfo, hq2, hi, hq, hf, hst]

theorem madeCells_byte (n : Nat) : madeCells #[Value.int .u8 0] n = (List.replicate n (Value.int .u8 0)).toArray := by
  apply Array.ext
  · simp [size_madeCells]
  · intro i h1 h2
    simp [madeCells, Nat.mod_one]

theorem make_bytes (n : Nat) (hn : n ≤ 281474976710656) (w : World) : (Instr.makeSlice 57 (.int .i64 (n : Int)) (.int .i64 (n : Int))).run Try.prog w = .ok (.slice (some ⟨w.heap.size, 0, none⟩) n n) (w.alloc (.cells (List.replicate n (Value.int .u8 0)).toArray 5)) := by
  have := run_make_row' 57 5 (.int .u8 0) 1 Try.underlying57 Try.infoByte rfl .i64 .i64 n (by omega) (by omega) w
  rwa [madeCells_byte] at this

end Go.Proofs.Yteoehhkdmmcglaa
