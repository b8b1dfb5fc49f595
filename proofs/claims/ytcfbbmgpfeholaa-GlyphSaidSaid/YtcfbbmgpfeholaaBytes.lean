/- Rows of bytes that a call owns: their conversion into a text; what is appended to them. -/
import Derived.Test.YtcfbbmgpfeholaaList
import Derived.Lib.AppendStr
import Derived.Lib.RuneBytes
import Derived.Laws.IdiomStrings
import Derived.Laws.IdiomCopy
import Derived.WalkKit
namespace Go.Proofs.Ytcfbbmgpfeholaa
set_option linter.unusedVariables false
open Go.RowKit

theorem Try.infoByte : (Try.prog.info? 5).map (fun i => (i.zero, i.size, i.bytes)) = some (some (.int .u8 0), 1, 1) := by kernel_rfl

theorem byteCells_get (l : List UInt8) (j : Nat) (hj : j < l.length) : (Lib.byteCells l)[j]? = some (.int .u8 (l[j].toNat : Int)) := by
  simp [Lib.byteCells, hj]
theorem byteCells_app (a b : List UInt8) : Lib.byteCells (a ++ b) = Lib.byteCells a ++ Lib.byteCells b := by simp [Lib.byteCells]
theorem strCells_bytes (s : ByteArray) : Lib.strCells s = Lib.byteCells s.data.toList := rfl

/-- 'string(b)' of a row of bytes that the call owns. -/
theorem own_string {P : Program} {w : World} {src dst e : TypeId} (hs : P.underlying src = some (.slice e)) (he : P.underlying e = some (.int .u8)) (hd : P.underlying dst = some .string)
    {base : Nat} {v : Value} {n : Nat} {l : List UInt8} (h : w.ownsRow base e 1 v n (Lib.byteCells l)) (hn : n = l.length) : (convert src dst v).run P w = .ok (.string ⟨l.toArray⟩) w := by
  subst hn
  rcases h.2 with ⟨rfl, h0⟩ | ⟨g, cap, cur, rfl, _⟩
  · have hl : l = [] := List.length_eq_zero_iff.1 h0
    subst hl
    rw [run_convert_bytes_string w src dst e none 0 0 hs he hd]
    rfl
  · refine run_convert_bytes_back w src dst e ⟨g, 0, none⟩ cap l hs he hd (fun j hj => ?_)
    have := h.cellAt j (by omega)
    rw [byteCells_get l j hj] at this
    rw [Addr.add_lit]; simpa using this

/-- The cells of a block that has just been laid. -/
theorem cells_new (w : World) (cs : List Value) (t : TypeId) : ∀ j u, cs[j]? = some u → (w.alloc (.cells cs.toArray t)).cell? ((⟨w.heap.size, 0, none⟩ : Addr).add j) = some u := by
  intro j u h
  rw [Addr.add_lit, Nat.zero_add, World.cell?_alloc_mark]
  simpa using h
theorem byteCells_one (l : List UInt8) : ∀ u ∈ Lib.byteCells l, u.oneCell' = true := by
  intro u hu
  simp only [Lib.byteCells, List.mem_map] at hu
  obtain ⟨b, _, rfl⟩ := hu
  rfl

theorem own_append_pos {w : World} {base : Nat} {e : TypeId} {v : Value} {n : Nat} {xs : List Value} (h : w.ownsRow base e 1 v n xs) (hn : 0 < n) : ∃ g cap, v = .slice (some ⟨g, 0, none⟩) n cap ∧ base ≤ g ∧ g < w.heap.size := ownsRow_pos h hn

end Go.Proofs.Ytcfbbmgpfeholaa
