/- Walks: Load, Save. -/
import Derived.Test.YtpfiaepoibablaaSlotD
namespace Go.Proofs.Ytpfiaepoibablaa
set_option linter.unusedVariables false
set_option linter.unusedSimpArgs false
open Go.RowKit

def loadA (d : Dk) : Value := if d.off then .tuple #[recV 0 0 0, .int .i64 0, .int .i64 100] else if (bestL d.bs).2 < 0 then .tuple #[recV 0 0 0, .int .i64 0, .int .i64 40] else .tuple #[recV (bestL d.bs).1.life (bestL d.bs).1.round (bestL d.bs).1.tag, .int .i64 (bestL d.bs).1.seq, .int .i64 0]
/-- The writes of a save, one behind the other. -/
def svK (d : Dk) (q0 : Nat) (l : List Nat) : Nat → Dk × Int
  | 0 => (d, 0)
  | k + 1 => if (svK d q0 l k).2 = 0 then wrV (svK d q0 l k).1 ((2 * q0 + k : Nat) : Int) ((l.drop (k * 32)).take 32) else svK d q0 l k
theorem wrV_fuse (d : Dk) (s : Int) (l : List Nat) : (wrV d s l).1.fuse ≤ d.fuse ∧ (wrV d s l).1.writes ≤ d.writes + 1 := by
  unfold wrV
  split <;> (try split) <;> (try split) <;> (try split) <;> first | exact ⟨Nat.le_refl _, Nat.le_succ _⟩ | exact ⟨Nat.le_refl _, Nat.le_refl _⟩ | exact ⟨Nat.sub_le _ _, Nat.le_refl _⟩
theorem svK_size (d : Dk) (q0 : Nat) (l : List Nat) : ∀ k, (svK d q0 l k).1.fuse ≤ d.fuse ∧ (svK d q0 l k).1.writes ≤ d.writes + k
  | 0 => ⟨Nat.le_refl _, Nat.le_refl _⟩
  | k + 1 => by
    have h := svK_size d q0 l k
    unfold svK
    split
    · have h2 := wrV_fuse (svK d q0 l k).1 ((2 * q0 + k : Nat) : Int) ((l.drop (k * 32)).take 32)
      omega
    · omega
theorem svK_stop {d : Dk} {q0 : Nat} {l : List Nat} {k : Nat} (hk : k < 2) (h : (svK d q0 l (k + 1)).2 ≠ 0) : svK d q0 l 2 = svK d q0 l (k + 1) := by
  match k, hk with
  | 0, _ => show (if (svK d q0 l 1).2 = 0 then _ else svK d q0 l 1) = _; rw [if_neg h]
  | 1, _ => rfl
theorem svK_next {d : Dk} {q0 : Nat} {l : List Nat} {k : Nat} (h : (svK d q0 l k).2 = 0) : svK d q0 l (k + 1) = wrV (svK d q0 l k).1 ((2 * q0 + k : Nat) : Int) ((l.drop (k * 32)).take 32) := if_pos h
/-- What Save does behind its questions. -/
def svT (d : Dk) (a b c : Int) : Dk × Int := svK d (toL d.bs) (nxL d.bs a b c) 2
def saveW (d : Dk) (a b c : Int) : Dk × Int :=
  if mayR a b c then
    if d.off then (d, 100)
    else if 1099511627776 ≤ (bestL d.bs).1.seq then (d, 120)
    else svT d a b c
  else (d, 1)
theorem pick_seq (b : Rc × Int) (i : Int) (o : Option Rc) (h : b.1.seq ≤ 1099511627776) (ho : ∀ r, o = some r → r.seq ≤ 1099511627776) : (pick b i o).1.seq ≤ 1099511627776 := by
  cases o with
  | none => exact h
  | some r =>
    unfold pick
    simp only
    split
    · exact ho r rfl
    · exact h
theorem bestL_seq {bs : List Nat} {r : Rc} {i : Int} (h : bestL bs = (r, i)) : r.seq ≤ 1099511627776 := by
  have hd : ∀ l r, decL l = some r → r.seq ≤ 1099511627776 := fun l r h => (decL_some h).1.2.2.2.2.2
  have := pick_seq (pick (Rc.zero, -1) 0 (decL (slotB bs 0))) 1 (decL (slotB bs 1)) (pick_seq _ _ _ (by decide) (hd _)) (hd _)
  unfold bestL at h
  rw [h] at this
  exact this
theorem cells_blk {W : World} {g : Nat} {l : List Nat} {t : TypeId} (h : W.heap[g]? = some (.cells (bC l).toArray t (0, 0))) : CellsAt W ⟨g, 0, none⟩ l := by
  intro j x hx
  refine ⟨_, rfl, ?_⟩
  rw [Addr.add_mid, Nat.zero_add, blk_cell h, List.getElem?_toArray, bC_get, hx]; rfl
theorem CellsAt.bytes {W : World} {g q n c b : Nat} {l m : List Nat} (h : CellsAt W ⟨g, 0, none⟩ l) (hm : m = (l.drop q).take n) (hn : m.length = n) (hne : g ≠ b) : Bytes W b (.slice (some ⟨g, q, none⟩) n c) m := by
  have h1 := h.part q n
  rw [Addr.add_mid, Nat.zero_add] at h1
  refine ⟨some ⟨g, q, none⟩, c, by rw [hn], fun j x hx => ?_⟩
  rw [hm] at hx
  obtain ⟨p, h2, h3⟩ := h1 j x hx
  cases h2
  exact ⟨_, rfl, hne, h3⟩
end Go.Proofs.Ytpfiaepoibablaa
