/- A region that draws its order, within a round of a range over a function: its head only reads or calls quietly, its tail goes in one order: walked as outside a round. -/
import Derived.RangeFuncNested
import Derived.RangeFuncCalls
import Derived.OwnWalkIn
import Derived.StillTail
import Derived.StillTailTactics
import Derived.StillTactics
import Derived.Test.YtpfiaepoibablaaRows
namespace Go.Proofs.Ytpfiaepoibablaa
open Go.RowKit
set_option linter.unusedVariables false

def noDefer (o : Oper) : Bool := match o.op with | .defer _ => false | _ => true
theorem noDefer_spec {o : Oper} (h : noDefer o = true) : ∀ c, o.op ≠ .defer c := by
  intro c hc; simp [noDefer, hc] at h

section
variable {P : Program} {l0 m : Nat}

theorem rows_in {row : String} {args : Array Value} {w : World} {R : Value → World → Prop} (h : Rows P row args w R) : RowsIn (Fence.wide.inRound l0) m P row args w R :=
  fun c cs _ => let ⟨v, w', r, s⟩ := h c cs; ⟨v, w', r, by rw [fenced_inRound]; exact stepsIn_wide.2 s⟩

theorem upon_in {o : Oper} {a : Act} {next : Act → World → Prop} {Q : Exit → Act → World → Prop} {r : Result Next} (h : o.upon P a next Q r) : o.uponIn (Fence.wide.inRound l0) m P a next Q r := by
  cases r with
  | ok n w =>
    cases n with
    | value v => exact h
    | skip => exact h
    | defer d => exact h
    | enter f args => exact ⟨fun hd => by simp [Fence.wide] at hd, CallsIn.inRound l0 (callsIn_wide.2 h)⟩
    | row row args => exact ⟨fun hd => by simp [Fence.wide] at hd, rows_in h⟩
    | _ => exact h.elim
  | halt x w =>
    cases x <;> first | exact h | exact h.elim

theorem wp_in {o : Oper} (hn : noDefer o = true) {a : Act} {w : World} {next : Act → World → Prop} {Q : Exit → Act → World → Prop} (h : o.wp P a w next Q) : o.wpIn (Fence.wide.inRound l0) m P a w next Q := by
  refine ⟨fun _ _ => trivial, ?_⟩
  rw [Oper.semAt_plain _ _ _ (noDefer_spec hn)]
  exact upon_in h

theorem wpAny_in {md : Region.Mode} {ops : Array Oper} {Q : Exit → Act → World → Prop} (hn : ∀ (i : Nat) (o : Oper), ops[i]? = some o → noDefer o = true) (hQ : ¬ LetsOut Q) :
    ∀ (fuel : Nat) (listed : Array Bool) (a : Act) (w : World), wpAny P md ops Q fuel listed a w → wpAnyIn (Fence.wide.inRound l0) m P md ops Q fuel listed a w := by
  intro fuel
  induction fuel with
  | zero => exact fun _ _ _ h => h
  | succ fuel ih =>
    intro listed a w h
    refine ⟨h.1, fun i hi => ?_⟩
    have h2 := h.2 i hi
    unfold wpOp at h2
    unfold wpOpIn
    cases ho : ops[i]? with
    | none => simp only [ho] at h2 ⊢; exact ih _ _ _ h2
    | some o =>
      simp only [ho] at h2 ⊢
      by_cases hw : Region.wanted o (yielded ops a.tmps) = true
      · rw [if_pos hw] at h2 ⊢
        rcases h2 with h2 | ⟨_, h2⟩
        · exact wp_in (hn i o ho) (Oper.wp_mono (fun a w hh => ih _ _ _ hh) h2)
        · exact absurd h2 hQ
      · rw [if_neg hw] at h2 ⊢
        exact ⟨fun _ _ => trivial, ih _ _ _ h2⟩

theorem wpIn_region_still_tail {id : Nat} {Q : Exit → Act → World → Prop} {a : Act} {w : World} {l : List Oper} (n : Nat) (hm : P.follows .mixedOrders = true) (hB : Region.lexTailB .any l.toArray n = true) (hnd : l.all noDefer = true) (hQ : ¬ LetsOut Q)
    (h : wpStill P l.toArray { w with drawn := w.drawn + 1 } (fun a' => wpList P l.toArray Q (l.drop n) a' { w with drawn := w.drawn + 1 }) (l.take n) a) : (Code.region id l.toArray true).wpIn (Fence.wide.inRound l0) m P Q a w := by
  simp only [Region.lexTailB, Bool.and_eq_true, decide_eq_true_eq] at hB
  obtain ⟨⟨⟨⟨hsel, hn⟩, hs⟩, hc⟩, hlex⟩ := hB
  have hn' : n < l.length := by simpa using hn
  have htl : (l.take n).length = n := by simp; omega
  have hdl : (l.drop n).length = l.toArray.size - n := by simp
  have inv0 : HeadInv .any l.toArray n (Array.replicate l.toArray.size false) :=
    ⟨by simp, fun j oj _ hl => (by rw [getD_replicate_false] at hl; cases hl), fun t _ ht => getD_in (by simpa using ht) (getD_replicate_false _ _)⟩
  have H := wpAnyL_lex (md := .any) (g := l.toArray.size - n) hsel hs hc hn (l.take n) 0 _ a (fun j hj => by
    have hj' : j < n := by rw [htl] at hj; exact hj
    simp [hj']) (by simpa using htl) inv0 (by rw [htl]; exact hlex) h
  refine wpIn_region_any hm ?_
  have := wpAny_of_head (Q' := Q) (g := l.toArray.size - n) (fun listed a' hL => by
    have := wpAny_of_seq (md := .any) (Q' := Q) (l.drop n) n listed a' { w with drawn := w.drawn + 1 } (fun j => by simp [List.getElem?_drop]) (by rw [hdl]; exact hL.1) hL.2
    rwa [hdl] at this) _ _ _ H
  rw [htl, show n + (l.toArray.size - n) = l.toArray.size by omega] at this
  refine wpAny_in (fun i o ho => ?_) hQ _ _ _ _ this
  rw [List.all_eq_true] at hnd
  exact hnd o (by rw [List.getElem?_toArray] at ho; exact List.mem_of_getElem? ho)
end

end Go.Proofs.Ytpfiaepoibablaa
