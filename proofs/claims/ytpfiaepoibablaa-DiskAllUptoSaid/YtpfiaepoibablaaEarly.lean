/- A region that draws its order: a read may be taken first where the operations that can come up before it leave what it reads; the writes that wait for it need not. Its tail is walked one operation at a time. -/
import Derived.OrdersHeld
import Derived.Test.YtpfiaepoibablaaFence
namespace Go.Proofs.Ytpfiaepoibablaa
open Go.RowKit
set_option linter.unusedVariables false

section
variable {P : Program} {ops : Array Oper} {Q : Exit → Act → World → Prop} {md : Region.Mode} {S : World → Prop} {L : Nat → Bool}

/-- Whatever order is picked: S is shown anew behind each operation that is not late. -/
def wpAnyE (P : Program) (md : Region.Mode) (ops : Array Oper) (Q : Exit → Act → World → Prop) (S : World → Prop) (L : Nat → Bool) : Nat → Array Bool → Act → World → Prop
  | 0, listed, a, w => Region.ready md ops listed = [] ∧ Q .normal a w
  | fuel + 1, listed, a, w =>
    (Region.ready md ops listed = [] → Q .normal a w) ∧
    ∀ i ∈ Region.ready md ops listed, wpOp P ops Q i (fun a' w' => (L i = false → S w') ∧ wpAnyE P md ops Q S L fuel (listed.setIfInBounds i true) a' w') a w

theorem wpAny_of_early : ∀ (fuel : Nat) (listed : Array Bool) (a : Act) (w : World), wpAnyE P md ops Q S L fuel listed a w → wpAny P md ops Q fuel listed a w
  | 0, _, _, _, h => h
  | fuel + 1, _, _, _, h => ⟨h.1, fun i hi => wpOp_mono (fun a' w' h' => wpAny_of_early fuel _ a' w' h'.2) (h.2 i hi)⟩

/-- The operations that wait for i, directly or through others. -/
def waits (md : Region.Mode) (ops : Array Oper) (i : Nat) : List Nat :=
  (List.range ops.size).foldl (fun t j => match ops[j]? with
    | some o => if o.after.any (fun e => Region.binds md e && (e.on == i || t.contains e.on)) then j :: t else t
    | none => t) []

def earlyB (md : Region.Mode) (ops : Array Oper) (L : Nat → Bool) (listed : Array Bool) (i : Nat) : Bool :=
  (List.range ops.size).all fun j =>
    (!L j || (waits md ops i).contains j) &&
    (!(waits md ops i).contains j || (!listed.getD j true && match ops[j]? with
      | some o => o.after.any (fun e => Region.binds md e && (e.on == i || (waits md ops i).contains e.on))
      | none => false))

theorem earlyB_spec {listed : Array Bool} {i : Nat} (h : earlyB md ops L listed i = true) : ∀ j oj, ops[j]? = some oj →
    (L j = true → (waits md ops i).contains j = true) ∧ ((waits md ops i).contains j = true → listed.getD j true = false ∧ ∃ e ∈ oj.after, Region.binds md e = true ∧ (e.on = i ∨ (waits md ops i).contains e.on = true)) := by
  intro j oj hj
  unfold earlyB at h
  rw [List.all_eq_true] at h
  have h1 := h j (List.mem_range.2 (Array.getElem?_eq_some_iff.1 hj).1)
  simp only [hj, Bool.and_eq_true, Bool.or_eq_true, Bool.not_eq_true'] at h1
  refine ⟨fun hL => ?_, fun hw => ?_⟩
  · rcases h1.1 with h | h
    · rw [hL] at h; cases h
    · exact h
  · rcases h1.2 with h | h
    · rw [hw] at h; cases h
    · obtain ⟨h2, h3⟩ := h
      obtain ⟨e, he, hb⟩ := Array.any_eq_true'.1 h3
      simp only [Bool.and_eq_true, Bool.or_eq_true, beq_iff_eq] at hb
      exact ⟨h2, e, he, hb.1, hb.2⟩

theorem wpAnyE_first {i : Nat} {oi : Oper} {v : Value} (hi : ops[i]? = some oi) (hsel : ∀ (j : Nat) (o : Oper) cs b, ops[j]? = some o → o.op ≠ .select cs b)
    (hQ : ∀ c a w, Q (.panic c) (a.put oi.dst v) w → Q (.panic c) a w) (T : Nat → Bool) (hLT : ∀ j oj, ops[j]? = some oj → L j = true → T j = true)
    (hcl : ∀ j oj, ops[j]? = some oj → T j = true → ∃ e ∈ oj.after, Region.binds md e = true ∧ (e.on = i ∨ T e.on = true)) (hTs : ∀ j, T j = true → j < ops.size) :
    ∀ (fuel : Nat) (listed : Array Bool) (a : Act) (w : World), (∀ j, T j = true → listed.getD j true = false) →
      (∀ j oj, ops[j]? = some oj → j ≠ i → listed.getD j true = false → (∀ e ∈ oj.after, Region.binds md e = true → e.on ≠ i) → oi.apart ops oj = true) →
      i ∈ Region.ready md ops listed → YieldsIf P ops S oi v a → S w →
      wpAnyE P md ops Q S L fuel (listed.setIfInBounds i true) (a.put oi.dst v) w → wpAnyE P md ops Q S L (fuel + 1) listed a w := by
  have flip : ∀ (listed : Array Bool) k, listed.getD k true = false → listed.getD k false = true → False := by
    intro listed k h0 h1
    rcases Nat.lt_or_ge k listed.size with h' | h'
    · simp [h'] at h0 h1; rw [h0] at h1; cases h1
    · simp [Array.getElem?_eq_none h'] at h1
  intro fuel
  induction fuel with
  | zero =>
    intro listed a w _ _ hr hy hS H
    refine ⟨fun h => (by rw [h] at hr; cases hr), fun j hj => ?_⟩
    by_cases hji : j = i
    · subst hji; exact hy.wpOp hi hS ⟨fun _ => hS, H⟩
    · have := ready_mono hj hji
      rw [H.1] at this
      cases this
  | succ fuel ih =>
    intro listed a w hT hfree hr hy hS H
    refine ⟨fun h => (by rw [h] at hr; cases hr), fun j hj => ?_⟩
    by_cases hji : j = i
    · subst hji; exact hy.wpOp hi hS ⟨fun _ => hS, H⟩
    · have h1 := H.2 j (ready_mono hj hji)
      obtain ⟨hjun, oj, hoj, hall⟩ := mem_ready.1 hj
      have hiun := (mem_ready.1 hr).1
      have hnot : ∀ e ∈ oj.after, Region.binds md e = true → e.on ≠ i := fun e he hb heq => flip _ _ hiun (heq ▸ hall e he hb)
      have hTj : T j = false := by
        cases hTj : T j with
        | false => rfl
        | true =>
          obtain ⟨e, he, hb, h⟩ := hcl j oj hoj hTj
          rcases h with h | h
          · exact absurd h (hnot e he hb)
          · exact (flip _ _ (hT _ h) (hall e he hb)).elim
      have hLj : L j = false := by
        cases hLj : L j with
        | false => rfl
        | true => rw [hLT j oj hoj hLj] at hTj; cases hTj
      have h2 := wpOp_putIf hoj (hfree j oj hoj hji hjun hnot) (fun cs b => hsel i oi cs b hi) (fun cs b => hsel j oj cs b hoj) hQ hy h1
      have hfree' : ∀ k ok, ops[k]? = some ok → k ≠ i → (listed.setIfInBounds j true).getD k true = false →
          (∀ e ∈ ok.after, Region.binds md e = true → e.on ≠ i) → oi.apart ops ok = true := fun k ok hk hki hun hno => by
        refine hfree k ok hk hki ?_ hno
        by_cases hjk : j = k
        · subst hjk; exact hjun
        · rw [getD_set_ne true hjk] at hun; exact hun
      have hT' : ∀ k, T k = true → (listed.setIfInBounds j true).getD k true = false := fun k hk => by
        have hjk : j ≠ k := fun h => by subst h; rw [hTj] at hk; cases hk
        rw [getD_set_ne true hjk]; exact hT k hk
      refine wpOp_mono (fun a' w' h3 => ⟨h3.2.1, ih (listed.setIfInBounds j true) a' w' hT' hfree' (ready_mono hr (Ne.symm hji)) h3.1 (h3.2.1 hLj) ?_⟩) h2
      rw [Array.setIfInBounds_comm _ _ hji]
      exact h3.2.2

theorem mem_waits {i j : Nat} (h : (waits md ops i).contains j = true) : j < ops.size := by
  have key : ∀ (l : List Nat) (t : List Nat), (∀ k ∈ t, k < ops.size) → ∀ k ∈ l.foldl (fun t j => match ops[j]? with
    | some o => if o.after.any (fun e => Region.binds md e && (e.on == i || t.contains e.on)) then j :: t else t
    | none => t) t, k < ops.size := by
    intro l
    induction l with
    | nil => intro t ht k hk; exact ht k hk
    | cons x l ih =>
      intro t ht k hk
      refine ih _ ?_ k hk
      intro k' hk'
      dsimp only at hk'
      cases ho : ops[x]? with
      | none => rw [ho] at hk'; exact ht k' hk'
      | some o =>
        rw [ho] at hk'
        simp only at hk'
        split at hk'
        · rcases List.mem_cons.1 hk' with rfl | h
          · exact (Array.getElem?_eq_some_iff.1 ho).1
          · exact ht k' h
        · exact ht k' hk'
  exact key _ [] (by simp) j (by simpa [waits] using h)

/-- Take number i first. -/
theorem wpAnyE_take {i : Nat} {oi : Oper} {v : Value} {fuel : Nat} {listed : Array Bool} {a : Act} {w : World} (hi : ops[i]? = some oi)
    (hs : Region.noSelect ops = true) (hf : Region.free md ops listed i = true) (hr : (Region.ready md ops listed).contains i = true) (he : earlyB md ops L listed i = true)
    (hQ : ∀ c a w, Q (.panic c) (a.put oi.dst v) w → Q (.panic c) a w) (hy : YieldsIf P ops S oi v a) (hS : S w)
    (h : wpAnyE P md ops Q S L fuel (listed.setIfInBounds i true) (a.put oi.dst v) w) : wpAnyE P md ops Q S L (fuel + 1) listed a w :=
  wpAnyE_first hi (Region.noSelect_spec hs) hQ (fun j => (waits md ops i).contains j) (fun j oj hj => (earlyB_spec he j oj hj).1)
    (fun j oj hj hw => ((earlyB_spec he j oj hj).2 hw).2) (fun j hj => mem_waits hj) fuel listed a w
    (fun j hj => ((earlyB_spec he j (ops[j]'(mem_waits hj)) (by simp [mem_waits hj])).2 hj).1) (Region.free_spec hi hf) (by simpa using hr) hy hS h

/-- The operations one behind the other, each alone. -/
def wpListE (P : Program) (ops : Array Oper) (Q : Exit → Act → World → Prop) (S : World → Prop) (L : Nat → Bool) : Nat → List Oper → Act → World → Prop
  | _, [], a, w => Q .normal a w
  | k, o :: l, a, w => wpList P ops (Exit.then (fun a' w' => (L k = false → S w') ∧ wpListE P ops Q S L (k + 1) l a' w') Q) [o] a w

theorem upon_then {o : Oper} {a : Act} {K : Act → World → Prop} {r : Result Next} (h : o.upon P a K (Exit.then K Q) r) : o.upon P a K Q r := by
  have hl : LetsOut (Exit.then K Q) → LetsOut Q := fun ⟨a, w, h⟩ => ⟨a, w, h⟩
  cases r with
  | ok n w' =>
    cases n <;> simp only [Oper.upon] at h ⊢ <;>
      first
        | exact h
        | exact Calls.mono h (fun e w'' he => by cases e <;> first | exact he | exact hl he)
  | halt x w' => cases x <;> simp only [Oper.upon] at h ⊢ <;> exact h

theorem wpOp_of_single {i : Nat} {o : Oper} {K : Act → World → Prop} {a : Act} {w : World} (hi : ops[i]? = some o) (h : wpList P ops (Exit.then K Q) [o] a w) : wpOp P ops Q i K a w := by
  unfold wpOp
  simp only [hi]
  unfold wpList at h
  split
  · rename_i hw
    rw [if_pos hw] at h
    rcases h with h | ⟨hasks, hlets⟩
    · exact .inl (upon_then h)
    · exact .inr ⟨hasks, let ⟨a, w, h⟩ := hlets; ⟨a, w, h⟩⟩
  · rename_i hw
    rw [if_neg hw] at h
    exact h

theorem wpAnyE_seq : ∀ (l : List Oper) (k : Nat) (listed : Array Bool) (a : Act) (w : World), (∀ j, l[j]? = ops[k + j]?) →
    Region.seqB md ops l.length k listed = true → wpListE P ops Q S L k l a w → wpAnyE P md ops Q S L l.length listed a w
  | [], _, _, _, _, _, hB, h => ⟨by simpa [Region.seqB] using hB, h⟩
  | o :: l, k, listed, a, w, hl, hB, h => by
    have h0 : ops[k]? = some o := by simpa using (hl 0).symm
    simp only [List.length_cons, Region.seqB, Bool.and_eq_true, decide_eq_true_eq] at hB
    refine ⟨fun h1 => (by rw [hB.1] at h1; cases h1), fun i hi => ?_⟩
    rw [hB.1] at hi
    have hik : i = k := by simpa using hi
    subst hik
    exact wpOp_mono (fun a' w' h' => ⟨h'.1, wpAnyE_seq l (i + 1) _ a' w' (fun j => by have := hl (j + 1); simpa [Nat.add_assoc, Nat.add_comm 1 j] using this) hB.2 h'.2⟩) (wpOp_of_single h0 h)

/-- The tail from operation k on, one operation at a time. -/
theorem wpAnyE_tail {l : List Oper} (k : Nat) {fuel : Nat} {listed : Array Bool} {a : Act} {w : World} (hf : (l.drop k).length = fuel)
    (hB : Region.seqB md l.toArray (l.drop k).length k listed = true) (h : wpListE P l.toArray Q S L k (l.drop k) a w) : wpAnyE P md l.toArray Q S L fuel listed a w :=
  hf ▸ wpAnyE_seq (l.drop k) k listed a w (fun j => by simp [List.getElem?_drop]) hB h

/-- From here on S is not asked: every operation left is late. -/
theorem wpListE_late : ∀ (l : List Oper) (k : Nat) (a : Act) (w : World), (∀ j, j < l.length → L (k + j) = true) → wpList P ops Q l a w → wpListE P ops Q S L k l a w
  | [], _, _, _, _, h => h
  | o :: l, k, a, w, hL, h => by
    have ih := fun a' w' => wpListE_late l (k + 1) a' w' (fun j hj => by have := hL (j + 1) (by simp; omega); rwa [Nat.add_assoc, Nat.add_comm 1 j])
    have h0 : L k = true := hL 0 (by simp)
    unfold wpListE
    unfold wpList at h ⊢
    have hK : ∀ a' w', wpList P ops Q l a' w' → wpList P ops (Exit.then (fun a' w' => (L k = false → S w') ∧ wpListE P ops Q S L (k + 1) l a' w') Q) [] a' w' :=
      fun a' w' h => ⟨fun hf => (by rw [h0] at hf; cases hf), ih a' w' h⟩
    split
    · rename_i hw
      rw [if_pos hw] at h
      rcases h with h | ⟨hasks, hlets⟩
      · refine .inl ?_
        unfold Oper.wp at h ⊢
        generalize (execOp a.eval o).run P w = r at *
        cases r with
        | ok n w' =>
          cases n <;> simp only [Oper.upon] at h ⊢ <;>
            first
              | exact hK _ _ h
              | exact Calls.mono h (fun e w'' he => by cases e <;> first | exact hK _ _ he | exact he | exact (let ⟨a, w, h⟩ := he; ⟨a, w, h⟩))
              | exact Rows.mono h (fun _ _ he => hK _ _ he)
        | halt x w' => cases x <;> simp only [Oper.upon] at h ⊢ <;> exact h
      · exact .inr ⟨hasks, let ⟨a, w, h⟩ := hlets; ⟨a, w, h⟩⟩
    · rename_i hw
      rw [if_neg hw] at h
      exact hK _ _ h

theorem wp_region_early {id : Nat} {a : Act} {w : World} (S : World → Prop) (L : Nat → Bool) (hm : P.follows .mixedOrders = true)
    (h : wpAnyE P .any ops Q S L ops.size (Array.replicate ops.size false) a w.drew) : (Code.region id ops true).wp P Q a w :=
  wp_region_any hm (wpAny_of_early _ _ _ _ h)

theorem wpIn_region_early {id l0 m : Nat} {a : Act} {w : World} (S : World → Prop) (L : Nat → Bool) (hm : P.follows .mixedOrders = true) (hnd : ops.all noDefer = true) (hQ : ¬ LetsOut Q)
    (h : wpAnyE P .any ops Q S L ops.size (Array.replicate ops.size false) a w.drew) : (Code.region id ops true).wpIn (Fence.wide.inRound l0) m P Q a w := by
  refine wpIn_region_any hm (wpAny_in (fun i o ho => ?_) hQ _ _ _ _ (wpAny_of_early _ _ _ _ h))
  exact Array.all_eq_true_iff_forall_mem.1 hnd o (Array.mem_of_getElem? ho)
end

end Go.Proofs.Ytpfiaepoibablaa
