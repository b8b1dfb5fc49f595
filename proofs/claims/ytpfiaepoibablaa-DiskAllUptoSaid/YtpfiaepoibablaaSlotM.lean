/- Plain laws of the two slots of a disk: which record counts, what a save leaves. -/
import Derived.Test.YtpfiaepoibablaaSlotL
namespace Go.Proofs.Ytpfiaepoibablaa
set_option linter.unusedVariables false

def slotB (bs : List Nat) (i : Nat) : List Nat := rowS bs (2 * i) ++ rowS bs (2 * i + 1)
def Rc.zero : Rc := ⟨0, 0, 0, 0⟩
def pick (b : Rc × Int) (i : Int) (o : Option Rc) : Rc × Int := match o with | some r => if b.1.seq < r.seq then (r, i) else b | none => b
def bestL (bs : List Nat) : Rc × Int := pick (pick (Rc.zero, -1) 0 (decL (slotB bs 0))) 1 (decL (slotB bs 1))
def mayR (a b c : Int) : Prop := 1 ≤ a ∧ a ≤ 1073741824 ∧ 0 ≤ b ∧ b ≤ 1099511627775 ∧ 0 ≤ c ∧ c ≤ 1048576
instance (a b c : Int) : Decidable (mayR a b c) := by unfold mayR; infer_instance
/-- Where a save goes. -/
def toL (bs : List Nat) : Nat := if (bestL bs).2 = 0 then 1 else 0
def nxL (bs : List Nat) (a b c : Int) : List Nat := encL ⟨a.toNat, b.toNat, c.toNat, (bestL bs).1.seq + 1⟩
def saveV (d : Dk) (a b c : Int) : Dk × Int :=
  if mayR a b c then
    if d.off then (d, 100)
    else if 1099511627776 ≤ (bestL d.bs).1.seq then (d, 120)
    else if (wrV d ((2 * toL d.bs : Nat) : Int) ((nxL d.bs a b c).take 32)).2 = 0 then wrV (wrV d ((2 * toL d.bs : Nat) : Int) ((nxL d.bs a b c).take 32)).1 ((2 * toL d.bs + 1 : Nat) : Int) ((nxL d.bs a b c).drop 32)
    else wrV d ((2 * toL d.bs : Nat) : Int) ((nxL d.bs a b c).take 32)
  else (d, 1)
/- The two halves of a slot's bytes. -/
def hA (r : Rc) : List Nat := (encL r).take 32
def hB (r : Rc) : List Nat := (encL r).drop 32
theorem hAB (r : Rc) : hA r ++ hB r = encL r := List.take_append_drop 32 _
theorem hA_len (r : Rc) : (hA r).length = 32 := by unfold hA; rw [List.length_take, encL_len]; rfl
theorem hB_len (r : Rc) : (hB r).length = 32 := by unfold hB; rw [List.length_drop, encL_len]
theorem hA_is (r : Rc) : hA r = [101, 97, 114, 49] ++ (be 8 r.seq ++ (be 4 r.life ++ (be 5 r.round ++ List.replicate 11 0))) := by
  have h : encL r = ([101, 97, 114, 49] ++ (be 8 r.seq ++ (be 4 r.life ++ (be 5 r.round ++ List.replicate 11 0)))) ++ ([101, 97, 114, 50] ++ (be 8 r.seq ++ (be 3 r.tag ++ List.replicate 17 0))) := by
    unfold encL; simp only [List.append_assoc]
  unfold hA
  rw [h, take_app (n := 32) (by simp [be_len])]
theorem hB_is (r : Rc) : hB r = [101, 97, 114, 50] ++ (be 8 r.seq ++ (be 3 r.tag ++ List.replicate 17 0)) := by
  have h : encL r = ([101, 97, 114, 49] ++ (be 8 r.seq ++ (be 4 r.life ++ (be 5 r.round ++ List.replicate 11 0)))) ++ ([101, 97, 114, 50] ++ (be 8 r.seq ++ (be 3 r.tag ++ List.replicate 17 0))) := by
    unfold encL; simp only [List.append_assoc]
  unfold hB
  rw [h]; exact drop_app (n := 32) (by simp [be_len]) 0
/-- Two halves of one number are a slot. -/
theorem halves_same {r s : Rc} (h : r.seq = s.seq) : hA r ++ hB s = encL ⟨r.life, r.round, s.tag, r.seq⟩ := by
  have e1 : hA r = hA ⟨r.life, r.round, s.tag, r.seq⟩ := by rw [hA_is, hA_is]
  have e2 : hB s = hB ⟨r.life, r.round, s.tag, r.seq⟩ := by rw [hB_is, hB_is, h]
  rw [← hAB, e1, e2]
theorem be_inj {n x y : Nat} (hx : x < 256 ^ n) (hy : y < 256 ^ n) (h2 : x ≤ 281474976710656) (h3 : y ≤ 281474976710656) (h : be n x = be n y) : x = y := by
  rw [← take_be hx h2, ← take_be hy h3, h]
theorem hA_inj {r s : Rc} (hr : r.may) (hs : s.may) (h : hA r = hA s) : r.life = s.life ∧ r.round = s.round ∧ r.seq = s.seq := by
  rw [hA_is, hA_is] at h
  obtain ⟨r1, r2, r3, r4, r5, r6⟩ := hr
  obtain ⟨s1, s2, s3, s4, s5, s6⟩ := hs
  have h1 := List.append_cancel_left h
  have e8 := (List.append_inj h1 (by rw [be_len, be_len]))
  have e4 := (List.append_inj e8.2 (by rw [be_len, be_len]))
  have e5 := (List.append_inj e4.2 (by rw [be_len, be_len]))
  exact ⟨be_inj (n := 4) (by omega) (by omega) (by omega) (by omega) e4.1, be_inj (n := 5) (by omega) (by omega) (by omega) (by omega) e5.1, be_inj (n := 8) (by omega) (by omega) (by omega) (by omega) e8.1⟩
theorem hB_inj {r s : Rc} (hr : r.may) (hs : s.may) (h : hB r = hB s) : r.tag = s.tag ∧ r.seq = s.seq := by
  rw [hB_is, hB_is] at h
  obtain ⟨r1, r2, r3, r4, r5, r6⟩ := hr
  obtain ⟨s1, s2, s3, s4, s5, s6⟩ := hs
  have h1 := List.append_cancel_left h
  have e8 := (List.append_inj h1 (by rw [be_len, be_len]))
  have e3 := (List.append_inj e8.2 (by rw [be_len, be_len]))
  exact ⟨be_inj (n := 3) (by omega) (by omega) (by omega) (by omega) e3.1, be_inj (n := 8) (by omega) (by omega) (by omega) (by omega) e8.1⟩
theorem halves_other {r s : Rc} (hr : r.may) (hs : s.may) (h : r.seq ≠ s.seq) : decL (hA r ++ hB s) = none := by
  cases hd : decL (hA r ++ hB s) with
  | none => rfl
  | some t =>
    obtain ⟨ht, he⟩ := decL_some hd
    rw [← hAB t] at he
    obtain ⟨e1, e2⟩ := List.append_inj he (by rw [hA_len, hA_len])
    exact absurd ((hA_inj hr ht e1).2.2.trans (hB_inj hs ht e2).2.symm) h
theorem blank_half (l : List Nat) (hl : l.length = 32) : decL (List.replicate 32 0 ++ l) = none := by
  cases hd : decL (List.replicate 32 0 ++ l) with
  | none => rfl
  | some t =>
    obtain ⟨ht, he⟩ := decL_some hd
    have := congrArg List.head? he
    simp [encL] at this
theorem half_blank (r : Rc) : decL (hA r ++ List.replicate 32 0) = none := by
  cases hd : decL (hA r ++ List.replicate 32 0) with
  | none => rfl
  | some t =>
    obtain ⟨ht, he⟩ := decL_some hd
    rw [← hAB t] at he
    obtain ⟨e1, e2⟩ := List.append_inj he (by rw [hA_len, hA_len])
    rw [hB_is] at e2
    have := congrArg List.head? e2
    simp at this
theorem decL_one {r : Rc} (h : r.may) : decL (hA r ++ hB r) = some r := by rw [hAB]; exact decL_enc h
/- What a write leaves of the rows. -/
theorem rowS_put {bs l : List Nat} {k s : Nat} (hb : bs.length = 256) (hk : k < 8) (hs : s < 8) (hl : l.length = 32) : rowS (putS bs k l) s = if s = k then l else rowS bs s := putS_row hb hk s hs hl
end Go.Proofs.Ytpfiaepoibablaa
