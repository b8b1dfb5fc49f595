/- Plain facts: a quoted text, piece by piece. -/
import Derived.Test.YtcfbbmgpfeholaaEscL
namespace Go.Proofs.Ytcfbbmgpfeholaa
set_option linter.unusedVariables false
set_option linter.unusedSimpArgs false

/-- What stands in the quoted text from the character p on. -/
def quoR (s : ByteArray) (p : Nat) : List UInt8 := quoteL s (st s p) ++ [34]
theorem quoR_cons {s : ByteArray} {p : Nat} (h : p < s.size) : quoR s p = qb s p ++ quoR s (p + wd s p) := by
  unfold quoR quoteL
  rw [st_cons h, List.flatMap_cons, List.append_assoc]
theorem quoR_end {s : ByteArray} {p : Nat} (h : ¬ p < s.size) : quoR s p = [34] := by
  unfold quoR quoteL
  rw [st_nil h]; rfl
theorem enc_ascii {r : Nat} (h : r ≤ 127) : enc r = [UInt8.ofNat r] := by
  unfold enc encN
  rw [if_pos h]; rfl
theorem hidden_bd {r : Nat} (h : hiddenB (r : Int) = true) : 128 ≤ r ∧ r < 65536 := by
  unfold hiddenB at h
  have := of_decide_eq_true h
  omega
theorem bl_loose (s : ByteArray) (p : Nat) (hp : p < s.size) (h : rn s p < 128 ∨ lo s p = true) : bl s p = [UInt8.ofNat (bt s p)] := by
  unfold bl
  rw [wd_one s p h, drop_bt s p hp]; rfl
theorem lo_rn {s : ByteArray} {p : Nat} (h : rn s p ≠ 65533) : lo s p = false := by
  cases hl : lo s p with
  | false => rfl
  | true => exact absurd ((lo_iff s p).1 hl).1 h
/-- A piece: an escape that says the character's bytes, or these. -/
theorem piece_cases (s : ByteArray) (p : Nat) (hp : p < s.size) (rest : List UInt8) (t : ByteArray) (ht : t.data.toList = qb s p ++ rest) :
    (dec t 0 = (92, 1) ∧ escV t = some (bl s p, (qb s p).length)) ∨
    (dec t 0 = (rn s p, wd s p) ∧ qb s p = bl s p ∧ lo t 0 = false ∧ 32 ≤ rn s p ∧ rn s p ≠ 127 ∧ rn s p ≠ 34 ∧ rn s p ≠ 92) := by
  have hr := rn_bd s p
  have h92 : ∀ l, t.data.toList = 92 :: l → dec t 0 = (92, 1) := fun l hl => (dec_enc (s := t) (p := 0) (r := 92) (l := l) ⟨by decide, by decide⟩ (by rw [List.drop_zero, hl]; rfl)).2.1
  unfold qb pc at ht ⊢
  by_cases c1 : rn s p = 34 ∨ rn s p = 92
  · rw [if_pos c1] at ht ⊢
    have hbl : bl s p = [UInt8.ofNat (rn s p)] := by rw [bl_enc s p hp (lo_rn (by omega)), enc_ascii (by omega)]
    rw [hbl] at ht ⊢
    refine .inl ⟨h92 _ ht, ?_⟩
    rcases c1 with c1 | c1
    · rw [c1] at ht ⊢; exact esc_one ht (.inl ⟨rfl, rfl⟩)
    · rw [c1] at ht ⊢; exact esc_one ht (.inr (.inl ⟨rfl, rfl⟩))
  rw [if_neg c1] at ht ⊢
  by_cases c2 : rn s p = 10
  · rw [if_pos c2] at ht ⊢
    have hbl : bl s p = [UInt8.ofNat (rn s p)] := by rw [bl_enc s p hp (lo_rn (by omega)), enc_ascii (by omega)]
    rw [hbl, c2]
    exact .inl ⟨h92 _ ht, esc_one ht (.inr (.inr (.inl ⟨rfl, rfl⟩)))⟩
  rw [if_neg c2] at ht ⊢
  by_cases c3 : rn s p = 9
  · rw [if_pos c3] at ht ⊢
    have hbl : bl s p = [UInt8.ofNat (rn s p)] := by rw [bl_enc s p hp (lo_rn (by omega)), enc_ascii (by omega)]
    rw [hbl, c3]
    exact .inl ⟨h92 _ ht, esc_one ht (.inr (.inr (.inr (.inl ⟨rfl, rfl⟩))))⟩
  rw [if_neg c3] at ht ⊢
  by_cases c4 : rn s p = 13
  · rw [if_pos c4] at ht ⊢
    have hbl : bl s p = [UInt8.ofNat (rn s p)] := by rw [bl_enc s p hp (lo_rn (by omega)), enc_ascii (by omega)]
    rw [hbl, c4]
    exact .inl ⟨h92 _ ht, esc_one ht (.inr (.inr (.inr (.inr ⟨rfl, rfl⟩))))⟩
  rw [if_neg c4] at ht ⊢
  by_cases c5 : lo s p = true ∨ rn s p < 32 ∨ rn s p = 127
  · rw [if_pos c5] at ht ⊢
    rw [bl_loose s p hp (by rcases c5 with h | h | h; exact .inr h; exact .inl (by omega); exact .inl (by omega))]
    exact .inl ⟨h92 _ ht, esc_two (bt_lt s p) ht⟩
  rw [if_neg c5] at ht ⊢
  have hlo : lo s p = false := by cases h : lo s p with | false => rfl | true => exact absurd (.inl h) c5
  by_cases c6 : hiddenB (rn s p : Int) = true
  · rw [if_pos c6] at ht ⊢
    have hb := hidden_bd c6
    have e : [92, 117, 123] ++ hexL (rn s p) ++ [125] ++ rest = 92 :: 117 :: 123 :: (hexL (rn s p) ++ 125 :: rest) := by simp
    rw [e] at ht
    refine .inl ⟨h92 _ ht, ?_⟩
    rw [esc_brace ht (by omega) hb.2 hr, bl_enc s p hp hlo]
    congr 2
    simp; omega
  rw [if_neg c6] at ht ⊢
  rw [bl_enc s p hp hlo] at ht
  obtain ⟨_, h2, _⟩ := dec_enc (s := t) (p := 0) (l := rest) hr (by rw [List.drop_zero]; exact ht)
  have hl : (enc (rn s p)).length = wd s p := by rw [← bl_enc s p hp hlo, bl_len s p hp]
  refine .inr ⟨by rw [h2, hl], rfl, lo_enc h2, by omega, by omega, by omega, by omega⟩
/-- A text of visible bytes, spelt out of runes. -/
def Seen (l : List UInt8) : Prop := (∃ L : List Nat, (∀ r ∈ L, okR r) ∧ l = L.flatMap enc) ∧ ∀ b ∈ l, 32 ≤ b.toNat ∧ b.toNat ≠ 127
theorem Seen.nil : Seen [] := ⟨⟨[], by simp, rfl⟩, by simp⟩
theorem Seen.app {a b : List UInt8} (h : Seen a) (k : Seen b) : Seen (a ++ b) := by
  obtain ⟨⟨L, h1, rfl⟩, h2⟩ := h
  obtain ⟨⟨M, k1, rfl⟩, k2⟩ := k
  refine ⟨⟨L ++ M, fun r hr => ?_, by rw [List.flatMap_append]⟩, fun b hb => ?_⟩
  · rcases List.mem_append.1 hr with hr | hr
    · exact h1 r hr
    · exact k1 r hr
  · rcases List.mem_append.1 hb with hb | hb
    · exact h2 b hb
    · exact k2 b hb
theorem Seen.one {b : UInt8} (h : 32 ≤ b.toNat ∧ b.toNat < 127) : Seen [b] := by
  refine ⟨⟨[b.toNat], fun r hr => ?_, ?_⟩, fun c hc => ?_⟩
  · obtain rfl := List.mem_singleton.1 hr
    exact ⟨by omega, by omega⟩
  · rw [List.flatMap_cons, List.flatMap_nil, List.append_nil, enc_ascii (by omega)]
    simp
  · obtain rfl := List.mem_singleton.1 hc
    omega
theorem Seen.cons {b : UInt8} {l : List UInt8} (h : 32 ≤ b.toNat ∧ b.toNat < 127) (k : Seen l) : Seen (b :: l) := (Seen.one h).app k
theorem hexd_seen {d : Nat} (h : d < 16) : 32 ≤ (hexd d).toNat ∧ (hexd d).toNat < 127 := by
  have : ∀ d : Fin 16, 32 ≤ (hexd d.val).toNat ∧ (hexd d.val).toNat < 127 := by decide
  exact this ⟨d, h⟩
theorem hexL_seen (r : Nat) : Seen (hexL r) := by
  unfold hexL
  rw [digF_hex]
  have h := digF_lt 8 r
  generalize digF 8 r = ds at h
  induction ds with
  | nil => exact Seen.nil
  | cons d ds ih => exact Seen.cons (hexd_seen (h d (by simp))) (ih (fun x hx => h x (by simp [hx])))
theorem enc_seen {r : Nat} (hr : okR r) (h0 : 32 ≤ r) (h1 : r ≠ 127) : Seen (enc r) := by
  refine ⟨⟨[r], fun x hx => by obtain rfl := List.mem_singleton.1 hx; exact hr, by simp⟩, fun b hb => ?_⟩
  obtain ⟨hr1, hr2⟩ := hr
  unfold enc encN at hb
  obtain ⟨n, hn, rfl⟩ := List.mem_map.1 hb
  have hn256 : 32 ≤ n ∧ n ≠ 127 ∧ n < 256 := by
    split at hn
    · simp at hn; omega
    · split at hn
      · simp at hn; omega
      · split at hn
        · simp at hn; omega
        · simp at hn; omega
  rw [UInt8.toNat_ofNat_of_lt' (by show n < 256; omega)]
  omega
theorem qb_seen (s : ByteArray) (p : Nat) (hp : p < s.size) : Seen (qb s p) := by
  have hr := rn_bd s p
  unfold qb pc
  by_cases c1 : rn s p = 34 ∨ rn s p = 92
  · rw [if_pos c1, bl_enc s p hp (lo_rn (by omega))]
    exact Seen.cons (by decide) (enc_seen hr (by omega) (by omega))
  rw [if_neg c1]
  by_cases c2 : rn s p = 10
  · rw [if_pos c2]; exact Seen.cons (by decide) (Seen.one (by decide))
  rw [if_neg c2]
  by_cases c3 : rn s p = 9
  · rw [if_pos c3]; exact Seen.cons (by decide) (Seen.one (by decide))
  rw [if_neg c3]
  by_cases c4 : rn s p = 13
  · rw [if_pos c4]; exact Seen.cons (by decide) (Seen.one (by decide))
  rw [if_neg c4]
  have hb := bt_lt s p
  by_cases c5 : lo s p = true ∨ rn s p < 32 ∨ rn s p = 127
  · rw [if_pos c5]
    exact Seen.cons (by decide) (Seen.cons (by decide) (Seen.cons (hexd_seen (by omega)) (Seen.one (hexd_seen (by omega)))))
  rw [if_neg c5]
  have hlo : lo s p = false := by cases h : lo s p with | false => rfl | true => exact absurd (.inl h) c5
  by_cases c6 : hiddenB (rn s p : Int) = true
  · rw [if_pos c6]
    exact Seen.app (Seen.app (Seen.cons (by decide) (Seen.cons (by decide) (Seen.one (by decide)))) (hexL_seen _)) (Seen.one (by decide))
  rw [if_neg c6, bl_enc s p hp hlo]
  exact enc_seen hr (by omega) (by omega)
theorem quoR_seen (s : ByteArray) : ∀ d p, s.size - p ≤ d → Seen (quoR s p) := by
  intro d
  induction d with
  | zero => intro p hd; rw [quoR_end (by omega)]; exact Seen.one (by decide)
  | succ d ih =>
    intro p hd
    by_cases hp : p < s.size
    · rw [quoR_cons hp]
      have := wd_bd s p hp
      exact (qb_seen s p hp).app (ih _ (by omega))
    · rw [quoR_end hp]; exact Seen.one (by decide)
theorem qb_len7 (s : ByteArray) (p : Nat) (hp : p < s.size) : (qb s p).length ≤ 7 * wd s p := by
  have hr := rn_bd s p
  have hw := wd_bd s p hp
  unfold qb pc
  by_cases c1 : rn s p = 34 ∨ rn s p = 92
  · rw [if_pos c1, bl_enc s p hp (lo_rn (by omega)), enc_ascii (by omega)]; simp; omega
  rw [if_neg c1]
  by_cases c2 : rn s p = 10
  · rw [if_pos c2]; simp; omega
  rw [if_neg c2]
  by_cases c3 : rn s p = 9
  · rw [if_pos c3]; simp; omega
  rw [if_neg c3]
  by_cases c4 : rn s p = 13
  · rw [if_pos c4]; simp; omega
  rw [if_neg c4]
  by_cases c5 : lo s p = true ∨ rn s p < 32 ∨ rn s p = 127
  · rw [if_pos c5]; simp; omega
  rw [if_neg c5]
  have hlo : lo s p = false := by cases h : lo s p with | false => rfl | true => exact absurd (.inl h) c5
  by_cases c6 : hiddenB (rn s p : Int) = true
  · rw [if_pos c6]
    have hb := hidden_bd c6
    have h8 := hexL_len (rn s p)
    have h2 : 2 ≤ wd s p := by
      rw [← bl_len s p hp, bl_enc s p hp hlo]
      unfold enc encN
      rw [if_neg (by omega)]
      split
      · simp
      · split <;> simp
    simp; omega
  rw [if_neg c6, bl_len s p hp]
  omega
theorem quoteL_len7 (s : ByteArray) : ∀ d p, s.size - p ≤ d → (quoteL s (st s p)).length ≤ 7 * (s.size - p) := by
  intro d
  induction d with
  | zero => intro p hd; rw [st_nil (by omega)]; simp [quoteL]
  | succ d ih =>
    intro p hd
    by_cases hp : p < s.size
    · have hw := wd_bd s p hp
      have h1 := ih (p + wd s p) (by omega)
      have h2 := qb_len7 s p hp
      rw [st_cons hp]
      unfold quoteL at h1 ⊢
      rw [List.flatMap_cons, List.length_append]
      omega
    · rw [st_nil hp]; simp [quoteL]
end Go.Proofs.Ytcfbbmgpfeholaa
