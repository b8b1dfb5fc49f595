/- Walk over the book: all lists are grown. -/
import Derived.Test.YtpfiaepoibablaaBkA
namespace Go.Proofs.Ytpfiaepoibablaa
set_option linter.unusedVariables false
set_option linter.unusedSimpArgs false
open Go.RowKit

theorem markL_get (i f n j : Nat) (h : j < n) : (markL i f n)[j]? = some ((i * 31 + (f + j) * 7 + i / 7) % 251) := by
  unfold markL; rw [List.getElem?_map, List.getElem?_range h]; rfl
theorem bk_block (a : Addr) (n : Nat) : (a.add n).block = a.block := by unfold Addr.add; split <;> rfl
theorem cell_of_heap {W X : World} {p : Addr} (h : X.heap[p.block]? = W.heap[p.block]?) : X.cell? p = W.cell? p := by
  unfold World.cell?; rw [h]
theorem Rd.keep {W X : World} {x : Value} {l : List Nat} (h : Rd W x l) (hk : ∀ g ∈ obs x, X.heap[g]? = W.heap[g]?) : Rd X x l := by
  obtain ⟨a, c, rfl, h1⟩ := h
  refine ⟨a, c, rfl, fun j y hy => ?_⟩
  obtain ⟨b, rfl, hc⟩ := h1 j y hy
  exact ⟨b, rfl, (cell_of_heap (by rw [bk_block]; exact hk _ (obs_mem.2 rfl))).trans hc⟩
theorem Rd.cut {W : World} {base g N c c' i len : Nat} {t : TypeId} (h : W.ownsRow base t 1 (.slice (some ⟨g, 0, none⟩) N c) N (bC (markL i 0 N))) (hl : len ≤ N) : Rd W (.slice (some ⟨g, 0, none⟩) len c') (markL i 0 len) := by
  refine ⟨_, c', by rw [markL_len], fun j y hy => ⟨_, rfl, ?_⟩⟩
  have hj : j < len := by have := (List.getElem?_eq_some_iff.1 hy).1; rwa [markL_len] at this
  rw [Addr.add_mid, Nat.zero_add, h.cellAt j (by omega), bk_get, markL_get i 0 N j (by omega)]
  rw [markL_get i 0 len j hj] at hy
  rw [Option.some.inj hy]; rfl
/-- A list that is being grown. -/
structure In (Wb wo : World) (base : Nat) (xv : Value) (i len N : Nat) (lv : Value) (W : World) : Prop where
  own : ∃ t, W.ownsRow base t 1 lv N (bC (markL i 0 N)) ∧ (t = 5 ∨ ∃ b, lv = .slice b N N)
  at_ : ∀ b ∈ obs lv, b ∈ obs xv ∨ wo.heap.size ≤ b
  fr : ∀ k, k < wo.heap.size → k ∉ obs xv → W.heap[k]? = wo.heap[k]?
  rd : Rd W xv (markL i 0 len)
  form : xv = .slice none 0 0 ∨ ∃ g c, xv = .slice (some ⟨g, 0, none⟩) len c
  old : ∀ b ∈ obs xv, b < wo.heap.size
  sz : wo.heap.size ≤ W.heap.size
  low : Below base Wb W
  bs : base ≤ wo.heap.size
  ge : len ≤ N
theorem In.step {Wb wo W w5 W' : World} {base i len N m : Nat} {t : TypeId} {xv lv lv' : Value} (h : In Wb wo base xv i len N lv W) (hb : Below W.heap.size W w5)
    (ho : W'.ownsRow base 5 1 lv' (N + m) (bC (markL i 0 N) ++ bC (markL i N m))) (hg : w5.grownBy W' lv.ownBlock) (ha : lv'.ownBlock = lv.ownBlock ∨ lv'.ownBlock = some w5.heap.size) (hk : W'.ownsRow base t 1 lv N (bC (markL i 0 N))) (hlt0 : ∀ b ∈ obs lv, base ≤ b) :
    In Wb wo base xv i len (N + m) lv' W' := by
  have hs := hb.size
  have hs0 := h.sz
  have hfr : ∀ k, k < wo.heap.size → k ∉ obs xv → k ∉ obs lv := fun k h1 h2 h3 => by
    rcases h.at_ k h3 with h4 | h4
    · exact h2 h4
    · omega
  refine ⟨?_, ?_, ?_, ?_, h.form, h.old, by have := hg.size; omega, ?_, h.bs, by have := h.ge; omega⟩
  · exact ⟨_, by rw [markL_app, Nat.zero_add, bC_app]; exact ho, .inl rfl⟩
  · intro b hb'
    rcases ha with e | e
    · exact h.at_ b (by rw [obs_mem] at hb' ⊢; rw [← e]; exact hb')
    · rw [obs_mem, e] at hb'
      injection hb' with hb'
      exact .inr (by omega)
  · intro k h1 h2
    exact (hg.block k (by omega) (fun e => hfr k h1 h2 (obs_mem.2 e.symm))).trans ((hb.block k (by omega)).trans (h.fr k h1 h2))
  · have hr5 := h.rd.below hb
    by_cases hsame : ∃ g, g ∈ obs xv ∧ g ∈ obs lv
    · obtain ⟨g, g1, g2⟩ := hsame
      rcases h.form with e | ⟨gx, c, e⟩
      · rw [e] at g1; simp [obs, Value.ownBlock] at g1
      · rw [e]
        have e1 : gx = g := by rw [e, obs_mem] at g1; exact Option.some.inj g1
        subst e1
        rcases hk.2 with ⟨e2, _⟩ | ⟨g', cap, cur, e2, _⟩
        · rw [e2] at g2; simp [obs, Value.ownBlock] at g2
        · rw [e2, obs_mem] at g2
          obtain rfl : g' = gx := Option.some.inj g2
          rw [e2] at hk
          exact Rd.cut hk h.ge
    · refine hr5.keep fun g hg' => hg.block g (by have := h.old g hg'; omega) (fun e => hsame ⟨g, hg', obs_mem.2 e.symm⟩)
  · refine h.low.trans ((hb.mono (by have := h.bs; omega)).trans ⟨hg.os, hg.tape, hg.output, by have := hg.size; have := h.bs; omega, fun k hk' => hg.block k (by have := h.bs; omega) (fun e => ?_)⟩)
    have := hlt0 k (obs_mem.2 e.symm)
    omega
/-- The book whose first i lists are grown. -/
structure Gr (Wb : World) (S base K : Nat) (vb vw : Value) (L : List Ls) (i : Nat) (ov : Value) (W : World) : Prop where
  box : W.heap[K]? = some (.cells (bookC vb vw) 41 (0, 0))
  rb : W.ownsRow base 22 1 vb L.length (L.map Ls.v)
  rd : ∀ (j : Nat) (x : Ls), L[j]? = some x → Rd W x.v (markL j 0 x.l.length)
  own : ∀ (j : Nat) (x : Ls), L[j]? = some x → i ≤ j → W.ownsRow base x.t 1 x.v x.l.length (bC (markL j 0 x.l.length))
  ro : ∃ G, W.ownsRow base 22 1 ov i G ∧ ∀ (j : Nat) (g : Value), G[j]? = some g → ∃ x, L[j]? = some x ∧ Rd W g (markL j 0 (x.l.length + 96)) ∧ ∀ b ∈ obs g, b < W.heap.size ∧ (b ∈ obs x.v ∨ S ≤ b) ∧ b ∉ obs ov
  of_ : ∀ b ∈ obs ov, S ≤ b
  low : Below base Wb W
  sz : S ≤ W.heap.size
  bs : base ≤ S
/-- The old blocks. -/
structure Old (S K : Nat) (vb : Value) (L : List Ls) : Prop where
  k : K < S
  b : ∀ g ∈ obs vb, g < S
  x : ∀ (j : Nat) (x : Ls), L[j]? = some x → ∀ g ∈ obs x.v, g < S
theorem Gr.next {Wb W W' : World} {S base K i : Nat} {vb vw ov ov' l' : Value} {L : List Ls} {x : Ls} {G : List Value} (h : Gr Wb S base K vb vw L i ov W) (hs : Sep K vb L) (ho : Old S K vb L) (hx : L[i]? = some x)
    (hG : ∀ (j : Nat) (g : Value), G[j]? = some g → ∃ x, L[j]? = some x ∧ Rd W g (markL j 0 (x.l.length + 96)) ∧ ∀ b ∈ obs g, b < W.heap.size ∧ (b ∈ obs x.v ∨ S ≤ b) ∧ b ∉ obs ov) (hGl : G.length = i)
    (hfr : ∀ k, k < W.heap.size → k ∉ obs x.v → k ∉ obs ov → W'.heap[k]? = W.heap[k]?) (hrd : Rd W' x.v (markL i 0 x.l.length)) (hov : W'.ownsRow base 22 1 ov' (i + 1) (G ++ [l'])) (hrl : Rd W' l' (markL i 0 (x.l.length + 96)))
    (hl : ∀ b ∈ obs l', b < W'.heap.size ∧ (b ∈ obs x.v ∨ W.heap.size ≤ b) ∧ b ∉ obs ov') (hoo : ∀ b ∈ obs ov', b ∈ obs ov ∨ W.heap.size ≤ b) (hlow : Below base Wb W') (hsz : W.heap.size ≤ W'.heap.size) : Gr Wb S base K vb vw L (i + 1) ov' W' := by
  have hS := h.sz
  have hold : ∀ k, k < S → k ∉ obs x.v → W'.heap[k]? = W.heap[k]? := fun k h1 h2 => hfr k (by omega) h2 (fun e => by have := h.of_ k e; omega)
  refine ⟨(hold K ho.k (hs.kx i x hx)).trans h.box, ownsRow_same h.rb (fun g hg => hold g (ho.b g hg) (hs.bx i x hx g hg)), fun j y hy => ?_, fun j y hy hj => ?_, ⟨G ++ [l'], hov, fun j g hg => ?_⟩, fun b hb => ?_, hlow, by omega, h.bs⟩
  · by_cases hij : j = i
    · subst hij; rw [hx] at hy; obtain rfl := Option.some.inj hy; exact hrd
    · exact (h.rd j y hy).keep fun g hg => hold g (ho.x j y hy g hg) (hs.xx j i y x hy hx hij g hg)
  · exact ownsRow_same (h.own j y hy (by omega)) fun g hg => hold g (ho.x j y hy g hg) (hs.xx j i y x hy hx (by omega) g hg)
  · rcases Nat.lt_or_ge j i with hj | hj
    · rw [List.getElem?_append_left (by omega)] at hg
      obtain ⟨y, hy, h1, h2⟩ := hG j g hg
      refine ⟨y, hy, h1.keep fun b hb => hfr b (h2 b hb).1 (fun e => ?_) (h2 b hb).2.2, fun b hb => ⟨by have := (h2 b hb).1; omega, (h2 b hb).2.1, fun e => ?_⟩⟩
      · rcases (h2 b hb).2.1 with h3 | h3
        · exact hs.xx j i y x hy hx (by omega) b h3 e
        · have := ho.x i x hx b e; omega
      · rcases hoo b e with h3 | h3
        · exact (h2 b hb).2.2 h3
        · have := (h2 b hb).1; omega
    · have hj2 : j = i := by
        have := (List.getElem?_eq_some_iff.1 hg).1
        rw [List.length_append, hGl] at this
        simp at this
        omega
      subst hj2
      rw [List.getElem?_append_right (by omega), hGl, Nat.sub_self] at hg
      obtain rfl : l' = g := by simpa using hg
      exact ⟨x, hx, hrl, fun b hb => ⟨(hl b hb).1, (hl b hb).2.1.imp id (fun h3 => by omega), (hl b hb).2.2⟩⟩
  · rcases hoo b hb with h3 | h3
    · exact h.of_ b h3
    · omega
theorem mark1_any (i N : Nat) (w : World) (hi : i ≤ 1000) (hN : N ≤ 2000) :
    Calls Try.prog 97 #[.int .i64 (i : Int), .int .i64 (N : Int), .int .i64 1] w fun e w' => ∃ v, e = .returned v ∧ w'.ownsRow w.heap.size 5 1 v 1 (bC (markL i N 1)) ∧ Below w.heap.size w w' := mark_any i N 1 w hi hN (by decide)
theorem mark80_any (i N : Nat) (w : World) (hi : i ≤ 1000) (hN : N ≤ 2000) :
    Calls Try.prog 97 #[.int .i64 (i : Int), .int .i64 (N : Int), .int .i64 80] w fun e w' => ∃ v, e = .returned v ∧ w'.ownsRow w.heap.size 5 1 v 80 (bC (markL i N 80)) ∧ Below w.heap.size w w' := mark_any i N 80 w hi hN (by decide)
theorem Bp.gr {Wb W : World} {base K : Nat} {vb vw : Value} {L : List Ls} (h : Bp W base K vb vw L (atC L L.length)) (hl : Below base Wb W) (hb : base ≤ W.heap.size) : Gr Wb W.heap.size base K vb vw L 0 (.slice none 0 0) W := by
  have key : ∀ (j : Nat) (x : Ls), L[j]? = some x → W.ownsRow base x.t 1 x.v x.l.length (bC (markL j 0 x.l.length)) := fun j x hx => by
    have := (h.own j x hx).2
    rwa [atC_lt hx (List.getElem?_eq_some_iff.1 hx).1] at this
  refine ⟨h.box, h.rb, fun j x hx => ?_, fun j x hx _ => key j x hx, ⟨[], World.ownsRow_nil _ _ _ _, fun j g hg => by simp at hg⟩, fun b hb' => by simp [obs, Value.ownBlock] at hb', hl, Nat.le_refl _, hb⟩
  have h1 := key j x hx
  obtain ⟨a, c, e⟩ := sl_form h1
  rw [e] at h1 ⊢
  exact ⟨a, c, by rw [markL_len], rd_own h1 (markL_len _ _ _)⟩
set_option maxRecDepth 100000 in
set_option maxHeartbeats 2000000 in
theorem grow_any (base K : Nat) (vb vw : Value) (L : List Ls) (Wb W : World) (h : Bp W base K vb vw L (atC L L.length)) (hs : Sep K vb L) (hlow : Below base Wb W) (hbase : base ≤ W.heap.size) (hfew : L.length ≤ 400) (hshort : ∀ x ∈ L, x.l.length ≤ 1000) (hty : ∀ x ∈ L, x.t = 5 ∨ ∃ a, x.v = .slice a x.l.length x.l.length) :
    Calls Try.prog 60 #[.pointer (some ⟨K, 0, none⟩)] W fun e w' => ∃ ov, e = .returned ov ∧ Gr Wb W.heap.size base K vb vw L L.length ov w' := by
  obtain ⟨i0, hi0, hz0, hz1, hz2⟩ := info_parts Try.infoSl
  obtain ⟨i1, hi1, hy0, hy1, hy2⟩ := info_parts Try.infoByte
  obtain ⟨a, cap, rfl⟩ := sl_form h.rb
  have HG0 := Lib.hid (h.gr hlow hbase)
  have HSP := Lib.hid hs
  have HSH := Lib.hid hshort
  have HTY := Lib.hid hty
  clear hty
  have HOLD : Hid (Old W.heap.size K (.slice a L.length cap) L) := ⟨blk_lt h.box, fun g hg => (ownsRow_obs h.rb g hg).2, fun j x hx g hg => (ownsRow_obs (h.own j x hx).2 g hg).2⟩
  obtain ⟨S, hS⟩ : ∃ S, W.heap.size = S := ⟨_, rfl⟩
  rw [hS] at HG0 HOLD ⊢
  clear h hs hlow hbase hshort hS
  go_enter Try.func60, Try.ntmps60
  go_wp2_with fail
  go_loopw [3, 4] (fun ov iv wr => ∃ i : Nat, iv = .int .i64 i ∧ i ≤ L.length ∧ Hid (Gr Wb S base K (.slice a L.length cap) vw L i ov wr)) (fun _ iv _ => L.length - (intOf iv).toNat)
  case atStart => exact ⟨0, rfl, Nat.zero_le _, HG0.out⟩
  case round =>
    rename_i ov _ _
    obtain ⟨i, rfl, hi, HG⟩ := hrel
    have c8 := (blk_cell HG.out.box 8).trans rfl
    simp [bookC] at c8
    by_cases hlt : i < L.length
    · obtain ⟨x, hx⟩ : ∃ x, L[i]? = some x := ⟨_, List.getElem?_eq_getElem hlt⟩
      obtain ⟨g1, rfl, k1, _⟩ := el_own HG.out.rb (i := i) (x := x.v) (by rw [List.getElem?_map, hx]; rfl)
      have hsh := HSH.out _ (List.mem_of_getElem? hx)
      have ho1 := HG.out.own i x hx (Nat.le_refl _)
      have hrd := HG.out.rd i x hx
      have hox := HOLD.out.x i x hx
      have htt := HTY.out _ (List.mem_of_getElem? hx)
      obtain ⟨xv, xu, l, tt⟩ := x
      dsimp only at ho1 hsh k1 hrd hox htt
      have hform : xv = .slice none 0 0 ∨ ∃ g c, xv = .slice (some ⟨g, 0, none⟩) l.length c := by
        rcases ho1.2 with ⟨e, _⟩ | ⟨g, c, _, e, _⟩
        · exact .inl e
        · exact .inr ⟨g, c, e⟩
      obtain ⟨av, cv, rfl⟩ := sl_form ho1
      have hgsz := HG.out.sz
      have HIN : Hid (In Wb wr base (.slice av l.length cv) i l.length l.length (.slice av l.length cv) wr) :=
        ⟨⟨tt, ho1, htt⟩, fun b hb => .inl hb, fun _ _ _ => rfl, hrd, hform, fun b hb => by have := hox b hb; omega, Nat.le_refl _, HG.out.low, Nat.le_trans HG.out.bs hgsz, Nat.le_refl _⟩
      have j1 : (i : Int) < (L.length : Int) := by omega
      have j2 : (0 : Int) ≤ (i : Int) := by omega
      have j3 : (i : Int).toNat = i := Int.toNat_natCast i
      have HX := Lib.hid hx
      clear ho1 hx hrd hform htt
      obtain ⟨wo, rfl⟩ : ∃ wo : World, wo = wr := ⟨_, rfl⟩
      obtain ⟨len, hlen⟩ : ∃ len, l.length = len := ⟨_, rfl⟩
      have HLEN := Lib.hid hlen
      rw [hlen] at HIN hsh hox k1
      clear hlen
      go_wp2_with fail
      clear c8 k1
      go_loopw [5, 6] (fun lv tv wr => ∃ t N : Nat, tv = .int .i64 t ∧ t ≤ 16 ∧ N = len + t ∧ Hid (In Wb wo base (.slice av len cv) i len N lv wr)) (fun _ tv _ => 16 - (intOf tv).toNat)
      case atStart => exact ⟨0, len, rfl, by omega, rfl, HIN.out⟩
      case round =>
        rename_i lv _ _
        obtain ⟨t, N, rfl, ht, hN, HI⟩ := hrel
        obtain ⟨tl, hio, hit⟩ := HI.out.own
        obtain ⟨al, cl, rfl⟩ := sl_form hio
        have HIO := Lib.hid hio
        have HIT := Lib.hid hit
        clear hio hit
        have n1 : N ≤ 1016 := by omega
        have n2 : i ≤ 1000 := by omega
        have HNL := Lib.hid hN
        have hbw : base ≤ wr.heap.size := Nat.le_trans HI.out.bs HI.out.sz
        by_cases htl : t < 16
        · have t1 : (t : Int) < 16 := by omega
          clear hN
          go_wp2_with (first
            | (go_at_call 97; refine (mark1_any i N _ n2 (by omega)).mono ?_; rintro e w5 ⟨v5, rfl, ho5, hB5⟩; obtain ⟨g5, c5, rfl, _, _⟩ := ownsRow_pos ho5 (by decide); have HO5 := Lib.hid ho5; have HB5 := Lib.hid hB5; have HL5 := Lib.hid (ownsRow_same HIO.out (fun g hg => hB5.block g (ownsRow_obs HIO.out g hg).2)); have hs5 := hB5.size; clear ho5 hB5)
            | (at_builtin; refine wpList_append_full rfl _ _ 22 rfl base 5 tl i1 (.int .u8 0) 1 Try.underlying22 hi1 hy0 hy1 hy2 rfl (.slice al N cl) N (bC (markL i 0 N)) rfl HL5.out HIT.out ⟨g5, 0, none⟩ 1 c5 (bC (markL i N 1)) rfl (by rw [bC_len, markL_len]) (by decide) (HO5.out.cells rfl) (bC_one _) (by unfold maxLen; omega) (by omega) (by omega) ?_; intro lv' w6 hown6 hg6 hat6 hk6; have HI6 := Lib.hid (HI.out.step HB5.out hown6 hg6 hat6 hk6 (fun b hb => (ownsRow_obs HIO.out b hb).1)); clear hown6 hg6 hat6 hk6))
          clear HO5 HB5 HL5
          go_roundw
          case rel => exact ⟨t + 1, N + 1, by go_num, by omega, by have := HNL.out; omega, HI6.out⟩
          case measure => simp [intOf]; omega
        · obtain rfl : t = 16 := by omega
          clear hN
          obtain ⟨G, hGo, hGa⟩ := HG.out.ro
          obtain ⟨ao, co, rfl⟩ := sl_form hGo
          have HGO := Lib.hid hGo
          have HGA := Lib.hid hGa
          have HOF := Lib.hid HG.out.of_
          clear hGo hGa
          have HGW : Hid (∀ W : World, (∀ k, k < wo.heap.size → k ∉ obs (.slice av len cv) → W.heap[k]? = wo.heap[k]?) → W.ownsRow base 22 1 (.slice ao i co) i G) := fun W hW =>
            ownsRow_same HGO.out (fun g hg => hW g (ownsRow_obs HGO.out g hg).2 (fun e => by have h1 := HOF.out g hg; have h2 := hox g e; omega))
          go_wp2_with (first
            | (go_at_call 97; refine (mark80_any i N _ n2 (by omega)).mono ?_; rintro e w5 ⟨v5, rfl, ho5, hB5⟩; obtain ⟨g5, c5, rfl, _, _⟩ := ownsRow_pos ho5 (by decide); have HO5 := Lib.hid ho5; have HB5 := Lib.hid hB5; have HL5 := Lib.hid (ownsRow_same HIO.out (fun g hg => hB5.block g (ownsRow_obs HIO.out g hg).2)); have hs5 := hB5.size; clear ho5 hB5)
            | (at_builtin; refine wpList_append_full rfl _ _ 22 rfl base 5 tl i1 (.int .u8 0) 1 Try.underlying22 hi1 hy0 hy1 hy2 rfl (.slice al N cl) N (bC (markL i 0 N)) rfl HL5.out HIT.out ⟨g5, 0, none⟩ 80 c5 (bC (markL i N 80)) rfl (by rw [bC_len, markL_len]) (by decide) (HO5.out.cells rfl) (bC_one _) (by unfold maxLen; omega) (by omega) (by omega) ?_; intro lv' w6 hown6 hg6 hat6 hk6; have HI6 := Lib.hid (HI.out.step HB5.out hown6 hg6 hat6 hk6 (fun b hb => (ownsRow_obs HIO.out b hb).1)); obtain ⟨al6, cl6, rfl⟩ := sl_form hown6; have hs6 := HI6.out.sz; have hb6 := HI6.out.bs; clear hown6 hg6 hat6 hk6)
            | (at_builtin; refine wpList_append_own_at _ rfl _ _ 32 rfl base 22 i0 (.slice none 0 0) 1 24 Try.underlying32 hi0 hz0 hz1 hz2 rfl (by decide) (.slice ao i co) i G rfl ((HGW.out _ HI6.out.fr).alloc _) ⟨w6.heap.size, 0, none⟩ 1 1 [.slice al6 (N + 80) cl6] rfl rfl (cell_one_new w6 _ _) (by simp; rfl) (by unfold maxLen; omega) (by omega) (by simp; omega) ?_; intro ov' w7 hown7 hg7 _ hat7))
          clear HO5 HB5 HL5
          have HG7 : Hid (Gr Wb S base K (.slice (some ⟨g1, 0, none⟩) L.length cap) vw L (i + 1) ov' w7) := by
            obtain ⟨t6, ho6, _⟩ := HI6.out.own
            have hfr6 := HI6.out.fr
            have hg7s := hg7.size
            simp at hg7s
            have hxl : L[i]? = some ⟨.slice av len cv, xu, l, tt⟩ := by rw [HX.out, HLEN.out]
            have hov7 : ∀ b ∈ obs ov', b ∈ obs (.slice ao i co) ∨ wo.heap.size ≤ b := fun b hb => by
              rcases hat7 with e | e
              · rw [obs_mem, e, ← obs_mem] at hb; exact .inl hb
              · rw [obs_mem, e] at hb; injection hb with hb; simp at hb; exact .inr (by omega)
            have hkeep : ∀ k, k < w6.heap.size → k ∉ obs (.slice ao i co) → w7.heap[k]? = w6.heap[k]? := fun k h1 h2 =>
              (hg7.block k (by simp; omega) (fun e => h2 (obs_mem.2 e.symm))).trans (heap_alloc_old w6 _ h1)
            have hN2 := HNL.out
            have hN3 : N + 80 = len + 96 := by omega
            refine HG.out.next HSP.out HOLD.out hxl HGA.out (by have := HGO.out.1; omega) (fun k h1 h2 h3 => (hkeep k (by omega) h3).trans (hfr6 k h1 h2)) ?_ hown7 ?_ (fun b hb => ?_) hov7 ?_ (by omega)
            · show Rd w7 (.slice av len cv) (markL i 0 l.length)
              rw [HLEN.out]
              refine HI6.out.rd.keep fun g hg => hkeep g (by have := HI6.out.old g hg; omega) (fun e => ?_)
              have h1 := HOF.out g e; have h2 := hox g hg; omega
            · show Rd w7 (.slice al6 (N + 80) cl6) (markL i 0 (l.length + 96))
              rw [HLEN.out, ← hN3]
              have h1 := Rd.own (x := .slice al6 (N + 80) cl6) (l := markL i 0 (N + 80)) (by rw [markL_len]; exact ho6)
              refine h1.keep fun g hg => hkeep g (ownsRow_obs ho6 g hg).2 (fun e => ?_)
              rcases HI6.out.at_ g hg with h2 | h2
              · have h3 := HOF.out g e; have h4 := hox g h2; omega
              · have h3 := (ownsRow_obs HGO.out g e).2; omega
            · have h0 := ownsRow_obs ho6 b hb
              refine ⟨by omega, HI6.out.at_ b hb, fun e => ?_⟩
              rcases hat7 with e2 | e2
              · rw [obs_mem, e2, ← obs_mem] at e
                rcases HI6.out.at_ b hb with h2 | h2
                · have h3 := HOF.out b e; have h4 := hox b h2; omega
                · have h3 := (ownsRow_obs HGO.out b e).2; omega
              · rw [obs_mem, e2] at e
                injection e with e
                simp at e
                omega
            · refine HI6.out.low.trans ⟨hg7.os, hg7.tape, hg7.output, by omega, fun k hk => hkeep k (by omega) (fun e => ?_)⟩
              have := HOF.out k e; have := HG.out.bs; omega
          clear hown7 hg7 hat7
          go_roundw
          case rel => exact ⟨i + 1, by go_num, by omega, HG7.out⟩
          case measure => simp [intOf]; omega
    · obtain rfl : i = L.length := by omega
      go_wp2_with fail
      go_ret
      exact ⟨_, rfl, HG.out⟩
end Go.Proofs.Ytpfiaepoibablaa
