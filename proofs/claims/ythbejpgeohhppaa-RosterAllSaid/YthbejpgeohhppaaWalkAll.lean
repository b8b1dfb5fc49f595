/- The walk of the law RosterAll. -/
import Derived.Test.YthbejpgeohhppaaAllR
import Derived.Test.YthbejpgeohhppaaFloat
import Derived.Deep.CutBlock
import Derived.Deep.DeepCutAuto
namespace Go.Proofs.Ythbejpgeohhppaa
set_option linter.unusedVariables false
set_option linter.unusedSimpArgs false
open Go.RowKit Go.Maps

theorem src_cells {W : World} {p : Nat} {cs : Array Value} {t : TypeId} (h : W.heap[p]? = some (.cells cs t (0, 0))) : ∀ j u, cs.toList[j]? = some u → W.cell? ((⟨p, 0, none⟩ : Addr).add j) = some u := fun j u hu => by
  rw [Addr.add_mid, Nat.zero_add, blk_cell h]; simpa using hu
theorem blk_kept {W W' : World} {K : Nat} {ob : Option Nat} {o : Obj} (hg : W.grownBy W' ob) (h : W.heap[K]? = some o) (hne : some K ≠ ob) : W'.heap[K]? = some o := by
  rw [hg.block K (by have := (Array.getElem?_eq_some_iff.1 h).1; exact this) hne]; exact h
theorem ne_block {W : World} {B n sz q : Nat} {t T : TypeId} {v : Value} {xs : List Value} {cs : Array Value} {fz : Nat × Nat} (h : W.ownsRow B t sz v n xs) (hq : W.heap[q]? = some (.cells cs T fz)) (hne : T ≠ t) : some q ≠ v.ownBlock := by
  intro e
  obtain ⟨cs', T', fz', a, b⟩ := row_block h q e.symm
  rw [hq] at a
  injection a with a
  injection a with _ a
  exact hne (a.trans b)
theorem ss_of {W : World} {gr gs : Nat} {x y z u : Value} {t1 t2 : TypeId} (h1 : W.heap[gr]? = some (.cells #[x, y, z] t1 (0, 0))) (h2 : W.heap[gs]? = some (.cells #[u] t2 (0, 0))) :
    (W.cell? ⟨gr, 0, none⟩ = some x ∧ W.cell? ⟨gr, 1, none⟩ = some y ∧ W.cell? ⟨gr, 2, none⟩ = some z) ∧ W.cell? ⟨gs, 0, none⟩ = some u := by
  obtain ⟨d0, d1, d2, _⟩ := three_cells h1
  exact ⟨⟨d0, d1, d2⟩, (blk_cell h2 0).trans rfl⟩
theorem lC_snoc (L : List Pr) (x y z u : Value) (o : Option (List Nat)) (s : ByteArray) : lC (L ++ [⟨.agg #[x, y, z], u, o, s⟩]) = lC L ++ [x, y, z] := by unfold lC; rw [List.flatMap_append]; rfl
theorem mC_snoc (L : List Pr) (v x : Value) (o : Option (List Nat)) (s : ByteArray) : mC (L ++ [⟨v, .agg #[x], o, s⟩]) = mC L ++ [x] := by unfold mC; rw [List.flatMap_append]; rfl
theorem ss_below {W W' : World} {a b c d : Addr} {x y z u : Value} (hb : Below W.heap.size W W') (h : (W.cell? a = some x ∧ W.cell? b = some y ∧ W.cell? c = some z) ∧ W.cell? d = some u) :
    (W'.cell? a = some x ∧ W'.cell? b = some y ∧ W'.cell? c = some z) ∧ W'.cell? d = some u :=
  ⟨⟨(hb.cell (cell_lt h.1.1)).trans h.1.1, (hb.cell (cell_lt h.1.2.1)).trans h.1.2.1, (hb.cell (cell_lt h.1.2.2)).trans h.1.2.2⟩, (hb.cell (cell_lt h.2)).trans h.2⟩
theorem z4 {W : World} {g : Nat} {a b c d : Value} {t : TypeId} (h : W.heap[g]? = some (.cells #[a, b, c, d] t (0, 0))) :
    (W.cell? ⟨g, 0, none⟩ = some a ∧ W.cell? ⟨g, 1, none⟩ = some b ∧ W.cell? ⟨g, 2, none⟩ = some c ∧ W.cell? ⟨g, 3, none⟩ = some d) ∧ (W.frozen? ⟨g, 0, none⟩ = false ∧ W.frozen? ⟨g, 1, none⟩ = false ∧ W.frozen? ⟨g, 2, none⟩ = false ∧ W.frozen? ⟨g, 3, none⟩ = false) :=
  ⟨⟨blk_cell h 0, blk_cell h 1, blk_cell h 2, blk_cell h 3⟩, ⟨blk_free h 0, blk_free h 1, blk_free h 2, blk_free h 3⟩⟩
theorem ss2_below {W W' : World} {a d : Addr} {x u : Value} (hb : Below W.heap.size W W') (h : W.cell? a = some x ∧ W.cell? d = some u) : W'.cell? a = some x ∧ W'.cell? d = some u :=
  ⟨(hb.cell (cell_lt h.1)).trans h.1, (hb.cell (cell_lt h.2)).trans h.2⟩
theorem s19_below {W W' : World} {a b c d e f g : Addr} {x y z p q r s : Value} (hb : Below W.heap.size W W') (h : (W.cell? a = some x ∧ W.cell? b = some y ∧ W.cell? c = some z) ∧ (W.cell? d = some p ∧ W.cell? e = some q ∧ W.cell? f = some r ∧ W.cell? g = some s)) :
    (W'.cell? a = some x ∧ W'.cell? b = some y ∧ W'.cell? c = some z) ∧ (W'.cell? d = some p ∧ W'.cell? e = some q ∧ W'.cell? f = some r ∧ W'.cell? g = some s) := by
  obtain ⟨⟨h1, h2, h3⟩, h4, h5, h6, h7⟩ := h
  exact ⟨⟨(hb.cell (cell_lt h1)).trans h1, (hb.cell (cell_lt h2)).trans h2, (hb.cell (cell_lt h3)).trans h3⟩, (hb.cell (cell_lt h4)).trans h4, (hb.cell (cell_lt h5)).trans h5, (hb.cell (cell_lt h6)).trans h6, (hb.cell (cell_lt h7)).trans h7⟩
theorem s20_below {W W' : World} {a d e f g : Addr} {x p q r s : Value} (hb : Below W.heap.size W W') (h : W.cell? a = some x ∧ (W.cell? d = some p ∧ W.cell? e = some q ∧ W.cell? f = some r ∧ W.cell? g = some s)) :
    W'.cell? a = some x ∧ (W'.cell? d = some p ∧ W'.cell? e = some q ∧ W'.cell? f = some r ∧ W'.cell? g = some s) := by
  obtain ⟨h1, h4, h5, h6, h7⟩ := h
  exact ⟨(hb.cell (cell_lt h1)).trans h1, (hb.cell (cell_lt h4)).trans h4, (hb.cell (cell_lt h5)).trans h5, (hb.cell (cell_lt h6)).trans h6, (hb.cell (cell_lt h7)).trans h7⟩
theorem setC4 {W : World} {b x : Nat} {T : TypeId} (h : W.heap[b]? = some (.cells (setC x) T (0, 0))) :
    W.cell? ⟨b, 0, none⟩ = some (.int .u32 (sw x 0 : Nat)) ∧ W.cell? ⟨b, 1, none⟩ = some (.int .u32 (sw x 1 : Nat)) ∧ W.cell? ⟨b, 2, none⟩ = some (.int .u32 (sw x 2 : Nat)) ∧ W.cell? ⟨b, 3, none⟩ = some (.int .u32 (sw x 3 : Nat)) := by
  obtain ⟨h1, h2, h3, h4, _⟩ := set_cells h
  exact ⟨h1, h2, h3, h4⟩
theorem s21_below {W W' : World} {a b c m d e f g d' e' f' g' : Addr} {x y z u p q r s p' q' r' s' : Value} (hb : Below W.heap.size W W')
    (h : ((W.cell? a = some x ∧ W.cell? b = some y ∧ W.cell? c = some z) ∧ W.cell? m = some u) ∧ (W.cell? d = some p ∧ W.cell? e = some q ∧ W.cell? f = some r ∧ W.cell? g = some s) ∧ (W.cell? d' = some p' ∧ W.cell? e' = some q' ∧ W.cell? f' = some r' ∧ W.cell? g' = some s')) :
    ((W'.cell? a = some x ∧ W'.cell? b = some y ∧ W'.cell? c = some z) ∧ W'.cell? m = some u) ∧ (W'.cell? d = some p ∧ W'.cell? e = some q ∧ W'.cell? f = some r ∧ W'.cell? g = some s) ∧ (W'.cell? d' = some p' ∧ W'.cell? e' = some q' ∧ W'.cell? f' = some r' ∧ W'.cell? g' = some s') := by
  obtain ⟨⟨⟨h1, h2, h3⟩, h8⟩, ⟨h4, h5, h6, h7⟩, k4, k5, k6, k7⟩ := h
  exact ⟨⟨⟨(hb.cell (cell_lt h1)).trans h1, (hb.cell (cell_lt h2)).trans h2, (hb.cell (cell_lt h3)).trans h3⟩, (hb.cell (cell_lt h8)).trans h8⟩, ⟨(hb.cell (cell_lt h4)).trans h4, (hb.cell (cell_lt h5)).trans h5, (hb.cell (cell_lt h6)).trans h6, (hb.cell (cell_lt h7)).trans h7⟩, (hb.cell (cell_lt k4)).trans k4, (hb.cell (cell_lt k5)).trans k5, (hb.cell (cell_lt k6)).trans k6, (hb.cell (cell_lt k7)).trans k7⟩
/-- What holds all through a round: the rosters, the two lists, the cells below. -/
structure Gd (w W : World) (lv : Value) (nl : Nat) (xs : List Value) (mv : Value) (nm : Nat) (ys : List Value) (L : List Pr) : Prop where
  all : RAll W w.heap.size L
  l : W.ownsRow w.heap.size 25 3 lv nl xs
  m : W.ownsRow w.heap.size 31 1 mv nm ys
  low : Below w.heap.size w W
theorem Gd.below {w W W' : World} {lv mv : Value} {nl nm : Nat} {xs ys : List Value} {L : List Pr} (h : Gd w W lv nl xs mv nm ys L) (hb : Below W.heap.size W W') : Gd w W' lv nl xs mv nm ys L :=
  ⟨h.all.below hb, ownsRow_below h.l hb, ownsRow_below h.m hb, below_then h.low hb⟩
theorem Gd.growl {w W W' : World} {lv mv lv' : Value} {nl nm nl' : Nat} {xs ys xs' : List Value} {L : List Pr} (h : Gd w W lv nl xs mv nm ys L) (hn : W'.ownsRow w.heap.size 25 3 lv' nl' xs') (hg : W.grownBy W' lv.ownBlock) : Gd w W' lv' nl' xs' mv nm ys L :=
  ⟨h.all.grown h.l hg (by decide) (by decide), hn, other_grown h.m h.l hg (by decide), h.low.grown hg h.low.size (fun k hk => (h.l.lt _ hk).1)⟩
theorem Gd.growm {w W W' : World} {lv mv mv' : Value} {nl nm nm' : Nat} {xs ys ys' : List Value} {L : List Pr} (h : Gd w W lv nl xs mv nm ys L) (hn : W'.ownsRow w.heap.size 31 1 mv' nm' ys') (hg : W.grownBy W' mv.ownBlock) : Gd w W' lv nl xs mv' nm' ys' L :=
  ⟨h.all.grown h.m hg (by decide) (by decide), other_grown h.l h.m hg (by decide), hn, h.low.grown hg h.low.size (fun k hk => (h.m.lt _ hk).1)⟩
theorem Gd.lcells {w W : World} {al am : Option Addr} {n cl cm k : Nat} {L : List Pr} {x y z u : Value} {o : Option (List Nat)} {s : ByteArray} (h : Gd w W (.slice al n cl) n (lC L) (.slice am n cm) n (mC L) L) (hn : L.length = n) (hp : L[k]? = some ⟨.agg #[x, y, z], u, o, s⟩) :
    ∃ g, al = some ⟨g, 0, none⟩ ∧ g < W.heap.size ∧ W.cell? ⟨g, k * 3, none⟩ = some x ∧ W.cell? ⟨g, k * 3 + 1, none⟩ = some y ∧ W.cell? ⟨g, k * 3 + 2, none⟩ = some z := by
  have hk : k < n := hn ▸ (List.getElem?_eq_some_iff.1 hp).1
  have h3 : ∀ p ∈ L, p.v.cells.toList.length = 3 := fun p hp => by
    obtain ⟨t, a, c, m, e⟩ := (h.all p hp).1.shape
    rw [e]; rfl
  have hg : ∀ j, j < 3 → (lC L)[k * 3 + j]? = #[x, y, z].toList[j]? := fun j hj => by
    have := flat_get (fun p : Pr => p.v.cells.toList) 3 L h3 k j _ hp hj
    exact this
  rcases ownsRow_slice h.l with ⟨a, cap, e, h0 | ⟨g, rfl, hb, hlt⟩⟩
  · omega
  · injection e with e1 e2 e3
    subst e1
    have hc := h.l.cells (g := g) rfl
    have f := fun j hj v hv => hc (k * 3 + j) v ((hg j hj).trans hv)
    simp only [Addr.add_mid, Nat.zero_add] at f
    exact ⟨g, rfl, hlt, f 0 (by decide) x rfl, f 1 (by decide) y rfl, f 2 (by decide) z rfl⟩
theorem Gd.mcells {w W : World} {al am : Option Addr} {n cl cm k : Nat} {L : List Pr} {x v : Value} {o : Option (List Nat)} {s : ByteArray} (h : Gd w W (.slice al n cl) n (lC L) (.slice am n cm) n (mC L) L) (hn : L.length = n) (hp : L[k]? = some ⟨v, .agg #[x], o, s⟩) :
    ∃ g, am = some ⟨g, 0, none⟩ ∧ g < W.heap.size ∧ W.cell? ⟨g, k, none⟩ = some x := by
  have hk : k < n := hn ▸ (List.getElem?_eq_some_iff.1 hp).1
  have h3 : ∀ p ∈ L, p.u.cells.toList.length = 1 := fun p hp => by
    obtain ⟨a, c, e⟩ := (h.all p hp).2.1.shape
    rw [e]; rfl
  have hg := flat_get (fun p : Pr => p.u.cells.toList) 1 L h3 k 0 _ hp (by decide)
  rw [Nat.mul_one, Nat.add_zero] at hg
  rcases ownsRow_slice h.m with ⟨a, cap, e, h0 | ⟨g, rfl, hb, hlt⟩⟩
  · omega
  · injection e with e1 e2 e3
    subst e1
    have hc := h.m.cells (g := g) rfl k x (hg.trans rfl)
    rw [Addr.add_mid, Nat.zero_add] at hc
    exact ⟨g, rfl, hlt, hc⟩
set_option maxRecDepth 100000 in
set_option maxHeartbeats 4000000 in
theorem rosterAll_w (w : World) (v0 v1 : Value) (x0 : List (List Value)) (h0 : RowsS w [.str] v0 x0) (x1 : List (List Value)) (h1 : RowsS w [.str] v1 x1) :
    Calls Try.prog 11 #[v0, v1] w fun e w' => e = .returned (.bool true) ∧ Below w.heap.size w w' := by
  obtain ⟨i0, hi0, hz0, hz1, hz2⟩ := info_parts Try.infoRost
  obtain ⟨i1, hi1, hy0, hy1, hy2⟩ := info_parts Try.infoRef4
  obtain ⟨a0, c0, ts, rfl, hc0, hs0, hr0⟩ := h0.strs
  obtain ⟨a1, c1, ss, rfl, hc1, hs1, hr1⟩ := h1.strs
  have HR0 := Lib.hid hr0
  have HR1 := Lib.hid hr1
  have HS0 := Lib.hid hs0
  have HS1 := Lib.hid hs1
  clear h0 h1 hr0 hr1 hs0 hs1 hc0 hc1 x0 x1
  by_cases hout : 20 < ts.length ∨ 20 < ss.length
  · have hd : (decide ((20 : Int) < (ts.length : Int)) || decide ((20 : Int) < (ss.length : Int))) = true := by simp; omega
    clear hout
    go_enter Try.func11, Try.ntmps11
    go_wp2_with (go_at_call 14; refine (alive_any _).mono ?_; rintro e w9 ⟨rfl, hB9⟩)
    all_goals
      go_ret
      exact ⟨rfl, below_then (by assumption) hB9⟩
  have b0 : ¬ (20 : Int) < (ts.length : Int) := by omega
  have b1 : ¬ (20 : Int) < (ss.length : Int) := by omega
  have hn0 : ts.length ≤ 20 := by omega
  have hn1 : ss.length ≤ 20 := by omega
  clear hout
  go_enter Try.func11, Try.ntmps11
  go_wp2_with (go_at_call 14; refine (alive_any _).mono ?_; rintro e w9 ⟨rfl, hB9⟩)
  have HB9 := Lib.hid hB9
  clear hB9
  go_loopw [5, 6, 7] (fun lv mv i wr => ∃ (j : Nat) (L : List Pr), j ≤ ts.length ∧ i = .int .i64 (j : Nat) ∧ L.length = j ∧ Hid (RAll wr w.heap.size L) ∧ Hid (wr.ownsRow w.heap.size 25 3 lv j (lC L)) ∧ Hid (wr.ownsRow w.heap.size 31 1 mv j (mC L)) ∧ Hid (Below w.heap.size w wr)) (fun _ _ i _ => ts.length - (intOf i).toNat)
  case atStart => exact ⟨0, [], Nat.zero_le _, rfl, rfl, fun p hp => by simp at hp, World.ownsRow_nil _ _ _ _, World.ownsRow_nil _ _ _ _, HB9.out⟩
  case round =>
    obtain ⟨j, L, hj, rfl, hL, HA, HLV, HMV, HB⟩ := hrel
    by_cases hlt : j < ts.length
    · have b4 : ((j : Nat) : Int) < ((ts.length : Nat) : Int) := by omega
      obtain ⟨s, hs⟩ : ∃ s, ts[j]? = some s := ⟨_, List.getElem?_eq_getElem hlt⟩
      obtain ⟨b, rfl, hc⟩ := (HR0.out.below HB.out) j s hs
      have hsz : s.size ≤ 9223372036854775807 := by have := HS0.out s (List.mem_of_getElem? hs); unfold maxLen at this; omega
      have HSZ := Lib.hid hsz
      clear hsz
      go_wp2_with fail
      refine (read_any s HSZ.out _).mono ?_
      rintro e w1 ⟨v, a, x, o, rfl, hv, hr, hB1⟩
      obtain ⟨t, sa, sc, m, rfl⟩ := hr.shape
      have HV := Lib.hid hv
      have HA := Lib.hid (HA.out.below hB1)
      have HLV := Lib.hid (ownsRow_below HLV.out hB1)
      have HMV := Lib.hid (ownsRow_below HMV.out hB1)
      have hc := (hB1.cell (cell_lt hc)).trans hc
      have HR := Lib.hid hr
      have HBS := HB.out.size
      have HB := Lib.hid (below_then HB.out hB1)
      clear hv hr hB1
      go_upto_region 9 with fail
      have HN0 : Hid (∀ k, u5.ownBlock = some k → k < w1.heap.size) := fun k hk => (HLV.out.lt _ hk).2
      have hbe := (Below.refl w1.heap.size w1).alloc (Nat.le_refl _) (.cells #[.string t, .slice sa (sgs o).length sc, .map m] 25)
      have hk1 := blk_new w1 (.cells #[.string t, .slice sa (sgs o).length sc, .map m] 25)
      have HA := Lib.hid (HA.out.below hbe)
      have HLV := Lib.hid (ownsRow_below HLV.out hbe)
      have HMV := Lib.hid (ownsRow_below HMV.out hbe)
      have hc := (hbe.cell (cell_lt hc)).trans hc
      have HR := Lib.hid ((HR.out.below hbe).base HBS)
      have HB := Lib.hid (below_then HB.out hbe)
      have HK1 := Lib.hid hk1
      clear hbe hk1
      generalize World.alloc w1 _ = W1 at *
      obtain ⟨gr, hgr⟩ : ∃ gr, w1.heap.size = gr := ⟨_, rfl⟩
      have hk1 := HK1.out
      have hn1 : ∀ k, u5.ownBlock = some k → k < gr := fun k hk => hgr ▸ HN0.out k hk
      have HN1 := Lib.hid hn1
      clear hn1 HN0
      rw [hgr] at hk1
      (try rw [hgr])
      clear hgr HK1
      go_wp2_with fail
      refine (refRead_all s HSZ.out _).mono ?_
      rintro e w2 ⟨u, a', x', o', rfl, hv', hr', hB2⟩
      obtain ⟨rfl, rfl, rfl⟩ : o = o' ∧ a = a' ∧ x = x' := by have := HV.out.symm.trans hv'; simpa using this
      clear hv'
      obtain ⟨ua, uc, rfl⟩ := hr'.shape
      have HBS := HB.out.size
      have HA := Lib.hid (HA.out.below hB2)
      have HLV := Lib.hid (ownsRow_below HLV.out hB2)
      have HMV := Lib.hid (ownsRow_below HMV.out hB2)
      have HR := Lib.hid (HR.out.below hB2)
      have HR2 := Lib.hid (hr'.base HBS)
      have HB := Lib.hid (below_then HB.out hB2)
      have hk1 := blk_below' hB2 hk1
      clear hr' hB2 hc
      go_upto_region 10 with fail
      have hbe := (Below.refl w2.heap.size w2).alloc (Nat.le_refl _) (.cells #[.slice ua (sgs o).length uc] 31)
      have hk2 := blk_new w2 (.cells #[.slice ua (sgs o).length uc] 31)
      have HA := Lib.hid (HA.out.below hbe)
      have HLV := Lib.hid (ownsRow_below HLV.out hbe)
      have HMV := Lib.hid (ownsRow_below HMV.out hbe)
      have HR := Lib.hid (HR.out.below hbe)
      have HR2 := Lib.hid (HR2.out.below hbe)
      have HB := Lib.hid (below_then HB.out hbe)
      have hk1 := blk_below' hbe hk1
      have HK1 := Lib.hid hk1
      have HK2 := Lib.hid hk2
      clear hbe hk2 hk1
      generalize World.alloc w2 _ = W2 at *
      obtain ⟨gs, hgs⟩ : ∃ gs, w2.heap.size = gs := ⟨_, rfl⟩
      have hk2 := HK2.out
      rw [hgs] at hk2
      (try rw [hgs])
      clear hgs HK2
      obtain ⟨d0, d1, d2, _⟩ := three_cells HK1.out
      have d3 := blk_cell hk2 0
      simp only [List.getElem?_toArray, List.getElem?_cons_zero] at d3
      have HK2 := Lib.hid hk2
      clear hk2
      have HGD : Hid (Gd w W2 u5 j (lC L) u6 j (mC L) (L ++ [⟨.agg #[.string t, .slice sa (sgs o).length sc, .map m], .agg #[.slice ua (sgs o).length uc], o, s⟩])) := ⟨fun p hp => by
        rcases List.mem_append.1 hp with hp | hp
        · exact HA.out p hp
        · obtain rfl := List.mem_singleton.1 hp
          exact ⟨HR.out, HR2.out, _, _, HV.out⟩, HLV.out, HMV.out, HB.out⟩
      have HN2 : Hid (∀ k, u5.ownBlock = some k → k ≠ gs) := fun k hk e => by
        obtain ⟨cs, T, fz, h1, h2⟩ := row_block HLV.out k hk
        rw [e, HK2.out] at h1
        injection h1 with h1
        injection h1 with _ h1
        rw [← h1] at h2
        exact absurd h2 (by decide)
      clear HA HLV HMV HR HR2 HB
      have hj20 : j < 20 := by omega
      refine wp_region_early (fun w' => (w'.cell? ⟨gr, 0, none⟩ = some (.string t) ∧ w'.cell? ⟨gr, 1, none⟩ = some (.slice sa (sgs o).length sc) ∧ w'.cell? ⟨gr, 2, none⟩ = some (.map m)) ∧ w'.cell? ⟨gs, 0, none⟩ = some (.slice ua (sgs o).length uc)) (fun k => k == 7 || k == 8 || k == 9) (by kernel_rfl) ?_
      simp only [List.size_toArray, List.length_cons, List.length_nil, Nat.reduceAdd, Array.replicate_succ, Array.replicate_zero, List.push_toArray, List.nil_append, List.cons_append]
      have hdr : Below W2.heap.size W2 W2.drew := (Below.refl _ _).drew
      have HK1 := Lib.hid (blk_below' hdr HK1.out)
      have HK2 := Lib.hid (blk_below' hdr HK2.out)
      have HGD := Lib.hid (HGD.out.below hdr)
      clear hdr d0 d1 d2 d3
      generalize W2.drew = W4 at *
      obtain ⟨d0, d1, d2, _⟩ := three_cells HK1.out
      have d3 := blk_cell HK2.out 0
      simp only [List.getElem?_toArray, List.getElem?_cons_zero] at d3
      have hSS := And.intro (And.intro d0 (And.intro d1 d2)) d3
      clear d0 d1 d2 d3
      refine wpAnyE_take (i := 0) (v := ?_) rfl (by kernel_rfl) (by kernel_rfl) (by kernel_rfl) (by kernel_rfl) (fun _ _ _ h => h) (Or.inl ⟨by rfl, ?_⟩) hSS ?_
      rotate_left
      · intro w hSw
        obtain ⟨⟨j0, j1, j2⟩, j3⟩ := hSw
        go_simp
        all_goals with_reducible rfl
      simp only [Act.put, List.setIfInBounds_toArray, List.set_cons_zero, List.set_cons_succ, List.getElem_toArray, List.getElem_cons_zero, List.getElem_cons_succ]
      refine wpAnyE_take (i := 1) (v := ?_) rfl (by kernel_rfl) (by kernel_rfl) (by kernel_rfl) (by kernel_rfl) (fun _ _ _ h => h) (Or.inl ⟨by rfl, ?_⟩) hSS ?_
      rotate_left
      · intro w hSw
        obtain ⟨⟨j0, j1, j2⟩, j3⟩ := hSw
        go_simp
        all_goals with_reducible rfl
      simp only [Act.put, List.setIfInBounds_toArray, List.set_cons_zero, List.set_cons_succ, List.getElem_toArray, List.getElem_cons_zero, List.getElem_cons_succ]
      refine wpAnyE_take (i := 4) (v := ?_) rfl (by kernel_rfl) (by kernel_rfl) (by kernel_rfl) (by kernel_rfl) (fun _ _ _ h => h) (Or.inl ⟨by rfl, ?_⟩) hSS ?_
      rotate_left
      · intro w hSw
        obtain ⟨⟨j0, j1, j2⟩, j3⟩ := hSw
        go_simp
        all_goals with_reducible rfl
      simp only [Act.put, List.setIfInBounds_toArray, List.set_cons_zero, List.set_cons_succ, List.getElem_toArray, List.getElem_cons_zero, List.getElem_cons_succ]
      refine wpAnyE_take (i := 5) (v := ?_) rfl (by kernel_rfl) (by kernel_rfl) (by kernel_rfl) (by kernel_rfl) (fun _ _ _ h => h) (Or.inl ⟨by rfl, ?_⟩) hSS ?_
      rotate_left
      · intro w hSw
        obtain ⟨⟨j0, j1, j2⟩, j3⟩ := hSw
        go_simp
        all_goals with_reducible rfl
      simp only [Act.put, List.setIfInBounds_toArray, List.set_cons_zero, List.set_cons_succ, List.getElem_toArray, List.getElem_cons_zero, List.getElem_cons_succ]
      refine wpAnyE_two (i := 2) (j := 6) (by kernel_rfl) rfl rfl ?_ ?_
      · skip
        change wpList _ _ (Exit.then _ _) [_] _ _
        try simp only [List.setIfInBounds_toArray, List.set_cons_zero, List.set_cons_succ, List.getElem_toArray, List.getElem_cons_zero, List.getElem_cons_succ]
        go_wp2_with fail
        have hbe := (Below.refl (W4).heap.size W4).alloc (Nat.le_refl _) (.cells #[.string t, .slice sa (sgs o).length sc, .map m] 25)
        have HK1 := Lib.hid (blk_below' hbe HK1.out)
        have HK2 := Lib.hid (blk_below' hbe HK2.out)
        have HGD := Lib.hid (HGD.out.below hbe)
        (try have HP := Lib.hid (blk_below' hbe HP.out))
        (try have HQ := Lib.hid (blk_below' hbe HQ.out))
        clear hbe
        have HP := Lib.hid (blk_new W4 (.cells #[.string t, .slice sa (sgs o).length sc, .map m] 25))
        generalize World.alloc W4 _ = V5 at *
        obtain ⟨pr, hpr⟩ : ∃ pr, (W4).heap.size = pr := ⟨_, rfl⟩
        have hp := HP.out
        rw [hpr] at hp
        (try rw [hpr])
        clear hpr HP
        have HP := Lib.hid hp
        clear hp
        refine ⟨fun _ => ss_of HK1.out HK2.out, ?_⟩
        try simp only [List.setIfInBounds_toArray, List.set_cons_zero, List.set_cons_succ, List.getElem_toArray, List.getElem_cons_zero, List.getElem_cons_succ]
        refine wpAnyE_two (i := 3) (j := 6) (by kernel_rfl) rfl rfl ?_ ?_
        · skip
          change wpList _ _ (Exit.then _ _) [_] _ _
          try simp only [List.setIfInBounds_toArray, List.set_cons_zero, List.set_cons_succ, List.getElem_toArray, List.getElem_cons_zero, List.getElem_cons_succ]
          go_wp2_with (refine wpList_append_own_at _ rfl _ _ 59 rfl w.heap.size 25 i0 (.agg #[.string ⟨#[]⟩, .slice none 0 0, .map none]) 3 48 Try.underlying59 hi0 hz0 hz1 hz2 rfl (by decide) u5 j (lC L) rfl HGD.out.l ⟨pr, 0, none⟩ 1 1 [.string t, .slice sa (sgs o).length sc, .map m] rfl rfl (src_cells HP.out) (by intro u hu; simp at hu; rcases hu with rfl | rfl | rfl <;> rfl) (by unfold maxLen; omega) (by omega) HGD.out.low.size ?_; intro lv' V8 hown' hg' _ _)
          have HK1 := Lib.hid (blk_kept hg' HK1.out (fun e => by have := HN1.out gr e.symm; omega))
          (try have HQ := Lib.hid (blk_kept hg' HQ.out (ne_block HGD.out.l HQ.out (by decide))))
          have HK2 := Lib.hid (blk_kept hg' HK2.out (ne_block HGD.out.l HK2.out (by decide)))
          have HGD := Lib.hid (HGD.out.growl hown' hg')
          clear hown' hg' HP
          refine ⟨fun _ => ss_of HK1.out HK2.out, ?_⟩
          try simp only [List.setIfInBounds_toArray, List.set_cons_zero, List.set_cons_succ, List.getElem_toArray, List.getElem_cons_zero, List.getElem_cons_succ]
          refine wpAnyE_one (i := 6) (by kernel_rfl) rfl ?_
          change wpList _ _ (Exit.then _ _) [_] _ _
          try simp only [List.setIfInBounds_toArray, List.set_cons_zero, List.set_cons_succ, List.getElem_toArray, List.getElem_cons_zero, List.getElem_cons_succ]
          go_wp2_with fail
          have hbe := (Below.refl (V8).heap.size V8).alloc (Nat.le_refl _) (.cells #[.slice ua (sgs o).length uc] 31)
          have HK1 := Lib.hid (blk_below' hbe HK1.out)
          have HK2 := Lib.hid (blk_below' hbe HK2.out)
          have HGD := Lib.hid (HGD.out.below hbe)
          (try have HP := Lib.hid (blk_below' hbe HP.out))
          (try have HQ := Lib.hid (blk_below' hbe HQ.out))
          clear hbe
          have HQ := Lib.hid (blk_new V8 (.cells #[.slice ua (sgs o).length uc] 31))
          generalize World.alloc V8 _ = V7 at *
          obtain ⟨qs, hqs⟩ : ∃ qs, (V8).heap.size = qs := ⟨_, rfl⟩
          have hq := HQ.out
          rw [hqs] at hq
          (try rw [hqs])
          clear hqs HQ
          have HQ := Lib.hid hq
          clear hq
          refine ⟨fun _ => ss_of HK1.out HK2.out, ?_⟩
          try simp only [List.setIfInBounds_toArray, List.set_cons_zero, List.set_cons_succ, List.getElem_toArray, List.getElem_cons_zero, List.getElem_cons_succ]
          refine wpAnyE_one (i := 7) (by kernel_rfl) rfl ?_
          change wpList _ _ (Exit.then _ _) [_] _ _
          try simp only [List.setIfInBounds_toArray, List.set_cons_zero, List.set_cons_succ, List.getElem_toArray, List.getElem_cons_zero, List.getElem_cons_succ]
          go_wp2_with (refine wpList_append_own_at _ rfl _ _ 60 rfl w.heap.size 31 i1 (.agg #[.slice none 0 0]) 1 24 Try.underlying60 hi1 hy0 hy1 hy2 rfl (by decide) u6 j (mC L) rfl HGD.out.m ⟨qs, 0, none⟩ 1 1 [.slice ua (sgs o).length uc] rfl rfl (src_cells HQ.out) (by intro u hu; simp at hu; rcases hu with rfl; rfl) (by unfold maxLen; omega) (by omega) HGD.out.low.size ?_; intro mv' V9 hown' hg' _ _)
          have HGD := Lib.hid (HGD.out.growm hown' hg')
          clear hown' hg' HQ HK1 HK2
          refine ⟨fun h => absurd h (by decide), ?_⟩
          try simp only [List.setIfInBounds_toArray, List.set_cons_zero, List.set_cons_succ, List.getElem_toArray, List.getElem_cons_zero, List.getElem_cons_succ]
          refine wpAnyE_one (i := 8) (by kernel_rfl) rfl ?_
          change wpList _ _ (Exit.then _ _) [_] _ _
          try simp only [List.setIfInBounds_toArray, List.set_cons_zero, List.set_cons_succ, List.getElem_toArray, List.getElem_cons_zero, List.getElem_cons_succ]
          go_wp2_with fail
          refine ⟨fun h => absurd h (by decide), ?_⟩
          try simp only [List.setIfInBounds_toArray, List.set_cons_zero, List.set_cons_succ, List.getElem_toArray, List.getElem_cons_zero, List.getElem_cons_succ]
          refine wpAnyE_one (i := 9) (by kernel_rfl) rfl ?_
          change wpList _ _ (Exit.then _ _) [_] _ _
          try simp only [List.setIfInBounds_toArray, List.set_cons_zero, List.set_cons_succ, List.getElem_toArray, List.getElem_cons_zero, List.getElem_cons_succ]
          go_wp2_with fail
          refine ⟨fun h => absurd h (by decide), ?_⟩
          try simp only [List.setIfInBounds_toArray, List.set_cons_zero, List.set_cons_succ, List.getElem_toArray, List.getElem_cons_zero, List.getElem_cons_succ]
          refine wpAnyE_end (by kernel_rfl) ?_
          go_wp2_with fail
          go_roundw
          case rel => exact ⟨j + 1, L ++ [⟨.agg #[.string t, .slice sa (sgs o).length sc, .map m], .agg #[.slice ua (sgs o).length uc], o, s⟩], by omega, by go_num, by simp [hL], Lib.hid HGD.out.all, Lib.hid (by rw [lC_snoc]; exact HGD.out.l), Lib.hid (by rw [mC_snoc]; exact HGD.out.m), Lib.hid HGD.out.low⟩
          case measure => simp [intOf]; omega
        · skip
          change wpList _ _ (Exit.then _ _) [_] _ _
          try simp only [List.setIfInBounds_toArray, List.set_cons_zero, List.set_cons_succ, List.getElem_toArray, List.getElem_cons_zero, List.getElem_cons_succ]
          go_wp2_with fail
          have hbe := (Below.refl (V5).heap.size V5).alloc (Nat.le_refl _) (.cells #[.slice ua (sgs o).length uc] 31)
          have HK1 := Lib.hid (blk_below' hbe HK1.out)
          have HK2 := Lib.hid (blk_below' hbe HK2.out)
          have HGD := Lib.hid (HGD.out.below hbe)
          (try have HP := Lib.hid (blk_below' hbe HP.out))
          (try have HQ := Lib.hid (blk_below' hbe HQ.out))
          clear hbe
          have HQ := Lib.hid (blk_new V5 (.cells #[.slice ua (sgs o).length uc] 31))
          generalize World.alloc V5 _ = V6 at *
          obtain ⟨qs, hqs⟩ : ∃ qs, (V5).heap.size = qs := ⟨_, rfl⟩
          have hq := HQ.out
          rw [hqs] at hq
          (try rw [hqs])
          clear hqs HQ
          have HQ := Lib.hid hq
          clear hq
          refine ⟨fun _ => ss_of HK1.out HK2.out, ?_⟩
          try simp only [List.setIfInBounds_toArray, List.set_cons_zero, List.set_cons_succ, List.getElem_toArray, List.getElem_cons_zero, List.getElem_cons_succ]
          refine wpAnyE_one (i := 3) (by kernel_rfl) rfl ?_
          change wpList _ _ (Exit.then _ _) [_] _ _
          try simp only [List.setIfInBounds_toArray, List.set_cons_zero, List.set_cons_succ, List.getElem_toArray, List.getElem_cons_zero, List.getElem_cons_succ]
          go_wp2_with (refine wpList_append_own_at _ rfl _ _ 59 rfl w.heap.size 25 i0 (.agg #[.string ⟨#[]⟩, .slice none 0 0, .map none]) 3 48 Try.underlying59 hi0 hz0 hz1 hz2 rfl (by decide) u5 j (lC L) rfl HGD.out.l ⟨pr, 0, none⟩ 1 1 [.string t, .slice sa (sgs o).length sc, .map m] rfl rfl (src_cells HP.out) (by intro u hu; simp at hu; rcases hu with rfl | rfl | rfl <;> rfl) (by unfold maxLen; omega) (by omega) HGD.out.low.size ?_; intro lv' V8 hown' hg' _ _)
          have HK1 := Lib.hid (blk_kept hg' HK1.out (fun e => by have := HN1.out gr e.symm; omega))
          (try have HQ := Lib.hid (blk_kept hg' HQ.out (ne_block HGD.out.l HQ.out (by decide))))
          have HK2 := Lib.hid (blk_kept hg' HK2.out (ne_block HGD.out.l HK2.out (by decide)))
          have HGD := Lib.hid (HGD.out.growl hown' hg')
          clear hown' hg' HP
          refine ⟨fun _ => ss_of HK1.out HK2.out, ?_⟩
          try simp only [List.setIfInBounds_toArray, List.set_cons_zero, List.set_cons_succ, List.getElem_toArray, List.getElem_cons_zero, List.getElem_cons_succ]
          refine wpAnyE_one (i := 7) (by kernel_rfl) rfl ?_
          change wpList _ _ (Exit.then _ _) [_] _ _
          try simp only [List.setIfInBounds_toArray, List.set_cons_zero, List.set_cons_succ, List.getElem_toArray, List.getElem_cons_zero, List.getElem_cons_succ]
          go_wp2_with (refine wpList_append_own_at _ rfl _ _ 60 rfl w.heap.size 31 i1 (.agg #[.slice none 0 0]) 1 24 Try.underlying60 hi1 hy0 hy1 hy2 rfl (by decide) u6 j (mC L) rfl HGD.out.m ⟨qs, 0, none⟩ 1 1 [.slice ua (sgs o).length uc] rfl rfl (src_cells HQ.out) (by intro u hu; simp at hu; rcases hu with rfl; rfl) (by unfold maxLen; omega) (by omega) HGD.out.low.size ?_; intro mv' V9 hown' hg' _ _)
          have HGD := Lib.hid (HGD.out.growm hown' hg')
          clear hown' hg' HQ HK1 HK2
          refine ⟨fun h => absurd h (by decide), ?_⟩
          try simp only [List.setIfInBounds_toArray, List.set_cons_zero, List.set_cons_succ, List.getElem_toArray, List.getElem_cons_zero, List.getElem_cons_succ]
          refine wpAnyE_one (i := 8) (by kernel_rfl) rfl ?_
          change wpList _ _ (Exit.then _ _) [_] _ _
          try simp only [List.setIfInBounds_toArray, List.set_cons_zero, List.set_cons_succ, List.getElem_toArray, List.getElem_cons_zero, List.getElem_cons_succ]
          go_wp2_with fail
          refine ⟨fun h => absurd h (by decide), ?_⟩
          try simp only [List.setIfInBounds_toArray, List.set_cons_zero, List.set_cons_succ, List.getElem_toArray, List.getElem_cons_zero, List.getElem_cons_succ]
          refine wpAnyE_one (i := 9) (by kernel_rfl) rfl ?_
          change wpList _ _ (Exit.then _ _) [_] _ _
          try simp only [List.setIfInBounds_toArray, List.set_cons_zero, List.set_cons_succ, List.getElem_toArray, List.getElem_cons_zero, List.getElem_cons_succ]
          go_wp2_with fail
          refine ⟨fun h => absurd h (by decide), ?_⟩
          try simp only [List.setIfInBounds_toArray, List.set_cons_zero, List.set_cons_succ, List.getElem_toArray, List.getElem_cons_zero, List.getElem_cons_succ]
          refine wpAnyE_end (by kernel_rfl) ?_
          go_wp2_with fail
          go_roundw
          case rel => exact ⟨j + 1, L ++ [⟨.agg #[.string t, .slice sa (sgs o).length sc, .map m], .agg #[.slice ua (sgs o).length uc], o, s⟩], by omega, by go_num, by simp [hL], Lib.hid HGD.out.all, Lib.hid (by rw [lC_snoc]; exact HGD.out.l), Lib.hid (by rw [mC_snoc]; exact HGD.out.m), Lib.hid HGD.out.low⟩
          case measure => simp [intOf]; omega
      · skip
        change wpList _ _ (Exit.then _ _) [_] _ _
        try simp only [List.setIfInBounds_toArray, List.set_cons_zero, List.set_cons_succ, List.getElem_toArray, List.getElem_cons_zero, List.getElem_cons_succ]
        go_wp2_with fail
        have hbe := (Below.refl (W4).heap.size W4).alloc (Nat.le_refl _) (.cells #[.slice ua (sgs o).length uc] 31)
        have HK1 := Lib.hid (blk_below' hbe HK1.out)
        have HK2 := Lib.hid (blk_below' hbe HK2.out)
        have HGD := Lib.hid (HGD.out.below hbe)
        (try have HP := Lib.hid (blk_below' hbe HP.out))
        (try have HQ := Lib.hid (blk_below' hbe HQ.out))
        clear hbe
        have HQ := Lib.hid (blk_new W4 (.cells #[.slice ua (sgs o).length uc] 31))
        generalize World.alloc W4 _ = V5 at *
        obtain ⟨qs, hqs⟩ : ∃ qs, (W4).heap.size = qs := ⟨_, rfl⟩
        have hq := HQ.out
        rw [hqs] at hq
        (try rw [hqs])
        clear hqs HQ
        have HQ := Lib.hid hq
        clear hq
        refine ⟨fun _ => ss_of HK1.out HK2.out, ?_⟩
        try simp only [List.setIfInBounds_toArray, List.set_cons_zero, List.set_cons_succ, List.getElem_toArray, List.getElem_cons_zero, List.getElem_cons_succ]
        refine wpAnyE_one (i := 2) (by kernel_rfl) rfl ?_
        change wpList _ _ (Exit.then _ _) [_] _ _
        try simp only [List.setIfInBounds_toArray, List.set_cons_zero, List.set_cons_succ, List.getElem_toArray, List.getElem_cons_zero, List.getElem_cons_succ]
        go_wp2_with fail
        have hbe := (Below.refl (V5).heap.size V5).alloc (Nat.le_refl _) (.cells #[.string t, .slice sa (sgs o).length sc, .map m] 25)
        have HK1 := Lib.hid (blk_below' hbe HK1.out)
        have HK2 := Lib.hid (blk_below' hbe HK2.out)
        have HGD := Lib.hid (HGD.out.below hbe)
        (try have HP := Lib.hid (blk_below' hbe HP.out))
        (try have HQ := Lib.hid (blk_below' hbe HQ.out))
        clear hbe
        have HP := Lib.hid (blk_new V5 (.cells #[.string t, .slice sa (sgs o).length sc, .map m] 25))
        generalize World.alloc V5 _ = V6 at *
        obtain ⟨pr, hpr⟩ : ∃ pr, (V5).heap.size = pr := ⟨_, rfl⟩
        have hp := HP.out
        rw [hpr] at hp
        (try rw [hpr])
        clear hpr HP
        have HP := Lib.hid hp
        clear hp
        refine ⟨fun _ => ss_of HK1.out HK2.out, ?_⟩
        try simp only [List.setIfInBounds_toArray, List.set_cons_zero, List.set_cons_succ, List.getElem_toArray, List.getElem_cons_zero, List.getElem_cons_succ]
        refine wpAnyE_one (i := 3) (by kernel_rfl) rfl ?_
        change wpList _ _ (Exit.then _ _) [_] _ _
        try simp only [List.setIfInBounds_toArray, List.set_cons_zero, List.set_cons_succ, List.getElem_toArray, List.getElem_cons_zero, List.getElem_cons_succ]
        go_wp2_with (refine wpList_append_own_at _ rfl _ _ 59 rfl w.heap.size 25 i0 (.agg #[.string ⟨#[]⟩, .slice none 0 0, .map none]) 3 48 Try.underlying59 hi0 hz0 hz1 hz2 rfl (by decide) u5 j (lC L) rfl HGD.out.l ⟨pr, 0, none⟩ 1 1 [.string t, .slice sa (sgs o).length sc, .map m] rfl rfl (src_cells HP.out) (by intro u hu; simp at hu; rcases hu with rfl | rfl | rfl <;> rfl) (by unfold maxLen; omega) (by omega) HGD.out.low.size ?_; intro lv' V8 hown' hg' _ _)
        have HK1 := Lib.hid (blk_kept hg' HK1.out (fun e => by have := HN1.out gr e.symm; omega))
        (try have HQ := Lib.hid (blk_kept hg' HQ.out (ne_block HGD.out.l HQ.out (by decide))))
        have HK2 := Lib.hid (blk_kept hg' HK2.out (ne_block HGD.out.l HK2.out (by decide)))
        have HGD := Lib.hid (HGD.out.growl hown' hg')
        clear hown' hg' HP
        refine ⟨fun _ => ss_of HK1.out HK2.out, ?_⟩
        try simp only [List.setIfInBounds_toArray, List.set_cons_zero, List.set_cons_succ, List.getElem_toArray, List.getElem_cons_zero, List.getElem_cons_succ]
        refine wpAnyE_one (i := 7) (by kernel_rfl) rfl ?_
        change wpList _ _ (Exit.then _ _) [_] _ _
        try simp only [List.setIfInBounds_toArray, List.set_cons_zero, List.set_cons_succ, List.getElem_toArray, List.getElem_cons_zero, List.getElem_cons_succ]
        go_wp2_with (refine wpList_append_own_at _ rfl _ _ 60 rfl w.heap.size 31 i1 (.agg #[.slice none 0 0]) 1 24 Try.underlying60 hi1 hy0 hy1 hy2 rfl (by decide) u6 j (mC L) rfl HGD.out.m ⟨qs, 0, none⟩ 1 1 [.slice ua (sgs o).length uc] rfl rfl (src_cells HQ.out) (by intro u hu; simp at hu; rcases hu with rfl; rfl) (by unfold maxLen; omega) (by omega) HGD.out.low.size ?_; intro mv' V9 hown' hg' _ _)
        have HGD := Lib.hid (HGD.out.growm hown' hg')
        clear hown' hg' HQ HK1 HK2
        refine ⟨fun h => absurd h (by decide), ?_⟩
        try simp only [List.setIfInBounds_toArray, List.set_cons_zero, List.set_cons_succ, List.getElem_toArray, List.getElem_cons_zero, List.getElem_cons_succ]
        refine wpAnyE_one (i := 8) (by kernel_rfl) rfl ?_
        change wpList _ _ (Exit.then _ _) [_] _ _
        try simp only [List.setIfInBounds_toArray, List.set_cons_zero, List.set_cons_succ, List.getElem_toArray, List.getElem_cons_zero, List.getElem_cons_succ]
        go_wp2_with fail
        refine ⟨fun h => absurd h (by decide), ?_⟩
        try simp only [List.setIfInBounds_toArray, List.set_cons_zero, List.set_cons_succ, List.getElem_toArray, List.getElem_cons_zero, List.getElem_cons_succ]
        refine wpAnyE_one (i := 9) (by kernel_rfl) rfl ?_
        change wpList _ _ (Exit.then _ _) [_] _ _
        try simp only [List.setIfInBounds_toArray, List.set_cons_zero, List.set_cons_succ, List.getElem_toArray, List.getElem_cons_zero, List.getElem_cons_succ]
        go_wp2_with fail
        refine ⟨fun h => absurd h (by decide), ?_⟩
        try simp only [List.setIfInBounds_toArray, List.set_cons_zero, List.set_cons_succ, List.getElem_toArray, List.getElem_cons_zero, List.getElem_cons_succ]
        refine wpAnyE_end (by kernel_rfl) ?_
        go_wp2_with fail
        go_roundw
        case rel => exact ⟨j + 1, L ++ [⟨.agg #[.string t, .slice sa (sgs o).length sc, .map m], .agg #[.slice ua (sgs o).length uc], o, s⟩], by omega, by go_num, by simp [hL], Lib.hid HGD.out.all, Lib.hid (by rw [lC_snoc]; exact HGD.out.l), Lib.hid (by rw [mC_snoc]; exact HGD.out.m), Lib.hid HGD.out.low⟩
        case measure => simp [intOf]; omega
    · obtain rfl : j = ts.length := by omega
      have HGD : Hid (Gd w wr u5 ts.length (lC L) u6 ts.length (mC L) L) := ⟨HA.out, HLV.out, HMV.out, HB.out⟩
      obtain ⟨al, cl, rfl, _⟩ := ownsRow_slice HLV.out
      obtain ⟨am, cm, rfl, _⟩ := ownsRow_slice HMV.out
      clear HA HLV HMV HB
      have b4 : ¬ ((ts.length : Nat) : Int) < ((ts.length : Nat) : Int) := by omega
      go_wp2_with fail
      go_loopw [14] (fun k wr => ∃ (n : Nat), n ≤ ss.length ∧ k = .int .i64 (n : Nat) ∧ Hid (Gd w wr (.slice al ts.length cl) ts.length (lC L) (.slice am ts.length cm) ts.length (mC L) L)) (fun k _ => ss.length - (intOf k).toNat)
      case atStart => exact ⟨0, Nat.zero_le _, rfl, HGD⟩
      case round =>
        clear HGD
        obtain ⟨n, hn, rfl, HGD⟩ := hrel
        by_cases hlt2 : n < ss.length
        · have b5 : ((n : Nat) : Int) < ((ss.length : Nat) : Int) := by omega
          obtain ⟨q, hq⟩ : ∃ q, ss[n]? = some q := ⟨_, List.getElem?_eq_getElem hlt2⟩
          obtain ⟨b1, rfl, _⟩ := HR1.out n q hq
          have HQZ : Hid (q.size ≤ 9223372036854775807) := by have := HS1.out q (List.mem_of_getElem? hq); unfold maxLen at this; exact this
          have HQC : Hid (∀ W, Below w.heap.size w W → W.cell? (b1.add n) = some (.string q)) := fun W hW => by
            obtain ⟨b', e, hc⟩ := HR1.out n q hq
            cases e
            exact (hW.cell (cell_lt hc)).trans hc
          go_wp2_with fail
          go_loopw [15] (fun i wr => ∃ (k : Nat), k ≤ ts.length ∧ i = .int .i64 (k : Nat) ∧ Hid (Gd w wr (.slice al ts.length cl) ts.length (lC L) (.slice am ts.length cm) ts.length (mC L) L)) (fun i _ => ts.length - (intOf i).toNat)
          case atStart => exact ⟨0, Nat.zero_le _, rfl, HGD⟩
          case round =>
            clear HGD
            obtain ⟨k, hk, rfl, HGD⟩ := hrel
            by_cases hlt3 : k < ts.length
            · have b6 : ((k : Nat) : Int) < ((ts.length : Nat) : Int) := by omega
              obtain ⟨p, hp⟩ : ∃ p, L[k]? = some p := ⟨_, List.getElem?_eq_getElem (by omega)⟩
              have hR := HGD.out.all p (List.mem_of_getElem? hp)
              have hqc := HQC.out _ HGD.out.low
              obtain ⟨pv, pu, o, st⟩ := p
              have hR : RostAt wr w.heap.size pv o ∧ RefAt wr w.heap.size pu o ∧ ∃ a x, readV st = (o, a, x) := hR
              obtain ⟨t, sa, sc, m, rfl⟩ := hR.1.shape
              obtain ⟨ua, uc, rfl⟩ := hR.2.1.shape
              obtain ⟨gl, rfl, hgl, d0, d1, d2⟩ := HGD.out.lcells hL hp
              obtain ⟨gm, rfl, hgm, d3⟩ := HGD.out.mcells hL hp
              obtain ⟨aa, xx, hv⟩ := hR.2.2
              have HRT := Lib.hid hR.1
              have HRF := Lib.hid hR.2.1
              have HSG := Lib.hid (readV_sgs hv)
              have HTX := Lib.hid (textV_sgs hv)
              have HCL := Lib.hid (readV_class hv)
              have HV := Lib.hid hv
              clear hR hv
              go_upto_region 17 with fail
              refine wp_region_early (fun w' => (w'.cell? ⟨gl, k * 3, none⟩ = some (.string t) ∧ w'.cell? ⟨gl, k * 3 + 1, none⟩ = some (.slice sa (sgs o).length sc) ∧ w'.cell? ⟨gl, k * 3 + 2, none⟩ = some (.map m)) ∧ w'.cell? (b1.add n) = some (.string q)) (fun _ => false) (by kernel_rfl) ?_
              simp only [List.size_toArray, List.length_cons, List.length_nil, Nat.reduceAdd, Array.replicate_succ, Array.replicate_zero, List.push_toArray, List.nil_append, List.cons_append]
              have hdr : Below wr.heap.size wr wr.drew := (Below.refl _ _).drew
              have HD3 : Hid (∀ (g o' : Nat) (v : Value), wr.cell? ⟨g, o', none⟩ = some v → wr.drew.cell? ⟨g, o', none⟩ = some v) := fun g o' v hc => (hdr.cell (cell_lt hc)).trans hc
              have hSS := And.intro (And.intro (HD3.out _ _ _ d0) (And.intro (HD3.out _ _ _ d1) (HD3.out _ _ _ d2))) ((hdr.cell (cell_lt hqc)).trans hqc)
              have HGD := Lib.hid (HGD.out.below hdr)
              have HRT := Lib.hid (HRT.out.below hdr)
              have HRF := Lib.hid (HRF.out.below hdr)
              clear hdr HD3 d0 d1 d2 d3 hqc hgl hgm
              generalize wr.drew = W4 at *
              refine wpAnyE_take (i := 0) (v := ?_) rfl (by kernel_rfl) (by kernel_rfl) (by kernel_rfl) (by kernel_rfl) (fun _ _ _ h => h) (Or.inl ⟨by rfl, ?_⟩) hSS ?_
              rotate_left
              · intro w hSw
                obtain ⟨⟨j0, j1, j2⟩, j3⟩ := hSw
                go_simp
                all_goals with_reducible rfl
              simp only [Act.put, List.setIfInBounds_toArray, List.set_cons_zero, List.set_cons_succ, List.getElem_toArray, List.getElem_cons_zero, List.getElem_cons_succ]
              refine wpAnyE_take (i := 1) (v := ?_) rfl (by kernel_rfl) (by kernel_rfl) (by kernel_rfl) (by kernel_rfl) (fun _ _ _ h => h) (Or.inl ⟨by rfl, ?_⟩) hSS ?_
              rotate_left
              · intro w hSw
                obtain ⟨⟨j0, j1, j2⟩, j3⟩ := hSw
                go_simp
                all_goals with_reducible rfl
              simp only [Act.put, List.setIfInBounds_toArray, List.set_cons_zero, List.set_cons_succ, List.getElem_toArray, List.getElem_cons_zero, List.getElem_cons_succ]
              refine wpAnyE_take (i := 2) (v := ?_) rfl (by kernel_rfl) (by kernel_rfl) (by kernel_rfl) (by kernel_rfl) (fun _ _ _ h => h) (Or.inl ⟨by rfl, ?_⟩) hSS ?_
              rotate_left
              · intro w hSw
                obtain ⟨⟨j0, j1, j2⟩, j3⟩ := hSw
                go_simp
                all_goals with_reducible rfl
              simp only [Act.put, List.setIfInBounds_toArray, List.set_cons_zero, List.set_cons_succ, List.getElem_toArray, List.getElem_cons_zero, List.getElem_cons_succ]
              refine wpAnyE_take (i := 3) (v := ?_) rfl (by kernel_rfl) (by kernel_rfl) (by kernel_rfl) (by kernel_rfl) (fun _ _ _ h => h) (Or.inl ⟨by rfl, ?_⟩) hSS ?_
              rotate_left
              · intro w hSw
                obtain ⟨⟨j0, j1, j2⟩, j3⟩ := hSw
                go_simp
                all_goals with_reducible rfl
              simp only [Act.put, List.setIfInBounds_toArray, List.set_cons_zero, List.set_cons_succ, List.getElem_toArray, List.getElem_cons_zero, List.getElem_cons_succ]
              refine wpAnyE_take (i := 4) (v := ?_) rfl (by kernel_rfl) (by kernel_rfl) (by kernel_rfl) (by kernel_rfl) (fun _ _ _ h => h) (Or.inl ⟨by rfl, ?_⟩) hSS ?_
              rotate_left
              · intro w hSw
                obtain ⟨⟨j0, j1, j2⟩, j3⟩ := hSw
                go_simp
                all_goals with_reducible rfl
              simp only [Act.put, List.setIfInBounds_toArray, List.set_cons_zero, List.set_cons_succ, List.getElem_toArray, List.getElem_cons_zero, List.getElem_cons_succ]
              refine wpAnyE_take (i := 5) (v := ?_) rfl (by kernel_rfl) (by kernel_rfl) (by kernel_rfl) (by kernel_rfl) (fun _ _ _ h => h) (Or.inl ⟨by rfl, ?_⟩) hSS ?_
              rotate_left
              · intro w hSw
                obtain ⟨⟨j0, j1, j2⟩, j3⟩ := hSw
                go_simp
                all_goals with_reducible rfl
              simp only [Act.put, List.setIfInBounds_toArray, List.set_cons_zero, List.set_cons_succ, List.getElem_toArray, List.getElem_cons_zero, List.getElem_cons_succ]
              refine wpAnyE_take (i := 6) (v := ?_) rfl (by kernel_rfl) (by kernel_rfl) (by kernel_rfl) (by kernel_rfl) (fun _ _ _ h => h) (Or.inl ⟨by rfl, ?_⟩) hSS ?_
              rotate_left
              · intro w hSw
                obtain ⟨⟨j0, j1, j2⟩, j3⟩ := hSw
                go_simp
                all_goals with_reducible rfl
              simp only [Act.put, List.setIfInBounds_toArray, List.set_cons_zero, List.set_cons_succ, List.getElem_toArray, List.getElem_cons_zero, List.getElem_cons_succ]
              refine wpAnyE_take (i := 7) (v := ?_) rfl (by kernel_rfl) (by kernel_rfl) (by kernel_rfl) (by kernel_rfl) (fun _ _ _ h => h) (Or.inl ⟨by rfl, ?_⟩) hSS ?_
              rotate_left
              · intro w hSw
                obtain ⟨⟨j0, j1, j2⟩, j3⟩ := hSw
                go_simp
                all_goals with_reducible rfl
              simp only [Act.put, List.setIfInBounds_toArray, List.set_cons_zero, List.set_cons_succ, List.getElem_toArray, List.getElem_cons_zero, List.getElem_cons_succ]
              refine wpAnyE_two (i := 8) (j := 13) (by kernel_rfl) rfl rfl ?_ ?_
              · skip
                change wpList _ _ (Exit.then _ _) [_] _ _
                try simp only [List.setIfInBounds_toArray, List.set_cons_zero, List.set_cons_succ, List.getElem_toArray, List.getElem_cons_zero, List.getElem_cons_succ]
                go_wp2_with (go_at_call 21; refine (parse_any _ _ _ _ _ _ q _ HQZ.out HSG.out.1 HRT.out).mono ?_; rintro e w3 ⟨y, i, er, rfl, hy, hB3⟩)
                have hSS := And.intro (And.intro ((hB3.cell (cell_lt hSS.1.1)).trans hSS.1.1) (And.intro ((hB3.cell (cell_lt hSS.1.2.1)).trans hSS.1.2.1) ((hB3.cell (cell_lt hSS.1.2.2)).trans hSS.1.2.2))) ((hB3.cell (cell_lt hSS.2)).trans hSS.2)
                have HGD := Lib.hid (HGD.out.below hB3)
                have HRT := Lib.hid (HRT.out.below hB3)
                have HRF := Lib.hid (HRF.out.below hB3)
                have HY := Lib.hid hy
                clear hB3 hy
                refine ⟨fun _ => hSS, ?_⟩
                try simp only [List.setIfInBounds_toArray, List.set_cons_zero, List.set_cons_succ, List.getElem_toArray, List.getElem_cons_zero, List.getElem_cons_succ]
                refine wpAnyE_take (i := 9) (v := ?_) rfl (by kernel_rfl) (by kernel_rfl) (by kernel_rfl) (by kernel_rfl) (fun _ _ _ h => h) (Or.inl ⟨by rfl, ?_⟩) hSS ?_
                rotate_left
                · intro w hSw
                  obtain ⟨⟨j0, j1, j2⟩, j3⟩ := hSw
                  go_simp
                  all_goals with_reducible rfl
                simp only [Act.put, List.setIfInBounds_toArray, List.set_cons_zero, List.set_cons_succ, List.getElem_toArray, List.getElem_cons_zero, List.getElem_cons_succ]
                refine wpAnyE_take (i := 10) (v := ?_) rfl (by kernel_rfl) (by kernel_rfl) (by kernel_rfl) (by kernel_rfl) (fun _ _ _ h => h) (Or.inl ⟨by rfl, ?_⟩) hSS ?_
                rotate_left
                · intro w hSw
                  obtain ⟨⟨j0, j1, j2⟩, j3⟩ := hSw
                  go_simp
                  all_goals with_reducible rfl
                simp only [Act.put, List.setIfInBounds_toArray, List.set_cons_zero, List.set_cons_succ, List.getElem_toArray, List.getElem_cons_zero, List.getElem_cons_succ]
                refine wpAnyE_take (i := 11) (v := ?_) rfl (by kernel_rfl) (by kernel_rfl) (by kernel_rfl) (by kernel_rfl) (fun _ _ _ h => h) (Or.inl ⟨by rfl, ?_⟩) hSS ?_
                rotate_left
                · intro w hSw
                  obtain ⟨⟨j0, j1, j2⟩, j3⟩ := hSw
                  go_simp
                  all_goals with_reducible rfl
                simp only [Act.put, List.setIfInBounds_toArray, List.set_cons_zero, List.set_cons_succ, List.getElem_toArray, List.getElem_cons_zero, List.getElem_cons_succ]
                refine wpAnyE_take (i := 12) (v := ?_) rfl (by kernel_rfl) (by kernel_rfl) (by kernel_rfl) (by kernel_rfl) (fun _ _ _ h => h) (Or.inl ⟨by rfl, ?_⟩) hSS ?_
                rotate_left
                · intro w hSw
                  obtain ⟨⟨j0, j1, j2⟩, j3⟩ := hSw
                  go_simp
                  all_goals with_reducible rfl
                simp only [Act.put, List.setIfInBounds_toArray, List.set_cons_zero, List.set_cons_succ, List.getElem_toArray, List.getElem_cons_zero, List.getElem_cons_succ]
                refine wpAnyE_one (i := 13) (by kernel_rfl) rfl ?_
                change wpList _ _ (Exit.then _ _) [_] _ _
                try simp only [List.setIfInBounds_toArray, List.set_cons_zero, List.set_cons_succ, List.getElem_toArray, List.getElem_cons_zero, List.getElem_cons_succ]
                go_wp2_with fail
                have HBW := Lib.hid ((Below.refl (w3).heap.size w3).alloc (Nat.le_refl _) (.cells #[.int .u32 0, .int .u32 0, .int .u32 0, .int .u32 0] 47))
                have hz3 := blk_new w3 (.cells #[.int .u32 0, .int .u32 0, .int .u32 0, .int .u32 0] 47)
                generalize World.alloc w3 _ = V3 at *
                first | refine ⟨fun _ => ss_below HBW.out hSS, ?_⟩ | refine ⟨ss_below HBW.out hSS, ?_⟩
                try simp only [List.setIfInBounds_toArray, List.set_cons_zero, List.set_cons_succ, List.getElem_toArray, List.getElem_cons_zero, List.getElem_cons_succ]
                obtain ⟨⟨z0, z1, z2, z3⟩, f0, f1, f2, f3⟩ := z4 hz3
                unfold setV setC
                refine wpAnyE_one (i := 14) (by kernel_rfl) rfl ?_
                change wpList _ _ (Exit.then _ _) [_] _ _
                try simp only [List.setIfInBounds_toArray, List.set_cons_zero, List.set_cons_succ, List.getElem_toArray, List.getElem_cons_zero, List.getElem_cons_succ]
                go_wp2_with fail
                generalize hX : World.setCell (World.setCell (World.setCell (World.setCell _ _ _) _ _) _ _) _ _ = X3
                have hz5 : (X3).heap[(w3).heap.size]? = some (.cells (setC y) 47 (0, 0)) := by rw [← hX]; exact blk_store (blk_store (blk_store (blk_store hz3 0 _) 1 _) 2 _) 3 _
                have HBX := Lib.hid (show Below (w3).heap.size w3 X3 by rw [← hX]; exact (((HBW.out.setCell (Nat.le_refl _) _).setCell (Nat.le_refl _) _).setCell (Nat.le_refl _) _).setCell (Nat.le_refl _) _)
                clear hX hz3 z0 z1 z2 z3 f0 f1 f2 f3 HBW
                refine ⟨fun _ => ss_below HBX.out hSS, ?_⟩
                try simp only [List.setIfInBounds_toArray, List.set_cons_zero, List.set_cons_succ, List.getElem_toArray, List.getElem_cons_zero, List.getElem_cons_succ]
                refine wpAnyE_one (i := 15) (by kernel_rfl) rfl ?_
                change wpList _ _ (Exit.then _ _) [_] _ _
                try simp only [List.setIfInBounds_toArray, List.set_cons_zero, List.set_cons_succ, List.getElem_toArray, List.getElem_cons_zero, List.getElem_cons_succ]
                go_wp2_with fail
                refine ⟨fun _ => ss_below HBX.out hSS, ?_⟩
                try simp only [List.setIfInBounds_toArray, List.set_cons_zero, List.set_cons_succ, List.getElem_toArray, List.getElem_cons_zero, List.getElem_cons_succ]
                refine wpAnyE_one (i := 16) (by kernel_rfl) rfl ?_
                change wpList _ _ (Exit.then _ _) [_] _ _
                try simp only [List.setIfInBounds_toArray, List.set_cons_zero, List.set_cons_succ, List.getElem_toArray, List.getElem_cons_zero, List.getElem_cons_succ]
                go_wp2_with fail
                refine ⟨fun _ => ss_below HBX.out hSS, ?_⟩
                try simp only [List.setIfInBounds_toArray, List.set_cons_zero, List.set_cons_succ, List.getElem_toArray, List.getElem_cons_zero, List.getElem_cons_succ]
                refine wpAnyE_end (by kernel_rfl) ?_
                have HGD := Lib.hid (HGD.out.below HBX.out)
                have HRT := Lib.hid (HRT.out.below HBX.out)
                have HRF := Lib.hid (HRF.out.below HBX.out)
                (try have HA := Lib.hid (blk_below' HBX.out HA.out))
                clear hSS HBX
                obtain ⟨ga, hga⟩ : ∃ q, q = (w3).heap.size := ⟨_, rfl⟩
                rw [← hga] at hz5
                (try rw [← hga])
                clear hga
                have HA := Lib.hid hz5
                clear hz5
                obtain ⟨gm', egm, _, d3⟩ := HGD.out.mcells hL hp
                obtain rfl : gm = gm' := by injection egm with egm; injection egm
                clear egm
                have hqc := HQC.out _ HGD.out.low
                go_upto_region 18 with fail
                refine wp_region_early (fun w' => w'.cell? ⟨gm, k, none⟩ = some (.slice ua (sgs o).length uc) ∧ w'.cell? (b1.add n) = some (.string q)) (fun _ => false) (by kernel_rfl) ?_
                simp only [List.size_toArray, List.length_cons, List.length_nil, Nat.reduceAdd, Array.replicate_succ, Array.replicate_zero, List.push_toArray, List.nil_append, List.cons_append]
                have hdr : Below (X3).heap.size X3 (X3).drew := (Below.refl _ _).drew
                have hSS := ss2_below hdr ⟨d3, hqc⟩
                have HA := Lib.hid (blk_below' hdr HA.out)
                have HGD := Lib.hid (HGD.out.below hdr)
                have HRT := Lib.hid (HRT.out.below hdr)
                have HRF := Lib.hid (HRF.out.below hdr)
                clear hdr d3 hqc
                generalize World.drew X3 = Y4 at *
                refine wpAnyE_take (i := 0) (v := ?_) rfl (by kernel_rfl) (by kernel_rfl) (by kernel_rfl) (by kernel_rfl) (fun _ _ _ h => h) (Or.inl ⟨by rfl, ?_⟩) hSS ?_
                rotate_left
                · intro w hSw
                  obtain ⟨j0, j1⟩ := hSw
                  go_simp
                  all_goals with_reducible rfl
                simp only [Act.put, List.setIfInBounds_toArray, List.set_cons_zero, List.set_cons_succ, List.getElem_toArray, List.getElem_cons_zero, List.getElem_cons_succ]
                refine wpAnyE_take (i := 1) (v := ?_) rfl (by kernel_rfl) (by kernel_rfl) (by kernel_rfl) (by kernel_rfl) (fun _ _ _ h => h) (Or.inl ⟨by rfl, ?_⟩) hSS ?_
                rotate_left
                · intro w hSw
                  obtain ⟨j0, j1⟩ := hSw
                  go_simp
                  all_goals with_reducible rfl
                simp only [Act.put, List.setIfInBounds_toArray, List.set_cons_zero, List.set_cons_succ, List.getElem_toArray, List.getElem_cons_zero, List.getElem_cons_succ]
                refine wpAnyE_take (i := 2) (v := ?_) rfl (by kernel_rfl) (by kernel_rfl) (by kernel_rfl) (by kernel_rfl) (fun _ _ _ h => h) (Or.inl ⟨by rfl, ?_⟩) hSS ?_
                rotate_left
                · intro w hSw
                  obtain ⟨j0, j1⟩ := hSw
                  go_simp
                  all_goals with_reducible rfl
                simp only [Act.put, List.setIfInBounds_toArray, List.set_cons_zero, List.set_cons_succ, List.getElem_toArray, List.getElem_cons_zero, List.getElem_cons_succ]
                refine wpAnyE_take (i := 3) (v := ?_) rfl (by kernel_rfl) (by kernel_rfl) (by kernel_rfl) (by kernel_rfl) (fun _ _ _ h => h) (Or.inl ⟨by rfl, ?_⟩) hSS ?_
                rotate_left
                · intro w hSw
                  obtain ⟨j0, j1⟩ := hSw
                  go_simp
                  all_goals with_reducible rfl
                simp only [Act.put, List.setIfInBounds_toArray, List.set_cons_zero, List.set_cons_succ, List.getElem_toArray, List.getElem_cons_zero, List.getElem_cons_succ]
                refine wpAnyE_take (i := 4) (v := ?_) rfl (by kernel_rfl) (by kernel_rfl) (by kernel_rfl) (by kernel_rfl) (fun _ _ _ h => h) (Or.inl ⟨by rfl, ?_⟩) hSS ?_
                rotate_left
                · intro w hSw
                  obtain ⟨j0, j1⟩ := hSw
                  go_simp
                  all_goals with_reducible rfl
                simp only [Act.put, List.setIfInBounds_toArray, List.set_cons_zero, List.set_cons_succ, List.getElem_toArray, List.getElem_cons_zero, List.getElem_cons_succ]
                refine wpAnyE_take (i := 5) (v := ?_) rfl (by kernel_rfl) (by kernel_rfl) (by kernel_rfl) (by kernel_rfl) (fun _ _ _ h => h) (Or.inl ⟨by rfl, ?_⟩) hSS ?_
                rotate_left
                · intro w hSw
                  obtain ⟨j0, j1⟩ := hSw
                  go_simp
                  all_goals with_reducible rfl
                simp only [Act.put, List.setIfInBounds_toArray, List.set_cons_zero, List.set_cons_succ, List.getElem_toArray, List.getElem_cons_zero, List.getElem_cons_succ]
                refine wpAnyE_take (i := 6) (v := ?_) rfl (by kernel_rfl) (by kernel_rfl) (by kernel_rfl) (by kernel_rfl) (fun _ _ _ h => h) (Or.inl ⟨by rfl, ?_⟩) hSS ?_
                rotate_left
                · intro w hSw
                  obtain ⟨j0, j1⟩ := hSw
                  go_simp
                  all_goals with_reducible rfl
                simp only [Act.put, List.setIfInBounds_toArray, List.set_cons_zero, List.set_cons_succ, List.getElem_toArray, List.getElem_cons_zero, List.getElem_cons_succ]
                refine wpAnyE_take (i := 7) (v := ?_) rfl (by kernel_rfl) (by kernel_rfl) (by kernel_rfl) (by kernel_rfl) (fun _ _ _ h => h) (Or.inl ⟨by rfl, ?_⟩) hSS ?_
                rotate_left
                · intro w hSw
                  obtain ⟨j0, j1⟩ := hSw
                  go_simp
                  all_goals with_reducible rfl
                simp only [Act.put, List.setIfInBounds_toArray, List.set_cons_zero, List.set_cons_succ, List.getElem_toArray, List.getElem_cons_zero, List.getElem_cons_succ]
                refine wpAnyE_two (i := 8) (j := 13) (by kernel_rfl) rfl rfl ?_ ?_
                · skip
                  change wpList _ _ (Exit.then _ _) [_] _ _
                  try simp only [List.setIfInBounds_toArray, List.set_cons_zero, List.set_cons_succ, List.getElem_toArray, List.getElem_cons_zero, List.getElem_cons_succ]
                  go_wp2_with (go_at_call 22; refine (refParse_any _ _ _ _ q _ HQZ.out HSG.out.1 HCL.out HRF.out).mono ?_; rintro e w5 ⟨y', i', er', rfl, hy', hB5⟩)
                  obtain ⟨rfl, rfl, rfl⟩ : y = y' ∧ i = i' ∧ er = er' := by have := HY.out.symm.trans hy'; simpa using this
                  clear hy'
                  have hSS := ss2_below hB5 hSS
                  have HA := Lib.hid (blk_below' hB5 HA.out)
                  have HGD := Lib.hid (HGD.out.below hB5)
                  have HRT := Lib.hid (HRT.out.below hB5)
                  have HRF := Lib.hid (HRF.out.below hB5)
                  clear hB5
                  refine ⟨fun _ => hSS, ?_⟩
                  try simp only [List.setIfInBounds_toArray, List.set_cons_zero, List.set_cons_succ, List.getElem_toArray, List.getElem_cons_zero, List.getElem_cons_succ]
                  refine wpAnyE_take (i := 9) (v := ?_) rfl (by kernel_rfl) (by kernel_rfl) (by kernel_rfl) (by kernel_rfl) (fun _ _ _ h => h) (Or.inl ⟨by rfl, ?_⟩) hSS ?_
                  rotate_left
                  · intro w hSw
                    obtain ⟨j0, j1⟩ := hSw
                    go_simp
                    all_goals with_reducible rfl
                  simp only [Act.put, List.setIfInBounds_toArray, List.set_cons_zero, List.set_cons_succ, List.getElem_toArray, List.getElem_cons_zero, List.getElem_cons_succ]
                  refine wpAnyE_take (i := 10) (v := ?_) rfl (by kernel_rfl) (by kernel_rfl) (by kernel_rfl) (by kernel_rfl) (fun _ _ _ h => h) (Or.inl ⟨by rfl, ?_⟩) hSS ?_
                  rotate_left
                  · intro w hSw
                    obtain ⟨j0, j1⟩ := hSw
                    go_simp
                    all_goals with_reducible rfl
                  simp only [Act.put, List.setIfInBounds_toArray, List.set_cons_zero, List.set_cons_succ, List.getElem_toArray, List.getElem_cons_zero, List.getElem_cons_succ]
                  refine wpAnyE_take (i := 11) (v := ?_) rfl (by kernel_rfl) (by kernel_rfl) (by kernel_rfl) (by kernel_rfl) (fun _ _ _ h => h) (Or.inl ⟨by rfl, ?_⟩) hSS ?_
                  rotate_left
                  · intro w hSw
                    obtain ⟨j0, j1⟩ := hSw
                    go_simp
                    all_goals with_reducible rfl
                  simp only [Act.put, List.setIfInBounds_toArray, List.set_cons_zero, List.set_cons_succ, List.getElem_toArray, List.getElem_cons_zero, List.getElem_cons_succ]
                  refine wpAnyE_take (i := 12) (v := ?_) rfl (by kernel_rfl) (by kernel_rfl) (by kernel_rfl) (by kernel_rfl) (fun _ _ _ h => h) (Or.inl ⟨by rfl, ?_⟩) hSS ?_
                  rotate_left
                  · intro w hSw
                    obtain ⟨j0, j1⟩ := hSw
                    go_simp
                    all_goals with_reducible rfl
                  simp only [Act.put, List.setIfInBounds_toArray, List.set_cons_zero, List.set_cons_succ, List.getElem_toArray, List.getElem_cons_zero, List.getElem_cons_succ]
                  refine wpAnyE_one (i := 13) (by kernel_rfl) rfl ?_
                  change wpList _ _ (Exit.then _ _) [_] _ _
                  try simp only [List.setIfInBounds_toArray, List.set_cons_zero, List.set_cons_succ, List.getElem_toArray, List.getElem_cons_zero, List.getElem_cons_succ]
                  go_wp2_with fail
                  have HBW := Lib.hid ((Below.refl (w5).heap.size w5).alloc (Nat.le_refl _) (.cells #[.int .u32 0, .int .u32 0, .int .u32 0, .int .u32 0] 47))
                  have hz3 := blk_new w5 (.cells #[.int .u32 0, .int .u32 0, .int .u32 0, .int .u32 0] 47)
                  generalize World.alloc w5 _ = V5 at *
                  first | refine ⟨fun _ => ss2_below HBW.out hSS, ?_⟩ | refine ⟨ss2_below HBW.out hSS, ?_⟩
                  try simp only [List.setIfInBounds_toArray, List.set_cons_zero, List.set_cons_succ, List.getElem_toArray, List.getElem_cons_zero, List.getElem_cons_succ]
                  obtain ⟨⟨z0, z1, z2, z3⟩, f0, f1, f2, f3⟩ := z4 hz3
                  unfold setV setC
                  refine wpAnyE_one (i := 14) (by kernel_rfl) rfl ?_
                  change wpList _ _ (Exit.then _ _) [_] _ _
                  try simp only [List.setIfInBounds_toArray, List.set_cons_zero, List.set_cons_succ, List.getElem_toArray, List.getElem_cons_zero, List.getElem_cons_succ]
                  go_wp2_with fail
                  generalize hX : World.setCell (World.setCell (World.setCell (World.setCell _ _ _) _ _) _ _) _ _ = X5
                  have hz5 : (X5).heap[(w5).heap.size]? = some (.cells (setC y) 47 (0, 0)) := by rw [← hX]; exact blk_store (blk_store (blk_store (blk_store hz3 0 _) 1 _) 2 _) 3 _
                  have HBX := Lib.hid (show Below (w5).heap.size w5 X5 by rw [← hX]; exact (((HBW.out.setCell (Nat.le_refl _) _).setCell (Nat.le_refl _) _).setCell (Nat.le_refl _) _).setCell (Nat.le_refl _) _)
                  clear hX hz3 z0 z1 z2 z3 f0 f1 f2 f3 HBW
                  refine ⟨fun _ => ss2_below HBX.out hSS, ?_⟩
                  try simp only [List.setIfInBounds_toArray, List.set_cons_zero, List.set_cons_succ, List.getElem_toArray, List.getElem_cons_zero, List.getElem_cons_succ]
                  refine wpAnyE_one (i := 15) (by kernel_rfl) rfl ?_
                  change wpList _ _ (Exit.then _ _) [_] _ _
                  try simp only [List.setIfInBounds_toArray, List.set_cons_zero, List.set_cons_succ, List.getElem_toArray, List.getElem_cons_zero, List.getElem_cons_succ]
                  go_wp2_with fail
                  refine ⟨fun _ => ss2_below HBX.out hSS, ?_⟩
                  try simp only [List.setIfInBounds_toArray, List.set_cons_zero, List.set_cons_succ, List.getElem_toArray, List.getElem_cons_zero, List.getElem_cons_succ]
                  refine wpAnyE_one (i := 16) (by kernel_rfl) rfl ?_
                  change wpList _ _ (Exit.then _ _) [_] _ _
                  try simp only [List.setIfInBounds_toArray, List.set_cons_zero, List.set_cons_succ, List.getElem_toArray, List.getElem_cons_zero, List.getElem_cons_succ]
                  go_wp2_with fail
                  refine ⟨fun _ => ss2_below HBX.out hSS, ?_⟩
                  try simp only [List.setIfInBounds_toArray, List.set_cons_zero, List.set_cons_succ, List.getElem_toArray, List.getElem_cons_zero, List.getElem_cons_succ]
                  refine wpAnyE_end (by kernel_rfl) ?_
                  have HGD := Lib.hid (HGD.out.below HBX.out)
                  have HRT := Lib.hid (HRT.out.below HBX.out)
                  have HRF := Lib.hid (HRF.out.below HBX.out)
                  (try have HA := Lib.hid (blk_below' HBX.out HA.out))
                  clear hSS HBX
                  obtain ⟨gb, hgb⟩ : ∃ q, q = (w5).heap.size := ⟨_, rfl⟩
                  rw [← hgb] at hz5
                  (try rw [← hgb])
                  clear hgb
                  have HB := Lib.hid hz5
                  clear hz5
                  obtain ⟨gl', egl, _, d0, d1, d2⟩ := HGD.out.lcells hL hp
                  obtain rfl : gl = gl' := by injection egl with egl; injection egl
                  clear egl
                  obtain ⟨pt, pe, hpv⟩ : ∃ pt pe, prV (sgs o) y = (pt, pe) := ⟨_, _, rfl⟩
                  have HPV := Lib.hid hpv
                  have HYL : Hid (y < 2 ^ 128) := by
                    have := parV_lt (s := q) HSG.out.1
                    rw [HY.out] at this
                    exact Nat.lt_of_lt_of_le this (Nat.pow_le_pow_right (by decide) (by decide))
                  clear hpv
                  go_upto_region 19 with fail
                  refine wp_region_early (fun w' => (w'.cell? ⟨gl, k * 3, none⟩ = some (.string t) ∧ w'.cell? ⟨gl, k * 3 + 1, none⟩ = some (.slice sa (sgs o).length sc) ∧ w'.cell? ⟨gl, k * 3 + 2, none⟩ = some (.map m)) ∧ (w'.cell? ⟨ga, 0, none⟩ = some (.int .u32 (sw y 0 : Nat)) ∧ w'.cell? ⟨ga, 1, none⟩ = some (.int .u32 (sw y 1 : Nat)) ∧ w'.cell? ⟨ga, 2, none⟩ = some (.int .u32 (sw y 2 : Nat)) ∧ w'.cell? ⟨ga, 3, none⟩ = some (.int .u32 (sw y 3 : Nat)))) (fun _ => false) (by kernel_rfl) ?_
                  simp only [List.size_toArray, List.length_cons, List.length_nil, Nat.reduceAdd, Array.replicate_succ, Array.replicate_zero, List.push_toArray, List.nil_append, List.cons_append]
                  have hdr : Below (X5).heap.size X5 (X5).drew := (Below.refl _ _).drew
                  have hSS := s19_below hdr ⟨⟨d0, d1, d2⟩, setC4 HA.out⟩
                  have HA := Lib.hid (blk_below' hdr HA.out)
                  have HB := Lib.hid (blk_below' hdr HB.out)
                  have HGD := Lib.hid (HGD.out.below hdr)
                  have HRT := Lib.hid (HRT.out.below hdr)
                  have HRF := Lib.hid (HRF.out.below hdr)
                  clear hdr
                  clear d0 d1 d2
                  generalize World.drew X5 = Y6 at *
                  refine wpAnyE_take (i := 0) (v := ?_) rfl (by kernel_rfl) (by kernel_rfl) (by kernel_rfl) (by kernel_rfl) (fun _ _ _ h => h) (Or.inl ⟨by rfl, ?_⟩) hSS ?_
                  rotate_left
                  · intro w hSw
                    obtain ⟨⟨j0, j1, j2⟩, j3, j4, j5, j6⟩ := hSw
                    go_simp
                    all_goals with_reducible rfl
                  simp only [Act.put, List.setIfInBounds_toArray, List.set_cons_zero, List.set_cons_succ, List.getElem_toArray, List.getElem_cons_zero, List.getElem_cons_succ]
                  refine wpAnyE_take (i := 1) (v := ?_) rfl (by kernel_rfl) (by kernel_rfl) (by kernel_rfl) (by kernel_rfl) (fun _ _ _ h => h) (Or.inl ⟨by rfl, ?_⟩) hSS ?_
                  rotate_left
                  · intro w hSw
                    obtain ⟨⟨j0, j1, j2⟩, j3, j4, j5, j6⟩ := hSw
                    go_simp
                    all_goals with_reducible rfl
                  simp only [Act.put, List.setIfInBounds_toArray, List.set_cons_zero, List.set_cons_succ, List.getElem_toArray, List.getElem_cons_zero, List.getElem_cons_succ]
                  refine wpAnyE_take (i := 2) (v := ?_) rfl (by kernel_rfl) (by kernel_rfl) (by kernel_rfl) (by kernel_rfl) (fun _ _ _ h => h) (Or.inl ⟨by rfl, ?_⟩) hSS ?_
                  rotate_left
                  · intro w hSw
                    obtain ⟨⟨j0, j1, j2⟩, j3, j4, j5, j6⟩ := hSw
                    go_simp
                    all_goals with_reducible rfl
                  simp only [Act.put, List.setIfInBounds_toArray, List.set_cons_zero, List.set_cons_succ, List.getElem_toArray, List.getElem_cons_zero, List.getElem_cons_succ]
                  refine wpAnyE_take (i := 3) (v := ?_) rfl (by kernel_rfl) (by kernel_rfl) (by kernel_rfl) (by kernel_rfl) (fun _ _ _ h => h) (Or.inl ⟨by rfl, ?_⟩) hSS ?_
                  rotate_left
                  · intro w hSw
                    obtain ⟨⟨j0, j1, j2⟩, j3, j4, j5, j6⟩ := hSw
                    go_simp
                    all_goals with_reducible rfl
                  simp only [Act.put, List.setIfInBounds_toArray, List.set_cons_zero, List.set_cons_succ, List.getElem_toArray, List.getElem_cons_zero, List.getElem_cons_succ]
                  refine wpAnyE_take (i := 4) (v := ?_) rfl (by kernel_rfl) (by kernel_rfl) (by kernel_rfl) (by kernel_rfl) (fun _ _ _ h => h) (Or.inl ⟨by rfl, ?_⟩) hSS ?_
                  rotate_left
                  · intro w hSw
                    obtain ⟨⟨j0, j1, j2⟩, j3, j4, j5, j6⟩ := hSw
                    go_simp
                    all_goals with_reducible rfl
                  simp only [Act.put, List.setIfInBounds_toArray, List.set_cons_zero, List.set_cons_succ, List.getElem_toArray, List.getElem_cons_zero, List.getElem_cons_succ]
                  refine wpAnyE_one (i := 5) (by kernel_rfl) rfl ?_
                  change wpList _ _ (Exit.then _ _) [_] _ _
                  try simp only [List.setIfInBounds_toArray, List.set_cons_zero, List.set_cons_succ, List.getElem_toArray, List.getElem_cons_zero, List.getElem_cons_succ]
                  go_wp2_with (go_at_call 23; refine (print_is _ _ _ _ _ _ y _ HYL.out HSG.out.1 HSG.out.2.1 HRT.out HPV.out).mono ?_; rintro e w7 ⟨rfl, hB7⟩)
                  have hSS := s19_below hB7 hSS
                  have HA := Lib.hid (blk_below' hB7 HA.out)
                  have HB := Lib.hid (blk_below' hB7 HB.out)
                  have HGD := Lib.hid (HGD.out.below hB7)
                  have HRT := Lib.hid (HRT.out.below hB7)
                  have HRF := Lib.hid (HRF.out.below hB7)
                  clear hB7
                  refine ⟨fun _ => hSS, ?_⟩
                  try simp only [List.setIfInBounds_toArray, List.set_cons_zero, List.set_cons_succ, List.getElem_toArray, List.getElem_cons_zero, List.getElem_cons_succ]
                  refine wpAnyE_take (i := 6) (v := ?_) rfl (by kernel_rfl) (by kernel_rfl) (by kernel_rfl) (by kernel_rfl) (fun _ _ _ h => h) (Or.inl ⟨by rfl, ?_⟩) hSS ?_
                  rotate_left
                  · intro w hSw
                    obtain ⟨⟨j0, j1, j2⟩, j3, j4, j5, j6⟩ := hSw
                    go_simp
                    all_goals with_reducible rfl
                  simp only [Act.put, List.setIfInBounds_toArray, List.set_cons_zero, List.set_cons_succ, List.getElem_toArray, List.getElem_cons_zero, List.getElem_cons_succ]
                  refine wpAnyE_take (i := 7) (v := ?_) rfl (by kernel_rfl) (by kernel_rfl) (by kernel_rfl) (by kernel_rfl) (fun _ _ _ h => h) (Or.inl ⟨by rfl, ?_⟩) hSS ?_
                  rotate_left
                  · intro w hSw
                    obtain ⟨⟨j0, j1, j2⟩, j3, j4, j5, j6⟩ := hSw
                    go_simp
                    all_goals with_reducible rfl
                  simp only [Act.put, List.setIfInBounds_toArray, List.set_cons_zero, List.set_cons_succ, List.getElem_toArray, List.getElem_cons_zero, List.getElem_cons_succ]
                  refine wpAnyE_take (i := 8) (v := ?_) rfl (by kernel_rfl) (by kernel_rfl) (by kernel_rfl) (by kernel_rfl) (fun _ _ _ h => h) (Or.inl ⟨by rfl, ?_⟩) hSS ?_
                  rotate_left
                  · intro w hSw
                    obtain ⟨⟨j0, j1, j2⟩, j3, j4, j5, j6⟩ := hSw
                    go_simp
                    all_goals with_reducible rfl
                  simp only [Act.put, List.setIfInBounds_toArray, List.set_cons_zero, List.set_cons_succ, List.getElem_toArray, List.getElem_cons_zero, List.getElem_cons_succ]
                  refine wpAnyE_one (i := 9) (by kernel_rfl) rfl ?_
                  change wpList _ _ (Exit.then _ _) [_] _ _
                  try simp only [List.setIfInBounds_toArray, List.set_cons_zero, List.set_cons_succ, List.getElem_toArray, List.getElem_cons_zero, List.getElem_cons_succ]
                  go_wp2_with fail
                  refine ⟨fun _ => hSS, ?_⟩
                  try simp only [List.setIfInBounds_toArray, List.set_cons_zero, List.set_cons_succ, List.getElem_toArray, List.getElem_cons_zero, List.getElem_cons_succ]
                  refine wpAnyE_one (i := 10) (by kernel_rfl) rfl ?_
                  change wpList _ _ (Exit.then _ _) [_] _ _
                  try simp only [List.setIfInBounds_toArray, List.set_cons_zero, List.set_cons_succ, List.getElem_toArray, List.getElem_cons_zero, List.getElem_cons_succ]
                  go_wp2_with fail
                  refine ⟨fun _ => hSS, ?_⟩
                  try simp only [List.setIfInBounds_toArray, List.set_cons_zero, List.set_cons_succ, List.getElem_toArray, List.getElem_cons_zero, List.getElem_cons_succ]
                  refine wpAnyE_end (by kernel_rfl) ?_
                  clear hSS
                  obtain ⟨gm', egm, _, d3⟩ := HGD.out.mcells hL hp
                  obtain rfl : gm = gm' := by injection egm with egm; injection egm
                  clear egm
                  go_upto_region 20 with fail
                  refine wp_region_early (fun w' => w'.cell? ⟨gm, k, none⟩ = some (.slice ua (sgs o).length uc) ∧ (w'.cell? ⟨gb, 0, none⟩ = some (.int .u32 (sw y 0 : Nat)) ∧ w'.cell? ⟨gb, 1, none⟩ = some (.int .u32 (sw y 1 : Nat)) ∧ w'.cell? ⟨gb, 2, none⟩ = some (.int .u32 (sw y 2 : Nat)) ∧ w'.cell? ⟨gb, 3, none⟩ = some (.int .u32 (sw y 3 : Nat)))) (fun _ => false) (by kernel_rfl) ?_
                  simp only [List.size_toArray, List.length_cons, List.length_nil, Nat.reduceAdd, Array.replicate_succ, Array.replicate_zero, List.push_toArray, List.nil_append, List.cons_append]
                  have hdr : Below w7.heap.size w7 w7.drew := (Below.refl _ _).drew
                  have hSS := s20_below hdr ⟨d3, setC4 HB.out⟩
                  have HA := Lib.hid (blk_below' hdr HA.out)
                  have HB := Lib.hid (blk_below' hdr HB.out)
                  have HGD := Lib.hid (HGD.out.below hdr)
                  have HRT := Lib.hid (HRT.out.below hdr)
                  have HRF := Lib.hid (HRF.out.below hdr)
                  clear hdr
                  clear d3
                  generalize World.drew w7 = Y8 at *
                  refine wpAnyE_take (i := 0) (v := ?_) rfl (by kernel_rfl) (by kernel_rfl) (by kernel_rfl) (by kernel_rfl) (fun _ _ _ h => h) (Or.inl ⟨by rfl, ?_⟩) hSS ?_
                  rotate_left
                  · intro w hSw
                    obtain ⟨j2, j3, j4, j5, j6⟩ := hSw
                    go_simp
                    all_goals with_reducible rfl
                  simp only [Act.put, List.setIfInBounds_toArray, List.set_cons_zero, List.set_cons_succ, List.getElem_toArray, List.getElem_cons_zero, List.getElem_cons_succ]
                  refine wpAnyE_take (i := 1) (v := ?_) rfl (by kernel_rfl) (by kernel_rfl) (by kernel_rfl) (by kernel_rfl) (fun _ _ _ h => h) (Or.inl ⟨by rfl, ?_⟩) hSS ?_
                  rotate_left
                  · intro w hSw
                    obtain ⟨j2, j3, j4, j5, j6⟩ := hSw
                    go_simp
                    all_goals with_reducible rfl
                  simp only [Act.put, List.setIfInBounds_toArray, List.set_cons_zero, List.set_cons_succ, List.getElem_toArray, List.getElem_cons_zero, List.getElem_cons_succ]
                  refine wpAnyE_take (i := 2) (v := ?_) rfl (by kernel_rfl) (by kernel_rfl) (by kernel_rfl) (by kernel_rfl) (fun _ _ _ h => h) (Or.inl ⟨by rfl, ?_⟩) hSS ?_
                  rotate_left
                  · intro w hSw
                    obtain ⟨j2, j3, j4, j5, j6⟩ := hSw
                    go_simp
                    all_goals with_reducible rfl
                  simp only [Act.put, List.setIfInBounds_toArray, List.set_cons_zero, List.set_cons_succ, List.getElem_toArray, List.getElem_cons_zero, List.getElem_cons_succ]
                  refine wpAnyE_take (i := 3) (v := ?_) rfl (by kernel_rfl) (by kernel_rfl) (by kernel_rfl) (by kernel_rfl) (fun _ _ _ h => h) (Or.inl ⟨by rfl, ?_⟩) hSS ?_
                  rotate_left
                  · intro w hSw
                    obtain ⟨j2, j3, j4, j5, j6⟩ := hSw
                    go_simp
                    all_goals with_reducible rfl
                  simp only [Act.put, List.setIfInBounds_toArray, List.set_cons_zero, List.set_cons_succ, List.getElem_toArray, List.getElem_cons_zero, List.getElem_cons_succ]
                  refine wpAnyE_take (i := 4) (v := ?_) rfl (by kernel_rfl) (by kernel_rfl) (by kernel_rfl) (by kernel_rfl) (fun _ _ _ h => h) (Or.inl ⟨by rfl, ?_⟩) hSS ?_
                  rotate_left
                  · intro w hSw
                    obtain ⟨j2, j3, j4, j5, j6⟩ := hSw
                    go_simp
                    all_goals with_reducible rfl
                  simp only [Act.put, List.setIfInBounds_toArray, List.set_cons_zero, List.set_cons_succ, List.getElem_toArray, List.getElem_cons_zero, List.getElem_cons_succ]
                  refine wpAnyE_one (i := 5) (by kernel_rfl) rfl ?_
                  change wpList _ _ (Exit.then _ _) [_] _ _
                  try simp only [List.setIfInBounds_toArray, List.set_cons_zero, List.set_cons_succ, List.getElem_toArray, List.getElem_cons_zero, List.getElem_cons_succ]
                  go_wp2_with (go_at_call 24; refine (refPrint_is _ _ _ _ y _ HYL.out HSG.out.1 HSG.out.2.1 HRF.out HPV.out).mono ?_; rintro e w9' ⟨rfl, hB9'⟩)
                  have hSS := s20_below hB9' hSS
                  have HA := Lib.hid (blk_below' hB9' HA.out)
                  have HB := Lib.hid (blk_below' hB9' HB.out)
                  have HGD := Lib.hid (HGD.out.below hB9')
                  have HRT := Lib.hid (HRT.out.below hB9')
                  have HRF := Lib.hid (HRF.out.below hB9')
                  clear hB9'
                  refine ⟨fun _ => hSS, ?_⟩
                  try simp only [List.setIfInBounds_toArray, List.set_cons_zero, List.set_cons_succ, List.getElem_toArray, List.getElem_cons_zero, List.getElem_cons_succ]
                  refine wpAnyE_take (i := 6) (v := ?_) rfl (by kernel_rfl) (by kernel_rfl) (by kernel_rfl) (by kernel_rfl) (fun _ _ _ h => h) (Or.inl ⟨by rfl, ?_⟩) hSS ?_
                  rotate_left
                  · intro w hSw
                    obtain ⟨j2, j3, j4, j5, j6⟩ := hSw
                    go_simp
                    all_goals with_reducible rfl
                  simp only [Act.put, List.setIfInBounds_toArray, List.set_cons_zero, List.set_cons_succ, List.getElem_toArray, List.getElem_cons_zero, List.getElem_cons_succ]
                  refine wpAnyE_take (i := 7) (v := ?_) rfl (by kernel_rfl) (by kernel_rfl) (by kernel_rfl) (by kernel_rfl) (fun _ _ _ h => h) (Or.inl ⟨by rfl, ?_⟩) hSS ?_
                  rotate_left
                  · intro w hSw
                    obtain ⟨j2, j3, j4, j5, j6⟩ := hSw
                    go_simp
                    all_goals with_reducible rfl
                  simp only [Act.put, List.setIfInBounds_toArray, List.set_cons_zero, List.set_cons_succ, List.getElem_toArray, List.getElem_cons_zero, List.getElem_cons_succ]
                  refine wpAnyE_take (i := 8) (v := ?_) rfl (by kernel_rfl) (by kernel_rfl) (by kernel_rfl) (by kernel_rfl) (fun _ _ _ h => h) (Or.inl ⟨by rfl, ?_⟩) hSS ?_
                  rotate_left
                  · intro w hSw
                    obtain ⟨j2, j3, j4, j5, j6⟩ := hSw
                    go_simp
                    all_goals with_reducible rfl
                  simp only [Act.put, List.setIfInBounds_toArray, List.set_cons_zero, List.set_cons_succ, List.getElem_toArray, List.getElem_cons_zero, List.getElem_cons_succ]
                  refine wpAnyE_one (i := 9) (by kernel_rfl) rfl ?_
                  change wpList _ _ (Exit.then _ _) [_] _ _
                  try simp only [List.setIfInBounds_toArray, List.set_cons_zero, List.set_cons_succ, List.getElem_toArray, List.getElem_cons_zero, List.getElem_cons_succ]
                  go_wp2_with fail
                  refine ⟨fun _ => hSS, ?_⟩
                  try simp only [List.setIfInBounds_toArray, List.set_cons_zero, List.set_cons_succ, List.getElem_toArray, List.getElem_cons_zero, List.getElem_cons_succ]
                  refine wpAnyE_one (i := 10) (by kernel_rfl) rfl ?_
                  change wpList _ _ (Exit.then _ _) [_] _ _
                  try simp only [List.setIfInBounds_toArray, List.set_cons_zero, List.set_cons_succ, List.getElem_toArray, List.getElem_cons_zero, List.getElem_cons_succ]
                  go_wp2_with fail
                  refine ⟨fun _ => hSS, ?_⟩
                  try simp only [List.setIfInBounds_toArray, List.set_cons_zero, List.set_cons_succ, List.getElem_toArray, List.getElem_cons_zero, List.getElem_cons_succ]
                  refine wpAnyE_end (by kernel_rfl) ?_
                  clear hSS
                  have heq : ∀ w, (Op.equalIn 10000 47 (.agg #[.int .u32 (sw y 0 : Nat), .int .u32 (sw y 1 : Nat), .int .u32 (sw y 2 : Nat), .int .u32 (sw y 3 : Nat)]) (.agg #[.int .u32 (sw y 0 : Nat), .int .u32 (sw y 1 : Nat), .int .u32 (sw y 2 : Nat), .int .u32 (sw y 3 : Nat)])).run Try.prog w = .ok true w := fun w => by
                    rw [eq_words]; simp
                  go_upto_region 21 with fail
                  obtain ⟨gl', egl, _, d0, d1, d2⟩ := HGD.out.lcells hL hp
                  obtain rfl : gl = gl' := by injection egl with egl; injection egl
                  clear egl
                  obtain ⟨gm', egm, _, d3⟩ := HGD.out.mcells hL hp
                  obtain rfl : gm = gm' := by injection egm with egm; injection egm
                  clear egm
                  refine wp_region_early (fun w' => ((w'.cell? ⟨gl, k * 3, none⟩ = some (.string t) ∧ w'.cell? ⟨gl, k * 3 + 1, none⟩ = some (.slice sa (sgs o).length sc) ∧ w'.cell? ⟨gl, k * 3 + 2, none⟩ = some (.map m)) ∧ w'.cell? ⟨gm, k, none⟩ = some (.slice ua (sgs o).length uc)) ∧ (w'.cell? ⟨ga, 0, none⟩ = some (.int .u32 (sw y 0 : Nat)) ∧ w'.cell? ⟨ga, 1, none⟩ = some (.int .u32 (sw y 1 : Nat)) ∧ w'.cell? ⟨ga, 2, none⟩ = some (.int .u32 (sw y 2 : Nat)) ∧ w'.cell? ⟨ga, 3, none⟩ = some (.int .u32 (sw y 3 : Nat))) ∧ (w'.cell? ⟨gb, 0, none⟩ = some (.int .u32 (sw y 0 : Nat)) ∧ w'.cell? ⟨gb, 1, none⟩ = some (.int .u32 (sw y 1 : Nat)) ∧ w'.cell? ⟨gb, 2, none⟩ = some (.int .u32 (sw y 2 : Nat)) ∧ w'.cell? ⟨gb, 3, none⟩ = some (.int .u32 (sw y 3 : Nat)))) (fun _ => false) (by kernel_rfl) ?_
                  simp only [List.size_toArray, List.length_cons, List.length_nil, Nat.reduceAdd, Array.replicate_succ, Array.replicate_zero, List.push_toArray, List.nil_append, List.cons_append]
                  have hdr : Below w9'.heap.size w9' w9'.drew := (Below.refl _ _).drew
                  have hSS := s21_below hdr ⟨⟨⟨d0, d1, d2⟩, d3⟩, setC4 HA.out, setC4 HB.out⟩
                  have HA := Lib.hid (blk_below' hdr HA.out)
                  have HB := Lib.hid (blk_below' hdr HB.out)
                  have HGD := Lib.hid (HGD.out.below hdr)
                  have HRT := Lib.hid (HRT.out.below hdr)
                  have HRF := Lib.hid (HRF.out.below hdr)
                  clear hdr
                  clear d0 d1 d2 d3
                  generalize World.drew w9' = Y10 at *
                  refine wpAnyE_take (i := 0) (v := ?_) rfl (by kernel_rfl) (by kernel_rfl) (by kernel_rfl) (by kernel_rfl) (fun _ _ _ h => h) (Or.inl ⟨by rfl, ?_⟩) hSS ?_
                  rotate_left
                  · intro w hSw
                    obtain ⟨⟨⟨j0, j1, j2⟩, j3⟩, ⟨j4, j5, j6, j7⟩, j8, j9, j10, j11⟩ := hSw
                    go_simp
                    all_goals with_reducible rfl
                  simp only [Act.put, List.setIfInBounds_toArray, List.set_cons_zero, List.set_cons_succ, List.getElem_toArray, List.getElem_cons_zero, List.getElem_cons_succ]
                  refine wpAnyE_take (i := 1) (v := ?_) rfl (by kernel_rfl) (by kernel_rfl) (by kernel_rfl) (by kernel_rfl) (fun _ _ _ h => h) (Or.inl ⟨by rfl, ?_⟩) hSS ?_
                  rotate_left
                  · intro w hSw
                    obtain ⟨⟨⟨j0, j1, j2⟩, j3⟩, ⟨j4, j5, j6, j7⟩, j8, j9, j10, j11⟩ := hSw
                    go_simp
                    all_goals with_reducible rfl
                  simp only [Act.put, List.setIfInBounds_toArray, List.set_cons_zero, List.set_cons_succ, List.getElem_toArray, List.getElem_cons_zero, List.getElem_cons_succ]
                  refine wpAnyE_take (i := 2) (v := ?_) rfl (by kernel_rfl) (by kernel_rfl) (by kernel_rfl) (by kernel_rfl) (fun _ _ _ h => h) (Or.inl ⟨by rfl, ?_⟩) hSS ?_
                  rotate_left
                  · intro w hSw
                    obtain ⟨⟨⟨j0, j1, j2⟩, j3⟩, ⟨j4, j5, j6, j7⟩, j8, j9, j10, j11⟩ := hSw
                    go_simp
                    all_goals with_reducible rfl
                  simp only [Act.put, List.setIfInBounds_toArray, List.set_cons_zero, List.set_cons_succ, List.getElem_toArray, List.getElem_cons_zero, List.getElem_cons_succ]
                  refine wpAnyE_take (i := 3) (v := ?_) rfl (by kernel_rfl) (by kernel_rfl) (by kernel_rfl) (by kernel_rfl) (fun _ _ _ h => h) (Or.inl ⟨by rfl, ?_⟩) hSS ?_
                  rotate_left
                  · intro w hSw
                    obtain ⟨⟨⟨j0, j1, j2⟩, j3⟩, ⟨j4, j5, j6, j7⟩, j8, j9, j10, j11⟩ := hSw
                    go_simp
                    all_goals with_reducible rfl
                  simp only [Act.put, List.setIfInBounds_toArray, List.set_cons_zero, List.set_cons_succ, List.getElem_toArray, List.getElem_cons_zero, List.getElem_cons_succ]
                  refine wpAnyE_take (i := 4) (v := ?_) rfl (by kernel_rfl) (by kernel_rfl) (by kernel_rfl) (by kernel_rfl) (fun _ _ _ h => h) (Or.inl ⟨by rfl, ?_⟩) hSS ?_
                  rotate_left
                  · intro w hSw
                    obtain ⟨⟨⟨j0, j1, j2⟩, j3⟩, ⟨j4, j5, j6, j7⟩, j8, j9, j10, j11⟩ := hSw
                    go_simp
                    all_goals with_reducible rfl
                  simp only [Act.put, List.setIfInBounds_toArray, List.set_cons_zero, List.set_cons_succ, List.getElem_toArray, List.getElem_cons_zero, List.getElem_cons_succ]
                  refine wpAnyE_take (i := 5) (v := ?_) rfl (by kernel_rfl) (by kernel_rfl) (by kernel_rfl) (by kernel_rfl) (fun _ _ _ h => h) (Or.inl ⟨by rfl, ?_⟩) hSS ?_
                  rotate_left
                  · intro w hSw
                    obtain ⟨⟨⟨j0, j1, j2⟩, j3⟩, ⟨j4, j5, j6, j7⟩, j8, j9, j10, j11⟩ := hSw
                    go_simp
                    all_goals with_reducible rfl
                  simp only [Act.put, List.setIfInBounds_toArray, List.set_cons_zero, List.set_cons_succ, List.getElem_toArray, List.getElem_cons_zero, List.getElem_cons_succ]
                  refine wpAnyE_take (i := 6) (v := ?_) rfl (by kernel_rfl) (by kernel_rfl) (by kernel_rfl) (by kernel_rfl) (fun _ _ _ h => h) (Or.inl ⟨by rfl, ?_⟩) hSS ?_
                  rotate_left
                  · intro w hSw
                    obtain ⟨⟨⟨j0, j1, j2⟩, j3⟩, ⟨j4, j5, j6, j7⟩, j8, j9, j10, j11⟩ := hSw
                    go_simp
                    all_goals with_reducible rfl
                  simp only [Act.put, List.setIfInBounds_toArray, List.set_cons_zero, List.set_cons_succ, List.getElem_toArray, List.getElem_cons_zero, List.getElem_cons_succ]
                  refine wpAnyE_take (i := 7) (v := ?_) rfl (by kernel_rfl) (by kernel_rfl) (by kernel_rfl) (by kernel_rfl) (fun _ _ _ h => h) (Or.inl ⟨by rfl, ?_⟩) hSS ?_
                  rotate_left
                  · intro w hSw
                    obtain ⟨⟨⟨j0, j1, j2⟩, j3⟩, ⟨j4, j5, j6, j7⟩, j8, j9, j10, j11⟩ := hSw
                    go_simp
                    all_goals with_reducible rfl
                  simp only [Act.put, List.setIfInBounds_toArray, List.set_cons_zero, List.set_cons_succ, List.getElem_toArray, List.getElem_cons_zero, List.getElem_cons_succ]
                  refine wpAnyE_take (i := 8) (v := ?_) rfl (by kernel_rfl) (by kernel_rfl) (by kernel_rfl) (by kernel_rfl) (fun _ _ _ h => h) (Or.inl ⟨by rfl, ?_⟩) hSS ?_
                  rotate_left
                  · intro w hSw
                    obtain ⟨⟨⟨j0, j1, j2⟩, j3⟩, ⟨j4, j5, j6, j7⟩, j8, j9, j10, j11⟩ := hSw
                    go_simp
                    all_goals with_reducible rfl
                  simp only [Act.put, List.setIfInBounds_toArray, List.set_cons_zero, List.set_cons_succ, List.getElem_toArray, List.getElem_cons_zero, List.getElem_cons_succ]
                  refine wpAnyE_take (i := 9) (v := ?_) rfl (by kernel_rfl) (by kernel_rfl) (by kernel_rfl) (by kernel_rfl) (fun _ _ _ h => h) (Or.inl ⟨by rfl, ?_⟩) hSS ?_
                  rotate_left
                  · intro w hSw
                    obtain ⟨⟨⟨j0, j1, j2⟩, j3⟩, ⟨j4, j5, j6, j7⟩, j8, j9, j10, j11⟩ := hSw
                    go_simp
                    all_goals with_reducible rfl
                  simp only [Act.put, List.setIfInBounds_toArray, List.set_cons_zero, List.set_cons_succ, List.getElem_toArray, List.getElem_cons_zero, List.getElem_cons_succ]
                  refine wpAnyE_take (i := 10) (v := ?_) rfl (by kernel_rfl) (by kernel_rfl) (by kernel_rfl) (by kernel_rfl) (fun _ _ _ h => h) (Or.inl ⟨by rfl, ?_⟩) hSS ?_
                  rotate_left
                  · intro w hSw
                    obtain ⟨⟨⟨j0, j1, j2⟩, j3⟩, ⟨j4, j5, j6, j7⟩, j8, j9, j10, j11⟩ := hSw
                    go_simp
                    all_goals with_reducible rfl
                  simp only [Act.put, List.setIfInBounds_toArray, List.set_cons_zero, List.set_cons_succ, List.getElem_toArray, List.getElem_cons_zero, List.getElem_cons_succ]
                  refine wpAnyE_take (i := 11) (v := ?_) rfl (by kernel_rfl) (by kernel_rfl) (by kernel_rfl) (by kernel_rfl) (fun _ _ _ h => h) (Or.inl ⟨by rfl, ?_⟩) hSS ?_
                  rotate_left
                  · intro w hSw
                    obtain ⟨⟨⟨j0, j1, j2⟩, j3⟩, ⟨j4, j5, j6, j7⟩, j8, j9, j10, j11⟩ := hSw
                    go_simp
                    all_goals with_reducible rfl
                  simp only [Act.put, List.setIfInBounds_toArray, List.set_cons_zero, List.set_cons_succ, List.getElem_toArray, List.getElem_cons_zero, List.getElem_cons_succ]
                  refine wpAnyE_take (i := 12) (v := ?_) rfl (by kernel_rfl) (by kernel_rfl) (by kernel_rfl) (by kernel_rfl) (fun _ _ _ h => h) (Or.inl ⟨by rfl, ?_⟩) hSS ?_
                  rotate_left
                  · intro w hSw
                    obtain ⟨⟨⟨j0, j1, j2⟩, j3⟩, ⟨j4, j5, j6, j7⟩, j8, j9, j10, j11⟩ := hSw
                    go_simp
                    all_goals with_reducible rfl
                  simp only [Act.put, List.setIfInBounds_toArray, List.set_cons_zero, List.set_cons_succ, List.getElem_toArray, List.getElem_cons_zero, List.getElem_cons_succ]
                  refine wpAnyE_take (i := 13) (v := ?_) rfl (by kernel_rfl) (by kernel_rfl) (by kernel_rfl) (by kernel_rfl) (fun _ _ _ h => h) (Or.inl ⟨by rfl, ?_⟩) hSS ?_
                  rotate_left
                  · intro w hSw
                    obtain ⟨⟨⟨j0, j1, j2⟩, j3⟩, ⟨j4, j5, j6, j7⟩, j8, j9, j10, j11⟩ := hSw
                    go_simp
                    all_goals with_reducible rfl
                  simp only [Act.put, List.setIfInBounds_toArray, List.set_cons_zero, List.set_cons_succ, List.getElem_toArray, List.getElem_cons_zero, List.getElem_cons_succ]
                  refine wpAnyE_take (i := 14) (v := ?_) rfl (by kernel_rfl) (by kernel_rfl) (by kernel_rfl) (by kernel_rfl) (fun _ _ _ h => h) (Or.inl ⟨by rfl, ?_⟩) hSS ?_
                  rotate_left
                  · intro w hSw
                    obtain ⟨⟨⟨j0, j1, j2⟩, j3⟩, ⟨j4, j5, j6, j7⟩, j8, j9, j10, j11⟩ := hSw
                    go_simp
                    all_goals with_reducible rfl
                  simp only [Act.put, List.setIfInBounds_toArray, List.set_cons_zero, List.set_cons_succ, List.getElem_toArray, List.getElem_cons_zero, List.getElem_cons_succ]
                  refine wpAnyE_take (i := 15) (v := ?_) rfl (by kernel_rfl) (by kernel_rfl) (by kernel_rfl) (by kernel_rfl) (fun _ _ _ h => h) (Or.inl ⟨by rfl, ?_⟩) hSS ?_
                  rotate_left
                  · intro w hSw
                    obtain ⟨⟨⟨j0, j1, j2⟩, j3⟩, ⟨j4, j5, j6, j7⟩, j8, j9, j10, j11⟩ := hSw
                    go_simp
                    all_goals with_reducible rfl
                  simp only [Act.put, List.setIfInBounds_toArray, List.set_cons_zero, List.set_cons_succ, List.getElem_toArray, List.getElem_cons_zero, List.getElem_cons_succ]
                  refine wpAnyE_take (i := 16) (v := ?_) rfl (by kernel_rfl) (by kernel_rfl) (by kernel_rfl) (by kernel_rfl) (fun _ _ _ h => h) (Or.inl ⟨by rfl, ?_⟩) hSS ?_
                  rotate_left
                  · intro w hSw
                    obtain ⟨⟨⟨j0, j1, j2⟩, j3⟩, ⟨j4, j5, j6, j7⟩, j8, j9, j10, j11⟩ := hSw
                    go_simp
                    all_goals with_reducible rfl
                  simp only [Act.put, List.setIfInBounds_toArray, List.set_cons_zero, List.set_cons_succ, List.getElem_toArray, List.getElem_cons_zero, List.getElem_cons_succ]
                  refine wpAnyE_take (i := 17) (v := ?_) rfl (by kernel_rfl) (by kernel_rfl) (by kernel_rfl) (by kernel_rfl) (fun _ _ _ h => h) (Or.inl ⟨by rfl, ?_⟩) hSS ?_
                  rotate_left
                  · intro w hSw
                    obtain ⟨⟨⟨j0, j1, j2⟩, j3⟩, ⟨j4, j5, j6, j7⟩, j8, j9, j10, j11⟩ := hSw
                    go_simp
                    all_goals with_reducible rfl
                  simp only [Act.put, List.setIfInBounds_toArray, List.set_cons_zero, List.set_cons_succ, List.getElem_toArray, List.getElem_cons_zero, List.getElem_cons_succ]
                  refine wpAnyE_take (i := 18) (v := ?_) rfl (by kernel_rfl) (by kernel_rfl) (by kernel_rfl) (by kernel_rfl) (fun _ _ _ h => h) (Or.inl ⟨by rfl, ?_⟩) hSS ?_
                  rotate_left
                  · intro w hSw
                    obtain ⟨⟨⟨j0, j1, j2⟩, j3⟩, ⟨j4, j5, j6, j7⟩, j8, j9, j10, j11⟩ := hSw
                    go_simp
                    all_goals with_reducible rfl
                  simp only [Act.put, List.setIfInBounds_toArray, List.set_cons_zero, List.set_cons_succ, List.getElem_toArray, List.getElem_cons_zero, List.getElem_cons_succ]
                  refine wpAnyE_take (i := 19) (v := ?_) rfl (by kernel_rfl) (by kernel_rfl) (by kernel_rfl) (by kernel_rfl) (fun _ _ _ h => h) (Or.inl ⟨by rfl, ?_⟩) hSS ?_
                  rotate_left
                  · intro w hSw
                    obtain ⟨⟨⟨j0, j1, j2⟩, j3⟩, ⟨j4, j5, j6, j7⟩, j8, j9, j10, j11⟩ := hSw
                    go_simp
                    all_goals with_reducible rfl
                  simp only [Act.put, List.setIfInBounds_toArray, List.set_cons_zero, List.set_cons_succ, List.getElem_toArray, List.getElem_cons_zero, List.getElem_cons_succ]
                  refine wpAnyE_take (i := 20) (v := ?_) rfl (by kernel_rfl) (by kernel_rfl) (by kernel_rfl) (by kernel_rfl) (fun _ _ _ h => h) (Or.inl ⟨by rfl, ?_⟩) hSS ?_
                  rotate_left
                  · intro w hSw
                    obtain ⟨⟨⟨j0, j1, j2⟩, j3⟩, ⟨j4, j5, j6, j7⟩, j8, j9, j10, j11⟩ := hSw
                    go_simp
                    all_goals with_reducible rfl
                  simp only [Act.put, List.setIfInBounds_toArray, List.set_cons_zero, List.set_cons_succ, List.getElem_toArray, List.getElem_cons_zero, List.getElem_cons_succ]
                  refine wpAnyE_take (i := 21) (v := ?_) rfl (by kernel_rfl) (by kernel_rfl) (by kernel_rfl) (by kernel_rfl) (fun _ _ _ h => h) (Or.inl ⟨by rfl, ?_⟩) hSS ?_
                  rotate_left
                  · intro w hSw
                    obtain ⟨⟨⟨j0, j1, j2⟩, j3⟩, ⟨j4, j5, j6, j7⟩, j8, j9, j10, j11⟩ := hSw
                    go_simp
                    all_goals with_reducible rfl
                  simp only [Act.put, List.setIfInBounds_toArray, List.set_cons_zero, List.set_cons_succ, List.getElem_toArray, List.getElem_cons_zero, List.getElem_cons_succ]
                  refine wpAnyE_take (i := 22) (v := ?_) rfl (by kernel_rfl) (by kernel_rfl) (by kernel_rfl) (by kernel_rfl) (fun _ _ _ h => h) (Or.inl ⟨by rfl, ?_⟩) hSS ?_
                  rotate_left
                  · intro w hSw
                    obtain ⟨⟨⟨j0, j1, j2⟩, j3⟩, ⟨j4, j5, j6, j7⟩, j8, j9, j10, j11⟩ := hSw
                    go_simp
                    all_goals with_reducible rfl
                  simp only [Act.put, List.setIfInBounds_toArray, List.set_cons_zero, List.set_cons_succ, List.getElem_toArray, List.getElem_cons_zero, List.getElem_cons_succ]
                  refine wpAnyE_take (i := 24) (v := ?_) rfl (by kernel_rfl) (by kernel_rfl) (by kernel_rfl) (by kernel_rfl) (fun _ _ _ h => h) (Or.inl ⟨by rfl, ?_⟩) hSS ?_
                  rotate_left
                  · intro w hSw
                    obtain ⟨⟨⟨j0, j1, j2⟩, j3⟩, ⟨j4, j5, j6, j7⟩, j8, j9, j10, j11⟩ := hSw
                    go_simp
                    all_goals with_reducible rfl
                  simp only [Act.put, List.setIfInBounds_toArray, List.set_cons_zero, List.set_cons_succ, List.getElem_toArray, List.getElem_cons_zero, List.getElem_cons_succ]
                  refine wpAnyE_take (i := 25) (v := ?_) rfl (by kernel_rfl) (by kernel_rfl) (by kernel_rfl) (by kernel_rfl) (fun _ _ _ h => h) (Or.inl ⟨by rfl, ?_⟩) hSS ?_
                  rotate_left
                  · intro w hSw
                    obtain ⟨⟨⟨j0, j1, j2⟩, j3⟩, ⟨j4, j5, j6, j7⟩, j8, j9, j10, j11⟩ := hSw
                    go_simp
                    all_goals with_reducible rfl
                  simp only [Act.put, List.setIfInBounds_toArray, List.set_cons_zero, List.set_cons_succ, List.getElem_toArray, List.getElem_cons_zero, List.getElem_cons_succ]
                  refine wpAnyE_take (i := 26) (v := ?_) rfl (by kernel_rfl) (by kernel_rfl) (by kernel_rfl) (by kernel_rfl) (fun _ _ _ h => h) (Or.inl ⟨by rfl, ?_⟩) hSS ?_
                  rotate_left
                  · intro w hSw
                    obtain ⟨⟨⟨j0, j1, j2⟩, j3⟩, ⟨j4, j5, j6, j7⟩, j8, j9, j10, j11⟩ := hSw
                    go_simp
                    all_goals with_reducible rfl
                  simp only [Act.put, List.setIfInBounds_toArray, List.set_cons_zero, List.set_cons_succ, List.getElem_toArray, List.getElem_cons_zero, List.getElem_cons_succ]
                  refine wpAnyE_take (i := 27) (v := ?_) rfl (by kernel_rfl) (by kernel_rfl) (by kernel_rfl) (by kernel_rfl) (fun _ _ _ h => h) (Or.inl ⟨by rfl, ?_⟩) hSS ?_
                  rotate_left
                  · intro w hSw
                    obtain ⟨⟨⟨j0, j1, j2⟩, j3⟩, ⟨j4, j5, j6, j7⟩, j8, j9, j10, j11⟩ := hSw
                    go_simp
                    all_goals with_reducible rfl
                  simp only [Act.put, List.setIfInBounds_toArray, List.set_cons_zero, List.set_cons_succ, List.getElem_toArray, List.getElem_cons_zero, List.getElem_cons_succ]
                  refine wpAnyE_one (i := 23) (by kernel_rfl) rfl ?_
                  change wpList _ _ (Exit.then _ _) [_] _ _
                  try simp only [List.setIfInBounds_toArray, List.set_cons_zero, List.set_cons_succ, List.getElem_toArray, List.getElem_cons_zero, List.getElem_cons_succ]
                  go_wp2_with (go_at_call 16; refine (text_is _ _ _ _ HRT.out _ HTX.out).mono ?_; rintro e w11 ⟨rfl, hB11⟩)
                  have hSS := s21_below hB11 hSS
                  have HA := Lib.hid (blk_below' hB11 HA.out)
                  have HB := Lib.hid (blk_below' hB11 HB.out)
                  have HGD := Lib.hid (HGD.out.below hB11)
                  have HRT := Lib.hid (HRT.out.below hB11)
                  have HRF := Lib.hid (HRF.out.below hB11)
                  clear hB11
                  refine ⟨fun _ => hSS, ?_⟩
                  try simp only [List.setIfInBounds_toArray, List.set_cons_zero, List.set_cons_succ, List.getElem_toArray, List.getElem_cons_zero, List.getElem_cons_succ]
                  refine wpAnyE_one (i := 28) (by kernel_rfl) rfl ?_
                  change wpList _ _ (Exit.then _ _) [_] _ _
                  try simp only [List.setIfInBounds_toArray, List.set_cons_zero, List.set_cons_succ, List.getElem_toArray, List.getElem_cons_zero, List.getElem_cons_succ]
                  go_wp2_with (go_at_call 17; refine (refText_any _ _ _ _ HRF.out HSG.out.1 HSG.out.2.1).mono ?_; rintro e w12 ⟨rfl, hB12⟩)
                  have hSS := s21_below hB12 hSS
                  have HA := Lib.hid (blk_below' hB12 HA.out)
                  have HB := Lib.hid (blk_below' hB12 HB.out)
                  have HGD := Lib.hid (HGD.out.below hB12)
                  have HRT := Lib.hid (HRT.out.below hB12)
                  have HRF := Lib.hid (HRF.out.below hB12)
                  clear hB12
                  refine ⟨fun _ => hSS, ?_⟩
                  try simp only [List.setIfInBounds_toArray, List.set_cons_zero, List.set_cons_succ, List.getElem_toArray, List.getElem_cons_zero, List.getElem_cons_succ]
                  refine wpAnyE_take (i := 29) (v := ?_) rfl (by kernel_rfl) (by kernel_rfl) (by kernel_rfl) (by kernel_rfl) (fun _ _ _ h => h) (Or.inl ⟨by rfl, ?_⟩) hSS ?_
                  rotate_left
                  · intro w hSw
                    obtain ⟨⟨⟨j0, j1, j2⟩, j3⟩, ⟨j4, j5, j6, j7⟩, j8, j9, j10, j11⟩ := hSw
                    go_simp
                    all_goals with_reducible rfl
                  simp only [Act.put, List.setIfInBounds_toArray, List.set_cons_zero, List.set_cons_succ, List.getElem_toArray, List.getElem_cons_zero, List.getElem_cons_succ]
                  refine wpAnyE_take (i := 30) (v := ?_) rfl (by kernel_rfl) (by kernel_rfl) (by kernel_rfl) (by kernel_rfl) (fun _ _ _ h => h) (Or.inl ⟨by rfl, ?_⟩) hSS ?_
                  rotate_left
                  · intro w hSw
                    obtain ⟨⟨⟨j0, j1, j2⟩, j3⟩, ⟨j4, j5, j6, j7⟩, j8, j9, j10, j11⟩ := hSw
                    go_simp
                    all_goals with_reducible rfl
                  simp only [Act.put, List.setIfInBounds_toArray, List.set_cons_zero, List.set_cons_succ, List.getElem_toArray, List.getElem_cons_zero, List.getElem_cons_succ]
                  refine wpAnyE_end (by kernel_rfl) ?_
                  clear hSS
                  go_wp2_with fail
                  go_roundw
                  case rel => exact ⟨k + 1, by omega, by go_num, HGD⟩
                  case measure => simp [intOf]; omega
                · skip
                  change wpList _ _ (Exit.then _ _) [_] _ _
                  try simp only [List.setIfInBounds_toArray, List.set_cons_zero, List.set_cons_succ, List.getElem_toArray, List.getElem_cons_zero, List.getElem_cons_succ]
                  go_wp2_with fail
                  have HBW := Lib.hid ((Below.refl (Y4).heap.size Y4).alloc (Nat.le_refl _) (.cells #[.int .u32 0, .int .u32 0, .int .u32 0, .int .u32 0] 47))
                  have hz3 := blk_new Y4 (.cells #[.int .u32 0, .int .u32 0, .int .u32 0, .int .u32 0] 47)
                  generalize World.alloc Y4 _ = V5 at *
                  first | refine ⟨fun _ => ss2_below HBW.out hSS, ?_⟩ | refine ⟨ss2_below HBW.out hSS, ?_⟩
                  try simp only [List.setIfInBounds_toArray, List.set_cons_zero, List.set_cons_succ, List.getElem_toArray, List.getElem_cons_zero, List.getElem_cons_succ]
                  refine wpAnyE_one (i := 8) (by kernel_rfl) rfl ?_
                  change wpList _ _ (Exit.then _ _) [_] _ _
                  try simp only [List.setIfInBounds_toArray, List.set_cons_zero, List.set_cons_succ, List.getElem_toArray, List.getElem_cons_zero, List.getElem_cons_succ]
                  go_wp2_with (go_at_call 22; refine (refParse_any _ _ _ _ q _ HQZ.out HSG.out.1 HCL.out (HRF.out.below HBW.out)).mono ?_; rintro e w5 ⟨y', i', er', rfl, hy', hB5⟩)
                  obtain ⟨rfl, rfl, rfl⟩ : y = y' ∧ i = i' ∧ er = er' := by have := HY.out.symm.trans hy'; simpa using this
                  clear hy'
                  have hz3 := blk_below' hB5 hz3
                  have HBW := Lib.hid (below_then HBW.out hB5)
                  clear hB5
                  refine ⟨fun _ => ss2_below HBW.out hSS, ?_⟩
                  try simp only [List.setIfInBounds_toArray, List.set_cons_zero, List.set_cons_succ, List.getElem_toArray, List.getElem_cons_zero, List.getElem_cons_succ]
                  have hSS0 := hSS
                  clear hSS
                  have hSS := ss2_below HBW.out hSS0
                  refine wpAnyE_take (i := 9) (v := ?_) rfl (by kernel_rfl) (by kernel_rfl) (by kernel_rfl) (by kernel_rfl) (fun _ _ _ h => h) (Or.inl ⟨by rfl, ?_⟩) hSS ?_
                  rotate_left
                  · intro w hSw
                    obtain ⟨j0, j1⟩ := hSw
                    go_simp
                    all_goals with_reducible rfl
                  simp only [Act.put, List.setIfInBounds_toArray, List.set_cons_zero, List.set_cons_succ, List.getElem_toArray, List.getElem_cons_zero, List.getElem_cons_succ]
                  refine wpAnyE_take (i := 10) (v := ?_) rfl (by kernel_rfl) (by kernel_rfl) (by kernel_rfl) (by kernel_rfl) (fun _ _ _ h => h) (Or.inl ⟨by rfl, ?_⟩) hSS ?_
                  rotate_left
                  · intro w hSw
                    obtain ⟨j0, j1⟩ := hSw
                    go_simp
                    all_goals with_reducible rfl
                  simp only [Act.put, List.setIfInBounds_toArray, List.set_cons_zero, List.set_cons_succ, List.getElem_toArray, List.getElem_cons_zero, List.getElem_cons_succ]
                  refine wpAnyE_take (i := 11) (v := ?_) rfl (by kernel_rfl) (by kernel_rfl) (by kernel_rfl) (by kernel_rfl) (fun _ _ _ h => h) (Or.inl ⟨by rfl, ?_⟩) hSS ?_
                  rotate_left
                  · intro w hSw
                    obtain ⟨j0, j1⟩ := hSw
                    go_simp
                    all_goals with_reducible rfl
                  simp only [Act.put, List.setIfInBounds_toArray, List.set_cons_zero, List.set_cons_succ, List.getElem_toArray, List.getElem_cons_zero, List.getElem_cons_succ]
                  refine wpAnyE_take (i := 12) (v := ?_) rfl (by kernel_rfl) (by kernel_rfl) (by kernel_rfl) (by kernel_rfl) (fun _ _ _ h => h) (Or.inl ⟨by rfl, ?_⟩) hSS ?_
                  rotate_left
                  · intro w hSw
                    obtain ⟨j0, j1⟩ := hSw
                    go_simp
                    all_goals with_reducible rfl
                  simp only [Act.put, List.setIfInBounds_toArray, List.set_cons_zero, List.set_cons_succ, List.getElem_toArray, List.getElem_cons_zero, List.getElem_cons_succ]
                  clear hSS
                  have hSS := hSS0
                  clear hSS0
                  obtain ⟨⟨z0, z1, z2, z3⟩, f0, f1, f2, f3⟩ := z4 hz3
                  unfold setV setC
                  refine wpAnyE_one (i := 14) (by kernel_rfl) rfl ?_
                  change wpList _ _ (Exit.then _ _) [_] _ _
                  try simp only [List.setIfInBounds_toArray, List.set_cons_zero, List.set_cons_succ, List.getElem_toArray, List.getElem_cons_zero, List.getElem_cons_succ]
                  go_wp2_with fail
                  generalize hX : World.setCell (World.setCell (World.setCell (World.setCell _ _ _) _ _) _ _) _ _ = X5
                  have hz5 : (X5).heap[(Y4).heap.size]? = some (.cells (setC y) 47 (0, 0)) := by rw [← hX]; exact blk_store (blk_store (blk_store (blk_store hz3 0 _) 1 _) 2 _) 3 _
                  have HBX := Lib.hid (show Below (Y4).heap.size Y4 X5 by rw [← hX]; exact (((HBW.out.setCell (Nat.le_refl _) _).setCell (Nat.le_refl _) _).setCell (Nat.le_refl _) _).setCell (Nat.le_refl _) _)
                  clear hX hz3 z0 z1 z2 z3 f0 f1 f2 f3 HBW
                  refine ⟨fun _ => ss2_below HBX.out hSS, ?_⟩
                  try simp only [List.setIfInBounds_toArray, List.set_cons_zero, List.set_cons_succ, List.getElem_toArray, List.getElem_cons_zero, List.getElem_cons_succ]
                  refine wpAnyE_one (i := 15) (by kernel_rfl) rfl ?_
                  change wpList _ _ (Exit.then _ _) [_] _ _
                  try simp only [List.setIfInBounds_toArray, List.set_cons_zero, List.set_cons_succ, List.getElem_toArray, List.getElem_cons_zero, List.getElem_cons_succ]
                  go_wp2_with fail
                  refine ⟨fun _ => ss2_below HBX.out hSS, ?_⟩
                  try simp only [List.setIfInBounds_toArray, List.set_cons_zero, List.set_cons_succ, List.getElem_toArray, List.getElem_cons_zero, List.getElem_cons_succ]
                  refine wpAnyE_one (i := 16) (by kernel_rfl) rfl ?_
                  change wpList _ _ (Exit.then _ _) [_] _ _
                  try simp only [List.setIfInBounds_toArray, List.set_cons_zero, List.set_cons_succ, List.getElem_toArray, List.getElem_cons_zero, List.getElem_cons_succ]
                  go_wp2_with fail
                  refine ⟨fun _ => ss2_below HBX.out hSS, ?_⟩
                  try simp only [List.setIfInBounds_toArray, List.set_cons_zero, List.set_cons_succ, List.getElem_toArray, List.getElem_cons_zero, List.getElem_cons_succ]
                  refine wpAnyE_end (by kernel_rfl) ?_
                  have HGD := Lib.hid (HGD.out.below HBX.out)
                  have HRT := Lib.hid (HRT.out.below HBX.out)
                  have HRF := Lib.hid (HRF.out.below HBX.out)
                  (try have HA := Lib.hid (blk_below' HBX.out HA.out))
                  clear hSS HBX
                  obtain ⟨gb, hgb⟩ : ∃ q, q = (Y4).heap.size := ⟨_, rfl⟩
                  rw [← hgb] at hz5
                  (try rw [← hgb])
                  clear hgb
                  have HB := Lib.hid hz5
                  clear hz5
                  obtain ⟨gl', egl, _, d0, d1, d2⟩ := HGD.out.lcells hL hp
                  obtain rfl : gl = gl' := by injection egl with egl; injection egl
                  clear egl
                  obtain ⟨pt, pe, hpv⟩ : ∃ pt pe, prV (sgs o) y = (pt, pe) := ⟨_, _, rfl⟩
                  have HPV := Lib.hid hpv
                  have HYL : Hid (y < 2 ^ 128) := by
                    have := parV_lt (s := q) HSG.out.1
                    rw [HY.out] at this
                    exact Nat.lt_of_lt_of_le this (Nat.pow_le_pow_right (by decide) (by decide))
                  clear hpv
                  go_upto_region 19 with fail
                  refine wp_region_early (fun w' => (w'.cell? ⟨gl, k * 3, none⟩ = some (.string t) ∧ w'.cell? ⟨gl, k * 3 + 1, none⟩ = some (.slice sa (sgs o).length sc) ∧ w'.cell? ⟨gl, k * 3 + 2, none⟩ = some (.map m)) ∧ (w'.cell? ⟨ga, 0, none⟩ = some (.int .u32 (sw y 0 : Nat)) ∧ w'.cell? ⟨ga, 1, none⟩ = some (.int .u32 (sw y 1 : Nat)) ∧ w'.cell? ⟨ga, 2, none⟩ = some (.int .u32 (sw y 2 : Nat)) ∧ w'.cell? ⟨ga, 3, none⟩ = some (.int .u32 (sw y 3 : Nat)))) (fun _ => false) (by kernel_rfl) ?_
                  simp only [List.size_toArray, List.length_cons, List.length_nil, Nat.reduceAdd, Array.replicate_succ, Array.replicate_zero, List.push_toArray, List.nil_append, List.cons_append]
                  have hdr : Below (X5).heap.size X5 (X5).drew := (Below.refl _ _).drew
                  have hSS := s19_below hdr ⟨⟨d0, d1, d2⟩, setC4 HA.out⟩
                  have HA := Lib.hid (blk_below' hdr HA.out)
                  have HB := Lib.hid (blk_below' hdr HB.out)
                  have HGD := Lib.hid (HGD.out.below hdr)
                  have HRT := Lib.hid (HRT.out.below hdr)
                  have HRF := Lib.hid (HRF.out.below hdr)
                  clear hdr
                  clear d0 d1 d2
                  generalize World.drew X5 = Y6 at *
                  refine wpAnyE_take (i := 0) (v := ?_) rfl (by kernel_rfl) (by kernel_rfl) (by kernel_rfl) (by kernel_rfl) (fun _ _ _ h => h) (Or.inl ⟨by rfl, ?_⟩) hSS ?_
                  rotate_left
                  · intro w hSw
                    obtain ⟨⟨j0, j1, j2⟩, j3, j4, j5, j6⟩ := hSw
                    go_simp
                    all_goals with_reducible rfl
                  simp only [Act.put, List.setIfInBounds_toArray, List.set_cons_zero, List.set_cons_succ, List.getElem_toArray, List.getElem_cons_zero, List.getElem_cons_succ]
                  refine wpAnyE_take (i := 1) (v := ?_) rfl (by kernel_rfl) (by kernel_rfl) (by kernel_rfl) (by kernel_rfl) (fun _ _ _ h => h) (Or.inl ⟨by rfl, ?_⟩) hSS ?_
                  rotate_left
                  · intro w hSw
                    obtain ⟨⟨j0, j1, j2⟩, j3, j4, j5, j6⟩ := hSw
                    go_simp
                    all_goals with_reducible rfl
                  simp only [Act.put, List.setIfInBounds_toArray, List.set_cons_zero, List.set_cons_succ, List.getElem_toArray, List.getElem_cons_zero, List.getElem_cons_succ]
                  refine wpAnyE_take (i := 2) (v := ?_) rfl (by kernel_rfl) (by kernel_rfl) (by kernel_rfl) (by kernel_rfl) (fun _ _ _ h => h) (Or.inl ⟨by rfl, ?_⟩) hSS ?_
                  rotate_left
                  · intro w hSw
                    obtain ⟨⟨j0, j1, j2⟩, j3, j4, j5, j6⟩ := hSw
                    go_simp
                    all_goals with_reducible rfl
                  simp only [Act.put, List.setIfInBounds_toArray, List.set_cons_zero, List.set_cons_succ, List.getElem_toArray, List.getElem_cons_zero, List.getElem_cons_succ]
                  refine wpAnyE_take (i := 3) (v := ?_) rfl (by kernel_rfl) (by kernel_rfl) (by kernel_rfl) (by kernel_rfl) (fun _ _ _ h => h) (Or.inl ⟨by rfl, ?_⟩) hSS ?_
                  rotate_left
                  · intro w hSw
                    obtain ⟨⟨j0, j1, j2⟩, j3, j4, j5, j6⟩ := hSw
                    go_simp
                    all_goals with_reducible rfl
                  simp only [Act.put, List.setIfInBounds_toArray, List.set_cons_zero, List.set_cons_succ, List.getElem_toArray, List.getElem_cons_zero, List.getElem_cons_succ]
                  refine wpAnyE_take (i := 4) (v := ?_) rfl (by kernel_rfl) (by kernel_rfl) (by kernel_rfl) (by kernel_rfl) (fun _ _ _ h => h) (Or.inl ⟨by rfl, ?_⟩) hSS ?_
                  rotate_left
                  · intro w hSw
                    obtain ⟨⟨j0, j1, j2⟩, j3, j4, j5, j6⟩ := hSw
                    go_simp
                    all_goals with_reducible rfl
                  simp only [Act.put, List.setIfInBounds_toArray, List.set_cons_zero, List.set_cons_succ, List.getElem_toArray, List.getElem_cons_zero, List.getElem_cons_succ]
                  refine wpAnyE_one (i := 5) (by kernel_rfl) rfl ?_
                  change wpList _ _ (Exit.then _ _) [_] _ _
                  try simp only [List.setIfInBounds_toArray, List.set_cons_zero, List.set_cons_succ, List.getElem_toArray, List.getElem_cons_zero, List.getElem_cons_succ]
                  go_wp2_with (go_at_call 23; refine (print_is _ _ _ _ _ _ y _ HYL.out HSG.out.1 HSG.out.2.1 HRT.out HPV.out).mono ?_; rintro e w7 ⟨rfl, hB7⟩)
                  have hSS := s19_below hB7 hSS
                  have HA := Lib.hid (blk_below' hB7 HA.out)
                  have HB := Lib.hid (blk_below' hB7 HB.out)
                  have HGD := Lib.hid (HGD.out.below hB7)
                  have HRT := Lib.hid (HRT.out.below hB7)
                  have HRF := Lib.hid (HRF.out.below hB7)
                  clear hB7
                  refine ⟨fun _ => hSS, ?_⟩
                  try simp only [List.setIfInBounds_toArray, List.set_cons_zero, List.set_cons_succ, List.getElem_toArray, List.getElem_cons_zero, List.getElem_cons_succ]
                  refine wpAnyE_take (i := 6) (v := ?_) rfl (by kernel_rfl) (by kernel_rfl) (by kernel_rfl) (by kernel_rfl) (fun _ _ _ h => h) (Or.inl ⟨by rfl, ?_⟩) hSS ?_
                  rotate_left
                  · intro w hSw
                    obtain ⟨⟨j0, j1, j2⟩, j3, j4, j5, j6⟩ := hSw
                    go_simp
                    all_goals with_reducible rfl
                  simp only [Act.put, List.setIfInBounds_toArray, List.set_cons_zero, List.set_cons_succ, List.getElem_toArray, List.getElem_cons_zero, List.getElem_cons_succ]
                  refine wpAnyE_take (i := 7) (v := ?_) rfl (by kernel_rfl) (by kernel_rfl) (by kernel_rfl) (by kernel_rfl) (fun _ _ _ h => h) (Or.inl ⟨by rfl, ?_⟩) hSS ?_
                  rotate_left
                  · intro w hSw
                    obtain ⟨⟨j0, j1, j2⟩, j3, j4, j5, j6⟩ := hSw
                    go_simp
                    all_goals with_reducible rfl
                  simp only [Act.put, List.setIfInBounds_toArray, List.set_cons_zero, List.set_cons_succ, List.getElem_toArray, List.getElem_cons_zero, List.getElem_cons_succ]
                  refine wpAnyE_take (i := 8) (v := ?_) rfl (by kernel_rfl) (by kernel_rfl) (by kernel_rfl) (by kernel_rfl) (fun _ _ _ h => h) (Or.inl ⟨by rfl, ?_⟩) hSS ?_
                  rotate_left
                  · intro w hSw
                    obtain ⟨⟨j0, j1, j2⟩, j3, j4, j5, j6⟩ := hSw
                    go_simp
                    all_goals with_reducible rfl
                  simp only [Act.put, List.setIfInBounds_toArray, List.set_cons_zero, List.set_cons_succ, List.getElem_toArray, List.getElem_cons_zero, List.getElem_cons_succ]
                  refine wpAnyE_one (i := 9) (by kernel_rfl) rfl ?_
                  change wpList _ _ (Exit.then _ _) [_] _ _
                  try simp only [List.setIfInBounds_toArray, List.set_cons_zero, List.set_cons_succ, List.getElem_toArray, List.getElem_cons_zero, List.getElem_cons_succ]
                  go_wp2_with fail
                  refine ⟨fun _ => hSS, ?_⟩
                  try simp only [List.setIfInBounds_toArray, List.set_cons_zero, List.set_cons_succ, List.getElem_toArray, List.getElem_cons_zero, List.getElem_cons_succ]
                  refine wpAnyE_one (i := 10) (by kernel_rfl) rfl ?_
                  change wpList _ _ (Exit.then _ _) [_] _ _
                  try simp only [List.setIfInBounds_toArray, List.set_cons_zero, List.set_cons_succ, List.getElem_toArray, List.getElem_cons_zero, List.getElem_cons_succ]
                  go_wp2_with fail
                  refine ⟨fun _ => hSS, ?_⟩
                  try simp only [List.setIfInBounds_toArray, List.set_cons_zero, List.set_cons_succ, List.getElem_toArray, List.getElem_cons_zero, List.getElem_cons_succ]
                  refine wpAnyE_end (by kernel_rfl) ?_
                  clear hSS
                  obtain ⟨gm', egm, _, d3⟩ := HGD.out.mcells hL hp
                  obtain rfl : gm = gm' := by injection egm with egm; injection egm
                  clear egm
                  go_upto_region 20 with fail
                  refine wp_region_early (fun w' => w'.cell? ⟨gm, k, none⟩ = some (.slice ua (sgs o).length uc) ∧ (w'.cell? ⟨gb, 0, none⟩ = some (.int .u32 (sw y 0 : Nat)) ∧ w'.cell? ⟨gb, 1, none⟩ = some (.int .u32 (sw y 1 : Nat)) ∧ w'.cell? ⟨gb, 2, none⟩ = some (.int .u32 (sw y 2 : Nat)) ∧ w'.cell? ⟨gb, 3, none⟩ = some (.int .u32 (sw y 3 : Nat)))) (fun _ => false) (by kernel_rfl) ?_
                  simp only [List.size_toArray, List.length_cons, List.length_nil, Nat.reduceAdd, Array.replicate_succ, Array.replicate_zero, List.push_toArray, List.nil_append, List.cons_append]
                  have hdr : Below w7.heap.size w7 w7.drew := (Below.refl _ _).drew
                  have hSS := s20_below hdr ⟨d3, setC4 HB.out⟩
                  have HA := Lib.hid (blk_below' hdr HA.out)
                  have HB := Lib.hid (blk_below' hdr HB.out)
                  have HGD := Lib.hid (HGD.out.below hdr)
                  have HRT := Lib.hid (HRT.out.below hdr)
                  have HRF := Lib.hid (HRF.out.below hdr)
                  clear hdr
                  clear d3
                  generalize World.drew w7 = Y8 at *
                  refine wpAnyE_take (i := 0) (v := ?_) rfl (by kernel_rfl) (by kernel_rfl) (by kernel_rfl) (by kernel_rfl) (fun _ _ _ h => h) (Or.inl ⟨by rfl, ?_⟩) hSS ?_
                  rotate_left
                  · intro w hSw
                    obtain ⟨j2, j3, j4, j5, j6⟩ := hSw
                    go_simp
                    all_goals with_reducible rfl
                  simp only [Act.put, List.setIfInBounds_toArray, List.set_cons_zero, List.set_cons_succ, List.getElem_toArray, List.getElem_cons_zero, List.getElem_cons_succ]
                  refine wpAnyE_take (i := 1) (v := ?_) rfl (by kernel_rfl) (by kernel_rfl) (by kernel_rfl) (by kernel_rfl) (fun _ _ _ h => h) (Or.inl ⟨by rfl, ?_⟩) hSS ?_
                  rotate_left
                  · intro w hSw
                    obtain ⟨j2, j3, j4, j5, j6⟩ := hSw
                    go_simp
                    all_goals with_reducible rfl
                  simp only [Act.put, List.setIfInBounds_toArray, List.set_cons_zero, List.set_cons_succ, List.getElem_toArray, List.getElem_cons_zero, List.getElem_cons_succ]
                  refine wpAnyE_take (i := 2) (v := ?_) rfl (by kernel_rfl) (by kernel_rfl) (by kernel_rfl) (by kernel_rfl) (fun _ _ _ h => h) (Or.inl ⟨by rfl, ?_⟩) hSS ?_
                  rotate_left
                  · intro w hSw
                    obtain ⟨j2, j3, j4, j5, j6⟩ := hSw
                    go_simp
                    all_goals with_reducible rfl
                  simp only [Act.put, List.setIfInBounds_toArray, List.set_cons_zero, List.set_cons_succ, List.getElem_toArray, List.getElem_cons_zero, List.getElem_cons_succ]
                  refine wpAnyE_take (i := 3) (v := ?_) rfl (by kernel_rfl) (by kernel_rfl) (by kernel_rfl) (by kernel_rfl) (fun _ _ _ h => h) (Or.inl ⟨by rfl, ?_⟩) hSS ?_
                  rotate_left
                  · intro w hSw
                    obtain ⟨j2, j3, j4, j5, j6⟩ := hSw
                    go_simp
                    all_goals with_reducible rfl
                  simp only [Act.put, List.setIfInBounds_toArray, List.set_cons_zero, List.set_cons_succ, List.getElem_toArray, List.getElem_cons_zero, List.getElem_cons_succ]
                  refine wpAnyE_take (i := 4) (v := ?_) rfl (by kernel_rfl) (by kernel_rfl) (by kernel_rfl) (by kernel_rfl) (fun _ _ _ h => h) (Or.inl ⟨by rfl, ?_⟩) hSS ?_
                  rotate_left
                  · intro w hSw
                    obtain ⟨j2, j3, j4, j5, j6⟩ := hSw
                    go_simp
                    all_goals with_reducible rfl
                  simp only [Act.put, List.setIfInBounds_toArray, List.set_cons_zero, List.set_cons_succ, List.getElem_toArray, List.getElem_cons_zero, List.getElem_cons_succ]
                  refine wpAnyE_one (i := 5) (by kernel_rfl) rfl ?_
                  change wpList _ _ (Exit.then _ _) [_] _ _
                  try simp only [List.setIfInBounds_toArray, List.set_cons_zero, List.set_cons_succ, List.getElem_toArray, List.getElem_cons_zero, List.getElem_cons_succ]
                  go_wp2_with (go_at_call 24; refine (refPrint_is _ _ _ _ y _ HYL.out HSG.out.1 HSG.out.2.1 HRF.out HPV.out).mono ?_; rintro e w9' ⟨rfl, hB9'⟩)
                  have hSS := s20_below hB9' hSS
                  have HA := Lib.hid (blk_below' hB9' HA.out)
                  have HB := Lib.hid (blk_below' hB9' HB.out)
                  have HGD := Lib.hid (HGD.out.below hB9')
                  have HRT := Lib.hid (HRT.out.below hB9')
                  have HRF := Lib.hid (HRF.out.below hB9')
                  clear hB9'
                  refine ⟨fun _ => hSS, ?_⟩
                  try simp only [List.setIfInBounds_toArray, List.set_cons_zero, List.set_cons_succ, List.getElem_toArray, List.getElem_cons_zero, List.getElem_cons_succ]
                  refine wpAnyE_take (i := 6) (v := ?_) rfl (by kernel_rfl) (by kernel_rfl) (by kernel_rfl) (by kernel_rfl) (fun _ _ _ h => h) (Or.inl ⟨by rfl, ?_⟩) hSS ?_
                  rotate_left
                  · intro w hSw
                    obtain ⟨j2, j3, j4, j5, j6⟩ := hSw
                    go_simp
                    all_goals with_reducible rfl
                  simp only [Act.put, List.setIfInBounds_toArray, List.set_cons_zero, List.set_cons_succ, List.getElem_toArray, List.getElem_cons_zero, List.getElem_cons_succ]
                  refine wpAnyE_take (i := 7) (v := ?_) rfl (by kernel_rfl) (by kernel_rfl) (by kernel_rfl) (by kernel_rfl) (fun _ _ _ h => h) (Or.inl ⟨by rfl, ?_⟩) hSS ?_
                  rotate_left
                  · intro w hSw
                    obtain ⟨j2, j3, j4, j5, j6⟩ := hSw
                    go_simp
                    all_goals with_reducible rfl
                  simp only [Act.put, List.setIfInBounds_toArray, List.set_cons_zero, List.set_cons_succ, List.getElem_toArray, List.getElem_cons_zero, List.getElem_cons_succ]
                  refine wpAnyE_take (i := 8) (v := ?_) rfl (by kernel_rfl) (by kernel_rfl) (by kernel_rfl) (by kernel_rfl) (fun _ _ _ h => h) (Or.inl ⟨by rfl, ?_⟩) hSS ?_
                  rotate_left
                  · intro w hSw
                    obtain ⟨j2, j3, j4, j5, j6⟩ := hSw
                    go_simp
                    all_goals with_reducible rfl
                  simp only [Act.put, List.setIfInBounds_toArray, List.set_cons_zero, List.set_cons_succ, List.getElem_toArray, List.getElem_cons_zero, List.getElem_cons_succ]
                  refine wpAnyE_one (i := 9) (by kernel_rfl) rfl ?_
                  change wpList _ _ (Exit.then _ _) [_] _ _
                  try simp only [List.setIfInBounds_toArray, List.set_cons_zero, List.set_cons_succ, List.getElem_toArray, List.getElem_cons_zero, List.getElem_cons_succ]
                  go_wp2_with fail
                  refine ⟨fun _ => hSS, ?_⟩
                  try simp only [List.setIfInBounds_toArray, List.set_cons_zero, List.set_cons_succ, List.getElem_toArray, List.getElem_cons_zero, List.getElem_cons_succ]
                  refine wpAnyE_one (i := 10) (by kernel_rfl) rfl ?_
                  change wpList _ _ (Exit.then _ _) [_] _ _
                  try simp only [List.setIfInBounds_toArray, List.set_cons_zero, List.set_cons_succ, List.getElem_toArray, List.getElem_cons_zero, List.getElem_cons_succ]
                  go_wp2_with fail
                  refine ⟨fun _ => hSS, ?_⟩
                  try simp only [List.setIfInBounds_toArray, List.set_cons_zero, List.set_cons_succ, List.getElem_toArray, List.getElem_cons_zero, List.getElem_cons_succ]
                  refine wpAnyE_end (by kernel_rfl) ?_
                  clear hSS
                  have heq : ∀ w, (Op.equalIn 10000 47 (.agg #[.int .u32 (sw y 0 : Nat), .int .u32 (sw y 1 : Nat), .int .u32 (sw y 2 : Nat), .int .u32 (sw y 3 : Nat)]) (.agg #[.int .u32 (sw y 0 : Nat), .int .u32 (sw y 1 : Nat), .int .u32 (sw y 2 : Nat), .int .u32 (sw y 3 : Nat)])).run Try.prog w = .ok true w := fun w => by
                    rw [eq_words]; simp
                  go_upto_region 21 with fail
                  obtain ⟨gl', egl, _, d0, d1, d2⟩ := HGD.out.lcells hL hp
                  obtain rfl : gl = gl' := by injection egl with egl; injection egl
                  clear egl
                  obtain ⟨gm', egm, _, d3⟩ := HGD.out.mcells hL hp
                  obtain rfl : gm = gm' := by injection egm with egm; injection egm
                  clear egm
                  refine wp_region_early (fun w' => ((w'.cell? ⟨gl, k * 3, none⟩ = some (.string t) ∧ w'.cell? ⟨gl, k * 3 + 1, none⟩ = some (.slice sa (sgs o).length sc) ∧ w'.cell? ⟨gl, k * 3 + 2, none⟩ = some (.map m)) ∧ w'.cell? ⟨gm, k, none⟩ = some (.slice ua (sgs o).length uc)) ∧ (w'.cell? ⟨ga, 0, none⟩ = some (.int .u32 (sw y 0 : Nat)) ∧ w'.cell? ⟨ga, 1, none⟩ = some (.int .u32 (sw y 1 : Nat)) ∧ w'.cell? ⟨ga, 2, none⟩ = some (.int .u32 (sw y 2 : Nat)) ∧ w'.cell? ⟨ga, 3, none⟩ = some (.int .u32 (sw y 3 : Nat))) ∧ (w'.cell? ⟨gb, 0, none⟩ = some (.int .u32 (sw y 0 : Nat)) ∧ w'.cell? ⟨gb, 1, none⟩ = some (.int .u32 (sw y 1 : Nat)) ∧ w'.cell? ⟨gb, 2, none⟩ = some (.int .u32 (sw y 2 : Nat)) ∧ w'.cell? ⟨gb, 3, none⟩ = some (.int .u32 (sw y 3 : Nat)))) (fun _ => false) (by kernel_rfl) ?_
                  simp only [List.size_toArray, List.length_cons, List.length_nil, Nat.reduceAdd, Array.replicate_succ, Array.replicate_zero, List.push_toArray, List.nil_append, List.cons_append]
                  have hdr : Below w9'.heap.size w9' w9'.drew := (Below.refl _ _).drew
                  have hSS := s21_below hdr ⟨⟨⟨d0, d1, d2⟩, d3⟩, setC4 HA.out, setC4 HB.out⟩
                  have HA := Lib.hid (blk_below' hdr HA.out)
                  have HB := Lib.hid (blk_below' hdr HB.out)
                  have HGD := Lib.hid (HGD.out.below hdr)
                  have HRT := Lib.hid (HRT.out.below hdr)
                  have HRF := Lib.hid (HRF.out.below hdr)
                  clear hdr
                  clear d0 d1 d2 d3
                  generalize World.drew w9' = Y10 at *
                  refine wpAnyE_take (i := 0) (v := ?_) rfl (by kernel_rfl) (by kernel_rfl) (by kernel_rfl) (by kernel_rfl) (fun _ _ _ h => h) (Or.inl ⟨by rfl, ?_⟩) hSS ?_
                  rotate_left
                  · intro w hSw
                    obtain ⟨⟨⟨j0, j1, j2⟩, j3⟩, ⟨j4, j5, j6, j7⟩, j8, j9, j10, j11⟩ := hSw
                    go_simp
                    all_goals with_reducible rfl
                  simp only [Act.put, List.setIfInBounds_toArray, List.set_cons_zero, List.set_cons_succ, List.getElem_toArray, List.getElem_cons_zero, List.getElem_cons_succ]
                  refine wpAnyE_take (i := 1) (v := ?_) rfl (by kernel_rfl) (by kernel_rfl) (by kernel_rfl) (by kernel_rfl) (fun _ _ _ h => h) (Or.inl ⟨by rfl, ?_⟩) hSS ?_
                  rotate_left
                  · intro w hSw
                    obtain ⟨⟨⟨j0, j1, j2⟩, j3⟩, ⟨j4, j5, j6, j7⟩, j8, j9, j10, j11⟩ := hSw
                    go_simp
                    all_goals with_reducible rfl
                  simp only [Act.put, List.setIfInBounds_toArray, List.set_cons_zero, List.set_cons_succ, List.getElem_toArray, List.getElem_cons_zero, List.getElem_cons_succ]
                  refine wpAnyE_take (i := 2) (v := ?_) rfl (by kernel_rfl) (by kernel_rfl) (by kernel_rfl) (by kernel_rfl) (fun _ _ _ h => h) (Or.inl ⟨by rfl, ?_⟩) hSS ?_
                  rotate_left
                  · intro w hSw
                    obtain ⟨⟨⟨j0, j1, j2⟩, j3⟩, ⟨j4, j5, j6, j7⟩, j8, j9, j10, j11⟩ := hSw
                    go_simp
                    all_goals with_reducible rfl
                  simp only [Act.put, List.setIfInBounds_toArray, List.set_cons_zero, List.set_cons_succ, List.getElem_toArray, List.getElem_cons_zero, List.getElem_cons_succ]
                  refine wpAnyE_take (i := 3) (v := ?_) rfl (by kernel_rfl) (by kernel_rfl) (by kernel_rfl) (by kernel_rfl) (fun _ _ _ h => h) (Or.inl ⟨by rfl, ?_⟩) hSS ?_
                  rotate_left
                  · intro w hSw
                    obtain ⟨⟨⟨j0, j1, j2⟩, j3⟩, ⟨j4, j5, j6, j7⟩, j8, j9, j10, j11⟩ := hSw
                    go_simp
                    all_goals with_reducible rfl
                  simp only [Act.put, List.setIfInBounds_toArray, List.set_cons_zero, List.set_cons_succ, List.getElem_toArray, List.getElem_cons_zero, List.getElem_cons_succ]
                  refine wpAnyE_take (i := 4) (v := ?_) rfl (by kernel_rfl) (by kernel_rfl) (by kernel_rfl) (by kernel_rfl) (fun _ _ _ h => h) (Or.inl ⟨by rfl, ?_⟩) hSS ?_
                  rotate_left
                  · intro w hSw
                    obtain ⟨⟨⟨j0, j1, j2⟩, j3⟩, ⟨j4, j5, j6, j7⟩, j8, j9, j10, j11⟩ := hSw
                    go_simp
                    all_goals with_reducible rfl
                  simp only [Act.put, List.setIfInBounds_toArray, List.set_cons_zero, List.set_cons_succ, List.getElem_toArray, List.getElem_cons_zero, List.getElem_cons_succ]
                  refine wpAnyE_take (i := 5) (v := ?_) rfl (by kernel_rfl) (by kernel_rfl) (by kernel_rfl) (by kernel_rfl) (fun _ _ _ h => h) (Or.inl ⟨by rfl, ?_⟩) hSS ?_
                  rotate_left
                  · intro w hSw
                    obtain ⟨⟨⟨j0, j1, j2⟩, j3⟩, ⟨j4, j5, j6, j7⟩, j8, j9, j10, j11⟩ := hSw
                    go_simp
                    all_goals with_reducible rfl
                  simp only [Act.put, List.setIfInBounds_toArray, List.set_cons_zero, List.set_cons_succ, List.getElem_toArray, List.getElem_cons_zero, List.getElem_cons_succ]
                  refine wpAnyE_take (i := 6) (v := ?_) rfl (by kernel_rfl) (by kernel_rfl) (by kernel_rfl) (by kernel_rfl) (fun _ _ _ h => h) (Or.inl ⟨by rfl, ?_⟩) hSS ?_
                  rotate_left
                  · intro w hSw
                    obtain ⟨⟨⟨j0, j1, j2⟩, j3⟩, ⟨j4, j5, j6, j7⟩, j8, j9, j10, j11⟩ := hSw
                    go_simp
                    all_goals with_reducible rfl
                  simp only [Act.put, List.setIfInBounds_toArray, List.set_cons_zero, List.set_cons_succ, List.getElem_toArray, List.getElem_cons_zero, List.getElem_cons_succ]
                  refine wpAnyE_take (i := 7) (v := ?_) rfl (by kernel_rfl) (by kernel_rfl) (by kernel_rfl) (by kernel_rfl) (fun _ _ _ h => h) (Or.inl ⟨by rfl, ?_⟩) hSS ?_
                  rotate_left
                  · intro w hSw
                    obtain ⟨⟨⟨j0, j1, j2⟩, j3⟩, ⟨j4, j5, j6, j7⟩, j8, j9, j10, j11⟩ := hSw
                    go_simp
                    all_goals with_reducible rfl
                  simp only [Act.put, List.setIfInBounds_toArray, List.set_cons_zero, List.set_cons_succ, List.getElem_toArray, List.getElem_cons_zero, List.getElem_cons_succ]
                  refine wpAnyE_take (i := 8) (v := ?_) rfl (by kernel_rfl) (by kernel_rfl) (by kernel_rfl) (by kernel_rfl) (fun _ _ _ h => h) (Or.inl ⟨by rfl, ?_⟩) hSS ?_
                  rotate_left
                  · intro w hSw
                    obtain ⟨⟨⟨j0, j1, j2⟩, j3⟩, ⟨j4, j5, j6, j7⟩, j8, j9, j10, j11⟩ := hSw
                    go_simp
                    all_goals with_reducible rfl
                  simp only [Act.put, List.setIfInBounds_toArray, List.set_cons_zero, List.set_cons_succ, List.getElem_toArray, List.getElem_cons_zero, List.getElem_cons_succ]
                  refine wpAnyE_take (i := 9) (v := ?_) rfl (by kernel_rfl) (by kernel_rfl) (by kernel_rfl) (by kernel_rfl) (fun _ _ _ h => h) (Or.inl ⟨by rfl, ?_⟩) hSS ?_
                  rotate_left
                  · intro w hSw
                    obtain ⟨⟨⟨j0, j1, j2⟩, j3⟩, ⟨j4, j5, j6, j7⟩, j8, j9, j10, j11⟩ := hSw
                    go_simp
                    all_goals with_reducible rfl
                  simp only [Act.put, List.setIfInBounds_toArray, List.set_cons_zero, List.set_cons_succ, List.getElem_toArray, List.getElem_cons_zero, List.getElem_cons_succ]
                  refine wpAnyE_take (i := 10) (v := ?_) rfl (by kernel_rfl) (by kernel_rfl) (by kernel_rfl) (by kernel_rfl) (fun _ _ _ h => h) (Or.inl ⟨by rfl, ?_⟩) hSS ?_
                  rotate_left
                  · intro w hSw
                    obtain ⟨⟨⟨j0, j1, j2⟩, j3⟩, ⟨j4, j5, j6, j7⟩, j8, j9, j10, j11⟩ := hSw
                    go_simp
                    all_goals with_reducible rfl
                  simp only [Act.put, List.setIfInBounds_toArray, List.set_cons_zero, List.set_cons_succ, List.getElem_toArray, List.getElem_cons_zero, List.getElem_cons_succ]
                  refine wpAnyE_take (i := 11) (v := ?_) rfl (by kernel_rfl) (by kernel_rfl) (by kernel_rfl) (by kernel_rfl) (fun _ _ _ h => h) (Or.inl ⟨by rfl, ?_⟩) hSS ?_
                  rotate_left
                  · intro w hSw
                    obtain ⟨⟨⟨j0, j1, j2⟩, j3⟩, ⟨j4, j5, j6, j7⟩, j8, j9, j10, j11⟩ := hSw
                    go_simp
                    all_goals with_reducible rfl
                  simp only [Act.put, List.setIfInBounds_toArray, List.set_cons_zero, List.set_cons_succ, List.getElem_toArray, List.getElem_cons_zero, List.getElem_cons_succ]
                  refine wpAnyE_take (i := 12) (v := ?_) rfl (by kernel_rfl) (by kernel_rfl) (by kernel_rfl) (by kernel_rfl) (fun _ _ _ h => h) (Or.inl ⟨by rfl, ?_⟩) hSS ?_
                  rotate_left
                  · intro w hSw
                    obtain ⟨⟨⟨j0, j1, j2⟩, j3⟩, ⟨j4, j5, j6, j7⟩, j8, j9, j10, j11⟩ := hSw
                    go_simp
                    all_goals with_reducible rfl
                  simp only [Act.put, List.setIfInBounds_toArray, List.set_cons_zero, List.set_cons_succ, List.getElem_toArray, List.getElem_cons_zero, List.getElem_cons_succ]
                  refine wpAnyE_take (i := 13) (v := ?_) rfl (by kernel_rfl) (by kernel_rfl) (by kernel_rfl) (by kernel_rfl) (fun _ _ _ h => h) (Or.inl ⟨by rfl, ?_⟩) hSS ?_
                  rotate_left
                  · intro w hSw
                    obtain ⟨⟨⟨j0, j1, j2⟩, j3⟩, ⟨j4, j5, j6, j7⟩, j8, j9, j10, j11⟩ := hSw
                    go_simp
                    all_goals with_reducible rfl
                  simp only [Act.put, List.setIfInBounds_toArray, List.set_cons_zero, List.set_cons_succ, List.getElem_toArray, List.getElem_cons_zero, List.getElem_cons_succ]
                  refine wpAnyE_take (i := 14) (v := ?_) rfl (by kernel_rfl) (by kernel_rfl) (by kernel_rfl) (by kernel_rfl) (fun _ _ _ h => h) (Or.inl ⟨by rfl, ?_⟩) hSS ?_
                  rotate_left
                  · intro w hSw
                    obtain ⟨⟨⟨j0, j1, j2⟩, j3⟩, ⟨j4, j5, j6, j7⟩, j8, j9, j10, j11⟩ := hSw
                    go_simp
                    all_goals with_reducible rfl
                  simp only [Act.put, List.setIfInBounds_toArray, List.set_cons_zero, List.set_cons_succ, List.getElem_toArray, List.getElem_cons_zero, List.getElem_cons_succ]
                  refine wpAnyE_take (i := 15) (v := ?_) rfl (by kernel_rfl) (by kernel_rfl) (by kernel_rfl) (by kernel_rfl) (fun _ _ _ h => h) (Or.inl ⟨by rfl, ?_⟩) hSS ?_
                  rotate_left
                  · intro w hSw
                    obtain ⟨⟨⟨j0, j1, j2⟩, j3⟩, ⟨j4, j5, j6, j7⟩, j8, j9, j10, j11⟩ := hSw
                    go_simp
                    all_goals with_reducible rfl
                  simp only [Act.put, List.setIfInBounds_toArray, List.set_cons_zero, List.set_cons_succ, List.getElem_toArray, List.getElem_cons_zero, List.getElem_cons_succ]
                  refine wpAnyE_take (i := 16) (v := ?_) rfl (by kernel_rfl) (by kernel_rfl) (by kernel_rfl) (by kernel_rfl) (fun _ _ _ h => h) (Or.inl ⟨by rfl, ?_⟩) hSS ?_
                  rotate_left
                  · intro w hSw
                    obtain ⟨⟨⟨j0, j1, j2⟩, j3⟩, ⟨j4, j5, j6, j7⟩, j8, j9, j10, j11⟩ := hSw
                    go_simp
                    all_goals with_reducible rfl
                  simp only [Act.put, List.setIfInBounds_toArray, List.set_cons_zero, List.set_cons_succ, List.getElem_toArray, List.getElem_cons_zero, List.getElem_cons_succ]
                  refine wpAnyE_take (i := 17) (v := ?_) rfl (by kernel_rfl) (by kernel_rfl) (by kernel_rfl) (by kernel_rfl) (fun _ _ _ h => h) (Or.inl ⟨by rfl, ?_⟩) hSS ?_
                  rotate_left
                  · intro w hSw
                    obtain ⟨⟨⟨j0, j1, j2⟩, j3⟩, ⟨j4, j5, j6, j7⟩, j8, j9, j10, j11⟩ := hSw
                    go_simp
                    all_goals with_reducible rfl
                  simp only [Act.put, List.setIfInBounds_toArray, List.set_cons_zero, List.set_cons_succ, List.getElem_toArray, List.getElem_cons_zero, List.getElem_cons_succ]
                  refine wpAnyE_take (i := 18) (v := ?_) rfl (by kernel_rfl) (by kernel_rfl) (by kernel_rfl) (by kernel_rfl) (fun _ _ _ h => h) (Or.inl ⟨by rfl, ?_⟩) hSS ?_
                  rotate_left
                  · intro w hSw
                    obtain ⟨⟨⟨j0, j1, j2⟩, j3⟩, ⟨j4, j5, j6, j7⟩, j8, j9, j10, j11⟩ := hSw
                    go_simp
                    all_goals with_reducible rfl
                  simp only [Act.put, List.setIfInBounds_toArray, List.set_cons_zero, List.set_cons_succ, List.getElem_toArray, List.getElem_cons_zero, List.getElem_cons_succ]
                  refine wpAnyE_take (i := 19) (v := ?_) rfl (by kernel_rfl) (by kernel_rfl) (by kernel_rfl) (by kernel_rfl) (fun _ _ _ h => h) (Or.inl ⟨by rfl, ?_⟩) hSS ?_
                  rotate_left
                  · intro w hSw
                    obtain ⟨⟨⟨j0, j1, j2⟩, j3⟩, ⟨j4, j5, j6, j7⟩, j8, j9, j10, j11⟩ := hSw
                    go_simp
                    all_goals with_reducible rfl
                  simp only [Act.put, List.setIfInBounds_toArray, List.set_cons_zero, List.set_cons_succ, List.getElem_toArray, List.getElem_cons_zero, List.getElem_cons_succ]
                  refine wpAnyE_take (i := 20) (v := ?_) rfl (by kernel_rfl) (by kernel_rfl) (by kernel_rfl) (by kernel_rfl) (fun _ _ _ h => h) (Or.inl ⟨by rfl, ?_⟩) hSS ?_
                  rotate_left
                  · intro w hSw
                    obtain ⟨⟨⟨j0, j1, j2⟩, j3⟩, ⟨j4, j5, j6, j7⟩, j8, j9, j10, j11⟩ := hSw
                    go_simp
                    all_goals with_reducible rfl
                  simp only [Act.put, List.setIfInBounds_toArray, List.set_cons_zero, List.set_cons_succ, List.getElem_toArray, List.getElem_cons_zero, List.getElem_cons_succ]
                  refine wpAnyE_take (i := 21) (v := ?_) rfl (by kernel_rfl) (by kernel_rfl) (by kernel_rfl) (by kernel_rfl) (fun _ _ _ h => h) (Or.inl ⟨by rfl, ?_⟩) hSS ?_
                  rotate_left
                  · intro w hSw
                    obtain ⟨⟨⟨j0, j1, j2⟩, j3⟩, ⟨j4, j5, j6, j7⟩, j8, j9, j10, j11⟩ := hSw
                    go_simp
                    all_goals with_reducible rfl
                  simp only [Act.put, List.setIfInBounds_toArray, List.set_cons_zero, List.set_cons_succ, List.getElem_toArray, List.getElem_cons_zero, List.getElem_cons_succ]
                  refine wpAnyE_take (i := 22) (v := ?_) rfl (by kernel_rfl) (by kernel_rfl) (by kernel_rfl) (by kernel_rfl) (fun _ _ _ h => h) (Or.inl ⟨by rfl, ?_⟩) hSS ?_
                  rotate_left
                  · intro w hSw
                    obtain ⟨⟨⟨j0, j1, j2⟩, j3⟩, ⟨j4, j5, j6, j7⟩, j8, j9, j10, j11⟩ := hSw
                    go_simp
                    all_goals with_reducible rfl
                  simp only [Act.put, List.setIfInBounds_toArray, List.set_cons_zero, List.set_cons_succ, List.getElem_toArray, List.getElem_cons_zero, List.getElem_cons_succ]
                  refine wpAnyE_take (i := 24) (v := ?_) rfl (by kernel_rfl) (by kernel_rfl) (by kernel_rfl) (by kernel_rfl) (fun _ _ _ h => h) (Or.inl ⟨by rfl, ?_⟩) hSS ?_
                  rotate_left
                  · intro w hSw
                    obtain ⟨⟨⟨j0, j1, j2⟩, j3⟩, ⟨j4, j5, j6, j7⟩, j8, j9, j10, j11⟩ := hSw
                    go_simp
                    all_goals with_reducible rfl
                  simp only [Act.put, List.setIfInBounds_toArray, List.set_cons_zero, List.set_cons_succ, List.getElem_toArray, List.getElem_cons_zero, List.getElem_cons_succ]
                  refine wpAnyE_take (i := 25) (v := ?_) rfl (by kernel_rfl) (by kernel_rfl) (by kernel_rfl) (by kernel_rfl) (fun _ _ _ h => h) (Or.inl ⟨by rfl, ?_⟩) hSS ?_
                  rotate_left
                  · intro w hSw
                    obtain ⟨⟨⟨j0, j1, j2⟩, j3⟩, ⟨j4, j5, j6, j7⟩, j8, j9, j10, j11⟩ := hSw
                    go_simp
                    all_goals with_reducible rfl
                  simp only [Act.put, List.setIfInBounds_toArray, List.set_cons_zero, List.set_cons_succ, List.getElem_toArray, List.getElem_cons_zero, List.getElem_cons_succ]
                  refine wpAnyE_take (i := 26) (v := ?_) rfl (by kernel_rfl) (by kernel_rfl) (by kernel_rfl) (by kernel_rfl) (fun _ _ _ h => h) (Or.inl ⟨by rfl, ?_⟩) hSS ?_
                  rotate_left
                  · intro w hSw
                    obtain ⟨⟨⟨j0, j1, j2⟩, j3⟩, ⟨j4, j5, j6, j7⟩, j8, j9, j10, j11⟩ := hSw
                    go_simp
                    all_goals with_reducible rfl
                  simp only [Act.put, List.setIfInBounds_toArray, List.set_cons_zero, List.set_cons_succ, List.getElem_toArray, List.getElem_cons_zero, List.getElem_cons_succ]
                  refine wpAnyE_take (i := 27) (v := ?_) rfl (by kernel_rfl) (by kernel_rfl) (by kernel_rfl) (by kernel_rfl) (fun _ _ _ h => h) (Or.inl ⟨by rfl, ?_⟩) hSS ?_
                  rotate_left
                  · intro w hSw
                    obtain ⟨⟨⟨j0, j1, j2⟩, j3⟩, ⟨j4, j5, j6, j7⟩, j8, j9, j10, j11⟩ := hSw
                    go_simp
                    all_goals with_reducible rfl
                  simp only [Act.put, List.setIfInBounds_toArray, List.set_cons_zero, List.set_cons_succ, List.getElem_toArray, List.getElem_cons_zero, List.getElem_cons_succ]
                  refine wpAnyE_one (i := 23) (by kernel_rfl) rfl ?_
                  change wpList _ _ (Exit.then _ _) [_] _ _
                  try simp only [List.setIfInBounds_toArray, List.set_cons_zero, List.set_cons_succ, List.getElem_toArray, List.getElem_cons_zero, List.getElem_cons_succ]
                  go_wp2_with (go_at_call 16; refine (text_is _ _ _ _ HRT.out _ HTX.out).mono ?_; rintro e w11 ⟨rfl, hB11⟩)
                  have hSS := s21_below hB11 hSS
                  have HA := Lib.hid (blk_below' hB11 HA.out)
                  have HB := Lib.hid (blk_below' hB11 HB.out)
                  have HGD := Lib.hid (HGD.out.below hB11)
                  have HRT := Lib.hid (HRT.out.below hB11)
                  have HRF := Lib.hid (HRF.out.below hB11)
                  clear hB11
                  refine ⟨fun _ => hSS, ?_⟩
                  try simp only [List.setIfInBounds_toArray, List.set_cons_zero, List.set_cons_succ, List.getElem_toArray, List.getElem_cons_zero, List.getElem_cons_succ]
                  refine wpAnyE_one (i := 28) (by kernel_rfl) rfl ?_
                  change wpList _ _ (Exit.then _ _) [_] _ _
                  try simp only [List.setIfInBounds_toArray, List.set_cons_zero, List.set_cons_succ, List.getElem_toArray, List.getElem_cons_zero, List.getElem_cons_succ]
                  go_wp2_with (go_at_call 17; refine (refText_any _ _ _ _ HRF.out HSG.out.1 HSG.out.2.1).mono ?_; rintro e w12 ⟨rfl, hB12⟩)
                  have hSS := s21_below hB12 hSS
                  have HA := Lib.hid (blk_below' hB12 HA.out)
                  have HB := Lib.hid (blk_below' hB12 HB.out)
                  have HGD := Lib.hid (HGD.out.below hB12)
                  have HRT := Lib.hid (HRT.out.below hB12)
                  have HRF := Lib.hid (HRF.out.below hB12)
                  clear hB12
                  refine ⟨fun _ => hSS, ?_⟩
                  try simp only [List.setIfInBounds_toArray, List.set_cons_zero, List.set_cons_succ, List.getElem_toArray, List.getElem_cons_zero, List.getElem_cons_succ]
                  refine wpAnyE_take (i := 29) (v := ?_) rfl (by kernel_rfl) (by kernel_rfl) (by kernel_rfl) (by kernel_rfl) (fun _ _ _ h => h) (Or.inl ⟨by rfl, ?_⟩) hSS ?_
                  rotate_left
                  · intro w hSw
                    obtain ⟨⟨⟨j0, j1, j2⟩, j3⟩, ⟨j4, j5, j6, j7⟩, j8, j9, j10, j11⟩ := hSw
                    go_simp
                    all_goals with_reducible rfl
                  simp only [Act.put, List.setIfInBounds_toArray, List.set_cons_zero, List.set_cons_succ, List.getElem_toArray, List.getElem_cons_zero, List.getElem_cons_succ]
                  refine wpAnyE_take (i := 30) (v := ?_) rfl (by kernel_rfl) (by kernel_rfl) (by kernel_rfl) (by kernel_rfl) (fun _ _ _ h => h) (Or.inl ⟨by rfl, ?_⟩) hSS ?_
                  rotate_left
                  · intro w hSw
                    obtain ⟨⟨⟨j0, j1, j2⟩, j3⟩, ⟨j4, j5, j6, j7⟩, j8, j9, j10, j11⟩ := hSw
                    go_simp
                    all_goals with_reducible rfl
                  simp only [Act.put, List.setIfInBounds_toArray, List.set_cons_zero, List.set_cons_succ, List.getElem_toArray, List.getElem_cons_zero, List.getElem_cons_succ]
                  refine wpAnyE_end (by kernel_rfl) ?_
                  clear hSS
                  go_wp2_with fail
                  go_roundw
                  case rel => exact ⟨k + 1, by omega, by go_num, HGD⟩
                  case measure => simp [intOf]; omega
              · skip
                change wpList _ _ (Exit.then _ _) [_] _ _
                try simp only [List.setIfInBounds_toArray, List.set_cons_zero, List.set_cons_succ, List.getElem_toArray, List.getElem_cons_zero, List.getElem_cons_succ]
                go_wp2_with fail
                have HBW := Lib.hid ((Below.refl (W4).heap.size W4).alloc (Nat.le_refl _) (.cells #[.int .u32 0, .int .u32 0, .int .u32 0, .int .u32 0] 47))
                have hz3 := blk_new W4 (.cells #[.int .u32 0, .int .u32 0, .int .u32 0, .int .u32 0] 47)
                generalize World.alloc W4 _ = V3 at *
                first | refine ⟨fun _ => ss_below HBW.out hSS, ?_⟩ | refine ⟨ss_below HBW.out hSS, ?_⟩
                try simp only [List.setIfInBounds_toArray, List.set_cons_zero, List.set_cons_succ, List.getElem_toArray, List.getElem_cons_zero, List.getElem_cons_succ]
                refine wpAnyE_one (i := 8) (by kernel_rfl) rfl ?_
                change wpList _ _ (Exit.then _ _) [_] _ _
                try simp only [List.setIfInBounds_toArray, List.set_cons_zero, List.set_cons_succ, List.getElem_toArray, List.getElem_cons_zero, List.getElem_cons_succ]
                go_wp2_with (go_at_call 21; refine (parse_any _ _ _ _ _ _ q _ HQZ.out HSG.out.1 (HRT.out.below HBW.out)).mono ?_; rintro e w3 ⟨y, i, er, rfl, hy, hB3⟩)
                have HY := Lib.hid hy
                clear hy
                have hz3 := blk_below' hB3 hz3
                have HBW := Lib.hid (below_then HBW.out hB3)
                clear hB3
                refine ⟨fun _ => ss_below HBW.out hSS, ?_⟩
                try simp only [List.setIfInBounds_toArray, List.set_cons_zero, List.set_cons_succ, List.getElem_toArray, List.getElem_cons_zero, List.getElem_cons_succ]
                have hSS0 := hSS
                clear hSS
                have hSS := ss_below HBW.out hSS0
                refine wpAnyE_take (i := 9) (v := ?_) rfl (by kernel_rfl) (by kernel_rfl) (by kernel_rfl) (by kernel_rfl) (fun _ _ _ h => h) (Or.inl ⟨by rfl, ?_⟩) hSS ?_
                rotate_left
                · intro w hSw
                  obtain ⟨⟨j0, j1, j2⟩, j3⟩ := hSw
                  go_simp
                  all_goals with_reducible rfl
                simp only [Act.put, List.setIfInBounds_toArray, List.set_cons_zero, List.set_cons_succ, List.getElem_toArray, List.getElem_cons_zero, List.getElem_cons_succ]
                refine wpAnyE_take (i := 10) (v := ?_) rfl (by kernel_rfl) (by kernel_rfl) (by kernel_rfl) (by kernel_rfl) (fun _ _ _ h => h) (Or.inl ⟨by rfl, ?_⟩) hSS ?_
                rotate_left
                · intro w hSw
                  obtain ⟨⟨j0, j1, j2⟩, j3⟩ := hSw
                  go_simp
                  all_goals with_reducible rfl
                simp only [Act.put, List.setIfInBounds_toArray, List.set_cons_zero, List.set_cons_succ, List.getElem_toArray, List.getElem_cons_zero, List.getElem_cons_succ]
                refine wpAnyE_take (i := 11) (v := ?_) rfl (by kernel_rfl) (by kernel_rfl) (by kernel_rfl) (by kernel_rfl) (fun _ _ _ h => h) (Or.inl ⟨by rfl, ?_⟩) hSS ?_
                rotate_left
                · intro w hSw
                  obtain ⟨⟨j0, j1, j2⟩, j3⟩ := hSw
                  go_simp
                  all_goals with_reducible rfl
                simp only [Act.put, List.setIfInBounds_toArray, List.set_cons_zero, List.set_cons_succ, List.getElem_toArray, List.getElem_cons_zero, List.getElem_cons_succ]
                refine wpAnyE_take (i := 12) (v := ?_) rfl (by kernel_rfl) (by kernel_rfl) (by kernel_rfl) (by kernel_rfl) (fun _ _ _ h => h) (Or.inl ⟨by rfl, ?_⟩) hSS ?_
                rotate_left
                · intro w hSw
                  obtain ⟨⟨j0, j1, j2⟩, j3⟩ := hSw
                  go_simp
                  all_goals with_reducible rfl
                simp only [Act.put, List.setIfInBounds_toArray, List.set_cons_zero, List.set_cons_succ, List.getElem_toArray, List.getElem_cons_zero, List.getElem_cons_succ]
                clear hSS
                have hSS := hSS0
                clear hSS0
                obtain ⟨⟨z0, z1, z2, z3⟩, f0, f1, f2, f3⟩ := z4 hz3
                unfold setV setC
                refine wpAnyE_one (i := 14) (by kernel_rfl) rfl ?_
                change wpList _ _ (Exit.then _ _) [_] _ _
                try simp only [List.setIfInBounds_toArray, List.set_cons_zero, List.set_cons_succ, List.getElem_toArray, List.getElem_cons_zero, List.getElem_cons_succ]
                go_wp2_with fail
                generalize hX : World.setCell (World.setCell (World.setCell (World.setCell _ _ _) _ _) _ _) _ _ = X3
                have hz5 : (X3).heap[(W4).heap.size]? = some (.cells (setC y) 47 (0, 0)) := by rw [← hX]; exact blk_store (blk_store (blk_store (blk_store hz3 0 _) 1 _) 2 _) 3 _
                have HBX := Lib.hid (show Below (W4).heap.size W4 X3 by rw [← hX]; exact (((HBW.out.setCell (Nat.le_refl _) _).setCell (Nat.le_refl _) _).setCell (Nat.le_refl _) _).setCell (Nat.le_refl _) _)
                clear hX hz3 z0 z1 z2 z3 f0 f1 f2 f3 HBW
                refine ⟨fun _ => ss_below HBX.out hSS, ?_⟩
                try simp only [List.setIfInBounds_toArray, List.set_cons_zero, List.set_cons_succ, List.getElem_toArray, List.getElem_cons_zero, List.getElem_cons_succ]
                refine wpAnyE_one (i := 15) (by kernel_rfl) rfl ?_
                change wpList _ _ (Exit.then _ _) [_] _ _
                try simp only [List.setIfInBounds_toArray, List.set_cons_zero, List.set_cons_succ, List.getElem_toArray, List.getElem_cons_zero, List.getElem_cons_succ]
                go_wp2_with fail
                refine ⟨fun _ => ss_below HBX.out hSS, ?_⟩
                try simp only [List.setIfInBounds_toArray, List.set_cons_zero, List.set_cons_succ, List.getElem_toArray, List.getElem_cons_zero, List.getElem_cons_succ]
                refine wpAnyE_one (i := 16) (by kernel_rfl) rfl ?_
                change wpList _ _ (Exit.then _ _) [_] _ _
                try simp only [List.setIfInBounds_toArray, List.set_cons_zero, List.set_cons_succ, List.getElem_toArray, List.getElem_cons_zero, List.getElem_cons_succ]
                go_wp2_with fail
                refine ⟨fun _ => ss_below HBX.out hSS, ?_⟩
                try simp only [List.setIfInBounds_toArray, List.set_cons_zero, List.set_cons_succ, List.getElem_toArray, List.getElem_cons_zero, List.getElem_cons_succ]
                refine wpAnyE_end (by kernel_rfl) ?_
                have HGD := Lib.hid (HGD.out.below HBX.out)
                have HRT := Lib.hid (HRT.out.below HBX.out)
                have HRF := Lib.hid (HRF.out.below HBX.out)
                (try have HA := Lib.hid (blk_below' HBX.out HA.out))
                clear hSS HBX
                obtain ⟨ga, hga⟩ : ∃ q, q = (W4).heap.size := ⟨_, rfl⟩
                rw [← hga] at hz5
                (try rw [← hga])
                clear hga
                have HA := Lib.hid hz5
                clear hz5
                obtain ⟨gm', egm, _, d3⟩ := HGD.out.mcells hL hp
                obtain rfl : gm = gm' := by injection egm with egm; injection egm
                clear egm
                have hqc := HQC.out _ HGD.out.low
                go_upto_region 18 with fail
                refine wp_region_early (fun w' => w'.cell? ⟨gm, k, none⟩ = some (.slice ua (sgs o).length uc) ∧ w'.cell? (b1.add n) = some (.string q)) (fun _ => false) (by kernel_rfl) ?_
                simp only [List.size_toArray, List.length_cons, List.length_nil, Nat.reduceAdd, Array.replicate_succ, Array.replicate_zero, List.push_toArray, List.nil_append, List.cons_append]
                have hdr : Below (X3).heap.size X3 (X3).drew := (Below.refl _ _).drew
                have hSS := ss2_below hdr ⟨d3, hqc⟩
                have HA := Lib.hid (blk_below' hdr HA.out)
                have HGD := Lib.hid (HGD.out.below hdr)
                have HRT := Lib.hid (HRT.out.below hdr)
                have HRF := Lib.hid (HRF.out.below hdr)
                clear hdr d3 hqc
                generalize World.drew X3 = Y4 at *
                refine wpAnyE_take (i := 0) (v := ?_) rfl (by kernel_rfl) (by kernel_rfl) (by kernel_rfl) (by kernel_rfl) (fun _ _ _ h => h) (Or.inl ⟨by rfl, ?_⟩) hSS ?_
                rotate_left
                · intro w hSw
                  obtain ⟨j0, j1⟩ := hSw
                  go_simp
                  all_goals with_reducible rfl
                simp only [Act.put, List.setIfInBounds_toArray, List.set_cons_zero, List.set_cons_succ, List.getElem_toArray, List.getElem_cons_zero, List.getElem_cons_succ]
                refine wpAnyE_take (i := 1) (v := ?_) rfl (by kernel_rfl) (by kernel_rfl) (by kernel_rfl) (by kernel_rfl) (fun _ _ _ h => h) (Or.inl ⟨by rfl, ?_⟩) hSS ?_
                rotate_left
                · intro w hSw
                  obtain ⟨j0, j1⟩ := hSw
                  go_simp
                  all_goals with_reducible rfl
                simp only [Act.put, List.setIfInBounds_toArray, List.set_cons_zero, List.set_cons_succ, List.getElem_toArray, List.getElem_cons_zero, List.getElem_cons_succ]
                refine wpAnyE_take (i := 2) (v := ?_) rfl (by kernel_rfl) (by kernel_rfl) (by kernel_rfl) (by kernel_rfl) (fun _ _ _ h => h) (Or.inl ⟨by rfl, ?_⟩) hSS ?_
                rotate_left
                · intro w hSw
                  obtain ⟨j0, j1⟩ := hSw
                  go_simp
                  all_goals with_reducible rfl
                simp only [Act.put, List.setIfInBounds_toArray, List.set_cons_zero, List.set_cons_succ, List.getElem_toArray, List.getElem_cons_zero, List.getElem_cons_succ]
                refine wpAnyE_take (i := 3) (v := ?_) rfl (by kernel_rfl) (by kernel_rfl) (by kernel_rfl) (by kernel_rfl) (fun _ _ _ h => h) (Or.inl ⟨by rfl, ?_⟩) hSS ?_
                rotate_left
                · intro w hSw
                  obtain ⟨j0, j1⟩ := hSw
                  go_simp
                  all_goals with_reducible rfl
                simp only [Act.put, List.setIfInBounds_toArray, List.set_cons_zero, List.set_cons_succ, List.getElem_toArray, List.getElem_cons_zero, List.getElem_cons_succ]
                refine wpAnyE_take (i := 4) (v := ?_) rfl (by kernel_rfl) (by kernel_rfl) (by kernel_rfl) (by kernel_rfl) (fun _ _ _ h => h) (Or.inl ⟨by rfl, ?_⟩) hSS ?_
                rotate_left
                · intro w hSw
                  obtain ⟨j0, j1⟩ := hSw
                  go_simp
                  all_goals with_reducible rfl
                simp only [Act.put, List.setIfInBounds_toArray, List.set_cons_zero, List.set_cons_succ, List.getElem_toArray, List.getElem_cons_zero, List.getElem_cons_succ]
                refine wpAnyE_take (i := 5) (v := ?_) rfl (by kernel_rfl) (by kernel_rfl) (by kernel_rfl) (by kernel_rfl) (fun _ _ _ h => h) (Or.inl ⟨by rfl, ?_⟩) hSS ?_
                rotate_left
                · intro w hSw
                  obtain ⟨j0, j1⟩ := hSw
                  go_simp
                  all_goals with_reducible rfl
                simp only [Act.put, List.setIfInBounds_toArray, List.set_cons_zero, List.set_cons_succ, List.getElem_toArray, List.getElem_cons_zero, List.getElem_cons_succ]
                refine wpAnyE_take (i := 6) (v := ?_) rfl (by kernel_rfl) (by kernel_rfl) (by kernel_rfl) (by kernel_rfl) (fun _ _ _ h => h) (Or.inl ⟨by rfl, ?_⟩) hSS ?_
                rotate_left
                · intro w hSw
                  obtain ⟨j0, j1⟩ := hSw
                  go_simp
                  all_goals with_reducible rfl
                simp only [Act.put, List.setIfInBounds_toArray, List.set_cons_zero, List.set_cons_succ, List.getElem_toArray, List.getElem_cons_zero, List.getElem_cons_succ]
                refine wpAnyE_take (i := 7) (v := ?_) rfl (by kernel_rfl) (by kernel_rfl) (by kernel_rfl) (by kernel_rfl) (fun _ _ _ h => h) (Or.inl ⟨by rfl, ?_⟩) hSS ?_
                rotate_left
                · intro w hSw
                  obtain ⟨j0, j1⟩ := hSw
                  go_simp
                  all_goals with_reducible rfl
                simp only [Act.put, List.setIfInBounds_toArray, List.set_cons_zero, List.set_cons_succ, List.getElem_toArray, List.getElem_cons_zero, List.getElem_cons_succ]
                refine wpAnyE_two (i := 8) (j := 13) (by kernel_rfl) rfl rfl ?_ ?_
                · skip
                  change wpList _ _ (Exit.then _ _) [_] _ _
                  try simp only [List.setIfInBounds_toArray, List.set_cons_zero, List.set_cons_succ, List.getElem_toArray, List.getElem_cons_zero, List.getElem_cons_succ]
                  go_wp2_with (go_at_call 22; refine (refParse_any _ _ _ _ q _ HQZ.out HSG.out.1 HCL.out HRF.out).mono ?_; rintro e w5 ⟨y', i', er', rfl, hy', hB5⟩)
                  obtain ⟨rfl, rfl, rfl⟩ : y = y' ∧ i = i' ∧ er = er' := by have := HY.out.symm.trans hy'; simpa using this
                  clear hy'
                  have hSS := ss2_below hB5 hSS
                  have HA := Lib.hid (blk_below' hB5 HA.out)
                  have HGD := Lib.hid (HGD.out.below hB5)
                  have HRT := Lib.hid (HRT.out.below hB5)
                  have HRF := Lib.hid (HRF.out.below hB5)
                  clear hB5
                  refine ⟨fun _ => hSS, ?_⟩
                  try simp only [List.setIfInBounds_toArray, List.set_cons_zero, List.set_cons_succ, List.getElem_toArray, List.getElem_cons_zero, List.getElem_cons_succ]
                  refine wpAnyE_take (i := 9) (v := ?_) rfl (by kernel_rfl) (by kernel_rfl) (by kernel_rfl) (by kernel_rfl) (fun _ _ _ h => h) (Or.inl ⟨by rfl, ?_⟩) hSS ?_
                  rotate_left
                  · intro w hSw
                    obtain ⟨j0, j1⟩ := hSw
                    go_simp
                    all_goals with_reducible rfl
                  simp only [Act.put, List.setIfInBounds_toArray, List.set_cons_zero, List.set_cons_succ, List.getElem_toArray, List.getElem_cons_zero, List.getElem_cons_succ]
                  refine wpAnyE_take (i := 10) (v := ?_) rfl (by kernel_rfl) (by kernel_rfl) (by kernel_rfl) (by kernel_rfl) (fun _ _ _ h => h) (Or.inl ⟨by rfl, ?_⟩) hSS ?_
                  rotate_left
                  · intro w hSw
                    obtain ⟨j0, j1⟩ := hSw
                    go_simp
                    all_goals with_reducible rfl
                  simp only [Act.put, List.setIfInBounds_toArray, List.set_cons_zero, List.set_cons_succ, List.getElem_toArray, List.getElem_cons_zero, List.getElem_cons_succ]
                  refine wpAnyE_take (i := 11) (v := ?_) rfl (by kernel_rfl) (by kernel_rfl) (by kernel_rfl) (by kernel_rfl) (fun _ _ _ h => h) (Or.inl ⟨by rfl, ?_⟩) hSS ?_
                  rotate_left
                  · intro w hSw
                    obtain ⟨j0, j1⟩ := hSw
                    go_simp
                    all_goals with_reducible rfl
                  simp only [Act.put, List.setIfInBounds_toArray, List.set_cons_zero, List.set_cons_succ, List.getElem_toArray, List.getElem_cons_zero, List.getElem_cons_succ]
                  refine wpAnyE_take (i := 12) (v := ?_) rfl (by kernel_rfl) (by kernel_rfl) (by kernel_rfl) (by kernel_rfl) (fun _ _ _ h => h) (Or.inl ⟨by rfl, ?_⟩) hSS ?_
                  rotate_left
                  · intro w hSw
                    obtain ⟨j0, j1⟩ := hSw
                    go_simp
                    all_goals with_reducible rfl
                  simp only [Act.put, List.setIfInBounds_toArray, List.set_cons_zero, List.set_cons_succ, List.getElem_toArray, List.getElem_cons_zero, List.getElem_cons_succ]
                  refine wpAnyE_one (i := 13) (by kernel_rfl) rfl ?_
                  change wpList _ _ (Exit.then _ _) [_] _ _
                  try simp only [List.setIfInBounds_toArray, List.set_cons_zero, List.set_cons_succ, List.getElem_toArray, List.getElem_cons_zero, List.getElem_cons_succ]
                  go_wp2_with fail
                  have HBW := Lib.hid ((Below.refl (w5).heap.size w5).alloc (Nat.le_refl _) (.cells #[.int .u32 0, .int .u32 0, .int .u32 0, .int .u32 0] 47))
                  have hz3 := blk_new w5 (.cells #[.int .u32 0, .int .u32 0, .int .u32 0, .int .u32 0] 47)
                  generalize World.alloc w5 _ = V5 at *
                  first | refine ⟨fun _ => ss2_below HBW.out hSS, ?_⟩ | refine ⟨ss2_below HBW.out hSS, ?_⟩
                  try simp only [List.setIfInBounds_toArray, List.set_cons_zero, List.set_cons_succ, List.getElem_toArray, List.getElem_cons_zero, List.getElem_cons_succ]
                  obtain ⟨⟨z0, z1, z2, z3⟩, f0, f1, f2, f3⟩ := z4 hz3
                  unfold setV setC
                  refine wpAnyE_one (i := 14) (by kernel_rfl) rfl ?_
                  change wpList _ _ (Exit.then _ _) [_] _ _
                  try simp only [List.setIfInBounds_toArray, List.set_cons_zero, List.set_cons_succ, List.getElem_toArray, List.getElem_cons_zero, List.getElem_cons_succ]
                  go_wp2_with fail
                  generalize hX : World.setCell (World.setCell (World.setCell (World.setCell _ _ _) _ _) _ _) _ _ = X5
                  have hz5 : (X5).heap[(w5).heap.size]? = some (.cells (setC y) 47 (0, 0)) := by rw [← hX]; exact blk_store (blk_store (blk_store (blk_store hz3 0 _) 1 _) 2 _) 3 _
                  have HBX := Lib.hid (show Below (w5).heap.size w5 X5 by rw [← hX]; exact (((HBW.out.setCell (Nat.le_refl _) _).setCell (Nat.le_refl _) _).setCell (Nat.le_refl _) _).setCell (Nat.le_refl _) _)
                  clear hX hz3 z0 z1 z2 z3 f0 f1 f2 f3 HBW
                  refine ⟨fun _ => ss2_below HBX.out hSS, ?_⟩
                  try simp only [List.setIfInBounds_toArray, List.set_cons_zero, List.set_cons_succ, List.getElem_toArray, List.getElem_cons_zero, List.getElem_cons_succ]
                  refine wpAnyE_one (i := 15) (by kernel_rfl) rfl ?_
                  change wpList _ _ (Exit.then _ _) [_] _ _
                  try simp only [List.setIfInBounds_toArray, List.set_cons_zero, List.set_cons_succ, List.getElem_toArray, List.getElem_cons_zero, List.getElem_cons_succ]
                  go_wp2_with fail
                  refine ⟨fun _ => ss2_below HBX.out hSS, ?_⟩
                  try simp only [List.setIfInBounds_toArray, List.set_cons_zero, List.set_cons_succ, List.getElem_toArray, List.getElem_cons_zero, List.getElem_cons_succ]
                  refine wpAnyE_one (i := 16) (by kernel_rfl) rfl ?_
                  change wpList _ _ (Exit.then _ _) [_] _ _
                  try simp only [List.setIfInBounds_toArray, List.set_cons_zero, List.set_cons_succ, List.getElem_toArray, List.getElem_cons_zero, List.getElem_cons_succ]
                  go_wp2_with fail
                  refine ⟨fun _ => ss2_below HBX.out hSS, ?_⟩
                  try simp only [List.setIfInBounds_toArray, List.set_cons_zero, List.set_cons_succ, List.getElem_toArray, List.getElem_cons_zero, List.getElem_cons_succ]
                  refine wpAnyE_end (by kernel_rfl) ?_
                  have HGD := Lib.hid (HGD.out.below HBX.out)
                  have HRT := Lib.hid (HRT.out.below HBX.out)
                  have HRF := Lib.hid (HRF.out.below HBX.out)
                  (try have HA := Lib.hid (blk_below' HBX.out HA.out))
                  clear hSS HBX
                  obtain ⟨gb, hgb⟩ : ∃ q, q = (w5).heap.size := ⟨_, rfl⟩
                  rw [← hgb] at hz5
                  (try rw [← hgb])
                  clear hgb
                  have HB := Lib.hid hz5
                  clear hz5
                  obtain ⟨gl', egl, _, d0, d1, d2⟩ := HGD.out.lcells hL hp
                  obtain rfl : gl = gl' := by injection egl with egl; injection egl
                  clear egl
                  obtain ⟨pt, pe, hpv⟩ : ∃ pt pe, prV (sgs o) y = (pt, pe) := ⟨_, _, rfl⟩
                  have HPV := Lib.hid hpv
                  have HYL : Hid (y < 2 ^ 128) := by
                    have := parV_lt (s := q) HSG.out.1
                    rw [HY.out] at this
                    exact Nat.lt_of_lt_of_le this (Nat.pow_le_pow_right (by decide) (by decide))
                  clear hpv
                  go_upto_region 19 with fail
                  refine wp_region_early (fun w' => (w'.cell? ⟨gl, k * 3, none⟩ = some (.string t) ∧ w'.cell? ⟨gl, k * 3 + 1, none⟩ = some (.slice sa (sgs o).length sc) ∧ w'.cell? ⟨gl, k * 3 + 2, none⟩ = some (.map m)) ∧ (w'.cell? ⟨ga, 0, none⟩ = some (.int .u32 (sw y 0 : Nat)) ∧ w'.cell? ⟨ga, 1, none⟩ = some (.int .u32 (sw y 1 : Nat)) ∧ w'.cell? ⟨ga, 2, none⟩ = some (.int .u32 (sw y 2 : Nat)) ∧ w'.cell? ⟨ga, 3, none⟩ = some (.int .u32 (sw y 3 : Nat)))) (fun _ => false) (by kernel_rfl) ?_
                  simp only [List.size_toArray, List.length_cons, List.length_nil, Nat.reduceAdd, Array.replicate_succ, Array.replicate_zero, List.push_toArray, List.nil_append, List.cons_append]
                  have hdr : Below (X5).heap.size X5 (X5).drew := (Below.refl _ _).drew
                  have hSS := s19_below hdr ⟨⟨d0, d1, d2⟩, setC4 HA.out⟩
                  have HA := Lib.hid (blk_below' hdr HA.out)
                  have HB := Lib.hid (blk_below' hdr HB.out)
                  have HGD := Lib.hid (HGD.out.below hdr)
                  have HRT := Lib.hid (HRT.out.below hdr)
                  have HRF := Lib.hid (HRF.out.below hdr)
                  clear hdr
                  clear d0 d1 d2
                  generalize World.drew X5 = Y6 at *
                  refine wpAnyE_take (i := 0) (v := ?_) rfl (by kernel_rfl) (by kernel_rfl) (by kernel_rfl) (by kernel_rfl) (fun _ _ _ h => h) (Or.inl ⟨by rfl, ?_⟩) hSS ?_
                  rotate_left
                  · intro w hSw
                    obtain ⟨⟨j0, j1, j2⟩, j3, j4, j5, j6⟩ := hSw
                    go_simp
                    all_goals with_reducible rfl
                  simp only [Act.put, List.setIfInBounds_toArray, List.set_cons_zero, List.set_cons_succ, List.getElem_toArray, List.getElem_cons_zero, List.getElem_cons_succ]
                  refine wpAnyE_take (i := 1) (v := ?_) rfl (by kernel_rfl) (by kernel_rfl) (by kernel_rfl) (by kernel_rfl) (fun _ _ _ h => h) (Or.inl ⟨by rfl, ?_⟩) hSS ?_
                  rotate_left
                  · intro w hSw
                    obtain ⟨⟨j0, j1, j2⟩, j3, j4, j5, j6⟩ := hSw
                    go_simp
                    all_goals with_reducible rfl
                  simp only [Act.put, List.setIfInBounds_toArray, List.set_cons_zero, List.set_cons_succ, List.getElem_toArray, List.getElem_cons_zero, List.getElem_cons_succ]
                  refine wpAnyE_take (i := 2) (v := ?_) rfl (by kernel_rfl) (by kernel_rfl) (by kernel_rfl) (by kernel_rfl) (fun _ _ _ h => h) (Or.inl ⟨by rfl, ?_⟩) hSS ?_
                  rotate_left
                  · intro w hSw
                    obtain ⟨⟨j0, j1, j2⟩, j3, j4, j5, j6⟩ := hSw
                    go_simp
                    all_goals with_reducible rfl
                  simp only [Act.put, List.setIfInBounds_toArray, List.set_cons_zero, List.set_cons_succ, List.getElem_toArray, List.getElem_cons_zero, List.getElem_cons_succ]
                  refine wpAnyE_take (i := 3) (v := ?_) rfl (by kernel_rfl) (by kernel_rfl) (by kernel_rfl) (by kernel_rfl) (fun _ _ _ h => h) (Or.inl ⟨by rfl, ?_⟩) hSS ?_
                  rotate_left
                  · intro w hSw
                    obtain ⟨⟨j0, j1, j2⟩, j3, j4, j5, j6⟩ := hSw
                    go_simp
                    all_goals with_reducible rfl
                  simp only [Act.put, List.setIfInBounds_toArray, List.set_cons_zero, List.set_cons_succ, List.getElem_toArray, List.getElem_cons_zero, List.getElem_cons_succ]
                  refine wpAnyE_take (i := 4) (v := ?_) rfl (by kernel_rfl) (by kernel_rfl) (by kernel_rfl) (by kernel_rfl) (fun _ _ _ h => h) (Or.inl ⟨by rfl, ?_⟩) hSS ?_
                  rotate_left
                  · intro w hSw
                    obtain ⟨⟨j0, j1, j2⟩, j3, j4, j5, j6⟩ := hSw
                    go_simp
                    all_goals with_reducible rfl
                  simp only [Act.put, List.setIfInBounds_toArray, List.set_cons_zero, List.set_cons_succ, List.getElem_toArray, List.getElem_cons_zero, List.getElem_cons_succ]
                  refine wpAnyE_one (i := 5) (by kernel_rfl) rfl ?_
                  change wpList _ _ (Exit.then _ _) [_] _ _
                  try simp only [List.setIfInBounds_toArray, List.set_cons_zero, List.set_cons_succ, List.getElem_toArray, List.getElem_cons_zero, List.getElem_cons_succ]
                  go_wp2_with (go_at_call 23; refine (print_is _ _ _ _ _ _ y _ HYL.out HSG.out.1 HSG.out.2.1 HRT.out HPV.out).mono ?_; rintro e w7 ⟨rfl, hB7⟩)
                  have hSS := s19_below hB7 hSS
                  have HA := Lib.hid (blk_below' hB7 HA.out)
                  have HB := Lib.hid (blk_below' hB7 HB.out)
                  have HGD := Lib.hid (HGD.out.below hB7)
                  have HRT := Lib.hid (HRT.out.below hB7)
                  have HRF := Lib.hid (HRF.out.below hB7)
                  clear hB7
                  refine ⟨fun _ => hSS, ?_⟩
                  try simp only [List.setIfInBounds_toArray, List.set_cons_zero, List.set_cons_succ, List.getElem_toArray, List.getElem_cons_zero, List.getElem_cons_succ]
                  refine wpAnyE_take (i := 6) (v := ?_) rfl (by kernel_rfl) (by kernel_rfl) (by kernel_rfl) (by kernel_rfl) (fun _ _ _ h => h) (Or.inl ⟨by rfl, ?_⟩) hSS ?_
                  rotate_left
                  · intro w hSw
                    obtain ⟨⟨j0, j1, j2⟩, j3, j4, j5, j6⟩ := hSw
                    go_simp
                    all_goals with_reducible rfl
                  simp only [Act.put, List.setIfInBounds_toArray, List.set_cons_zero, List.set_cons_succ, List.getElem_toArray, List.getElem_cons_zero, List.getElem_cons_succ]
                  refine wpAnyE_take (i := 7) (v := ?_) rfl (by kernel_rfl) (by kernel_rfl) (by kernel_rfl) (by kernel_rfl) (fun _ _ _ h => h) (Or.inl ⟨by rfl, ?_⟩) hSS ?_
                  rotate_left
                  · intro w hSw
                    obtain ⟨⟨j0, j1, j2⟩, j3, j4, j5, j6⟩ := hSw
                    go_simp
                    all_goals with_reducible rfl
                  simp only [Act.put, List.setIfInBounds_toArray, List.set_cons_zero, List.set_cons_succ, List.getElem_toArray, List.getElem_cons_zero, List.getElem_cons_succ]
                  refine wpAnyE_take (i := 8) (v := ?_) rfl (by kernel_rfl) (by kernel_rfl) (by kernel_rfl) (by kernel_rfl) (fun _ _ _ h => h) (Or.inl ⟨by rfl, ?_⟩) hSS ?_
                  rotate_left
                  · intro w hSw
                    obtain ⟨⟨j0, j1, j2⟩, j3, j4, j5, j6⟩ := hSw
                    go_simp
                    all_goals with_reducible rfl
                  simp only [Act.put, List.setIfInBounds_toArray, List.set_cons_zero, List.set_cons_succ, List.getElem_toArray, List.getElem_cons_zero, List.getElem_cons_succ]
                  refine wpAnyE_one (i := 9) (by kernel_rfl) rfl ?_
                  change wpList _ _ (Exit.then _ _) [_] _ _
                  try simp only [List.setIfInBounds_toArray, List.set_cons_zero, List.set_cons_succ, List.getElem_toArray, List.getElem_cons_zero, List.getElem_cons_succ]
                  go_wp2_with fail
                  refine ⟨fun _ => hSS, ?_⟩
                  try simp only [List.setIfInBounds_toArray, List.set_cons_zero, List.set_cons_succ, List.getElem_toArray, List.getElem_cons_zero, List.getElem_cons_succ]
                  refine wpAnyE_one (i := 10) (by kernel_rfl) rfl ?_
                  change wpList _ _ (Exit.then _ _) [_] _ _
                  try simp only [List.setIfInBounds_toArray, List.set_cons_zero, List.set_cons_succ, List.getElem_toArray, List.getElem_cons_zero, List.getElem_cons_succ]
                  go_wp2_with fail
                  refine ⟨fun _ => hSS, ?_⟩
                  try simp only [List.setIfInBounds_toArray, List.set_cons_zero, List.set_cons_succ, List.getElem_toArray, List.getElem_cons_zero, List.getElem_cons_succ]
                  refine wpAnyE_end (by kernel_rfl) ?_
                  clear hSS
                  obtain ⟨gm', egm, _, d3⟩ := HGD.out.mcells hL hp
                  obtain rfl : gm = gm' := by injection egm with egm; injection egm
                  clear egm
                  go_upto_region 20 with fail
                  refine wp_region_early (fun w' => w'.cell? ⟨gm, k, none⟩ = some (.slice ua (sgs o).length uc) ∧ (w'.cell? ⟨gb, 0, none⟩ = some (.int .u32 (sw y 0 : Nat)) ∧ w'.cell? ⟨gb, 1, none⟩ = some (.int .u32 (sw y 1 : Nat)) ∧ w'.cell? ⟨gb, 2, none⟩ = some (.int .u32 (sw y 2 : Nat)) ∧ w'.cell? ⟨gb, 3, none⟩ = some (.int .u32 (sw y 3 : Nat)))) (fun _ => false) (by kernel_rfl) ?_
                  simp only [List.size_toArray, List.length_cons, List.length_nil, Nat.reduceAdd, Array.replicate_succ, Array.replicate_zero, List.push_toArray, List.nil_append, List.cons_append]
                  have hdr : Below w7.heap.size w7 w7.drew := (Below.refl _ _).drew
                  have hSS := s20_below hdr ⟨d3, setC4 HB.out⟩
                  have HA := Lib.hid (blk_below' hdr HA.out)
                  have HB := Lib.hid (blk_below' hdr HB.out)
                  have HGD := Lib.hid (HGD.out.below hdr)
                  have HRT := Lib.hid (HRT.out.below hdr)
                  have HRF := Lib.hid (HRF.out.below hdr)
                  clear hdr
                  clear d3
                  generalize World.drew w7 = Y8 at *
                  refine wpAnyE_take (i := 0) (v := ?_) rfl (by kernel_rfl) (by kernel_rfl) (by kernel_rfl) (by kernel_rfl) (fun _ _ _ h => h) (Or.inl ⟨by rfl, ?_⟩) hSS ?_
                  rotate_left
                  · intro w hSw
                    obtain ⟨j2, j3, j4, j5, j6⟩ := hSw
                    go_simp
                    all_goals with_reducible rfl
                  simp only [Act.put, List.setIfInBounds_toArray, List.set_cons_zero, List.set_cons_succ, List.getElem_toArray, List.getElem_cons_zero, List.getElem_cons_succ]
                  refine wpAnyE_take (i := 1) (v := ?_) rfl (by kernel_rfl) (by kernel_rfl) (by kernel_rfl) (by kernel_rfl) (fun _ _ _ h => h) (Or.inl ⟨by rfl, ?_⟩) hSS ?_
                  rotate_left
                  · intro w hSw
                    obtain ⟨j2, j3, j4, j5, j6⟩ := hSw
                    go_simp
                    all_goals with_reducible rfl
                  simp only [Act.put, List.setIfInBounds_toArray, List.set_cons_zero, List.set_cons_succ, List.getElem_toArray, List.getElem_cons_zero, List.getElem_cons_succ]
                  refine wpAnyE_take (i := 2) (v := ?_) rfl (by kernel_rfl) (by kernel_rfl) (by kernel_rfl) (by kernel_rfl) (fun _ _ _ h => h) (Or.inl ⟨by rfl, ?_⟩) hSS ?_
                  rotate_left
                  · intro w hSw
                    obtain ⟨j2, j3, j4, j5, j6⟩ := hSw
                    go_simp
                    all_goals with_reducible rfl
                  simp only [Act.put, List.setIfInBounds_toArray, List.set_cons_zero, List.set_cons_succ, List.getElem_toArray, List.getElem_cons_zero, List.getElem_cons_succ]
                  refine wpAnyE_take (i := 3) (v := ?_) rfl (by kernel_rfl) (by kernel_rfl) (by kernel_rfl) (by kernel_rfl) (fun _ _ _ h => h) (Or.inl ⟨by rfl, ?_⟩) hSS ?_
                  rotate_left
                  · intro w hSw
                    obtain ⟨j2, j3, j4, j5, j6⟩ := hSw
                    go_simp
                    all_goals with_reducible rfl
                  simp only [Act.put, List.setIfInBounds_toArray, List.set_cons_zero, List.set_cons_succ, List.getElem_toArray, List.getElem_cons_zero, List.getElem_cons_succ]
                  refine wpAnyE_take (i := 4) (v := ?_) rfl (by kernel_rfl) (by kernel_rfl) (by kernel_rfl) (by kernel_rfl) (fun _ _ _ h => h) (Or.inl ⟨by rfl, ?_⟩) hSS ?_
                  rotate_left
                  · intro w hSw
                    obtain ⟨j2, j3, j4, j5, j6⟩ := hSw
                    go_simp
                    all_goals with_reducible rfl
                  simp only [Act.put, List.setIfInBounds_toArray, List.set_cons_zero, List.set_cons_succ, List.getElem_toArray, List.getElem_cons_zero, List.getElem_cons_succ]
                  refine wpAnyE_one (i := 5) (by kernel_rfl) rfl ?_
                  change wpList _ _ (Exit.then _ _) [_] _ _
                  try simp only [List.setIfInBounds_toArray, List.set_cons_zero, List.set_cons_succ, List.getElem_toArray, List.getElem_cons_zero, List.getElem_cons_succ]
                  go_wp2_with (go_at_call 24; refine (refPrint_is _ _ _ _ y _ HYL.out HSG.out.1 HSG.out.2.1 HRF.out HPV.out).mono ?_; rintro e w9' ⟨rfl, hB9'⟩)
                  have hSS := s20_below hB9' hSS
                  have HA := Lib.hid (blk_below' hB9' HA.out)
                  have HB := Lib.hid (blk_below' hB9' HB.out)
                  have HGD := Lib.hid (HGD.out.below hB9')
                  have HRT := Lib.hid (HRT.out.below hB9')
                  have HRF := Lib.hid (HRF.out.below hB9')
                  clear hB9'
                  refine ⟨fun _ => hSS, ?_⟩
                  try simp only [List.setIfInBounds_toArray, List.set_cons_zero, List.set_cons_succ, List.getElem_toArray, List.getElem_cons_zero, List.getElem_cons_succ]
                  refine wpAnyE_take (i := 6) (v := ?_) rfl (by kernel_rfl) (by kernel_rfl) (by kernel_rfl) (by kernel_rfl) (fun _ _ _ h => h) (Or.inl ⟨by rfl, ?_⟩) hSS ?_
                  rotate_left
                  · intro w hSw
                    obtain ⟨j2, j3, j4, j5, j6⟩ := hSw
                    go_simp
                    all_goals with_reducible rfl
                  simp only [Act.put, List.setIfInBounds_toArray, List.set_cons_zero, List.set_cons_succ, List.getElem_toArray, List.getElem_cons_zero, List.getElem_cons_succ]
                  refine wpAnyE_take (i := 7) (v := ?_) rfl (by kernel_rfl) (by kernel_rfl) (by kernel_rfl) (by kernel_rfl) (fun _ _ _ h => h) (Or.inl ⟨by rfl, ?_⟩) hSS ?_
                  rotate_left
                  · intro w hSw
                    obtain ⟨j2, j3, j4, j5, j6⟩ := hSw
                    go_simp
                    all_goals with_reducible rfl
                  simp only [Act.put, List.setIfInBounds_toArray, List.set_cons_zero, List.set_cons_succ, List.getElem_toArray, List.getElem_cons_zero, List.getElem_cons_succ]
                  refine wpAnyE_take (i := 8) (v := ?_) rfl (by kernel_rfl) (by kernel_rfl) (by kernel_rfl) (by kernel_rfl) (fun _ _ _ h => h) (Or.inl ⟨by rfl, ?_⟩) hSS ?_
                  rotate_left
                  · intro w hSw
                    obtain ⟨j2, j3, j4, j5, j6⟩ := hSw
                    go_simp
                    all_goals with_reducible rfl
                  simp only [Act.put, List.setIfInBounds_toArray, List.set_cons_zero, List.set_cons_succ, List.getElem_toArray, List.getElem_cons_zero, List.getElem_cons_succ]
                  refine wpAnyE_one (i := 9) (by kernel_rfl) rfl ?_
                  change wpList _ _ (Exit.then _ _) [_] _ _
                  try simp only [List.setIfInBounds_toArray, List.set_cons_zero, List.set_cons_succ, List.getElem_toArray, List.getElem_cons_zero, List.getElem_cons_succ]
                  go_wp2_with fail
                  refine ⟨fun _ => hSS, ?_⟩
                  try simp only [List.setIfInBounds_toArray, List.set_cons_zero, List.set_cons_succ, List.getElem_toArray, List.getElem_cons_zero, List.getElem_cons_succ]
                  refine wpAnyE_one (i := 10) (by kernel_rfl) rfl ?_
                  change wpList _ _ (Exit.then _ _) [_] _ _
                  try simp only [List.setIfInBounds_toArray, List.set_cons_zero, List.set_cons_succ, List.getElem_toArray, List.getElem_cons_zero, List.getElem_cons_succ]
                  go_wp2_with fail
                  refine ⟨fun _ => hSS, ?_⟩
                  try simp only [List.setIfInBounds_toArray, List.set_cons_zero, List.set_cons_succ, List.getElem_toArray, List.getElem_cons_zero, List.getElem_cons_succ]
                  refine wpAnyE_end (by kernel_rfl) ?_
                  clear hSS
                  have heq : ∀ w, (Op.equalIn 10000 47 (.agg #[.int .u32 (sw y 0 : Nat), .int .u32 (sw y 1 : Nat), .int .u32 (sw y 2 : Nat), .int .u32 (sw y 3 : Nat)]) (.agg #[.int .u32 (sw y 0 : Nat), .int .u32 (sw y 1 : Nat), .int .u32 (sw y 2 : Nat), .int .u32 (sw y 3 : Nat)])).run Try.prog w = .ok true w := fun w => by
                    rw [eq_words]; simp
                  go_upto_region 21 with fail
                  obtain ⟨gl', egl, _, d0, d1, d2⟩ := HGD.out.lcells hL hp
                  obtain rfl : gl = gl' := by injection egl with egl; injection egl
                  clear egl
                  obtain ⟨gm', egm, _, d3⟩ := HGD.out.mcells hL hp
                  obtain rfl : gm = gm' := by injection egm with egm; injection egm
                  clear egm
                  refine wp_region_early (fun w' => ((w'.cell? ⟨gl, k * 3, none⟩ = some (.string t) ∧ w'.cell? ⟨gl, k * 3 + 1, none⟩ = some (.slice sa (sgs o).length sc) ∧ w'.cell? ⟨gl, k * 3 + 2, none⟩ = some (.map m)) ∧ w'.cell? ⟨gm, k, none⟩ = some (.slice ua (sgs o).length uc)) ∧ (w'.cell? ⟨ga, 0, none⟩ = some (.int .u32 (sw y 0 : Nat)) ∧ w'.cell? ⟨ga, 1, none⟩ = some (.int .u32 (sw y 1 : Nat)) ∧ w'.cell? ⟨ga, 2, none⟩ = some (.int .u32 (sw y 2 : Nat)) ∧ w'.cell? ⟨ga, 3, none⟩ = some (.int .u32 (sw y 3 : Nat))) ∧ (w'.cell? ⟨gb, 0, none⟩ = some (.int .u32 (sw y 0 : Nat)) ∧ w'.cell? ⟨gb, 1, none⟩ = some (.int .u32 (sw y 1 : Nat)) ∧ w'.cell? ⟨gb, 2, none⟩ = some (.int .u32 (sw y 2 : Nat)) ∧ w'.cell? ⟨gb, 3, none⟩ = some (.int .u32 (sw y 3 : Nat)))) (fun _ => false) (by kernel_rfl) ?_
                  simp only [List.size_toArray, List.length_cons, List.length_nil, Nat.reduceAdd, Array.replicate_succ, Array.replicate_zero, List.push_toArray, List.nil_append, List.cons_append]
                  have hdr : Below w9'.heap.size w9' w9'.drew := (Below.refl _ _).drew
                  have hSS := s21_below hdr ⟨⟨⟨d0, d1, d2⟩, d3⟩, setC4 HA.out, setC4 HB.out⟩
                  have HA := Lib.hid (blk_below' hdr HA.out)
                  have HB := Lib.hid (blk_below' hdr HB.out)
                  have HGD := Lib.hid (HGD.out.below hdr)
                  have HRT := Lib.hid (HRT.out.below hdr)
                  have HRF := Lib.hid (HRF.out.below hdr)
                  clear hdr
                  clear d0 d1 d2 d3
                  generalize World.drew w9' = Y10 at *
                  refine wpAnyE_take (i := 0) (v := ?_) rfl (by kernel_rfl) (by kernel_rfl) (by kernel_rfl) (by kernel_rfl) (fun _ _ _ h => h) (Or.inl ⟨by rfl, ?_⟩) hSS ?_
                  rotate_left
                  · intro w hSw
                    obtain ⟨⟨⟨j0, j1, j2⟩, j3⟩, ⟨j4, j5, j6, j7⟩, j8, j9, j10, j11⟩ := hSw
                    go_simp
                    all_goals with_reducible rfl
                  simp only [Act.put, List.setIfInBounds_toArray, List.set_cons_zero, List.set_cons_succ, List.getElem_toArray, List.getElem_cons_zero, List.getElem_cons_succ]
                  refine wpAnyE_take (i := 1) (v := ?_) rfl (by kernel_rfl) (by kernel_rfl) (by kernel_rfl) (by kernel_rfl) (fun _ _ _ h => h) (Or.inl ⟨by rfl, ?_⟩) hSS ?_
                  rotate_left
                  · intro w hSw
                    obtain ⟨⟨⟨j0, j1, j2⟩, j3⟩, ⟨j4, j5, j6, j7⟩, j8, j9, j10, j11⟩ := hSw
                    go_simp
                    all_goals with_reducible rfl
                  simp only [Act.put, List.setIfInBounds_toArray, List.set_cons_zero, List.set_cons_succ, List.getElem_toArray, List.getElem_cons_zero, List.getElem_cons_succ]
                  refine wpAnyE_take (i := 2) (v := ?_) rfl (by kernel_rfl) (by kernel_rfl) (by kernel_rfl) (by kernel_rfl) (fun _ _ _ h => h) (Or.inl ⟨by rfl, ?_⟩) hSS ?_
                  rotate_left
                  · intro w hSw
                    obtain ⟨⟨⟨j0, j1, j2⟩, j3⟩, ⟨j4, j5, j6, j7⟩, j8, j9, j10, j11⟩ := hSw
                    go_simp
                    all_goals with_reducible rfl
                  simp only [Act.put, List.setIfInBounds_toArray, List.set_cons_zero, List.set_cons_succ, List.getElem_toArray, List.getElem_cons_zero, List.getElem_cons_succ]
                  refine wpAnyE_take (i := 3) (v := ?_) rfl (by kernel_rfl) (by kernel_rfl) (by kernel_rfl) (by kernel_rfl) (fun _ _ _ h => h) (Or.inl ⟨by rfl, ?_⟩) hSS ?_
                  rotate_left
                  · intro w hSw
                    obtain ⟨⟨⟨j0, j1, j2⟩, j3⟩, ⟨j4, j5, j6, j7⟩, j8, j9, j10, j11⟩ := hSw
                    go_simp
                    all_goals with_reducible rfl
                  simp only [Act.put, List.setIfInBounds_toArray, List.set_cons_zero, List.set_cons_succ, List.getElem_toArray, List.getElem_cons_zero, List.getElem_cons_succ]
                  refine wpAnyE_take (i := 4) (v := ?_) rfl (by kernel_rfl) (by kernel_rfl) (by kernel_rfl) (by kernel_rfl) (fun _ _ _ h => h) (Or.inl ⟨by rfl, ?_⟩) hSS ?_
                  rotate_left
                  · intro w hSw
                    obtain ⟨⟨⟨j0, j1, j2⟩, j3⟩, ⟨j4, j5, j6, j7⟩, j8, j9, j10, j11⟩ := hSw
                    go_simp
                    all_goals with_reducible rfl
                  simp only [Act.put, List.setIfInBounds_toArray, List.set_cons_zero, List.set_cons_succ, List.getElem_toArray, List.getElem_cons_zero, List.getElem_cons_succ]
                  refine wpAnyE_take (i := 5) (v := ?_) rfl (by kernel_rfl) (by kernel_rfl) (by kernel_rfl) (by kernel_rfl) (fun _ _ _ h => h) (Or.inl ⟨by rfl, ?_⟩) hSS ?_
                  rotate_left
                  · intro w hSw
                    obtain ⟨⟨⟨j0, j1, j2⟩, j3⟩, ⟨j4, j5, j6, j7⟩, j8, j9, j10, j11⟩ := hSw
                    go_simp
                    all_goals with_reducible rfl
                  simp only [Act.put, List.setIfInBounds_toArray, List.set_cons_zero, List.set_cons_succ, List.getElem_toArray, List.getElem_cons_zero, List.getElem_cons_succ]
                  refine wpAnyE_take (i := 6) (v := ?_) rfl (by kernel_rfl) (by kernel_rfl) (by kernel_rfl) (by kernel_rfl) (fun _ _ _ h => h) (Or.inl ⟨by rfl, ?_⟩) hSS ?_
                  rotate_left
                  · intro w hSw
                    obtain ⟨⟨⟨j0, j1, j2⟩, j3⟩, ⟨j4, j5, j6, j7⟩, j8, j9, j10, j11⟩ := hSw
                    go_simp
                    all_goals with_reducible rfl
                  simp only [Act.put, List.setIfInBounds_toArray, List.set_cons_zero, List.set_cons_succ, List.getElem_toArray, List.getElem_cons_zero, List.getElem_cons_succ]
                  refine wpAnyE_take (i := 7) (v := ?_) rfl (by kernel_rfl) (by kernel_rfl) (by kernel_rfl) (by kernel_rfl) (fun _ _ _ h => h) (Or.inl ⟨by rfl, ?_⟩) hSS ?_
                  rotate_left
                  · intro w hSw
                    obtain ⟨⟨⟨j0, j1, j2⟩, j3⟩, ⟨j4, j5, j6, j7⟩, j8, j9, j10, j11⟩ := hSw
                    go_simp
                    all_goals with_reducible rfl
                  simp only [Act.put, List.setIfInBounds_toArray, List.set_cons_zero, List.set_cons_succ, List.getElem_toArray, List.getElem_cons_zero, List.getElem_cons_succ]
                  refine wpAnyE_take (i := 8) (v := ?_) rfl (by kernel_rfl) (by kernel_rfl) (by kernel_rfl) (by kernel_rfl) (fun _ _ _ h => h) (Or.inl ⟨by rfl, ?_⟩) hSS ?_
                  rotate_left
                  · intro w hSw
                    obtain ⟨⟨⟨j0, j1, j2⟩, j3⟩, ⟨j4, j5, j6, j7⟩, j8, j9, j10, j11⟩ := hSw
                    go_simp
                    all_goals with_reducible rfl
                  simp only [Act.put, List.setIfInBounds_toArray, List.set_cons_zero, List.set_cons_succ, List.getElem_toArray, List.getElem_cons_zero, List.getElem_cons_succ]
                  refine wpAnyE_take (i := 9) (v := ?_) rfl (by kernel_rfl) (by kernel_rfl) (by kernel_rfl) (by kernel_rfl) (fun _ _ _ h => h) (Or.inl ⟨by rfl, ?_⟩) hSS ?_
                  rotate_left
                  · intro w hSw
                    obtain ⟨⟨⟨j0, j1, j2⟩, j3⟩, ⟨j4, j5, j6, j7⟩, j8, j9, j10, j11⟩ := hSw
                    go_simp
                    all_goals with_reducible rfl
                  simp only [Act.put, List.setIfInBounds_toArray, List.set_cons_zero, List.set_cons_succ, List.getElem_toArray, List.getElem_cons_zero, List.getElem_cons_succ]
                  refine wpAnyE_take (i := 10) (v := ?_) rfl (by kernel_rfl) (by kernel_rfl) (by kernel_rfl) (by kernel_rfl) (fun _ _ _ h => h) (Or.inl ⟨by rfl, ?_⟩) hSS ?_
                  rotate_left
                  · intro w hSw
                    obtain ⟨⟨⟨j0, j1, j2⟩, j3⟩, ⟨j4, j5, j6, j7⟩, j8, j9, j10, j11⟩ := hSw
                    go_simp
                    all_goals with_reducible rfl
                  simp only [Act.put, List.setIfInBounds_toArray, List.set_cons_zero, List.set_cons_succ, List.getElem_toArray, List.getElem_cons_zero, List.getElem_cons_succ]
                  refine wpAnyE_take (i := 11) (v := ?_) rfl (by kernel_rfl) (by kernel_rfl) (by kernel_rfl) (by kernel_rfl) (fun _ _ _ h => h) (Or.inl ⟨by rfl, ?_⟩) hSS ?_
                  rotate_left
                  · intro w hSw
                    obtain ⟨⟨⟨j0, j1, j2⟩, j3⟩, ⟨j4, j5, j6, j7⟩, j8, j9, j10, j11⟩ := hSw
                    go_simp
                    all_goals with_reducible rfl
                  simp only [Act.put, List.setIfInBounds_toArray, List.set_cons_zero, List.set_cons_succ, List.getElem_toArray, List.getElem_cons_zero, List.getElem_cons_succ]
                  refine wpAnyE_take (i := 12) (v := ?_) rfl (by kernel_rfl) (by kernel_rfl) (by kernel_rfl) (by kernel_rfl) (fun _ _ _ h => h) (Or.inl ⟨by rfl, ?_⟩) hSS ?_
                  rotate_left
                  · intro w hSw
                    obtain ⟨⟨⟨j0, j1, j2⟩, j3⟩, ⟨j4, j5, j6, j7⟩, j8, j9, j10, j11⟩ := hSw
                    go_simp
                    all_goals with_reducible rfl
                  simp only [Act.put, List.setIfInBounds_toArray, List.set_cons_zero, List.set_cons_succ, List.getElem_toArray, List.getElem_cons_zero, List.getElem_cons_succ]
                  refine wpAnyE_take (i := 13) (v := ?_) rfl (by kernel_rfl) (by kernel_rfl) (by kernel_rfl) (by kernel_rfl) (fun _ _ _ h => h) (Or.inl ⟨by rfl, ?_⟩) hSS ?_
                  rotate_left
                  · intro w hSw
                    obtain ⟨⟨⟨j0, j1, j2⟩, j3⟩, ⟨j4, j5, j6, j7⟩, j8, j9, j10, j11⟩ := hSw
                    go_simp
                    all_goals with_reducible rfl
                  simp only [Act.put, List.setIfInBounds_toArray, List.set_cons_zero, List.set_cons_succ, List.getElem_toArray, List.getElem_cons_zero, List.getElem_cons_succ]
                  refine wpAnyE_take (i := 14) (v := ?_) rfl (by kernel_rfl) (by kernel_rfl) (by kernel_rfl) (by kernel_rfl) (fun _ _ _ h => h) (Or.inl ⟨by rfl, ?_⟩) hSS ?_
                  rotate_left
                  · intro w hSw
                    obtain ⟨⟨⟨j0, j1, j2⟩, j3⟩, ⟨j4, j5, j6, j7⟩, j8, j9, j10, j11⟩ := hSw
                    go_simp
                    all_goals with_reducible rfl
                  simp only [Act.put, List.setIfInBounds_toArray, List.set_cons_zero, List.set_cons_succ, List.getElem_toArray, List.getElem_cons_zero, List.getElem_cons_succ]
                  refine wpAnyE_take (i := 15) (v := ?_) rfl (by kernel_rfl) (by kernel_rfl) (by kernel_rfl) (by kernel_rfl) (fun _ _ _ h => h) (Or.inl ⟨by rfl, ?_⟩) hSS ?_
                  rotate_left
                  · intro w hSw
                    obtain ⟨⟨⟨j0, j1, j2⟩, j3⟩, ⟨j4, j5, j6, j7⟩, j8, j9, j10, j11⟩ := hSw
                    go_simp
                    all_goals with_reducible rfl
                  simp only [Act.put, List.setIfInBounds_toArray, List.set_cons_zero, List.set_cons_succ, List.getElem_toArray, List.getElem_cons_zero, List.getElem_cons_succ]
                  refine wpAnyE_take (i := 16) (v := ?_) rfl (by kernel_rfl) (by kernel_rfl) (by kernel_rfl) (by kernel_rfl) (fun _ _ _ h => h) (Or.inl ⟨by rfl, ?_⟩) hSS ?_
                  rotate_left
                  · intro w hSw
                    obtain ⟨⟨⟨j0, j1, j2⟩, j3⟩, ⟨j4, j5, j6, j7⟩, j8, j9, j10, j11⟩ := hSw
                    go_simp
                    all_goals with_reducible rfl
                  simp only [Act.put, List.setIfInBounds_toArray, List.set_cons_zero, List.set_cons_succ, List.getElem_toArray, List.getElem_cons_zero, List.getElem_cons_succ]
                  refine wpAnyE_take (i := 17) (v := ?_) rfl (by kernel_rfl) (by kernel_rfl) (by kernel_rfl) (by kernel_rfl) (fun _ _ _ h => h) (Or.inl ⟨by rfl, ?_⟩) hSS ?_
                  rotate_left
                  · intro w hSw
                    obtain ⟨⟨⟨j0, j1, j2⟩, j3⟩, ⟨j4, j5, j6, j7⟩, j8, j9, j10, j11⟩ := hSw
                    go_simp
                    all_goals with_reducible rfl
                  simp only [Act.put, List.setIfInBounds_toArray, List.set_cons_zero, List.set_cons_succ, List.getElem_toArray, List.getElem_cons_zero, List.getElem_cons_succ]
                  refine wpAnyE_take (i := 18) (v := ?_) rfl (by kernel_rfl) (by kernel_rfl) (by kernel_rfl) (by kernel_rfl) (fun _ _ _ h => h) (Or.inl ⟨by rfl, ?_⟩) hSS ?_
                  rotate_left
                  · intro w hSw
                    obtain ⟨⟨⟨j0, j1, j2⟩, j3⟩, ⟨j4, j5, j6, j7⟩, j8, j9, j10, j11⟩ := hSw
                    go_simp
                    all_goals with_reducible rfl
                  simp only [Act.put, List.setIfInBounds_toArray, List.set_cons_zero, List.set_cons_succ, List.getElem_toArray, List.getElem_cons_zero, List.getElem_cons_succ]
                  refine wpAnyE_take (i := 19) (v := ?_) rfl (by kernel_rfl) (by kernel_rfl) (by kernel_rfl) (by kernel_rfl) (fun _ _ _ h => h) (Or.inl ⟨by rfl, ?_⟩) hSS ?_
                  rotate_left
                  · intro w hSw
                    obtain ⟨⟨⟨j0, j1, j2⟩, j3⟩, ⟨j4, j5, j6, j7⟩, j8, j9, j10, j11⟩ := hSw
                    go_simp
                    all_goals with_reducible rfl
                  simp only [Act.put, List.setIfInBounds_toArray, List.set_cons_zero, List.set_cons_succ, List.getElem_toArray, List.getElem_cons_zero, List.getElem_cons_succ]
                  refine wpAnyE_take (i := 20) (v := ?_) rfl (by kernel_rfl) (by kernel_rfl) (by kernel_rfl) (by kernel_rfl) (fun _ _ _ h => h) (Or.inl ⟨by rfl, ?_⟩) hSS ?_
                  rotate_left
                  · intro w hSw
                    obtain ⟨⟨⟨j0, j1, j2⟩, j3⟩, ⟨j4, j5, j6, j7⟩, j8, j9, j10, j11⟩ := hSw
                    go_simp
                    all_goals with_reducible rfl
                  simp only [Act.put, List.setIfInBounds_toArray, List.set_cons_zero, List.set_cons_succ, List.getElem_toArray, List.getElem_cons_zero, List.getElem_cons_succ]
                  refine wpAnyE_take (i := 21) (v := ?_) rfl (by kernel_rfl) (by kernel_rfl) (by kernel_rfl) (by kernel_rfl) (fun _ _ _ h => h) (Or.inl ⟨by rfl, ?_⟩) hSS ?_
                  rotate_left
                  · intro w hSw
                    obtain ⟨⟨⟨j0, j1, j2⟩, j3⟩, ⟨j4, j5, j6, j7⟩, j8, j9, j10, j11⟩ := hSw
                    go_simp
                    all_goals with_reducible rfl
                  simp only [Act.put, List.setIfInBounds_toArray, List.set_cons_zero, List.set_cons_succ, List.getElem_toArray, List.getElem_cons_zero, List.getElem_cons_succ]
                  refine wpAnyE_take (i := 22) (v := ?_) rfl (by kernel_rfl) (by kernel_rfl) (by kernel_rfl) (by kernel_rfl) (fun _ _ _ h => h) (Or.inl ⟨by rfl, ?_⟩) hSS ?_
                  rotate_left
                  · intro w hSw
                    obtain ⟨⟨⟨j0, j1, j2⟩, j3⟩, ⟨j4, j5, j6, j7⟩, j8, j9, j10, j11⟩ := hSw
                    go_simp
                    all_goals with_reducible rfl
                  simp only [Act.put, List.setIfInBounds_toArray, List.set_cons_zero, List.set_cons_succ, List.getElem_toArray, List.getElem_cons_zero, List.getElem_cons_succ]
                  refine wpAnyE_take (i := 24) (v := ?_) rfl (by kernel_rfl) (by kernel_rfl) (by kernel_rfl) (by kernel_rfl) (fun _ _ _ h => h) (Or.inl ⟨by rfl, ?_⟩) hSS ?_
                  rotate_left
                  · intro w hSw
                    obtain ⟨⟨⟨j0, j1, j2⟩, j3⟩, ⟨j4, j5, j6, j7⟩, j8, j9, j10, j11⟩ := hSw
                    go_simp
                    all_goals with_reducible rfl
                  simp only [Act.put, List.setIfInBounds_toArray, List.set_cons_zero, List.set_cons_succ, List.getElem_toArray, List.getElem_cons_zero, List.getElem_cons_succ]
                  refine wpAnyE_take (i := 25) (v := ?_) rfl (by kernel_rfl) (by kernel_rfl) (by kernel_rfl) (by kernel_rfl) (fun _ _ _ h => h) (Or.inl ⟨by rfl, ?_⟩) hSS ?_
                  rotate_left
                  · intro w hSw
                    obtain ⟨⟨⟨j0, j1, j2⟩, j3⟩, ⟨j4, j5, j6, j7⟩, j8, j9, j10, j11⟩ := hSw
                    go_simp
                    all_goals with_reducible rfl
                  simp only [Act.put, List.setIfInBounds_toArray, List.set_cons_zero, List.set_cons_succ, List.getElem_toArray, List.getElem_cons_zero, List.getElem_cons_succ]
                  refine wpAnyE_take (i := 26) (v := ?_) rfl (by kernel_rfl) (by kernel_rfl) (by kernel_rfl) (by kernel_rfl) (fun _ _ _ h => h) (Or.inl ⟨by rfl, ?_⟩) hSS ?_
                  rotate_left
                  · intro w hSw
                    obtain ⟨⟨⟨j0, j1, j2⟩, j3⟩, ⟨j4, j5, j6, j7⟩, j8, j9, j10, j11⟩ := hSw
                    go_simp
                    all_goals with_reducible rfl
                  simp only [Act.put, List.setIfInBounds_toArray, List.set_cons_zero, List.set_cons_succ, List.getElem_toArray, List.getElem_cons_zero, List.getElem_cons_succ]
                  refine wpAnyE_take (i := 27) (v := ?_) rfl (by kernel_rfl) (by kernel_rfl) (by kernel_rfl) (by kernel_rfl) (fun _ _ _ h => h) (Or.inl ⟨by rfl, ?_⟩) hSS ?_
                  rotate_left
                  · intro w hSw
                    obtain ⟨⟨⟨j0, j1, j2⟩, j3⟩, ⟨j4, j5, j6, j7⟩, j8, j9, j10, j11⟩ := hSw
                    go_simp
                    all_goals with_reducible rfl
                  simp only [Act.put, List.setIfInBounds_toArray, List.set_cons_zero, List.set_cons_succ, List.getElem_toArray, List.getElem_cons_zero, List.getElem_cons_succ]
                  refine wpAnyE_one (i := 23) (by kernel_rfl) rfl ?_
                  change wpList _ _ (Exit.then _ _) [_] _ _
                  try simp only [List.setIfInBounds_toArray, List.set_cons_zero, List.set_cons_succ, List.getElem_toArray, List.getElem_cons_zero, List.getElem_cons_succ]
                  go_wp2_with (go_at_call 16; refine (text_is _ _ _ _ HRT.out _ HTX.out).mono ?_; rintro e w11 ⟨rfl, hB11⟩)
                  have hSS := s21_below hB11 hSS
                  have HA := Lib.hid (blk_below' hB11 HA.out)
                  have HB := Lib.hid (blk_below' hB11 HB.out)
                  have HGD := Lib.hid (HGD.out.below hB11)
                  have HRT := Lib.hid (HRT.out.below hB11)
                  have HRF := Lib.hid (HRF.out.below hB11)
                  clear hB11
                  refine ⟨fun _ => hSS, ?_⟩
                  try simp only [List.setIfInBounds_toArray, List.set_cons_zero, List.set_cons_succ, List.getElem_toArray, List.getElem_cons_zero, List.getElem_cons_succ]
                  refine wpAnyE_one (i := 28) (by kernel_rfl) rfl ?_
                  change wpList _ _ (Exit.then _ _) [_] _ _
                  try simp only [List.setIfInBounds_toArray, List.set_cons_zero, List.set_cons_succ, List.getElem_toArray, List.getElem_cons_zero, List.getElem_cons_succ]
                  go_wp2_with (go_at_call 17; refine (refText_any _ _ _ _ HRF.out HSG.out.1 HSG.out.2.1).mono ?_; rintro e w12 ⟨rfl, hB12⟩)
                  have hSS := s21_below hB12 hSS
                  have HA := Lib.hid (blk_below' hB12 HA.out)
                  have HB := Lib.hid (blk_below' hB12 HB.out)
                  have HGD := Lib.hid (HGD.out.below hB12)
                  have HRT := Lib.hid (HRT.out.below hB12)
                  have HRF := Lib.hid (HRF.out.below hB12)
                  clear hB12
                  refine ⟨fun _ => hSS, ?_⟩
                  try simp only [List.setIfInBounds_toArray, List.set_cons_zero, List.set_cons_succ, List.getElem_toArray, List.getElem_cons_zero, List.getElem_cons_succ]
                  refine wpAnyE_take (i := 29) (v := ?_) rfl (by kernel_rfl) (by kernel_rfl) (by kernel_rfl) (by kernel_rfl) (fun _ _ _ h => h) (Or.inl ⟨by rfl, ?_⟩) hSS ?_
                  rotate_left
                  · intro w hSw
                    obtain ⟨⟨⟨j0, j1, j2⟩, j3⟩, ⟨j4, j5, j6, j7⟩, j8, j9, j10, j11⟩ := hSw
                    go_simp
                    all_goals with_reducible rfl
                  simp only [Act.put, List.setIfInBounds_toArray, List.set_cons_zero, List.set_cons_succ, List.getElem_toArray, List.getElem_cons_zero, List.getElem_cons_succ]
                  refine wpAnyE_take (i := 30) (v := ?_) rfl (by kernel_rfl) (by kernel_rfl) (by kernel_rfl) (by kernel_rfl) (fun _ _ _ h => h) (Or.inl ⟨by rfl, ?_⟩) hSS ?_
                  rotate_left
                  · intro w hSw
                    obtain ⟨⟨⟨j0, j1, j2⟩, j3⟩, ⟨j4, j5, j6, j7⟩, j8, j9, j10, j11⟩ := hSw
                    go_simp
                    all_goals with_reducible rfl
                  simp only [Act.put, List.setIfInBounds_toArray, List.set_cons_zero, List.set_cons_succ, List.getElem_toArray, List.getElem_cons_zero, List.getElem_cons_succ]
                  refine wpAnyE_end (by kernel_rfl) ?_
                  clear hSS
                  go_wp2_with fail
                  go_roundw
                  case rel => exact ⟨k + 1, by omega, by go_num, HGD⟩
                  case measure => simp [intOf]; omega
                · skip
                  change wpList _ _ (Exit.then _ _) [_] _ _
                  try simp only [List.setIfInBounds_toArray, List.set_cons_zero, List.set_cons_succ, List.getElem_toArray, List.getElem_cons_zero, List.getElem_cons_succ]
                  go_wp2_with fail
                  have HBW := Lib.hid ((Below.refl (Y4).heap.size Y4).alloc (Nat.le_refl _) (.cells #[.int .u32 0, .int .u32 0, .int .u32 0, .int .u32 0] 47))
                  have hz3 := blk_new Y4 (.cells #[.int .u32 0, .int .u32 0, .int .u32 0, .int .u32 0] 47)
                  generalize World.alloc Y4 _ = V5 at *
                  first | refine ⟨fun _ => ss2_below HBW.out hSS, ?_⟩ | refine ⟨ss2_below HBW.out hSS, ?_⟩
                  try simp only [List.setIfInBounds_toArray, List.set_cons_zero, List.set_cons_succ, List.getElem_toArray, List.getElem_cons_zero, List.getElem_cons_succ]
                  refine wpAnyE_one (i := 8) (by kernel_rfl) rfl ?_
                  change wpList _ _ (Exit.then _ _) [_] _ _
                  try simp only [List.setIfInBounds_toArray, List.set_cons_zero, List.set_cons_succ, List.getElem_toArray, List.getElem_cons_zero, List.getElem_cons_succ]
                  go_wp2_with (go_at_call 22; refine (refParse_any _ _ _ _ q _ HQZ.out HSG.out.1 HCL.out (HRF.out.below HBW.out)).mono ?_; rintro e w5 ⟨y', i', er', rfl, hy', hB5⟩)
                  obtain ⟨rfl, rfl, rfl⟩ : y = y' ∧ i = i' ∧ er = er' := by have := HY.out.symm.trans hy'; simpa using this
                  clear hy'
                  have hz3 := blk_below' hB5 hz3
                  have HBW := Lib.hid (below_then HBW.out hB5)
                  clear hB5
                  refine ⟨fun _ => ss2_below HBW.out hSS, ?_⟩
                  try simp only [List.setIfInBounds_toArray, List.set_cons_zero, List.set_cons_succ, List.getElem_toArray, List.getElem_cons_zero, List.getElem_cons_succ]
                  have hSS0 := hSS
                  clear hSS
                  have hSS := ss2_below HBW.out hSS0
                  refine wpAnyE_take (i := 9) (v := ?_) rfl (by kernel_rfl) (by kernel_rfl) (by kernel_rfl) (by kernel_rfl) (fun _ _ _ h => h) (Or.inl ⟨by rfl, ?_⟩) hSS ?_
                  rotate_left
                  · intro w hSw
                    obtain ⟨j0, j1⟩ := hSw
                    go_simp
                    all_goals with_reducible rfl
                  simp only [Act.put, List.setIfInBounds_toArray, List.set_cons_zero, List.set_cons_succ, List.getElem_toArray, List.getElem_cons_zero, List.getElem_cons_succ]
                  refine wpAnyE_take (i := 10) (v := ?_) rfl (by kernel_rfl) (by kernel_rfl) (by kernel_rfl) (by kernel_rfl) (fun _ _ _ h => h) (Or.inl ⟨by rfl, ?_⟩) hSS ?_
                  rotate_left
                  · intro w hSw
                    obtain ⟨j0, j1⟩ := hSw
                    go_simp
                    all_goals with_reducible rfl
                  simp only [Act.put, List.setIfInBounds_toArray, List.set_cons_zero, List.set_cons_succ, List.getElem_toArray, List.getElem_cons_zero, List.getElem_cons_succ]
                  refine wpAnyE_take (i := 11) (v := ?_) rfl (by kernel_rfl) (by kernel_rfl) (by kernel_rfl) (by kernel_rfl) (fun _ _ _ h => h) (Or.inl ⟨by rfl, ?_⟩) hSS ?_
                  rotate_left
                  · intro w hSw
                    obtain ⟨j0, j1⟩ := hSw
                    go_simp
                    all_goals with_reducible rfl
                  simp only [Act.put, List.setIfInBounds_toArray, List.set_cons_zero, List.set_cons_succ, List.getElem_toArray, List.getElem_cons_zero, List.getElem_cons_succ]
                  refine wpAnyE_take (i := 12) (v := ?_) rfl (by kernel_rfl) (by kernel_rfl) (by kernel_rfl) (by kernel_rfl) (fun _ _ _ h => h) (Or.inl ⟨by rfl, ?_⟩) hSS ?_
                  rotate_left
                  · intro w hSw
                    obtain ⟨j0, j1⟩ := hSw
                    go_simp
                    all_goals with_reducible rfl
                  simp only [Act.put, List.setIfInBounds_toArray, List.set_cons_zero, List.set_cons_succ, List.getElem_toArray, List.getElem_cons_zero, List.getElem_cons_succ]
                  clear hSS
                  have hSS := hSS0
                  clear hSS0
                  obtain ⟨⟨z0, z1, z2, z3⟩, f0, f1, f2, f3⟩ := z4 hz3
                  unfold setV setC
                  refine wpAnyE_one (i := 14) (by kernel_rfl) rfl ?_
                  change wpList _ _ (Exit.then _ _) [_] _ _
                  try simp only [List.setIfInBounds_toArray, List.set_cons_zero, List.set_cons_succ, List.getElem_toArray, List.getElem_cons_zero, List.getElem_cons_succ]
                  go_wp2_with fail
                  generalize hX : World.setCell (World.setCell (World.setCell (World.setCell _ _ _) _ _) _ _) _ _ = X5
                  have hz5 : (X5).heap[(Y4).heap.size]? = some (.cells (setC y) 47 (0, 0)) := by rw [← hX]; exact blk_store (blk_store (blk_store (blk_store hz3 0 _) 1 _) 2 _) 3 _
                  have HBX := Lib.hid (show Below (Y4).heap.size Y4 X5 by rw [← hX]; exact (((HBW.out.setCell (Nat.le_refl _) _).setCell (Nat.le_refl _) _).setCell (Nat.le_refl _) _).setCell (Nat.le_refl _) _)
                  clear hX hz3 z0 z1 z2 z3 f0 f1 f2 f3 HBW
                  refine ⟨fun _ => ss2_below HBX.out hSS, ?_⟩
                  try simp only [List.setIfInBounds_toArray, List.set_cons_zero, List.set_cons_succ, List.getElem_toArray, List.getElem_cons_zero, List.getElem_cons_succ]
                  refine wpAnyE_one (i := 15) (by kernel_rfl) rfl ?_
                  change wpList _ _ (Exit.then _ _) [_] _ _
                  try simp only [List.setIfInBounds_toArray, List.set_cons_zero, List.set_cons_succ, List.getElem_toArray, List.getElem_cons_zero, List.getElem_cons_succ]
                  go_wp2_with fail
                  refine ⟨fun _ => ss2_below HBX.out hSS, ?_⟩
                  try simp only [List.setIfInBounds_toArray, List.set_cons_zero, List.set_cons_succ, List.getElem_toArray, List.getElem_cons_zero, List.getElem_cons_succ]
                  refine wpAnyE_one (i := 16) (by kernel_rfl) rfl ?_
                  change wpList _ _ (Exit.then _ _) [_] _ _
                  try simp only [List.setIfInBounds_toArray, List.set_cons_zero, List.set_cons_succ, List.getElem_toArray, List.getElem_cons_zero, List.getElem_cons_succ]
                  go_wp2_with fail
                  refine ⟨fun _ => ss2_below HBX.out hSS, ?_⟩
                  try simp only [List.setIfInBounds_toArray, List.set_cons_zero, List.set_cons_succ, List.getElem_toArray, List.getElem_cons_zero, List.getElem_cons_succ]
                  refine wpAnyE_end (by kernel_rfl) ?_
                  have HGD := Lib.hid (HGD.out.below HBX.out)
                  have HRT := Lib.hid (HRT.out.below HBX.out)
                  have HRF := Lib.hid (HRF.out.below HBX.out)
                  (try have HA := Lib.hid (blk_below' HBX.out HA.out))
                  clear hSS HBX
                  obtain ⟨gb, hgb⟩ : ∃ q, q = (Y4).heap.size := ⟨_, rfl⟩
                  rw [← hgb] at hz5
                  (try rw [← hgb])
                  clear hgb
                  have HB := Lib.hid hz5
                  clear hz5
                  obtain ⟨gl', egl, _, d0, d1, d2⟩ := HGD.out.lcells hL hp
                  obtain rfl : gl = gl' := by injection egl with egl; injection egl
                  clear egl
                  obtain ⟨pt, pe, hpv⟩ : ∃ pt pe, prV (sgs o) y = (pt, pe) := ⟨_, _, rfl⟩
                  have HPV := Lib.hid hpv
                  have HYL : Hid (y < 2 ^ 128) := by
                    have := parV_lt (s := q) HSG.out.1
                    rw [HY.out] at this
                    exact Nat.lt_of_lt_of_le this (Nat.pow_le_pow_right (by decide) (by decide))
                  clear hpv
                  go_upto_region 19 with fail
                  refine wp_region_early (fun w' => (w'.cell? ⟨gl, k * 3, none⟩ = some (.string t) ∧ w'.cell? ⟨gl, k * 3 + 1, none⟩ = some (.slice sa (sgs o).length sc) ∧ w'.cell? ⟨gl, k * 3 + 2, none⟩ = some (.map m)) ∧ (w'.cell? ⟨ga, 0, none⟩ = some (.int .u32 (sw y 0 : Nat)) ∧ w'.cell? ⟨ga, 1, none⟩ = some (.int .u32 (sw y 1 : Nat)) ∧ w'.cell? ⟨ga, 2, none⟩ = some (.int .u32 (sw y 2 : Nat)) ∧ w'.cell? ⟨ga, 3, none⟩ = some (.int .u32 (sw y 3 : Nat)))) (fun _ => false) (by kernel_rfl) ?_
                  simp only [List.size_toArray, List.length_cons, List.length_nil, Nat.reduceAdd, Array.replicate_succ, Array.replicate_zero, List.push_toArray, List.nil_append, List.cons_append]
                  have hdr : Below (X5).heap.size X5 (X5).drew := (Below.refl _ _).drew
                  have hSS := s19_below hdr ⟨⟨d0, d1, d2⟩, setC4 HA.out⟩
                  have HA := Lib.hid (blk_below' hdr HA.out)
                  have HB := Lib.hid (blk_below' hdr HB.out)
                  have HGD := Lib.hid (HGD.out.below hdr)
                  have HRT := Lib.hid (HRT.out.below hdr)
                  have HRF := Lib.hid (HRF.out.below hdr)
                  clear hdr
                  clear d0 d1 d2
                  generalize World.drew X5 = Y6 at *
                  refine wpAnyE_take (i := 0) (v := ?_) rfl (by kernel_rfl) (by kernel_rfl) (by kernel_rfl) (by kernel_rfl) (fun _ _ _ h => h) (Or.inl ⟨by rfl, ?_⟩) hSS ?_
                  rotate_left
                  · intro w hSw
                    obtain ⟨⟨j0, j1, j2⟩, j3, j4, j5, j6⟩ := hSw
                    go_simp
                    all_goals with_reducible rfl
                  simp only [Act.put, List.setIfInBounds_toArray, List.set_cons_zero, List.set_cons_succ, List.getElem_toArray, List.getElem_cons_zero, List.getElem_cons_succ]
                  refine wpAnyE_take (i := 1) (v := ?_) rfl (by kernel_rfl) (by kernel_rfl) (by kernel_rfl) (by kernel_rfl) (fun _ _ _ h => h) (Or.inl ⟨by rfl, ?_⟩) hSS ?_
                  rotate_left
                  · intro w hSw
                    obtain ⟨⟨j0, j1, j2⟩, j3, j4, j5, j6⟩ := hSw
                    go_simp
                    all_goals with_reducible rfl
                  simp only [Act.put, List.setIfInBounds_toArray, List.set_cons_zero, List.set_cons_succ, List.getElem_toArray, List.getElem_cons_zero, List.getElem_cons_succ]
                  refine wpAnyE_take (i := 2) (v := ?_) rfl (by kernel_rfl) (by kernel_rfl) (by kernel_rfl) (by kernel_rfl) (fun _ _ _ h => h) (Or.inl ⟨by rfl, ?_⟩) hSS ?_
                  rotate_left
                  · intro w hSw
                    obtain ⟨⟨j0, j1, j2⟩, j3, j4, j5, j6⟩ := hSw
                    go_simp
                    all_goals with_reducible rfl
                  simp only [Act.put, List.setIfInBounds_toArray, List.set_cons_zero, List.set_cons_succ, List.getElem_toArray, List.getElem_cons_zero, List.getElem_cons_succ]
                  refine wpAnyE_take (i := 3) (v := ?_) rfl (by kernel_rfl) (by kernel_rfl) (by kernel_rfl) (by kernel_rfl) (fun _ _ _ h => h) (Or.inl ⟨by rfl, ?_⟩) hSS ?_
                  rotate_left
                  · intro w hSw
                    obtain ⟨⟨j0, j1, j2⟩, j3, j4, j5, j6⟩ := hSw
                    go_simp
                    all_goals with_reducible rfl
                  simp only [Act.put, List.setIfInBounds_toArray, List.set_cons_zero, List.set_cons_succ, List.getElem_toArray, List.getElem_cons_zero, List.getElem_cons_succ]
                  refine wpAnyE_take (i := 4) (v := ?_) rfl (by kernel_rfl) (by kernel_rfl) (by kernel_rfl) (by kernel_rfl) (fun _ _ _ h => h) (Or.inl ⟨by rfl, ?_⟩) hSS ?_
                  rotate_left
                  · intro w hSw
                    obtain ⟨⟨j0, j1, j2⟩, j3, j4, j5, j6⟩ := hSw
                    go_simp
                    all_goals with_reducible rfl
                  simp only [Act.put, List.setIfInBounds_toArray, List.set_cons_zero, List.set_cons_succ, List.getElem_toArray, List.getElem_cons_zero, List.getElem_cons_succ]
                  refine wpAnyE_one (i := 5) (by kernel_rfl) rfl ?_
                  change wpList _ _ (Exit.then _ _) [_] _ _
                  try simp only [List.setIfInBounds_toArray, List.set_cons_zero, List.set_cons_succ, List.getElem_toArray, List.getElem_cons_zero, List.getElem_cons_succ]
                  go_wp2_with (go_at_call 23; refine (print_is _ _ _ _ _ _ y _ HYL.out HSG.out.1 HSG.out.2.1 HRT.out HPV.out).mono ?_; rintro e w7 ⟨rfl, hB7⟩)
                  have hSS := s19_below hB7 hSS
                  have HA := Lib.hid (blk_below' hB7 HA.out)
                  have HB := Lib.hid (blk_below' hB7 HB.out)
                  have HGD := Lib.hid (HGD.out.below hB7)
                  have HRT := Lib.hid (HRT.out.below hB7)
                  have HRF := Lib.hid (HRF.out.below hB7)
                  clear hB7
                  refine ⟨fun _ => hSS, ?_⟩
                  try simp only [List.setIfInBounds_toArray, List.set_cons_zero, List.set_cons_succ, List.getElem_toArray, List.getElem_cons_zero, List.getElem_cons_succ]
                  refine wpAnyE_take (i := 6) (v := ?_) rfl (by kernel_rfl) (by kernel_rfl) (by kernel_rfl) (by kernel_rfl) (fun _ _ _ h => h) (Or.inl ⟨by rfl, ?_⟩) hSS ?_
                  rotate_left
                  · intro w hSw
                    obtain ⟨⟨j0, j1, j2⟩, j3, j4, j5, j6⟩ := hSw
                    go_simp
                    all_goals with_reducible rfl
                  simp only [Act.put, List.setIfInBounds_toArray, List.set_cons_zero, List.set_cons_succ, List.getElem_toArray, List.getElem_cons_zero, List.getElem_cons_succ]
                  refine wpAnyE_take (i := 7) (v := ?_) rfl (by kernel_rfl) (by kernel_rfl) (by kernel_rfl) (by kernel_rfl) (fun _ _ _ h => h) (Or.inl ⟨by rfl, ?_⟩) hSS ?_
                  rotate_left
                  · intro w hSw
                    obtain ⟨⟨j0, j1, j2⟩, j3, j4, j5, j6⟩ := hSw
                    go_simp
                    all_goals with_reducible rfl
                  simp only [Act.put, List.setIfInBounds_toArray, List.set_cons_zero, List.set_cons_succ, List.getElem_toArray, List.getElem_cons_zero, List.getElem_cons_succ]
                  refine wpAnyE_take (i := 8) (v := ?_) rfl (by kernel_rfl) (by kernel_rfl) (by kernel_rfl) (by kernel_rfl) (fun _ _ _ h => h) (Or.inl ⟨by rfl, ?_⟩) hSS ?_
                  rotate_left
                  · intro w hSw
                    obtain ⟨⟨j0, j1, j2⟩, j3, j4, j5, j6⟩ := hSw
                    go_simp
                    all_goals with_reducible rfl
                  simp only [Act.put, List.setIfInBounds_toArray, List.set_cons_zero, List.set_cons_succ, List.getElem_toArray, List.getElem_cons_zero, List.getElem_cons_succ]
                  refine wpAnyE_one (i := 9) (by kernel_rfl) rfl ?_
                  change wpList _ _ (Exit.then _ _) [_] _ _
                  try simp only [List.setIfInBounds_toArray, List.set_cons_zero, List.set_cons_succ, List.getElem_toArray, List.getElem_cons_zero, List.getElem_cons_succ]
                  go_wp2_with fail
                  refine ⟨fun _ => hSS, ?_⟩
                  try simp only [List.setIfInBounds_toArray, List.set_cons_zero, List.set_cons_succ, List.getElem_toArray, List.getElem_cons_zero, List.getElem_cons_succ]
                  refine wpAnyE_one (i := 10) (by kernel_rfl) rfl ?_
                  change wpList _ _ (Exit.then _ _) [_] _ _
                  try simp only [List.setIfInBounds_toArray, List.set_cons_zero, List.set_cons_succ, List.getElem_toArray, List.getElem_cons_zero, List.getElem_cons_succ]
                  go_wp2_with fail
                  refine ⟨fun _ => hSS, ?_⟩
                  try simp only [List.setIfInBounds_toArray, List.set_cons_zero, List.set_cons_succ, List.getElem_toArray, List.getElem_cons_zero, List.getElem_cons_succ]
                  refine wpAnyE_end (by kernel_rfl) ?_
                  clear hSS
                  obtain ⟨gm', egm, _, d3⟩ := HGD.out.mcells hL hp
                  obtain rfl : gm = gm' := by injection egm with egm; injection egm
                  clear egm
                  go_upto_region 20 with fail
                  refine wp_region_early (fun w' => w'.cell? ⟨gm, k, none⟩ = some (.slice ua (sgs o).length uc) ∧ (w'.cell? ⟨gb, 0, none⟩ = some (.int .u32 (sw y 0 : Nat)) ∧ w'.cell? ⟨gb, 1, none⟩ = some (.int .u32 (sw y 1 : Nat)) ∧ w'.cell? ⟨gb, 2, none⟩ = some (.int .u32 (sw y 2 : Nat)) ∧ w'.cell? ⟨gb, 3, none⟩ = some (.int .u32 (sw y 3 : Nat)))) (fun _ => false) (by kernel_rfl) ?_
                  simp only [List.size_toArray, List.length_cons, List.length_nil, Nat.reduceAdd, Array.replicate_succ, Array.replicate_zero, List.push_toArray, List.nil_append, List.cons_append]
                  have hdr : Below w7.heap.size w7 w7.drew := (Below.refl _ _).drew
                  have hSS := s20_below hdr ⟨d3, setC4 HB.out⟩
                  have HA := Lib.hid (blk_below' hdr HA.out)
                  have HB := Lib.hid (blk_below' hdr HB.out)
                  have HGD := Lib.hid (HGD.out.below hdr)
                  have HRT := Lib.hid (HRT.out.below hdr)
                  have HRF := Lib.hid (HRF.out.below hdr)
                  clear hdr
                  clear d3
                  generalize World.drew w7 = Y8 at *
                  refine wpAnyE_take (i := 0) (v := ?_) rfl (by kernel_rfl) (by kernel_rfl) (by kernel_rfl) (by kernel_rfl) (fun _ _ _ h => h) (Or.inl ⟨by rfl, ?_⟩) hSS ?_
                  rotate_left
                  · intro w hSw
                    obtain ⟨j2, j3, j4, j5, j6⟩ := hSw
                    go_simp
                    all_goals with_reducible rfl
                  simp only [Act.put, List.setIfInBounds_toArray, List.set_cons_zero, List.set_cons_succ, List.getElem_toArray, List.getElem_cons_zero, List.getElem_cons_succ]
                  refine wpAnyE_take (i := 1) (v := ?_) rfl (by kernel_rfl) (by kernel_rfl) (by kernel_rfl) (by kernel_rfl) (fun _ _ _ h => h) (Or.inl ⟨by rfl, ?_⟩) hSS ?_
                  rotate_left
                  · intro w hSw
                    obtain ⟨j2, j3, j4, j5, j6⟩ := hSw
                    go_simp
                    all_goals with_reducible rfl
                  simp only [Act.put, List.setIfInBounds_toArray, List.set_cons_zero, List.set_cons_succ, List.getElem_toArray, List.getElem_cons_zero, List.getElem_cons_succ]
                  refine wpAnyE_take (i := 2) (v := ?_) rfl (by kernel_rfl) (by kernel_rfl) (by kernel_rfl) (by kernel_rfl) (fun _ _ _ h => h) (Or.inl ⟨by rfl, ?_⟩) hSS ?_
                  rotate_left
                  · intro w hSw
                    obtain ⟨j2, j3, j4, j5, j6⟩ := hSw
                    go_simp
                    all_goals with_reducible rfl
                  simp only [Act.put, List.setIfInBounds_toArray, List.set_cons_zero, List.set_cons_succ, List.getElem_toArray, List.getElem_cons_zero, List.getElem_cons_succ]
                  refine wpAnyE_take (i := 3) (v := ?_) rfl (by kernel_rfl) (by kernel_rfl) (by kernel_rfl) (by kernel_rfl) (fun _ _ _ h => h) (Or.inl ⟨by rfl, ?_⟩) hSS ?_
                  rotate_left
                  · intro w hSw
                    obtain ⟨j2, j3, j4, j5, j6⟩ := hSw
                    go_simp
                    all_goals with_reducible rfl
                  simp only [Act.put, List.setIfInBounds_toArray, List.set_cons_zero, List.set_cons_succ, List.getElem_toArray, List.getElem_cons_zero, List.getElem_cons_succ]
                  refine wpAnyE_take (i := 4) (v := ?_) rfl (by kernel_rfl) (by kernel_rfl) (by kernel_rfl) (by kernel_rfl) (fun _ _ _ h => h) (Or.inl ⟨by rfl, ?_⟩) hSS ?_
                  rotate_left
                  · intro w hSw
                    obtain ⟨j2, j3, j4, j5, j6⟩ := hSw
                    go_simp
                    all_goals with_reducible rfl
                  simp only [Act.put, List.setIfInBounds_toArray, List.set_cons_zero, List.set_cons_succ, List.getElem_toArray, List.getElem_cons_zero, List.getElem_cons_succ]
                  refine wpAnyE_one (i := 5) (by kernel_rfl) rfl ?_
                  change wpList _ _ (Exit.then _ _) [_] _ _
                  try simp only [List.setIfInBounds_toArray, List.set_cons_zero, List.set_cons_succ, List.getElem_toArray, List.getElem_cons_zero, List.getElem_cons_succ]
                  go_wp2_with (go_at_call 24; refine (refPrint_is _ _ _ _ y _ HYL.out HSG.out.1 HSG.out.2.1 HRF.out HPV.out).mono ?_; rintro e w9' ⟨rfl, hB9'⟩)
                  have hSS := s20_below hB9' hSS
                  have HA := Lib.hid (blk_below' hB9' HA.out)
                  have HB := Lib.hid (blk_below' hB9' HB.out)
                  have HGD := Lib.hid (HGD.out.below hB9')
                  have HRT := Lib.hid (HRT.out.below hB9')
                  have HRF := Lib.hid (HRF.out.below hB9')
                  clear hB9'
                  refine ⟨fun _ => hSS, ?_⟩
                  try simp only [List.setIfInBounds_toArray, List.set_cons_zero, List.set_cons_succ, List.getElem_toArray, List.getElem_cons_zero, List.getElem_cons_succ]
                  refine wpAnyE_take (i := 6) (v := ?_) rfl (by kernel_rfl) (by kernel_rfl) (by kernel_rfl) (by kernel_rfl) (fun _ _ _ h => h) (Or.inl ⟨by rfl, ?_⟩) hSS ?_
                  rotate_left
                  · intro w hSw
                    obtain ⟨j2, j3, j4, j5, j6⟩ := hSw
                    go_simp
                    all_goals with_reducible rfl
                  simp only [Act.put, List.setIfInBounds_toArray, List.set_cons_zero, List.set_cons_succ, List.getElem_toArray, List.getElem_cons_zero, List.getElem_cons_succ]
                  refine wpAnyE_take (i := 7) (v := ?_) rfl (by kernel_rfl) (by kernel_rfl) (by kernel_rfl) (by kernel_rfl) (fun _ _ _ h => h) (Or.inl ⟨by rfl, ?_⟩) hSS ?_
                  rotate_left
                  · intro w hSw
                    obtain ⟨j2, j3, j4, j5, j6⟩ := hSw
                    go_simp
                    all_goals with_reducible rfl
                  simp only [Act.put, List.setIfInBounds_toArray, List.set_cons_zero, List.set_cons_succ, List.getElem_toArray, List.getElem_cons_zero, List.getElem_cons_succ]
                  refine wpAnyE_take (i := 8) (v := ?_) rfl (by kernel_rfl) (by kernel_rfl) (by kernel_rfl) (by kernel_rfl) (fun _ _ _ h => h) (Or.inl ⟨by rfl, ?_⟩) hSS ?_
                  rotate_left
                  · intro w hSw
                    obtain ⟨j2, j3, j4, j5, j6⟩ := hSw
                    go_simp
                    all_goals with_reducible rfl
                  simp only [Act.put, List.setIfInBounds_toArray, List.set_cons_zero, List.set_cons_succ, List.getElem_toArray, List.getElem_cons_zero, List.getElem_cons_succ]
                  refine wpAnyE_one (i := 9) (by kernel_rfl) rfl ?_
                  change wpList _ _ (Exit.then _ _) [_] _ _
                  try simp only [List.setIfInBounds_toArray, List.set_cons_zero, List.set_cons_succ, List.getElem_toArray, List.getElem_cons_zero, List.getElem_cons_succ]
                  go_wp2_with fail
                  refine ⟨fun _ => hSS, ?_⟩
                  try simp only [List.setIfInBounds_toArray, List.set_cons_zero, List.set_cons_succ, List.getElem_toArray, List.getElem_cons_zero, List.getElem_cons_succ]
                  refine wpAnyE_one (i := 10) (by kernel_rfl) rfl ?_
                  change wpList _ _ (Exit.then _ _) [_] _ _
                  try simp only [List.setIfInBounds_toArray, List.set_cons_zero, List.set_cons_succ, List.getElem_toArray, List.getElem_cons_zero, List.getElem_cons_succ]
                  go_wp2_with fail
                  refine ⟨fun _ => hSS, ?_⟩
                  try simp only [List.setIfInBounds_toArray, List.set_cons_zero, List.set_cons_succ, List.getElem_toArray, List.getElem_cons_zero, List.getElem_cons_succ]
                  refine wpAnyE_end (by kernel_rfl) ?_
                  clear hSS
                  have heq : ∀ w, (Op.equalIn 10000 47 (.agg #[.int .u32 (sw y 0 : Nat), .int .u32 (sw y 1 : Nat), .int .u32 (sw y 2 : Nat), .int .u32 (sw y 3 : Nat)]) (.agg #[.int .u32 (sw y 0 : Nat), .int .u32 (sw y 1 : Nat), .int .u32 (sw y 2 : Nat), .int .u32 (sw y 3 : Nat)])).run Try.prog w = .ok true w := fun w => by
                    rw [eq_words]; simp
                  go_upto_region 21 with fail
                  obtain ⟨gl', egl, _, d0, d1, d2⟩ := HGD.out.lcells hL hp
                  obtain rfl : gl = gl' := by injection egl with egl; injection egl
                  clear egl
                  obtain ⟨gm', egm, _, d3⟩ := HGD.out.mcells hL hp
                  obtain rfl : gm = gm' := by injection egm with egm; injection egm
                  clear egm
                  refine wp_region_early (fun w' => ((w'.cell? ⟨gl, k * 3, none⟩ = some (.string t) ∧ w'.cell? ⟨gl, k * 3 + 1, none⟩ = some (.slice sa (sgs o).length sc) ∧ w'.cell? ⟨gl, k * 3 + 2, none⟩ = some (.map m)) ∧ w'.cell? ⟨gm, k, none⟩ = some (.slice ua (sgs o).length uc)) ∧ (w'.cell? ⟨ga, 0, none⟩ = some (.int .u32 (sw y 0 : Nat)) ∧ w'.cell? ⟨ga, 1, none⟩ = some (.int .u32 (sw y 1 : Nat)) ∧ w'.cell? ⟨ga, 2, none⟩ = some (.int .u32 (sw y 2 : Nat)) ∧ w'.cell? ⟨ga, 3, none⟩ = some (.int .u32 (sw y 3 : Nat))) ∧ (w'.cell? ⟨gb, 0, none⟩ = some (.int .u32 (sw y 0 : Nat)) ∧ w'.cell? ⟨gb, 1, none⟩ = some (.int .u32 (sw y 1 : Nat)) ∧ w'.cell? ⟨gb, 2, none⟩ = some (.int .u32 (sw y 2 : Nat)) ∧ w'.cell? ⟨gb, 3, none⟩ = some (.int .u32 (sw y 3 : Nat)))) (fun _ => false) (by kernel_rfl) ?_
                  simp only [List.size_toArray, List.length_cons, List.length_nil, Nat.reduceAdd, Array.replicate_succ, Array.replicate_zero, List.push_toArray, List.nil_append, List.cons_append]
                  have hdr : Below w9'.heap.size w9' w9'.drew := (Below.refl _ _).drew
                  have hSS := s21_below hdr ⟨⟨⟨d0, d1, d2⟩, d3⟩, setC4 HA.out, setC4 HB.out⟩
                  have HA := Lib.hid (blk_below' hdr HA.out)
                  have HB := Lib.hid (blk_below' hdr HB.out)
                  have HGD := Lib.hid (HGD.out.below hdr)
                  have HRT := Lib.hid (HRT.out.below hdr)
                  have HRF := Lib.hid (HRF.out.below hdr)
                  clear hdr
                  clear d0 d1 d2 d3
                  generalize World.drew w9' = Y10 at *
                  refine wpAnyE_take (i := 0) (v := ?_) rfl (by kernel_rfl) (by kernel_rfl) (by kernel_rfl) (by kernel_rfl) (fun _ _ _ h => h) (Or.inl ⟨by rfl, ?_⟩) hSS ?_
                  rotate_left
                  · intro w hSw
                    obtain ⟨⟨⟨j0, j1, j2⟩, j3⟩, ⟨j4, j5, j6, j7⟩, j8, j9, j10, j11⟩ := hSw
                    go_simp
                    all_goals with_reducible rfl
                  simp only [Act.put, List.setIfInBounds_toArray, List.set_cons_zero, List.set_cons_succ, List.getElem_toArray, List.getElem_cons_zero, List.getElem_cons_succ]
                  refine wpAnyE_take (i := 1) (v := ?_) rfl (by kernel_rfl) (by kernel_rfl) (by kernel_rfl) (by kernel_rfl) (fun _ _ _ h => h) (Or.inl ⟨by rfl, ?_⟩) hSS ?_
                  rotate_left
                  · intro w hSw
                    obtain ⟨⟨⟨j0, j1, j2⟩, j3⟩, ⟨j4, j5, j6, j7⟩, j8, j9, j10, j11⟩ := hSw
                    go_simp
                    all_goals with_reducible rfl
                  simp only [Act.put, List.setIfInBounds_toArray, List.set_cons_zero, List.set_cons_succ, List.getElem_toArray, List.getElem_cons_zero, List.getElem_cons_succ]
                  refine wpAnyE_take (i := 2) (v := ?_) rfl (by kernel_rfl) (by kernel_rfl) (by kernel_rfl) (by kernel_rfl) (fun _ _ _ h => h) (Or.inl ⟨by rfl, ?_⟩) hSS ?_
                  rotate_left
                  · intro w hSw
                    obtain ⟨⟨⟨j0, j1, j2⟩, j3⟩, ⟨j4, j5, j6, j7⟩, j8, j9, j10, j11⟩ := hSw
                    go_simp
                    all_goals with_reducible rfl
                  simp only [Act.put, List.setIfInBounds_toArray, List.set_cons_zero, List.set_cons_succ, List.getElem_toArray, List.getElem_cons_zero, List.getElem_cons_succ]
                  refine wpAnyE_take (i := 3) (v := ?_) rfl (by kernel_rfl) (by kernel_rfl) (by kernel_rfl) (by kernel_rfl) (fun _ _ _ h => h) (Or.inl ⟨by rfl, ?_⟩) hSS ?_
                  rotate_left
                  · intro w hSw
                    obtain ⟨⟨⟨j0, j1, j2⟩, j3⟩, ⟨j4, j5, j6, j7⟩, j8, j9, j10, j11⟩ := hSw
                    go_simp
                    all_goals with_reducible rfl
                  simp only [Act.put, List.setIfInBounds_toArray, List.set_cons_zero, List.set_cons_succ, List.getElem_toArray, List.getElem_cons_zero, List.getElem_cons_succ]
                  refine wpAnyE_take (i := 4) (v := ?_) rfl (by kernel_rfl) (by kernel_rfl) (by kernel_rfl) (by kernel_rfl) (fun _ _ _ h => h) (Or.inl ⟨by rfl, ?_⟩) hSS ?_
                  rotate_left
                  · intro w hSw
                    obtain ⟨⟨⟨j0, j1, j2⟩, j3⟩, ⟨j4, j5, j6, j7⟩, j8, j9, j10, j11⟩ := hSw
                    go_simp
                    all_goals with_reducible rfl
                  simp only [Act.put, List.setIfInBounds_toArray, List.set_cons_zero, List.set_cons_succ, List.getElem_toArray, List.getElem_cons_zero, List.getElem_cons_succ]
                  refine wpAnyE_take (i := 5) (v := ?_) rfl (by kernel_rfl) (by kernel_rfl) (by kernel_rfl) (by kernel_rfl) (fun _ _ _ h => h) (Or.inl ⟨by rfl, ?_⟩) hSS ?_
                  rotate_left
                  · intro w hSw
                    obtain ⟨⟨⟨j0, j1, j2⟩, j3⟩, ⟨j4, j5, j6, j7⟩, j8, j9, j10, j11⟩ := hSw
                    go_simp
                    all_goals with_reducible rfl
                  simp only [Act.put, List.setIfInBounds_toArray, List.set_cons_zero, List.set_cons_succ, List.getElem_toArray, List.getElem_cons_zero, List.getElem_cons_succ]
                  refine wpAnyE_take (i := 6) (v := ?_) rfl (by kernel_rfl) (by kernel_rfl) (by kernel_rfl) (by kernel_rfl) (fun _ _ _ h => h) (Or.inl ⟨by rfl, ?_⟩) hSS ?_
                  rotate_left
                  · intro w hSw
                    obtain ⟨⟨⟨j0, j1, j2⟩, j3⟩, ⟨j4, j5, j6, j7⟩, j8, j9, j10, j11⟩ := hSw
                    go_simp
                    all_goals with_reducible rfl
                  simp only [Act.put, List.setIfInBounds_toArray, List.set_cons_zero, List.set_cons_succ, List.getElem_toArray, List.getElem_cons_zero, List.getElem_cons_succ]
                  refine wpAnyE_take (i := 7) (v := ?_) rfl (by kernel_rfl) (by kernel_rfl) (by kernel_rfl) (by kernel_rfl) (fun _ _ _ h => h) (Or.inl ⟨by rfl, ?_⟩) hSS ?_
                  rotate_left
                  · intro w hSw
                    obtain ⟨⟨⟨j0, j1, j2⟩, j3⟩, ⟨j4, j5, j6, j7⟩, j8, j9, j10, j11⟩ := hSw
                    go_simp
                    all_goals with_reducible rfl
                  simp only [Act.put, List.setIfInBounds_toArray, List.set_cons_zero, List.set_cons_succ, List.getElem_toArray, List.getElem_cons_zero, List.getElem_cons_succ]
                  refine wpAnyE_take (i := 8) (v := ?_) rfl (by kernel_rfl) (by kernel_rfl) (by kernel_rfl) (by kernel_rfl) (fun _ _ _ h => h) (Or.inl ⟨by rfl, ?_⟩) hSS ?_
                  rotate_left
                  · intro w hSw
                    obtain ⟨⟨⟨j0, j1, j2⟩, j3⟩, ⟨j4, j5, j6, j7⟩, j8, j9, j10, j11⟩ := hSw
                    go_simp
                    all_goals with_reducible rfl
                  simp only [Act.put, List.setIfInBounds_toArray, List.set_cons_zero, List.set_cons_succ, List.getElem_toArray, List.getElem_cons_zero, List.getElem_cons_succ]
                  refine wpAnyE_take (i := 9) (v := ?_) rfl (by kernel_rfl) (by kernel_rfl) (by kernel_rfl) (by kernel_rfl) (fun _ _ _ h => h) (Or.inl ⟨by rfl, ?_⟩) hSS ?_
                  rotate_left
                  · intro w hSw
                    obtain ⟨⟨⟨j0, j1, j2⟩, j3⟩, ⟨j4, j5, j6, j7⟩, j8, j9, j10, j11⟩ := hSw
                    go_simp
                    all_goals with_reducible rfl
                  simp only [Act.put, List.setIfInBounds_toArray, List.set_cons_zero, List.set_cons_succ, List.getElem_toArray, List.getElem_cons_zero, List.getElem_cons_succ]
                  refine wpAnyE_take (i := 10) (v := ?_) rfl (by kernel_rfl) (by kernel_rfl) (by kernel_rfl) (by kernel_rfl) (fun _ _ _ h => h) (Or.inl ⟨by rfl, ?_⟩) hSS ?_
                  rotate_left
                  · intro w hSw
                    obtain ⟨⟨⟨j0, j1, j2⟩, j3⟩, ⟨j4, j5, j6, j7⟩, j8, j9, j10, j11⟩ := hSw
                    go_simp
                    all_goals with_reducible rfl
                  simp only [Act.put, List.setIfInBounds_toArray, List.set_cons_zero, List.set_cons_succ, List.getElem_toArray, List.getElem_cons_zero, List.getElem_cons_succ]
                  refine wpAnyE_take (i := 11) (v := ?_) rfl (by kernel_rfl) (by kernel_rfl) (by kernel_rfl) (by kernel_rfl) (fun _ _ _ h => h) (Or.inl ⟨by rfl, ?_⟩) hSS ?_
                  rotate_left
                  · intro w hSw
                    obtain ⟨⟨⟨j0, j1, j2⟩, j3⟩, ⟨j4, j5, j6, j7⟩, j8, j9, j10, j11⟩ := hSw
                    go_simp
                    all_goals with_reducible rfl
                  simp only [Act.put, List.setIfInBounds_toArray, List.set_cons_zero, List.set_cons_succ, List.getElem_toArray, List.getElem_cons_zero, List.getElem_cons_succ]
                  refine wpAnyE_take (i := 12) (v := ?_) rfl (by kernel_rfl) (by kernel_rfl) (by kernel_rfl) (by kernel_rfl) (fun _ _ _ h => h) (Or.inl ⟨by rfl, ?_⟩) hSS ?_
                  rotate_left
                  · intro w hSw
                    obtain ⟨⟨⟨j0, j1, j2⟩, j3⟩, ⟨j4, j5, j6, j7⟩, j8, j9, j10, j11⟩ := hSw
                    go_simp
                    all_goals with_reducible rfl
                  simp only [Act.put, List.setIfInBounds_toArray, List.set_cons_zero, List.set_cons_succ, List.getElem_toArray, List.getElem_cons_zero, List.getElem_cons_succ]
                  refine wpAnyE_take (i := 13) (v := ?_) rfl (by kernel_rfl) (by kernel_rfl) (by kernel_rfl) (by kernel_rfl) (fun _ _ _ h => h) (Or.inl ⟨by rfl, ?_⟩) hSS ?_
                  rotate_left
                  · intro w hSw
                    obtain ⟨⟨⟨j0, j1, j2⟩, j3⟩, ⟨j4, j5, j6, j7⟩, j8, j9, j10, j11⟩ := hSw
                    go_simp
                    all_goals with_reducible rfl
                  simp only [Act.put, List.setIfInBounds_toArray, List.set_cons_zero, List.set_cons_succ, List.getElem_toArray, List.getElem_cons_zero, List.getElem_cons_succ]
                  refine wpAnyE_take (i := 14) (v := ?_) rfl (by kernel_rfl) (by kernel_rfl) (by kernel_rfl) (by kernel_rfl) (fun _ _ _ h => h) (Or.inl ⟨by rfl, ?_⟩) hSS ?_
                  rotate_left
                  · intro w hSw
                    obtain ⟨⟨⟨j0, j1, j2⟩, j3⟩, ⟨j4, j5, j6, j7⟩, j8, j9, j10, j11⟩ := hSw
                    go_simp
                    all_goals with_reducible rfl
                  simp only [Act.put, List.setIfInBounds_toArray, List.set_cons_zero, List.set_cons_succ, List.getElem_toArray, List.getElem_cons_zero, List.getElem_cons_succ]
                  refine wpAnyE_take (i := 15) (v := ?_) rfl (by kernel_rfl) (by kernel_rfl) (by kernel_rfl) (by kernel_rfl) (fun _ _ _ h => h) (Or.inl ⟨by rfl, ?_⟩) hSS ?_
                  rotate_left
                  · intro w hSw
                    obtain ⟨⟨⟨j0, j1, j2⟩, j3⟩, ⟨j4, j5, j6, j7⟩, j8, j9, j10, j11⟩ := hSw
                    go_simp
                    all_goals with_reducible rfl
                  simp only [Act.put, List.setIfInBounds_toArray, List.set_cons_zero, List.set_cons_succ, List.getElem_toArray, List.getElem_cons_zero, List.getElem_cons_succ]
                  refine wpAnyE_take (i := 16) (v := ?_) rfl (by kernel_rfl) (by kernel_rfl) (by kernel_rfl) (by kernel_rfl) (fun _ _ _ h => h) (Or.inl ⟨by rfl, ?_⟩) hSS ?_
                  rotate_left
                  · intro w hSw
                    obtain ⟨⟨⟨j0, j1, j2⟩, j3⟩, ⟨j4, j5, j6, j7⟩, j8, j9, j10, j11⟩ := hSw
                    go_simp
                    all_goals with_reducible rfl
                  simp only [Act.put, List.setIfInBounds_toArray, List.set_cons_zero, List.set_cons_succ, List.getElem_toArray, List.getElem_cons_zero, List.getElem_cons_succ]
                  refine wpAnyE_take (i := 17) (v := ?_) rfl (by kernel_rfl) (by kernel_rfl) (by kernel_rfl) (by kernel_rfl) (fun _ _ _ h => h) (Or.inl ⟨by rfl, ?_⟩) hSS ?_
                  rotate_left
                  · intro w hSw
                    obtain ⟨⟨⟨j0, j1, j2⟩, j3⟩, ⟨j4, j5, j6, j7⟩, j8, j9, j10, j11⟩ := hSw
                    go_simp
                    all_goals with_reducible rfl
                  simp only [Act.put, List.setIfInBounds_toArray, List.set_cons_zero, List.set_cons_succ, List.getElem_toArray, List.getElem_cons_zero, List.getElem_cons_succ]
                  refine wpAnyE_take (i := 18) (v := ?_) rfl (by kernel_rfl) (by kernel_rfl) (by kernel_rfl) (by kernel_rfl) (fun _ _ _ h => h) (Or.inl ⟨by rfl, ?_⟩) hSS ?_
                  rotate_left
                  · intro w hSw
                    obtain ⟨⟨⟨j0, j1, j2⟩, j3⟩, ⟨j4, j5, j6, j7⟩, j8, j9, j10, j11⟩ := hSw
                    go_simp
                    all_goals with_reducible rfl
                  simp only [Act.put, List.setIfInBounds_toArray, List.set_cons_zero, List.set_cons_succ, List.getElem_toArray, List.getElem_cons_zero, List.getElem_cons_succ]
                  refine wpAnyE_take (i := 19) (v := ?_) rfl (by kernel_rfl) (by kernel_rfl) (by kernel_rfl) (by kernel_rfl) (fun _ _ _ h => h) (Or.inl ⟨by rfl, ?_⟩) hSS ?_
                  rotate_left
                  · intro w hSw
                    obtain ⟨⟨⟨j0, j1, j2⟩, j3⟩, ⟨j4, j5, j6, j7⟩, j8, j9, j10, j11⟩ := hSw
                    go_simp
                    all_goals with_reducible rfl
                  simp only [Act.put, List.setIfInBounds_toArray, List.set_cons_zero, List.set_cons_succ, List.getElem_toArray, List.getElem_cons_zero, List.getElem_cons_succ]
                  refine wpAnyE_take (i := 20) (v := ?_) rfl (by kernel_rfl) (by kernel_rfl) (by kernel_rfl) (by kernel_rfl) (fun _ _ _ h => h) (Or.inl ⟨by rfl, ?_⟩) hSS ?_
                  rotate_left
                  · intro w hSw
                    obtain ⟨⟨⟨j0, j1, j2⟩, j3⟩, ⟨j4, j5, j6, j7⟩, j8, j9, j10, j11⟩ := hSw
                    go_simp
                    all_goals with_reducible rfl
                  simp only [Act.put, List.setIfInBounds_toArray, List.set_cons_zero, List.set_cons_succ, List.getElem_toArray, List.getElem_cons_zero, List.getElem_cons_succ]
                  refine wpAnyE_take (i := 21) (v := ?_) rfl (by kernel_rfl) (by kernel_rfl) (by kernel_rfl) (by kernel_rfl) (fun _ _ _ h => h) (Or.inl ⟨by rfl, ?_⟩) hSS ?_
                  rotate_left
                  · intro w hSw
                    obtain ⟨⟨⟨j0, j1, j2⟩, j3⟩, ⟨j4, j5, j6, j7⟩, j8, j9, j10, j11⟩ := hSw
                    go_simp
                    all_goals with_reducible rfl
                  simp only [Act.put, List.setIfInBounds_toArray, List.set_cons_zero, List.set_cons_succ, List.getElem_toArray, List.getElem_cons_zero, List.getElem_cons_succ]
                  refine wpAnyE_take (i := 22) (v := ?_) rfl (by kernel_rfl) (by kernel_rfl) (by kernel_rfl) (by kernel_rfl) (fun _ _ _ h => h) (Or.inl ⟨by rfl, ?_⟩) hSS ?_
                  rotate_left
                  · intro w hSw
                    obtain ⟨⟨⟨j0, j1, j2⟩, j3⟩, ⟨j4, j5, j6, j7⟩, j8, j9, j10, j11⟩ := hSw
                    go_simp
                    all_goals with_reducible rfl
                  simp only [Act.put, List.setIfInBounds_toArray, List.set_cons_zero, List.set_cons_succ, List.getElem_toArray, List.getElem_cons_zero, List.getElem_cons_succ]
                  refine wpAnyE_take (i := 24) (v := ?_) rfl (by kernel_rfl) (by kernel_rfl) (by kernel_rfl) (by kernel_rfl) (fun _ _ _ h => h) (Or.inl ⟨by rfl, ?_⟩) hSS ?_
                  rotate_left
                  · intro w hSw
                    obtain ⟨⟨⟨j0, j1, j2⟩, j3⟩, ⟨j4, j5, j6, j7⟩, j8, j9, j10, j11⟩ := hSw
                    go_simp
                    all_goals with_reducible rfl
                  simp only [Act.put, List.setIfInBounds_toArray, List.set_cons_zero, List.set_cons_succ, List.getElem_toArray, List.getElem_cons_zero, List.getElem_cons_succ]
                  refine wpAnyE_take (i := 25) (v := ?_) rfl (by kernel_rfl) (by kernel_rfl) (by kernel_rfl) (by kernel_rfl) (fun _ _ _ h => h) (Or.inl ⟨by rfl, ?_⟩) hSS ?_
                  rotate_left
                  · intro w hSw
                    obtain ⟨⟨⟨j0, j1, j2⟩, j3⟩, ⟨j4, j5, j6, j7⟩, j8, j9, j10, j11⟩ := hSw
                    go_simp
                    all_goals with_reducible rfl
                  simp only [Act.put, List.setIfInBounds_toArray, List.set_cons_zero, List.set_cons_succ, List.getElem_toArray, List.getElem_cons_zero, List.getElem_cons_succ]
                  refine wpAnyE_take (i := 26) (v := ?_) rfl (by kernel_rfl) (by kernel_rfl) (by kernel_rfl) (by kernel_rfl) (fun _ _ _ h => h) (Or.inl ⟨by rfl, ?_⟩) hSS ?_
                  rotate_left
                  · intro w hSw
                    obtain ⟨⟨⟨j0, j1, j2⟩, j3⟩, ⟨j4, j5, j6, j7⟩, j8, j9, j10, j11⟩ := hSw
                    go_simp
                    all_goals with_reducible rfl
                  simp only [Act.put, List.setIfInBounds_toArray, List.set_cons_zero, List.set_cons_succ, List.getElem_toArray, List.getElem_cons_zero, List.getElem_cons_succ]
                  refine wpAnyE_take (i := 27) (v := ?_) rfl (by kernel_rfl) (by kernel_rfl) (by kernel_rfl) (by kernel_rfl) (fun _ _ _ h => h) (Or.inl ⟨by rfl, ?_⟩) hSS ?_
                  rotate_left
                  · intro w hSw
                    obtain ⟨⟨⟨j0, j1, j2⟩, j3⟩, ⟨j4, j5, j6, j7⟩, j8, j9, j10, j11⟩ := hSw
                    go_simp
                    all_goals with_reducible rfl
                  simp only [Act.put, List.setIfInBounds_toArray, List.set_cons_zero, List.set_cons_succ, List.getElem_toArray, List.getElem_cons_zero, List.getElem_cons_succ]
                  refine wpAnyE_one (i := 23) (by kernel_rfl) rfl ?_
                  change wpList _ _ (Exit.then _ _) [_] _ _
                  try simp only [List.setIfInBounds_toArray, List.set_cons_zero, List.set_cons_succ, List.getElem_toArray, List.getElem_cons_zero, List.getElem_cons_succ]
                  go_wp2_with (go_at_call 16; refine (text_is _ _ _ _ HRT.out _ HTX.out).mono ?_; rintro e w11 ⟨rfl, hB11⟩)
                  have hSS := s21_below hB11 hSS
                  have HA := Lib.hid (blk_below' hB11 HA.out)
                  have HB := Lib.hid (blk_below' hB11 HB.out)
                  have HGD := Lib.hid (HGD.out.below hB11)
                  have HRT := Lib.hid (HRT.out.below hB11)
                  have HRF := Lib.hid (HRF.out.below hB11)
                  clear hB11
                  refine ⟨fun _ => hSS, ?_⟩
                  try simp only [List.setIfInBounds_toArray, List.set_cons_zero, List.set_cons_succ, List.getElem_toArray, List.getElem_cons_zero, List.getElem_cons_succ]
                  refine wpAnyE_one (i := 28) (by kernel_rfl) rfl ?_
                  change wpList _ _ (Exit.then _ _) [_] _ _
                  try simp only [List.setIfInBounds_toArray, List.set_cons_zero, List.set_cons_succ, List.getElem_toArray, List.getElem_cons_zero, List.getElem_cons_succ]
                  go_wp2_with (go_at_call 17; refine (refText_any _ _ _ _ HRF.out HSG.out.1 HSG.out.2.1).mono ?_; rintro e w12 ⟨rfl, hB12⟩)
                  have hSS := s21_below hB12 hSS
                  have HA := Lib.hid (blk_below' hB12 HA.out)
                  have HB := Lib.hid (blk_below' hB12 HB.out)
                  have HGD := Lib.hid (HGD.out.below hB12)
                  have HRT := Lib.hid (HRT.out.below hB12)
                  have HRF := Lib.hid (HRF.out.below hB12)
                  clear hB12
                  refine ⟨fun _ => hSS, ?_⟩
                  try simp only [List.setIfInBounds_toArray, List.set_cons_zero, List.set_cons_succ, List.getElem_toArray, List.getElem_cons_zero, List.getElem_cons_succ]
                  refine wpAnyE_take (i := 29) (v := ?_) rfl (by kernel_rfl) (by kernel_rfl) (by kernel_rfl) (by kernel_rfl) (fun _ _ _ h => h) (Or.inl ⟨by rfl, ?_⟩) hSS ?_
                  rotate_left
                  · intro w hSw
                    obtain ⟨⟨⟨j0, j1, j2⟩, j3⟩, ⟨j4, j5, j6, j7⟩, j8, j9, j10, j11⟩ := hSw
                    go_simp
                    all_goals with_reducible rfl
                  simp only [Act.put, List.setIfInBounds_toArray, List.set_cons_zero, List.set_cons_succ, List.getElem_toArray, List.getElem_cons_zero, List.getElem_cons_succ]
                  refine wpAnyE_take (i := 30) (v := ?_) rfl (by kernel_rfl) (by kernel_rfl) (by kernel_rfl) (by kernel_rfl) (fun _ _ _ h => h) (Or.inl ⟨by rfl, ?_⟩) hSS ?_
                  rotate_left
                  · intro w hSw
                    obtain ⟨⟨⟨j0, j1, j2⟩, j3⟩, ⟨j4, j5, j6, j7⟩, j8, j9, j10, j11⟩ := hSw
                    go_simp
                    all_goals with_reducible rfl
                  simp only [Act.put, List.setIfInBounds_toArray, List.set_cons_zero, List.set_cons_succ, List.getElem_toArray, List.getElem_cons_zero, List.getElem_cons_succ]
                  refine wpAnyE_end (by kernel_rfl) ?_
                  clear hSS
                  go_wp2_with fail
                  go_roundw
                  case rel => exact ⟨k + 1, by omega, by go_num, HGD⟩
                  case measure => simp [intOf]; omega
            · obtain rfl : k = ts.length := by omega
              have b6 : ¬ ((ts.length : Nat) : Int) < ((ts.length : Nat) : Int) := by omega
              go_wp2_with fail
              go_roundw
              case rel => exact ⟨n + 1, by omega, by go_num, HGD⟩
              case measure => simp [intOf]; omega
        · obtain rfl : n = ss.length := by omega
          have b5 : ¬ ((ss.length : Nat) : Int) < ((ss.length : Nat) : Int) := by omega
          go_wp2_with fail
          go_ret
          exact ⟨rfl, HGD.out.low⟩
end Go.Proofs.Ythbejpgeohhppaa
