/- Walk: a list is put into the book. -/
import Derived.Test.YtpfiaepoibablaaBkL
namespace Go.Proofs.Ytpfiaepoibablaa
set_option linter.unusedVariables false
set_option linter.unusedSimpArgs false
open Go.RowKit

/-- A list of blocks is the old one, or one new block. -/
def Fr (z y : Nat) (A A' : List Nat) : Prop := A' = A ∨ ∃ s, A' = [s] ∧ z ≤ s ∧ s < y
theorem nd_grow {K z y1 y2 y3 : Nat} {A A' C C' R V U : List Nat} (h : (K :: (A ++ (C ++ R))).Nodup) (hlt : ∀ g ∈ K :: (A ++ (C ++ R)), g < z) (hA : Fr z y1 A A') (hU : Fr y1 y2 [] U) (hC : Fr y2 y3 C C')
    (hz : z ≤ y1) (hy : y1 ≤ y2) (hV : V.Nodup) (hVz : ∀ g ∈ V, g < z) (hVn : ∀ g ∈ V, g ∉ K :: (A ++ (C ++ R))) : (K :: (A' ++ (C' ++ (R ++ (V ++ U))))).Nodup := by
  simp only [List.nodup_cons, List.nodup_append, List.mem_append, List.mem_cons, not_or] at h hlt hVn ⊢
  rcases hA with rfl | ⟨s1, rfl, a1, a2⟩ <;> rcases hU with rfl | ⟨s2, rfl, b1, b2⟩ <;> rcases hC with rfl | ⟨s3, rfl, c1, c2⟩ <;> grind
theorem sl_form {W : World} {base : Nat} {e : TypeId} {size : Nat} {v : Value} {n : Nat} {xs : List Value} (h : W.ownsRow base e size v n xs) : ∃ a cap, v = .slice a n cap := by
  rcases h.2 with ⟨rfl, rfl⟩ | ⟨g, cap, cur, rfl, _⟩
  · exact ⟨none, 0, rfl⟩
  · exact ⟨_, cap, rfl⟩
theorem sl_one {W : World} {base : Nat} {e : TypeId} {size : Nat} {v : Value} {n : Nat} {xs : List Value} (h : W.ownsRow base e size v n xs) : ∀ u ∈ [v], u.oneCell' = true := by
  obtain ⟨a, cap, rfl⟩ := sl_form h
  intro u hu
  obtain rfl := List.mem_singleton.1 hu
  rfl
/-- What is left when a list has been put in. -/
def BkPut (W : World) (base K : Nat) (vb vw : Value) (L : List Ls) (v : Value) (w' : World) : Prop :=
  ∃ vb' vw' L', Bk w' base K vb' vw' L' ∧ BkF W w' K vb vw ∧ ∀ g ∈ bkB K vb' vw' L', g ∈ bkB K vb vw L ∨ g ∈ obs v ∨ W.heap.size ≤ g
theorem bkB_snoc (K : Nat) (vb vw : Value) (L : List Ls) (x : Ls) : bkB K vb vw (L ++ [x]) = K :: (obs vb ++ (obs vw ++ (L.flatMap Ls.bl ++ (obs x.v ++ obs x.u)))) := by
  unfold bkB; rw [List.flatMap_append]; simp [Ls.bl]
section
variable {P : Program}
theorem run_append_nils (w : World) (t ty e : TypeId) (i : TypeInfo) (ht : P.underlying t = some (.slice e)) (hi : P.info? e = some i) :
    (Builtin.append_ #[t, t] ty #[.slice none 0 0, .slice none 0 0]).run P w = .ok (.slice none 0 0) w := by
  simp [Builtin.append_, run_underlying ht, sizeOf, typeInfo, hi, Builtin.lenOf, Builtin.firstCells, loadCells, loadCellsFrom]
/-- 'append([]T(nil), x...)': a copy in memory of its own. -/
theorem wpList_copy_new {w : World} {ops : Array Oper} {rest : List Oper} {o : Oper} {a : Act} {Q : Exit → Act → World → Prop} (hgd : o.guard = none) (x : Operand) (t : TypeId)
    (ho : o.op = .call { callee := .builtin .append, args := #[.const (.slice none 0 0), x], argTypes := #[t, t] })
    (e : TypeId) (i : TypeInfo) (z : Value) (size bytes : Nat) (ht : P.underlying t = some (.slice e)) (hi : P.info? e = some i) (hz : i.zero = some z)
    (hsize : i.size = size) (hby : i.bytes = bytes) (hzs : z.cells.size = size) (hsz : 0 < size) (base : Nat) (te : TypeId)
    (v : Value) (m : Nat) (news : List Value) (hx : a.eval x = v) (hown : w.ownsRow base te size v m news) (h1 : ∀ u ∈ news, u.oneCell' = true)
    (h63 : m ≤ maxLen) (hbytes : m * bytes ≤ 140737488355328)
    (h : ∀ u w', w'.ownsRow w.heap.size e size u m news → Below w.heap.size w w' → wpList P ops Q rest (a.put o.dst u) w') : wpList P ops Q (o :: rest) a w := by
  rcases hown.2 with ⟨rfl, rfl⟩ | ⟨g, cap, cur, rfl, _⟩
  · have hn : news = [] := List.eq_nil_of_length_eq_zero (by simpa using hown.1)
    subst hn
    refine wpList_plain hgd fun K hK => ?_
    have hc : a.eval (.const (.slice none 0 0)) = .slice none 0 0 := rfl
    unfold Oper.wp execOp
    simp only [ho, resolve, invoke, builtin, Sem.run_bind, Sem.run_pure, Result.andThen_ok, List.map_toArray, List.map_cons, List.map_nil, hc, hx, run_append_nils (P := P) w t o.type e i ht hi]
    exact hK _ _ (h _ w (World.ownsRow_nil _ _ _ _) (Below.refl _ _))
  · refine wpList_append_own w hgd _ x t ho w.heap.size e i z size bytes ht hi hz hsize hby hzs hsz (.slice none 0 0) 0 [] rfl (World.ownsRow_nil _ _ _ _) ⟨g, 0, none⟩ m cap news hx hown.1 (hown.cells rfl) h1 (by rw [Nat.zero_add]; exact h63) (by rw [Nat.zero_add]; exact hbytes) (Nat.le_refl _) ?_
    intro u w' h2 h3 _
    rw [Nat.zero_add, List.nil_append] at h2
    exact h u w' h2 ⟨h3.os, h3.tape, h3.output, h3.size, fun k hk => h3.block k hk (by simp [Value.ownBlock])⟩
end
theorem fr_of {v v' : Value} {z y s : Nat} (h : v'.ownBlock = v.ownBlock ∨ v'.ownBlock = some s) (hz : z ≤ s) (hy : v'.ownBlock = some s → s < y) : Fr z y (obs v) (obs v') := by
  rcases h with h | h
  · exact .inl (by unfold obs; rw [h])
  · exact .inr ⟨s, by unfold obs; rw [h]; rfl, hz, hy h⟩
theorem fr_new {W w : World} {e : TypeId} {size n : Nat} {v : Value} {xs : List Value} (h : w.ownsRow W.heap.size e size v n xs) {z y : Nat} (hz : z ≤ W.heap.size) (hy : w.heap.size ≤ y) : Fr z y [] (obs v) := by
  cases hv : v.ownBlock with
  | none => exact .inl (by unfold obs; rw [hv]; rfl)
  | some s =>
    have := ownsRow_obs h s (obs_mem.2 hv)
    exact .inr ⟨s, by unfold obs; rw [hv]; rfl, by omega, by omega⟩
theorem mem_fr {z y g : Nat} {A A' : List Nat} (h : Fr z y A A') (hg : g ∈ A') : g ∈ A ∨ (z ≤ g ∧ g < y) := by
  rcases h with rfl | ⟨s, rfl, h1, h2⟩
  · exact .inl hg
  · obtain rfl := List.mem_singleton.1 hg
    exact .inr ⟨h1, h2⟩
theorem bytes_fin {W w2 W4 w6 w8 W9 : World} {base K : Nat} {vb vw vb' vw' v u : Value} {L : List Ls} {l : List Nat} {t : TypeId} (hty : t = 5 ∨ ∃ a, v = .slice a l.length l.length)
    (hB : Bk W base K vb vw L) (hV : W.ownsRow base t 1 v l.length (bC l)) (hN : ∀ g ∈ obs v, g ∉ bkB K vb vw L) (hl : l.length ≤ 1000) (hf : L.length < 400)
    (hb2 : w2.ownsRow base 22 1 vb' (L.length + 1) (L.map Ls.v ++ [v])) (hw8 : w8.ownsRow base 22 1 vw' (L.length + 1) (L.map Ls.u ++ [u]))
    (hu6 : w6.ownsRow W4.heap.size 5 1 u l.length (bC l))
    (hA : ∀ g, g < W.heap.size → g ≠ K → g ∉ obs vb → W4.heap[g]? = W.heap[g]?) (hA2 : ∀ g, g < w2.heap.size → g ≠ K → W4.heap[g]? = w2.heap[g]?)
    (hBB : ∀ g, g < W4.heap.size → w6.heap[g]? = W4.heap[g]?) (hC : ∀ g, g < w6.heap.size → g ∉ obs vw → w8.heap[g]? = w6.heap[g]?) (hD : ∀ g, g ≠ K → W9.heap[g]? = w8.heap[g]?)
    (hK : W9.heap[K]? = some (.cells (bookC vb' vw') 41 (0, 0)))
    (s1 : W.heap.size + 1 ≤ w2.heap.size) (s2 : w2.heap.size ≤ W4.heap.size) (s3 : W4.heap.size ≤ w6.heap.size) (s4 : w6.heap.size ≤ w8.heap.size) (s5 : W9.heap.size = w8.heap.size) (hbase : base ≤ W.heap.size)
    (f1 : Fr W.heap.size w2.heap.size (obs vb) (obs vb')) (f2 : Fr w6.heap.size w8.heap.size (obs vw) (obs vw')) (z : W9.os = W.os ∧ W9.tape = W.tape ∧ W9.output = W.output) : BkPut W base K vb vw L v W9 := by
  have hlt := hB.lt
  have hnd := hB.nd
  have hKlt : K < W.heap.size := (hlt K (by simp [bkB])).2
  have f3 : Fr w2.heap.size w6.heap.size [] (obs u) := fr_new hu6 s2 (Nat.le_refl _)
  have hmem : ∀ g, g ∈ bkB K vb vw L ↔ (g = K ∨ g ∈ obs vb ∨ g ∈ obs vw ∨ ∃ x ∈ L, g ∈ x.bl) := by intro g; simp [bkB]
  have hKvb : K ∉ obs vb := by unfold bkB at hnd; simp only [List.nodup_cons, List.mem_append, not_or] at hnd; exact hnd.1.1
  have hKvw : K ∉ obs vw := by unfold bkB at hnd; simp only [List.nodup_cons, List.mem_append, not_or] at hnd; exact hnd.1.2.1
  have hbw : ∀ g ∈ obs vb, g ∉ obs vw := by unfold bkB at hnd; simp only [List.nodup_cons, List.nodup_append, List.mem_append] at hnd; exact fun g h1 h2 => hnd.2.2.2 g h1 g (.inl h2) rfl
  have hrest : ∀ x ∈ L, ∀ g ∈ x.bl, g ≠ K ∧ g ∉ obs vb ∧ g ∉ obs vw := by
    intro x hx g hg
    have hm : g ∈ L.flatMap Ls.bl := List.mem_flatMap.2 ⟨x, hx, hg⟩
    unfold bkB at hnd
    simp only [List.nodup_cons, List.nodup_append, List.mem_append, not_or] at hnd
    exact ⟨fun e => hnd.1.2.2 (e ▸ hm), fun e => hnd.2.2.2 g e g (.inr hm) rfl, fun e => hnd.2.2.1.2.2 g e g hm rfl⟩
  have chain : ∀ g, g < W.heap.size → g ≠ K → g ∉ obs vb → g ∉ obs vw → W9.heap[g]? = W.heap[g]? := fun g h1 h2 h3 h4 =>
    (hD g h2).trans ((hC g (by omega) h4).trans ((hBB g (by omega)).trans (hA g h1 h2 h3)))
  have hvold : ∀ g ∈ obs v, g < W.heap.size ∧ g ≠ K ∧ g ∉ obs vb ∧ g ∉ obs vw := fun g hg => by
    have h0 := hN g hg
    rw [hmem] at h0
    simp only [not_or] at h0
    exact ⟨(ownsRow_obs hV g hg).2, h0.1, h0.2.1, h0.2.2.1⟩
  refine ⟨vb', vw', L ++ [⟨v, u, l, t⟩], ⟨hK, ?_, ?_, ?_, ?_, ?_, hB.ge, by simp; omega, ?_, ?_⟩, ⟨z.1, z.2.1, z.2.2, by omega, chain⟩, ?_⟩
  · have e : (L ++ [(⟨v, u, l, t⟩ : Ls)]).map Ls.v = L.map Ls.v ++ [v] := by simp
    rw [e, show (L ++ [(⟨v, u, l, t⟩ : Ls)]).length = L.length + 1 by simp]
    refine ownsRow_same hb2 fun g hg => ?_
    have h1 := (ownsRow_obs hb2 g hg).2
    have h2 : g ≠ K ∧ g ∉ obs vw := by
      rcases mem_fr f1 hg with h | h
      · exact ⟨fun e => hKvb (e ▸ h), hbw g h⟩
      · exact ⟨by omega, fun e => by have := (ownsRow_obs hB.rw g e).2; omega⟩
    exact (hD g h2.1).trans ((hC g (by omega) h2.2).trans ((hBB g (by omega)).trans (hA2 g h1 h2.1)))
  · have e : (L ++ [(⟨v, u, l, t⟩ : Ls)]).map Ls.u = L.map Ls.u ++ [u] := by simp
    rw [e, show (L ++ [(⟨v, u, l, t⟩ : Ls)]).length = L.length + 1 by simp]
    refine ownsRow_same hw8 fun g hg => hD g ?_
    rcases mem_fr f2 hg with h | h
    · exact fun e => hKvw (e ▸ h)
    · omega
  · intro x hx
    rcases List.mem_append.1 hx with hx | hx
    · exact ownsRow_same (hB.own x hx) fun g hg => by
        have h1 := hrest x hx g (by simp [Ls.bl, hg])
        exact chain g (ownsRow_obs (hB.own x hx) g hg).2 h1.1 h1.2.1 h1.2.2
    · obtain rfl := List.mem_singleton.1 hx
      exact ownsRow_same hV fun g hg => by
        have h1 := hvold g hg
        exact chain g h1.1 h1.2.1 h1.2.2.1 h1.2.2.2
  · intro x hx
    rcases List.mem_append.1 hx with hx | hx
    · exact ownsRow_same (hB.was x hx) fun g hg => by
        have h1 := hrest x hx g (by simp [Ls.bl, hg])
        exact chain g (ownsRow_obs (hB.was x hx) g hg).2 h1.1 h1.2.1 h1.2.2
    · obtain rfl := List.mem_singleton.1 hx
      refine ownsRow_base (ownsRow_same hu6 fun g hg => ?_) (by omega)
      have h1 := ownsRow_obs hu6 g hg
      exact (hD g (by omega)).trans (hC g h1.2 (fun e => by have := (ownsRow_obs hB.rw g e).2; omega))
  · rw [bkB_snoc]
    refine nd_grow hnd (fun g hg => (hlt g hg).2) f1 f3 f2 (by omega) (by omega) ?_ (fun g hg => (hvold g hg).1) hN
    unfold obs; cases v.ownBlock <;> simp
  · intro x hx
    rcases List.mem_append.1 hx with hx | hx
    · exact hB.short x hx
    · obtain rfl := List.mem_singleton.1 hx
      exact hl
  · intro x hx
    rcases List.mem_append.1 hx with hx | hx
    · exact hB.ty x hx
    · obtain rfl := List.mem_singleton.1 hx
      exact hty
  · intro g hg
    rw [bkB_snoc] at hg
    simp only [List.mem_cons, List.mem_append] at hg
    rcases hg with rfl | hg | hg | hg | hg | hg
    · exact .inl (by simp [bkB])
    · rcases mem_fr f1 hg with h | h
      · exact .inl (by simp [bkB, h])
      · exact .inr (.inr h.1)
    · rcases mem_fr f2 hg with h | h
      · exact .inl (by simp [bkB, h])
      · exact .inr (.inr (by omega))
    · exact .inl (by simp only [bkB, List.mem_cons, List.mem_append]; exact .inr (.inr (.inr hg)))
    · exact .inr (.inl hg)
    · rcases mem_fr f3 hg with h | h
      · cases h
      · exact .inr (.inr (by omega))
set_option maxRecDepth 100000 in
set_option maxHeartbeats 2000000 in
theorem bkBytes_any (base K : Nat) (vb vw : Value) (L : List Ls) (v : Value) (l : List Nat) (t : TypeId) (W : World) (hty : t = 5 ∨ ∃ a, v = .slice a l.length l.length) (h : Bk W base K vb vw L) (hbase : base ≤ W.heap.size) (hv : W.ownsRow base t 1 v l.length (bC l)) (hl : l.length ≤ 1000) (hnew : ∀ g ∈ obs v, g ∉ bkB K vb vw L) :
    Calls Try.prog 24 #[.pointer (some ⟨K, 0, none⟩), v] W fun e w' => e = .returned (.tuple #[]) ∧ BkPut W base K vb vw L v w' := by
  obtain ⟨i0, hi0, hz0, hz1, hz2⟩ := info_parts Try.infoSl
  obtain ⟨i1, hi1, hy0, hy1, hy2⟩ := info_parts Try.infoByte
  obtain ⟨av, capv, rfl⟩ := sl_form hv
  have HTY := Lib.hid hty
  clear hty
  have HB := Lib.hid h
  have HV := Lib.hid hv
  have HNW := Lib.hid hnew
  obtain ⟨a, cap, hvb⟩ := sl_form h.rb
  obtain ⟨a2, cap2, hvw⟩ := sl_form h.rw
  have HRB : Hid (W.ownsRow base 22 1 (.slice a L.length cap) L.length (L.map Ls.v)) := hvb ▸ h.rb
  have HRW : Hid (W.ownsRow base 22 1 (.slice a2 L.length cap2) L.length (L.map Ls.u)) := hvw ▸ h.rw
  have c8 := (blk_cell h.box 8).trans rfl
  have c9 := (blk_cell h.box 9).trans rfl
  have f8 := blk_free h.box 8
  have hK := blk_lt h.box
  simp [bookC] at c8 c9
  rw [hvb] at c8
  rw [hvw] at c9
  have HVB := Lib.hid hvb
  have HVW := Lib.hid hvw
  by_cases hf : L.length < 400
  · have hf2 : (L.length : Int) < 400 := by omega
    clear h hv hnew hvb hvw
    go_enter Try.func24, Try.ntmps24
    have HKB : Hid (some K ≠ (Value.slice a L.length cap).ownBlock) := by
      intro e
      have h1 := HB.out.nd
      unfold bkB at h1
      rw [HVB.out] at h1
      exact (List.nodup_cons.1 h1).1 (List.mem_append.2 (.inl (obs_mem.2 e.symm)))
    go_wp2_with (at_builtin; refine wpList_append_own_at _ rfl _ _ 32 rfl base 22 i0 (.slice none 0 0) 1 24 Try.underlying32 hi0 hz0 hz1 hz2 rfl (by decide) (.slice a L.length cap) L.length (L.map Ls.v) rfl (HRB.out.alloc _) ⟨W.heap.size, 0, none⟩ 1 1 [.slice av l.length capv] rfl rfl (cell_one_new W _ _) (by simp; rfl) (by unfold maxLen; omega) (by omega) (by simp; omega) ?_; intro vb' w2 hown2 hg2 _ hat2; obtain ⟨a', cap', rfl⟩ := sl_form hown2; have hx2 := blk_grown hg2 (blk_old HB.out.box _) HKB.out; have y8 := (blk_cell hx2 8).trans rfl; have g8 := blk_free hx2 8; simp [bookC] at y8)
    have HKB8 : Hid (some K ≠ (Value.slice a' (L.length + 1) cap').ownBlock ∧ (∀ g ∈ obs (Value.slice a' (L.length + 1) cap'), g < w2.heap.size) ∧ W.heap.size + 1 ≤ w2.heap.size) := by
      have h1 := hg2.size
      simp at h1
      refine ⟨?_, fun g hg => (ownsRow_obs hown2 g hg).2, h1⟩
      rcases hat2 with e | e
      · rw [e]; exact HKB.out
      · rw [e]; simp; omega
    obtain ⟨W3, hW3⟩ : ∃ W3, w2.setCell ⟨K, 8, none⟩ (.slice a' (L.length + 1) cap') = W3 := ⟨_, rfl⟩
    have HX3 : Hid (W3.heap[K]? = some (.cells (bookC (.slice a' (L.length + 1) cap') vw) 41 (0, 0))) := by
      show W3.heap[K]? = _
      rw [← hW3, blk_store hx2 8 _]; simp [bookC]
    have HG3 : Hid (∀ k, k < w2.heap.size → k ≠ K → W3.heap[k]? = w2.heap[k]?) := by
      rw [← hW3]; exact fun k _ hk => Below.heap_setCell w2 ⟨K, 8, none⟩ _ k hk
    have HZ3 : Hid (W3.os = w2.os ∧ W3.tape = w2.tape ∧ W3.output = w2.output ∧ W3.heap.size = w2.heap.size) := by
      rw [← hW3]; exact ⟨rfl, rfl, rfl, by simp⟩
    have HOWN2 := Lib.hid hown2
    have HGR2 := Lib.hid hg2
    have HAT2 := Lib.hid hat2
    rw [hW3]
    clear hW3 hx2 y8 g8 hown2 hg2 hat2 c8 c9 f8
    have y9 := (blk_cell HX3.out 9).trans rfl
    simp [bookC] at y9
    rw [HVW.out] at y9
    refine wp_region_early (fun w' => w'.cell? ⟨K, 9, none⟩ = some (.slice a2 L.length cap2)) (fun k => k == 11) (by kernel_rfl) ?_
    simp only [List.size_toArray, List.length_cons, List.length_nil, Nat.reduceAdd, Array.replicate_succ, Array.replicate_zero, List.push_toArray, List.nil_append, List.cons_append]
    have hdr : Below W3.heap.size W3 W3.drew := (Below.refl _ _).drew
    have HD4 := Lib.hid hdr
    have hSS := (hdr.cell (p := ⟨K, 9, none⟩) (blk_lt HX3.out)).trans y9
    clear hdr y9
    generalize W3.drew = W4 at *
    refine wpAnyE_take (i := 0) (v := ?_) rfl (by kernel_rfl) (by kernel_rfl) (by kernel_rfl) (by kernel_rfl) (fun _ _ _ h => h) (Or.inl ⟨by rfl, ?_⟩) hSS ?_
    rotate_left
    · intro w hSw
      have k0 := hSw
      go_simp
      all_goals with_reducible rfl
    simp only [Act.put, List.setIfInBounds_toArray, List.set_cons_zero, List.set_cons_succ, List.getElem_toArray, List.getElem_cons_zero, List.getElem_cons_succ]
    refine wpAnyE_take (i := 1) (v := ?_) rfl (by kernel_rfl) (by kernel_rfl) (by kernel_rfl) (by kernel_rfl) (fun _ _ _ h => h) (Or.inl ⟨by rfl, ?_⟩) hSS ?_
    rotate_left
    · intro w hSw
      have k0 := hSw
      go_simp
      all_goals with_reducible rfl
    simp only [Act.put, List.setIfInBounds_toArray, List.set_cons_zero, List.set_cons_succ, List.getElem_toArray, List.getElem_cons_zero, List.getElem_cons_succ]
    refine wpAnyE_take (i := 2) (v := ?_) rfl (by kernel_rfl) (by kernel_rfl) (by kernel_rfl) (by kernel_rfl) (fun _ _ _ h => h) (Or.inl ⟨by rfl, ?_⟩) hSS ?_
    rotate_left
    · intro w hSw
      have k0 := hSw
      go_simp
      all_goals with_reducible rfl
    simp only [Act.put, List.setIfInBounds_toArray, List.set_cons_zero, List.set_cons_succ, List.getElem_toArray, List.getElem_cons_zero, List.getElem_cons_succ]
    refine wpAnyE_take (i := 3) (v := ?_) rfl (by kernel_rfl) (by kernel_rfl) (by kernel_rfl) (by kernel_rfl) (fun _ _ _ h => h) (Or.inl ⟨by rfl, ?_⟩) hSS ?_
    rotate_left
    · intro w hSw
      have k0 := hSw
      go_simp
      all_goals with_reducible rfl
    simp only [Act.put, List.setIfInBounds_toArray, List.set_cons_zero, List.set_cons_succ, List.getElem_toArray, List.getElem_cons_zero, List.getElem_cons_succ]
    refine wpAnyE_take (i := 4) (v := ?_) rfl (by kernel_rfl) (by kernel_rfl) (by kernel_rfl) (by kernel_rfl) (fun _ _ _ h => h) (Or.inl ⟨by rfl, ?_⟩) hSS ?_
    rotate_left
    · intro w hSw
      have k0 := hSw
      go_simp
      all_goals with_reducible rfl
    simp only [Act.put, List.setIfInBounds_toArray, List.set_cons_zero, List.set_cons_succ, List.getElem_toArray, List.getElem_cons_zero, List.getElem_cons_succ]
    refine wpAnyE_take (i := 5) (v := ?_) rfl (by kernel_rfl) (by kernel_rfl) (by kernel_rfl) (by kernel_rfl) (fun _ _ _ h => h) (Or.inl ⟨by rfl, ?_⟩) hSS ?_
    rotate_left
    · intro w hSw
      have k0 := hSw
      go_simp
      all_goals with_reducible rfl
    simp only [Act.put, List.setIfInBounds_toArray, List.set_cons_zero, List.set_cons_succ, List.getElem_toArray, List.getElem_cons_zero, List.getElem_cons_succ]
    refine wpAnyE_one (i := 6) (by kernel_rfl) rfl ?_
    change wpList _ _ (Exit.then _ _) [_] _ _
    try simp only [List.setIfInBounds_toArray, List.set_cons_zero, List.set_cons_succ, List.getElem_toArray, List.getElem_cons_zero, List.getElem_cons_succ]
    have HVW4 : Hid (∀ (e : TypeId) (x : Value) (n : Nat) (xs : List Value), W.ownsRow base e 1 x n xs → (∀ g ∈ obs x, g ≠ K ∧ g ∉ obs vb) → W4.ownsRow base e 1 x n xs) := by
      intro e x n xs hx hne
      refine ownsRow_same hx fun g hg => ?_
      have h1 := (ownsRow_obs hx g hg).2
      have h2 := hne g hg
      have h3 := HKB8.out.2.2
      have e1 := HD4.out.block g (by rw [HZ3.out.2.2.2]; omega)
      have e2 := HG3.out g (by omega) h2.1
      have e3 := HGR2.out.block g (by simp; omega) (by intro e; rw [← HVB.out] at e; exact h2.2 (obs_mem.2 e.symm))
      exact e1.trans (e2.trans (e3.trans (heap_alloc_old W _ h1)))
    have HND := Lib.hid HB.out.nd
    have hvW4 : W4.ownsRow base t 1 (.slice av l.length capv) l.length (bC l) :=
      HVW4.out _ _ _ _ HV.out (fun g hg => ⟨fun e => HNW.out g hg (by rw [e]; simp [bkB]), fun e => HNW.out g hg (by simp [bkB, e])⟩)
    have hwW4 : W4.ownsRow base 22 1 (.slice a2 L.length cap2) L.length (L.map Ls.u) := by
      refine HVW4.out _ _ _ _ HRW.out (fun g hg => ?_)
      have h1 := HND.out
      unfold bkB at h1
      rw [← HVW.out] at hg
      simp only [List.nodup_cons, List.nodup_append, List.mem_append, not_or] at h1
      exact ⟨fun e => h1.1.2.1 (e ▸ hg), fun e => h1.2.2.2 g e g (.inl hg) rfl⟩
    have HWW4 := Lib.hid hwW4
    clear hwW4
    refine wpList_copy_new rfl _ 22 rfl 5 i1 (.int .u8 0) 1 1 Try.underlying22 hi1 hy0 hy1 hy2 rfl (by decide) base t (.slice av l.length capv) l.length (bC l) rfl hvW4 (bC_one l) (by unfold maxLen; omega) (by omega) ?_
    intro u w6 hown6 hB6
    clear hvW4
    obtain ⟨au, capu, rfl⟩ := sl_form hown6
    have HO6 := Lib.hid hown6
    have HB6 := Lib.hid hB6
    have hSS : w6.cell? ⟨K, 9, none⟩ = some (.slice a2 L.length cap2) := by rw [hB6.cell (p := ⟨K, 9, none⟩) (cell_lt hSS)]; exact hSS
    have HW6 := Lib.hid (ownsRow_same HWW4.out (fun g hg => hB6.block g (ownsRow_obs HWW4.out g hg).2))
    clear hown6 hB6
    go_wp2_with fail
    refine ⟨fun _ => hSS, ?_⟩
    try simp only [List.setIfInBounds_toArray, List.set_cons_zero, List.set_cons_succ, List.getElem_toArray, List.getElem_cons_zero, List.getElem_cons_succ]
    refine wpAnyE_one (i := 7) (by kernel_rfl) rfl ?_
    change wpList _ _ (Exit.then _ _) [_] _ _
    try simp only [List.setIfInBounds_toArray, List.set_cons_zero, List.set_cons_succ, List.getElem_toArray, List.getElem_cons_zero, List.getElem_cons_succ]
    go_wp2_with fail
    have hSS : (w6.alloc (.cells #[.slice au l.length capu] 22)).cell? ⟨K, 9, none⟩ = some (.slice a2 L.length cap2) := by rw [World.cell?_alloc_old _ _ _ (Nat.ne_of_lt (cell_lt hSS))]; exact hSS
    refine ⟨fun _ => hSS, ?_⟩
    try simp only [List.setIfInBounds_toArray, List.set_cons_zero, List.set_cons_succ, List.getElem_toArray, List.getElem_cons_zero, List.getElem_cons_succ]
    refine wpAnyE_one (i := 8) (by kernel_rfl) rfl ?_
    change wpList _ _ (Exit.then _ _) [_] _ _
    try simp only [List.setIfInBounds_toArray, List.set_cons_zero, List.set_cons_succ, List.getElem_toArray, List.getElem_cons_zero, List.getElem_cons_succ]
    have hbs6 : base ≤ w6.heap.size + 1 := by
      have h1 := HB6.out.size; have h2 := HD4.out.size; have h3 := HZ3.out.2.2.2; have h4 := HKB8.out.2.2
      omega
    have HKW : Hid (some K ≠ (Value.slice a2 L.length cap2).ownBlock) := by
      intro e
      have h1 := HND.out
      unfold bkB at h1
      rw [HVW.out] at h1
      exact (List.nodup_cons.1 h1).1 (List.mem_append.2 (.inr (List.mem_append.2 (.inl (obs_mem.2 e.symm)))))
    have HX6 : Hid (w6.heap[K]? = some (.cells (bookC (.slice a' (L.length + 1) cap') vw) 41 (0, 0))) := blk_below' HB6.out (blk_below' HD4.out HX3.out)
    go_wp2_with (refine wpList_append_own_at _ rfl _ _ 32 rfl base 22 i0 (.slice none 0 0) 1 24 Try.underlying32 hi0 hz0 hz1 hz2 rfl (by decide) (.slice a2 L.length cap2) L.length (L.map Ls.u) rfl (HW6.out.alloc _) ⟨w6.heap.size, 0, none⟩ 1 1 [.slice au l.length capu] rfl rfl (cell_one_new w6 _ _) (by simp; rfl) (by unfold maxLen; omega) (by omega) (by simp; omega) ?_; intro vw' w8 hown8 hg8 _ hat8; obtain ⟨a8, cap8, rfl⟩ := sl_form hown8)
    have hx8 := blk_grown hg8 (blk_old HX6.out _) HKW.out
    have y9 := (blk_cell hx8 9).trans rfl
    have g9 := blk_free hx8 9
    simp [bookC] at y9
    rw [HVW.out] at y9
    have hSS : w8.cell? ⟨K, 9, none⟩ = some (.slice a2 L.length cap2) := y9
    refine ⟨fun _ => hSS, ?_⟩
    try simp only [List.setIfInBounds_toArray, List.set_cons_zero, List.set_cons_succ, List.getElem_toArray, List.getElem_cons_zero, List.getElem_cons_succ]
    refine wpAnyE_take (i := 9) (v := ?_) rfl (by kernel_rfl) (by kernel_rfl) (by kernel_rfl) (by kernel_rfl) (fun _ _ _ h => h) (Or.inl ⟨by rfl, ?_⟩) hSS ?_
    rotate_left
    · intro w hSw
      have k0 := hSw
      go_simp
      all_goals with_reducible rfl
    simp only [Act.put, List.setIfInBounds_toArray, List.set_cons_zero, List.set_cons_succ, List.getElem_toArray, List.getElem_cons_zero, List.getElem_cons_succ]
    refine wpAnyE_take (i := 10) (v := ?_) rfl (by kernel_rfl) (by kernel_rfl) (by kernel_rfl) (by kernel_rfl) (fun _ _ _ h => h) (Or.inl ⟨by rfl, ?_⟩) hSS ?_
    rotate_left
    · intro w hSw
      have k0 := hSw
      go_simp
      all_goals with_reducible rfl
    simp only [Act.put, List.setIfInBounds_toArray, List.set_cons_zero, List.set_cons_succ, List.getElem_toArray, List.getElem_cons_zero, List.getElem_cons_succ]
    have HO8 := Lib.hid hown8
    have HG8 := Lib.hid hg8
    have HA8 := Lib.hid hat8
    have HX8 := Lib.hid hx8
    clear hown8 hg8 hat8 hx8 hSS
    refine wpAnyE_one (i := 11) (by kernel_rfl) rfl ?_
    change wpList _ _ (Exit.then _ _) [_] _ _
    try simp only [List.setIfInBounds_toArray, List.set_cons_zero, List.set_cons_succ, List.getElem_toArray, List.getElem_cons_zero, List.getElem_cons_succ]
    go_wp2_with fail
    refine ⟨fun h => (by cases h), ?_⟩
    try simp only [List.setIfInBounds_toArray, List.set_cons_zero, List.set_cons_succ, List.getElem_toArray, List.getElem_cons_zero, List.getElem_cons_succ]
    refine wpAnyE_end (by kernel_rfl) ?_
    obtain ⟨W9, hW9⟩ : ∃ W9, w8.setCell ⟨K, 9, none⟩ (.slice a8 (L.length + 1) cap8) = W9 := ⟨_, rfl⟩
    have HX9 : Hid (W9.heap[K]? = some (.cells (bookC (.slice a' (L.length + 1) cap') (.slice a8 (L.length + 1) cap8)) 41 (0, 0))) := by
      show W9.heap[K]? = _
      rw [← hW9, blk_store HX8.out 9 _]; simp [bookC]
    have HFIN : Hid (BkPut W base K vb vw L (.slice av l.length capv) W9) := by
      have q1 := HB6.out; have q2 := HD4.out; have q3 := HZ3.out; have q4 := HGR2.out; have q5 := HG8.out
      have q6 := q5.size
      simp at q6
      refine bytes_fin (w2 := w2) (W4 := W4) (w6 := w6) (w8 := w8) (u := .slice au l.length capu) HTY.out HB.out HV.out HNW.out hl hf HOWN2.out HO8.out HO6.out ?_ ?_ q1.block ?_ ?_ HX9.out HKB8.out.2.2 ?_ q1.size (by omega) ?_ hbase ?_ ?_ ?_
      · intro g h1 h2 h3
        have h4 := HKB8.out.2.2
        have e1 := q2.block g (by rw [q3.2.2.2]; omega)
        have e2 := HG3.out g (by omega) h2
        have e3 := q4.block g (by simp; omega) (by intro e; rw [← HVB.out] at e; exact h3 (obs_mem.2 e.symm))
        exact e1.trans (e2.trans (e3.trans (heap_alloc_old W _ h1)))
      · intro g h1 h2
        exact (q2.block g (by rw [q3.2.2.2]; exact h1)).trans (HG3.out g h1 h2)
      · intro g h1 h2
        have e3 := q5.block g (by simp; omega) (by intro e; rw [← HVW.out] at e; exact h2 (obs_mem.2 e.symm))
        exact e3.trans (heap_alloc_old w6 _ h1)
      · intro g h2
        rw [← hW9]; exact Below.heap_setCell w8 ⟨K, 9, none⟩ _ g h2
      · have := q2.size; rw [q3.2.2.2] at this; exact this
      · rw [← hW9]; simp
      · rw [HVB.out]
        exact fr_of HAT2.out (by simp) (fun e => HKB8.out.2.1 _ (obs_mem.2 e))
      · rw [HVW.out]
        exact fr_of HA8.out (by simp) (fun e => (ownsRow_obs HO8.out _ (obs_mem.2 e)).2)
      · rw [← hW9]
        exact ⟨q5.os.trans (q1.os.trans (q2.os.trans (q3.1.trans q4.os))), q5.tape.trans (q1.tape.trans (q2.tape.trans (q3.2.1.trans q4.tape))), q5.output.trans (q1.output.trans (q2.output.trans (q3.2.2.1.trans q4.output)))⟩
    rw [hW9]
    clear hW9
    go_wp2_with fail
    go_end0
    exact ⟨rfl, HFIN.out⟩
  · have hf2 : ¬ (L.length : Int) < 400 := by omega
    clear h hv hnew hvb hvw
    go_enter Try.func24, Try.ntmps24
    go_wp2_with fail
    go_end0
    exact ⟨rfl, vb, vw, L, HB.out, ⟨rfl, rfl, rfl, Nat.le_refl _, fun _ _ _ _ _ => rfl⟩, fun g hg => .inl hg⟩
end Go.Proofs.Ytpfiaepoibablaa
