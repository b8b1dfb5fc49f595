/- The walk of the law RosterTurned. -/
import Derived.Test.YthbejpgeohhppaaWalkParses
import Derived.Test.YthbejpgeohhppaaTurn
import Derived.Test.YthbejpgeohhppaaConv
import Derived.Test.YthbejpgeohhppaaSetEq
import Derived.OpenShut
import Derived.Deep.MidRow
import Derived.Deep.RegionHeld3
namespace Go.Proofs.Ythbejpgeohhppaa
set_option linter.unusedVariables false
set_option linter.unusedSimpArgs false
open Go.RowKit Go.Maps

/-- A roster in a variable. -/
def One (w0 : World) (b B : Nat) (v : Array Value) (o : Option (List Nat)) (W : World) : Prop :=
  W.heap[b]? = some (.cells v 25 (0, 0)) ∧ RostAt W B (.agg v) o ∧ Below w0.heap.size w0 W
theorem One.below {w0 : World} {b B : Nat} {v : Array Value} {o : Option (List Nat)} {W W' : World} (h : One w0 b B v o W) (hb : Below W.heap.size W W') : One w0 b B v o W' :=
  ⟨blk_below' hb h.1, h.2.1.below hb, below_then h.2.2 hb⟩

theorem One.drew {w0 : World} {b B : Nat} {v : Array Value} {o : Option (List Nat)} {W : World} (h : One w0 b B v o W) : One w0 b B v o W.drew :=
  ⟨h.1, h.2.1.below ⟨rfl, rfl, rfl, Nat.le_refl _, fun _ _ => rfl⟩, below_drewN h.2.2 1⟩
theorem parse_is (t : ByteArray) (va : Option Addr) (c : Nat) (m : Option Nat) (o : Option (List Nat)) (B : Nat) (s : ByteArray) (w : World) (hs : s.size ≤ 9223372036854775807) (hl : (sgs o).length ≤ 100)
    (hR : RostAt w B (.agg #[.string t, .slice va (sgs o).length c, .map m]) o) {x a : Nat} {er : Int} (h : parV (sgs o) s = (x, a, er)) :
    Calls Try.prog 21 #[.agg #[.string t, .slice va (sgs o).length c, .map m], .string s] w fun e w' => e = .returned (.tuple #[setV x, .int .i64 a, .int .i64 er]) ∧ Below w.heap.size w w' :=
  (parse_any t va c m o B s w hs hl hR).mono fun e w' ⟨x', a', er', he, h', hb⟩ => by
    rw [h] at h'
    injection h' with h1 h2
    injection h2 with h2 h3
    subst h1 h2 h3
    exact ⟨he, hb⟩
theorem txt_app (a b : List Nat) : txt a ++ txt b = txt (a ++ b) := by
  refine ba_ext ?_
  rw [ByteArray.data_append, Array.toList_append, txt_list, txt_list, txt_list]; simp
theorem row_cellR {W : World} {g n c : Nat} {L : List Nat} (R : W.heap[g]? = some (.cells ((L.map fun r : Nat => Value.int .i32 (r : Int)).toArray ++ Array.replicate (c - n) (.int .i32 0)) 21 (0, 0))) (j : Nat) (hj : j < L.length) : W.cell? ⟨g, j, none⟩ = some (.int .i32 ((L.map fun r : Nat => (r : Int)).getD j 0)) := by
  rw [blk_cell R j, Array.getElem?_append_left (by simp; omega)]
  simp [List.getElem?_map, List.getD_eq_getElem?_getD, List.getElem?_eq_getElem hj]
theorem conv_drop {W : World} {g n c k : Nat} {L : List Nat} (R : W.heap[g]? = some (.cells ((L.map fun r : Nat => Value.int .i32 (r : Int)).toArray ++ Array.replicate (c - n) (.int .i32 0)) 21 (0, 0))) (hL : L.length = n) (hok : ∀ r ∈ L, okR r) :
    (convert 22 9 (.slice (some ⟨g, k, none⟩) (n - k) (c - k))).run Try.prog W = .ok (.string (txt (L.drop k))) W := by
  have := run_convert_runes (P := Try.prog) W 22 9 21 ⟨g, k, none⟩ (n - k) (c - k) ((L.drop k).map fun r : Nat => (r : Int)) (by simp [hL]) Try.underlying22 Try.underlying21 Try.underlying9 (fun j hj => by
    rw [List.length_map, List.length_drop] at hj
    rw [show (⟨g, k, none⟩ : Addr).add j = ⟨g, k + j, none⟩ from Addr.add_mid _ _ _, row_cellR R (k + j) (by omega)]
    simp [List.getD_eq_getElem?_getD, List.getElem?_drop])
  rw [List.take_of_length_le (by simp [hL]), runesBytes_eq _ (fun r hr => hok r (List.mem_of_mem_drop hr))] at this
  exact this
theorem conv_take {W : World} {g n c k : Nat} {L : List Nat} (R : W.heap[g]? = some (.cells ((L.map fun r : Nat => Value.int .i32 (r : Int)).toArray ++ Array.replicate (c - n) (.int .i32 0)) 21 (0, 0))) (hL : L.length = n) (hk : k ≤ n) (hok : ∀ r ∈ L, okR r) :
    (convert 22 9 (.slice (some ⟨g, 0, none⟩) k c)).run Try.prog W = .ok (.string (txt (L.take k))) W := by
  have := run_convert_runes (P := Try.prog) W 22 9 21 ⟨g, 0, none⟩ k c ((L.take k).map fun r : Nat => (r : Int)) (by simp [hL]; omega) Try.underlying22 Try.underlying21 Try.underlying9 (fun j hj => by
    rw [List.length_map, List.length_take] at hj
    rw [show (⟨g, 0, none⟩ : Addr).add j = ⟨g, 0 + j, none⟩ from Addr.add_mid _ _ _, Nat.zero_add, row_cellR R j (by omega)]
    simp [List.getD_eq_getElem?_getD, List.getElem?_take, show j < k by omega])
  rw [List.take_of_length_le (by simp; omega), runesBytes_eq _ (fun r hr => hok r (List.mem_of_mem_take hr))] at this
  exact this

/-- What is known of a world in which the second text is made. -/
def Kn (w0 : World) (b B g n c : Nat) (L : List Nat) (y : Nat) (v : Array Value) (o : Option (List Nat)) (W : World) : Prop :=
  One w0 b B v o W ∧ W.heap[g]? = some (.cells (setC y) 47 (0, 0)) ∧
  W.heap[g + 1]? = some (.cells ((L.map fun r : Nat => Value.int .i32 (r : Int)).toArray ++ Array.replicate (c - n) (.int .i32 0)) 21 (0, 0))
section
variable {w0 : World} {b B g n c y : Nat} {L : List Nat} {v : Array Value} {o : Option (List Nat)} {W W' : World}
theorem Kn.below (h : Kn w0 b B g n c L y v o W) (hb : Below W.heap.size W W') : Kn w0 b B g n c L y v o W' := ⟨h.1.below hb, blk_below' hb h.2.1, blk_below' hb h.2.2⟩
theorem Kn.drew (h : Kn w0 b B g n c L y v o W) : Kn w0 b B g n c L y v o W.drew := ⟨h.1.drew, h.2.1, h.2.2⟩
theorem Kn.alloc (h : Kn w0 b B g n c L y v o W) (x : Obj) : Kn w0 b B g n c L y v o (W.alloc x) := h.below ((Below.refl _ _).alloc (Nat.le_refl _) _)
theorem Kn.set (h : Kn w0 b B g n c L y v o W) {p : Addr} {cs : Array Value} (hp : W.heap[p.block]? = some (.cells cs 47 (0, 0))) (hg : p.block ≠ g) (hw : w0.heap.size ≤ p.block) (u : Value) : Kn w0 b B g n c L y v o (W.setCell p u) := by
  obtain ⟨⟨h1, h2, h3⟩, h4, h5⟩ := h
  have ne : ∀ {k : Nat} {cs' : Array Value} {T : TypeId}, W.heap[k]? = some (.cells cs' T (0, 0)) → T ≠ 47 → k ≠ p.block := fun hk hT e => by
    subst e; rw [hp] at hk; have := Option.some.inj hk; injection this with _ ht; exact hT ht.symm
  exact ⟨⟨blk_set h1 _ _ (ne h1 (by decide)), h2.set hp (by decide) u, h3.setCell hw u⟩, blk_set h4 _ _ (fun e => hg e.symm), blk_set h5 _ _ (ne h5 (by decide))⟩
theorem Kn.set4 (h : Kn w0 b B g n c L y v o W) {d : Nat} {cs : Array Value} (hq : W.heap[d]? = some (.cells cs 47 (0, 0))) (hg : d ≠ g) (hw : w0.heap.size ≤ d) (u0 u1 u2 u3 : Value) :
    Kn w0 b B g n c L y v o ((((W.setCell ⟨d, 0, none⟩ u0).setCell ⟨d, 1, none⟩ u1).setCell ⟨d, 2, none⟩ u2).setCell ⟨d, 3, none⟩ u3) :=
  (((h.set (p := ⟨d, 0, none⟩) hq hg hw u0).set (p := ⟨d, 1, none⟩) (blk_store hq 0 _) hg hw u1).set (p := ⟨d, 2, none⟩) (blk_store (blk_store hq 0 _) 1 _) hg hw u2).set (p := ⟨d, 3, none⟩) (blk_store (blk_store (blk_store hq 0 _) 1 _) 2 _) hg hw u3
end
theorem Kn.all {w0 : World} {b B g n c y k : Nat} {L : List Nat} {v0 v1 v2 : Value} {o : Option (List Nat)} {W : World} (hL : Hid (L.length = n)) (hk : k ≤ n) (hok : Hid (∀ r ∈ L, okR r)) (h : Kn w0 b B g n c L y #[v0, v1, v2] o W) :
    (W.cell? ⟨b, 0, none⟩ = some v0 ∧ W.cell? ⟨b, 1, none⟩ = some v1 ∧ W.cell? ⟨b, 2, none⟩ = some v2) ∧
    (convert 22 9 (.slice (some ⟨g + 1, k, none⟩) (n - k) (c - k))).run Try.prog W = .ok (.string (txt (L.drop k))) W ∧
    (convert 22 9 (.slice (some ⟨g + 1, 0, none⟩) k c)).run Try.prog W = .ok (.string (txt (L.take k))) W ∧ Kn w0 b B g n c L y #[v0, v1, v2] o W := by
  obtain ⟨c0, c1, c2, _⟩ := three_cells h.1.1
  exact ⟨⟨c0, c1, c2⟩, conv_drop h.2.2 hL.out hok.out, conv_take h.2.2 hL.out hk hok.out, h⟩
set_option maxRecDepth 100000 in
set_option maxHeartbeats 2000000 in
theorem rosterTurned_walk (s q : ByteArray) (by_ : Int) (hs : s.size ≤ 140737488351232) (hq : q.size ≤ 140737488351232) (hby : (Lit.int .i64 by_).wf = true) (w : World) :
    Calls Try.prog 6 #[.string s, .string q, .int .i64 by_] w fun e w' => e = .returned (.bool true) ∧ Below w.heap.size w w' := by
  obtain ⟨hb1, hb2⟩ := bounds_i64 hby
  have H1 := Lib.hid (fun w => read_any s (by omega) w)
  have H3 := Lib.hid alive_any
  go_enter Try.func6, Try.ntmps6
  go_wp2_with fail
  refine (H1.out _).mono ?_
  rintro e w1 ⟨v, a, x, o, rfl, hv, hr, hB⟩
  obtain ⟨t, sa, sc, m, rfl⟩ := hr.shape
  have HV := Lib.hid hv
  clear hv
  have hT : One w w1.heap.size w.heap.size #[.string t, .slice sa (sgs o).length sc, .map m] o (w1.alloc (.cells #[.string t, .slice sa (sgs o).length sc, .map m] 25)) :=
    ⟨blk_new w1 _, hr.below ((Below.refl _ _).alloc (Nat.le_refl _) _), hB.alloc hB.size _⟩
  have hz1 := hB.size
  clear hr hB H1
  have HS := Lib.hid (readV_sgs HV.out)
  have HCL := Lib.hid (readV_class HV.out)
  go_wp2_with fail
  refine (parse_any _ _ _ _ _ _ q _ (by omega) HS.out.1 hT.2.1).mono ?_
  rintro e w3 ⟨y, i, er, rfl, hy, hB3⟩
  have HY := Lib.hid hy
  clear hy
  have hT3 := (hT.below hB3).below ((Below.refl _ _).alloc (Nat.le_refl _) (.cells (setC y) 47))
  have z3 := blk_new w3 (.cells (setC y) 47)
  obtain ⟨d0, d1, d2, _⟩ := three_cells hT3.1
  by_cases her : er = 0
  · subst her
    by_cases hda : q = dash
    · have hqd : (q.toList == [45]) = true := by rw [dash_iff]; simpa using hda
      clear hda
      unfold setV
      unfold setC at d0 d1 d2 ⊢
      go_wp2_with (go_at_call 14; refine (H3.out _).mono ?_; rintro e w6 ⟨rfl, hB6⟩; have hT6 := hT3.below hB6)
      go_ret
      exact ⟨rfl, hT6.2.2⟩
    · have hqd : (q.toList == [45]) = false := by rw [dash_iff]; simpa using hda
      have hok := parV_ok HCL.out HY.out hda
      obtain ⟨_, _, hq1, hq2, _, hL1⟩ := hok
      have HDA := Lib.hid hda
      clear hda
      obtain ⟨n, hn⟩ : ∃ n, (rs q).length = n := ⟨_, rfl⟩
      have hn1 : n ≤ 65536 := by have := st_len q 0; rw [← hn]; simp [rs]; omega
      have hcv : ∀ w, (convert 9 22 (.string q)).run Try.prog w = .ok (.slice (some ⟨w.heap.size, 0, none⟩) n (grownCap w n 0 21))
          (w.drew.alloc (.cells (((rs q).map fun r : Nat => Value.int .i32 (r : Int)).toArray ++ Array.replicate (grownCap w n 0 21 - n) (.int .i32 0)) 21)) := fun w => by
        have := run_runes_of_string (P := Try.prog) w 9 22 21 q Try.underlying9 Try.underlying22 Try.underlying21 (by rw [runesFrom_rs]; simp [hn]; omega)
        rw [runesFrom_rs] at this
        simpa [hn] using this
      rw [hn] at hL1
      have HN := Lib.hid hn
      clear hn
      have m1 : -(n : Int) < by_.tmod n := by
        have := Int.lt_tmod_of_pos by_ (show (0 : Int) < n by omega)
        omega
      have m2 : by_.tmod n < n := Int.tmod_lt_of_pos _ (by omega)
      have i0 : (1 : Int) ≤ (n : Int) := by omega
      by_cases hneg : by_.tmod n < 0
      · unfold setV
        unfold setC at d0 d1 d2 ⊢
        go_wp2_with fail
        obtain ⟨k, hk⟩ : ∃ k : Nat, by_.tmod n + n = k := ⟨_, (Int.toNat_of_nonneg (by omega)).symm⟩
        have hkn : k < n := by omega
        rw [hk]
        clear hk m1 m2 hneg
        obtain ⟨c, hc, hc1⟩ : ∃ c, grownCap (w3.alloc (.cells #[.int .u32 (sw y 0 : Nat), .int .u32 (sw y 1 : Nat), .int .u32 (sw y 2 : Nat), .int .u32 (sw y 3 : Nat)] 47)) n 0 21 = c ∧ n ≤ c := ⟨_, rfl, grownCap_ge _ _ _ _⟩
        rw [hc]
        clear hc
        have R4 := blk_new (w3.alloc (.cells (setC y) 47)) (.cells (((rs q).map fun r : Nat => Value.int .i32 (r : Int)).toArray ++ Array.replicate (c - n) (.int .i32 0)) 21)
        rw [World.size_alloc] at R4
        have z4 := blk_old z3 (.cells (((rs q).map fun r : Nat => Value.int .i32 (r : Int)).toArray ++ Array.replicate (c - n) (.int .i32 0)) 21)
        have hT4 := hT3.below ((Below.refl _ _).alloc (Nat.le_refl _) (.cells (((rs q).map fun r : Nat => Value.int .i32 (r : Int)).toArray ++ Array.replicate (c - n) (.int .i32 0)) 21))
        obtain ⟨W4, hW4⟩ : ∃ W4, ((w3.alloc (.cells #[.int .u32 (sw y 0 : Nat), .int .u32 (sw y 1 : Nat), .int .u32 (sw y 2 : Nat), .int .u32 (sw y 3 : Nat)] 47)).alloc (.cells (((rs q).map fun r : Nat => Value.int .i32 (r : Int)).toArray ++ Array.replicate (c - n) (.int .i32 0)) 21)).drew = W4 := ⟨_, rfl⟩
        rw [hW4]
        have R4 : W4.heap[w3.heap.size + 1]? = some (.cells (((rs q).map fun r : Nat => Value.int .i32 (r : Int)).toArray ++ Array.replicate (c - n) (.int .i32 0)) 21 (0, 0)) := by rw [← hW4]; exact R4
        have z4 : W4.heap[w3.heap.size]? = some (.cells (setC y) 47 (0, 0)) := by rw [← hW4]; exact z4
        have hT4 : One w w1.heap.size w.heap.size #[.string t, .slice sa (sgs o).length sc, .map m] o W4 := by rw [← hW4]; exact hT4.drew
        clear hT3 z3 d0 d1 d2 hW4 hcv
        have hK0 : Kn w w1.heap.size w.heap.size w3.heap.size n c (rs q) y #[.string t, .slice sa (sgs o).length sc, .map m] o W4 := ⟨hT4, z4, R4⟩
        clear R4 z4 hT4
        have hpar := parV_perm HCL.out HY.out HDA.out (L := (rs q).drop k ++ (rs q).take k) (by
          have := (List.perm_append_comm (l₁ := (rs q).take k) (l₂ := (rs q).drop k))
          rwa [List.take_append_drop] at this)
        have hsum : txt ((rs q).drop k) ++ txt ((rs q).take k) = txt ((rs q).drop k ++ (rs q).take k) := txt_app _ _
        have HPAR := Lib.hid hpar
        have htl : (txt ((rs q).drop k ++ (rs q).take k)).size ≤ 9223372036854775807 := by
          have := (flat_len ((rs q).drop k ++ (rs q).take k)).2
          rw [txt_size]
          simp only [List.length_append, List.length_drop, List.length_take, HN.out] at this
          omega
        clear hpar
        have HOK := Lib.hid (rs_ok q)
        have kn : k ≤ n := by omega
        have kn1 : (k : Int) < (n : Int) := by omega
        have kc : k < c := by omega
        have kc1 : ¬ c = k := by omega
        have kc2 : (k : Int) ≤ (c : Int) := by omega
        have kc3 : (0 : Int) ≤ (k : Int) := by omega
        have kc4 : (k : Int) ≤ (n : Int) := by omega
        have hadd : ¬ 9223372036854775807 < (txt ((rs q).drop k)).size + (txt ((rs q).take k)).size := by
          have a1 := (flat_len ((rs q).drop k)).2
          have a2 := (flat_len ((rs q).take k)).2
          rw [txt_size, txt_size]
          simp only [List.length_drop, List.length_take, HN.out] at a1 a2
          omega
        have hne : W4.heap.size ≠ w3.heap.size := by have := blk_lt hK0.2.2; omega
        have hwz : w.heap.size ≤ W4.heap.size := hK0.1.2.2.size
        go_region_held3 (fun w' => (w'.cell? ⟨w1.heap.size, 0, none⟩ = some (.string t) ∧ w'.cell? ⟨w1.heap.size, 1, none⟩ = some (.slice sa (sgs o).length sc) ∧ w'.cell? ⟨w1.heap.size, 2, none⟩ = some (.map m)) ∧
            (convert 22 9 (.slice (some ⟨w3.heap.size + 1, k, none⟩) (n - k) (c - k))).run Try.prog w' = .ok (.string (txt ((rs q).drop k))) w' ∧
            (convert 22 9 (.slice (some ⟨w3.heap.size + 1, 0, none⟩) k c)).run Try.prog w' = .ok (.string (txt ((rs q).take k))) w' ∧ Kn w w1.heap.size w.heap.size w3.heap.size n c (rs q) y #[.string t, .slice sa (sgs o).length sc, .map m] o w')
          (exact Kn.all HN kn HOK (by first | with_reducible exact hK0.drew | with_reducible exact (hK0.alloc _).drew | with_reducible exact hK | with_reducible exact hK.alloc _ | exact Kn.set4 hK hq hne hwz _ _ _ _))
          (first
            | (go_at_call 21; have hk := (‹_ ∧ _ ∧ _ ∧ Kn _ _ _ _ _ _ _ _ _ _ _›).2.2.2; refine (parse_is _ _ _ _ _ _ _ _ htl HS.out.1 hk.1.2.1 HPAR.out).mono ?_; rintro e w' ⟨rfl, hB⟩; have hK := hk.below hB; (try (have hq : w'.heap[W4.heap.size]? = some (Obj.cells (setC 0) 47 (0, 0)) := blk_below' hB (blk_new W4 _); obtain ⟨a0, a1, a2, a3, b0, b1, b2, b3⟩ := set_cells hq)); unfold setV setC))
        · obtain ⟨W7, hW7⟩ : ∃ W7, w'.alloc (.cells #[.int .u32 (sw y 0 : Nat), .int .u32 (sw y 1 : Nat), .int .u32 (sw y 2 : Nat), .int .u32 (sw y 3 : Nat)] 47) = W7 := ⟨_, rfl⟩
          rw [hW7]
          have D7 : W7.heap[w'.heap.size]? = some (.cells (setC y) 47 (0, 0)) := by rw [← hW7]; exact blk_new _ _
          have K7 : Kn w w1.heap.size w.heap.size w3.heap.size n c (rs q) y #[.string t, .slice sa (sgs o).length sc, .map m] o W7 := by rw [← hW7]; exact hK.alloc _
          clear hW7
          have heq : ∀ w, (Op.equalIn 10000 47 (.agg #[.int .u32 (sw y 0 : Nat), .int .u32 (sw y 1 : Nat), .int .u32 (sw y 2 : Nat), .int .u32 (sw y 3 : Nat)]) (.agg #[.int .u32 (sw y 0 : Nat), .int .u32 (sw y 1 : Nat), .int .u32 (sw y 2 : Nat), .int .u32 (sw y 3 : Nat)])).run Try.prog w = .ok true w := fun w => by
            rw [eq_words]; simp
          go_wp2_with (go_at_call 14; refine (H3.out _).mono ?_; rintro e w8 ⟨rfl, hB8⟩; obtain ⟨r0, r1, r2, r3, _⟩ := set_cells (blk_below' hB8 D7); obtain ⟨s0, s1, s2, s3, _⟩ := set_cells (blk_below' hB8 K7.2.1))
          go_ret
          exact ⟨rfl, (K7.below hB8).1.2.2⟩
        · obtain ⟨W7, hW7⟩ : ∃ W7, (((w'.setCell ⟨W4.heap.size, 0, none⟩ (.int .u32 (sw y 0 : Nat))).setCell ⟨W4.heap.size, 1, none⟩ (.int .u32 (sw y 1 : Nat))).setCell ⟨W4.heap.size, 2, none⟩ (.int .u32 (sw y 2 : Nat))).setCell ⟨W4.heap.size, 3, none⟩ (.int .u32 (sw y 3 : Nat)) = W7 := ⟨_, rfl⟩
          rw [hW7]
          have D7 : W7.heap[W4.heap.size]? = some (.cells (setC y) 47 (0, 0)) := by rw [← hW7]; exact set4_blk hq y
          have K7 : Kn w w1.heap.size w.heap.size w3.heap.size n c (rs q) y #[.string t, .slice sa (sgs o).length sc, .map m] o W7 := by rw [← hW7]; exact hK.set4 hq hne hwz _ _ _ _
          clear hW7
          have heq : ∀ w, (Op.equalIn 10000 47 (.agg #[.int .u32 (sw y 0 : Nat), .int .u32 (sw y 1 : Nat), .int .u32 (sw y 2 : Nat), .int .u32 (sw y 3 : Nat)]) (.agg #[.int .u32 (sw y 0 : Nat), .int .u32 (sw y 1 : Nat), .int .u32 (sw y 2 : Nat), .int .u32 (sw y 3 : Nat)])).run Try.prog w = .ok true w := fun w => by
            rw [eq_words]; simp
          go_wp2_with (go_at_call 14; refine (H3.out _).mono ?_; rintro e w8 ⟨rfl, hB8⟩; obtain ⟨r0, r1, r2, r3, _⟩ := set_cells (blk_below' hB8 D7); obtain ⟨s0, s1, s2, s3, _⟩ := set_cells (blk_below' hB8 K7.2.1))
          go_ret
          exact ⟨rfl, (K7.below hB8).1.2.2⟩
      · have hneg : 0 ≤ by_.tmod n := by omega
        unfold setV
        unfold setC at d0 d1 d2 ⊢
        go_wp2_with fail
        obtain ⟨k, hk⟩ : ∃ k : Nat, by_.tmod n = k := ⟨_, (Int.toNat_of_nonneg (by omega)).symm⟩
        have hkn : k < n := by omega
        rw [hk]
        clear hk m1 m2 hneg
        obtain ⟨c, hc, hc1⟩ : ∃ c, grownCap (w3.alloc (.cells #[.int .u32 (sw y 0 : Nat), .int .u32 (sw y 1 : Nat), .int .u32 (sw y 2 : Nat), .int .u32 (sw y 3 : Nat)] 47)) n 0 21 = c ∧ n ≤ c := ⟨_, rfl, grownCap_ge _ _ _ _⟩
        rw [hc]
        clear hc
        have R4 := blk_new (w3.alloc (.cells (setC y) 47)) (.cells (((rs q).map fun r : Nat => Value.int .i32 (r : Int)).toArray ++ Array.replicate (c - n) (.int .i32 0)) 21)
        rw [World.size_alloc] at R4
        have z4 := blk_old z3 (.cells (((rs q).map fun r : Nat => Value.int .i32 (r : Int)).toArray ++ Array.replicate (c - n) (.int .i32 0)) 21)
        have hT4 := hT3.below ((Below.refl _ _).alloc (Nat.le_refl _) (.cells (((rs q).map fun r : Nat => Value.int .i32 (r : Int)).toArray ++ Array.replicate (c - n) (.int .i32 0)) 21))
        obtain ⟨W4, hW4⟩ : ∃ W4, ((w3.alloc (.cells #[.int .u32 (sw y 0 : Nat), .int .u32 (sw y 1 : Nat), .int .u32 (sw y 2 : Nat), .int .u32 (sw y 3 : Nat)] 47)).alloc (.cells (((rs q).map fun r : Nat => Value.int .i32 (r : Int)).toArray ++ Array.replicate (c - n) (.int .i32 0)) 21)).drew = W4 := ⟨_, rfl⟩
        rw [hW4]
        have R4 : W4.heap[w3.heap.size + 1]? = some (.cells (((rs q).map fun r : Nat => Value.int .i32 (r : Int)).toArray ++ Array.replicate (c - n) (.int .i32 0)) 21 (0, 0)) := by rw [← hW4]; exact R4
        have z4 : W4.heap[w3.heap.size]? = some (.cells (setC y) 47 (0, 0)) := by rw [← hW4]; exact z4
        have hT4 : One w w1.heap.size w.heap.size #[.string t, .slice sa (sgs o).length sc, .map m] o W4 := by rw [← hW4]; exact hT4.drew
        clear hT3 z3 d0 d1 d2 hW4 hcv
        have hK0 : Kn w w1.heap.size w.heap.size w3.heap.size n c (rs q) y #[.string t, .slice sa (sgs o).length sc, .map m] o W4 := ⟨hT4, z4, R4⟩
        clear R4 z4 hT4
        have hpar := parV_perm HCL.out HY.out HDA.out (L := (rs q).drop k ++ (rs q).take k) (by
          have := (List.perm_append_comm (l₁ := (rs q).take k) (l₂ := (rs q).drop k))
          rwa [List.take_append_drop] at this)
        have hsum : txt ((rs q).drop k) ++ txt ((rs q).take k) = txt ((rs q).drop k ++ (rs q).take k) := txt_app _ _
        have HPAR := Lib.hid hpar
        have htl : (txt ((rs q).drop k ++ (rs q).take k)).size ≤ 9223372036854775807 := by
          have := (flat_len ((rs q).drop k ++ (rs q).take k)).2
          rw [txt_size]
          simp only [List.length_append, List.length_drop, List.length_take, HN.out] at this
          omega
        clear hpar
        have HOK := Lib.hid (rs_ok q)
        have kn : k ≤ n := by omega
        have kn1 : (k : Int) < (n : Int) := by omega
        have kc : k < c := by omega
        have kc1 : ¬ c = k := by omega
        have kc2 : (k : Int) ≤ (c : Int) := by omega
        have kc3 : (0 : Int) ≤ (k : Int) := by omega
        have kc4 : (k : Int) ≤ (n : Int) := by omega
        have hadd : ¬ 9223372036854775807 < (txt ((rs q).drop k)).size + (txt ((rs q).take k)).size := by
          have a1 := (flat_len ((rs q).drop k)).2
          have a2 := (flat_len ((rs q).take k)).2
          rw [txt_size, txt_size]
          simp only [List.length_drop, List.length_take, HN.out] at a1 a2
          omega
        have hne : W4.heap.size ≠ w3.heap.size := by have := blk_lt hK0.2.2; omega
        have hwz : w.heap.size ≤ W4.heap.size := hK0.1.2.2.size
        go_region_held3 (fun w' => (w'.cell? ⟨w1.heap.size, 0, none⟩ = some (.string t) ∧ w'.cell? ⟨w1.heap.size, 1, none⟩ = some (.slice sa (sgs o).length sc) ∧ w'.cell? ⟨w1.heap.size, 2, none⟩ = some (.map m)) ∧
            (convert 22 9 (.slice (some ⟨w3.heap.size + 1, k, none⟩) (n - k) (c - k))).run Try.prog w' = .ok (.string (txt ((rs q).drop k))) w' ∧
            (convert 22 9 (.slice (some ⟨w3.heap.size + 1, 0, none⟩) k c)).run Try.prog w' = .ok (.string (txt ((rs q).take k))) w' ∧ Kn w w1.heap.size w.heap.size w3.heap.size n c (rs q) y #[.string t, .slice sa (sgs o).length sc, .map m] o w')
          (exact Kn.all HN kn HOK (by first | with_reducible exact hK0.drew | with_reducible exact (hK0.alloc _).drew | with_reducible exact hK | with_reducible exact hK.alloc _ | exact Kn.set4 hK hq hne hwz _ _ _ _))
          (first
            | (go_at_call 21; have hk := (‹_ ∧ _ ∧ _ ∧ Kn _ _ _ _ _ _ _ _ _ _ _›).2.2.2; refine (parse_is _ _ _ _ _ _ _ _ htl HS.out.1 hk.1.2.1 HPAR.out).mono ?_; rintro e w' ⟨rfl, hB⟩; have hK := hk.below hB; (try (have hq : w'.heap[W4.heap.size]? = some (Obj.cells (setC 0) 47 (0, 0)) := blk_below' hB (blk_new W4 _); obtain ⟨a0, a1, a2, a3, b0, b1, b2, b3⟩ := set_cells hq)); unfold setV setC))
        · obtain ⟨W7, hW7⟩ : ∃ W7, w'.alloc (.cells #[.int .u32 (sw y 0 : Nat), .int .u32 (sw y 1 : Nat), .int .u32 (sw y 2 : Nat), .int .u32 (sw y 3 : Nat)] 47) = W7 := ⟨_, rfl⟩
          rw [hW7]
          have D7 : W7.heap[w'.heap.size]? = some (.cells (setC y) 47 (0, 0)) := by rw [← hW7]; exact blk_new _ _
          have K7 : Kn w w1.heap.size w.heap.size w3.heap.size n c (rs q) y #[.string t, .slice sa (sgs o).length sc, .map m] o W7 := by rw [← hW7]; exact hK.alloc _
          clear hW7
          have heq : ∀ w, (Op.equalIn 10000 47 (.agg #[.int .u32 (sw y 0 : Nat), .int .u32 (sw y 1 : Nat), .int .u32 (sw y 2 : Nat), .int .u32 (sw y 3 : Nat)]) (.agg #[.int .u32 (sw y 0 : Nat), .int .u32 (sw y 1 : Nat), .int .u32 (sw y 2 : Nat), .int .u32 (sw y 3 : Nat)])).run Try.prog w = .ok true w := fun w => by
            rw [eq_words]; simp
          go_wp2_with (go_at_call 14; refine (H3.out _).mono ?_; rintro e w8 ⟨rfl, hB8⟩; obtain ⟨r0, r1, r2, r3, _⟩ := set_cells (blk_below' hB8 D7); obtain ⟨s0, s1, s2, s3, _⟩ := set_cells (blk_below' hB8 K7.2.1))
          go_ret
          exact ⟨rfl, (K7.below hB8).1.2.2⟩
        · obtain ⟨W7, hW7⟩ : ∃ W7, (((w'.setCell ⟨W4.heap.size, 0, none⟩ (.int .u32 (sw y 0 : Nat))).setCell ⟨W4.heap.size, 1, none⟩ (.int .u32 (sw y 1 : Nat))).setCell ⟨W4.heap.size, 2, none⟩ (.int .u32 (sw y 2 : Nat))).setCell ⟨W4.heap.size, 3, none⟩ (.int .u32 (sw y 3 : Nat)) = W7 := ⟨_, rfl⟩
          rw [hW7]
          have D7 : W7.heap[W4.heap.size]? = some (.cells (setC y) 47 (0, 0)) := by rw [← hW7]; exact set4_blk hq y
          have K7 : Kn w w1.heap.size w.heap.size w3.heap.size n c (rs q) y #[.string t, .slice sa (sgs o).length sc, .map m] o W7 := by rw [← hW7]; exact hK.set4 hq hne hwz _ _ _ _
          clear hW7
          have heq : ∀ w, (Op.equalIn 10000 47 (.agg #[.int .u32 (sw y 0 : Nat), .int .u32 (sw y 1 : Nat), .int .u32 (sw y 2 : Nat), .int .u32 (sw y 3 : Nat)]) (.agg #[.int .u32 (sw y 0 : Nat), .int .u32 (sw y 1 : Nat), .int .u32 (sw y 2 : Nat), .int .u32 (sw y 3 : Nat)])).run Try.prog w = .ok true w := fun w => by
            rw [eq_words]; simp
          go_wp2_with (go_at_call 14; refine (H3.out _).mono ?_; rintro e w8 ⟨rfl, hB8⟩; obtain ⟨r0, r1, r2, r3, _⟩ := set_cells (blk_below' hB8 D7); obtain ⟨s0, s1, s2, s3, _⟩ := set_cells (blk_below' hB8 K7.2.1))
          go_ret
          exact ⟨rfl, (K7.below hB8).1.2.2⟩
  · have herr : (er != 0) = true := by simpa using her
    clear her
    unfold setV
    unfold setC at d0 d1 d2 ⊢
    go_wp2_with (go_at_call 14; refine (H3.out _).mono ?_; rintro e w6 ⟨rfl, hB6⟩; have hT6 := hT3.below hB6)
    go_ret
    exact ⟨rfl, hT6.2.2⟩
end Go.Proofs.Ythbejpgeohhppaa
