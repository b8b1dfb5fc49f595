/- Walks: load, Load, Save. -/
import Derived.Test.YthkppkecclnlnaaGreatSlotC
namespace Go.Proofs.YthkppkecclnlnaaGreat
set_option linter.unusedVariables false
set_option linter.unusedSimpArgs false
open Go.RowKit

def bestK (bs : List Nat) : Nat → Rc × Int
  | 0 => (Rc.zero, -1)
  | k + 1 => pick (bestK bs k) k (decL (slotB bs k))
theorem bestK_two (bs : List Nat) : bestK bs 2 = bestL bs := rfl
def keptC (r : Rc) : Array Value := #[.int .i64 (r.life : Int), .int .i64 (r.round : Int), .int .i64 (r.tag : Int), .int .i64 (r.seq : Int)]
structure LdI (w : World) (b : Nat) (d : Dk) (r : Rc) (W : World) : Prop where
  disk : DkAt W b d
  res : W.heap[w.heap.size]? = some (.cells #[.int .i64 0, .int .i64 0, .int .i64 0, .int .i64 0] 59 (0, 0))
  best : W.heap[w.heap.size + 1]? = some (.cells #[.int .i64 (r.life : Int), .int .i64 (r.round : Int), .int .i64 (r.tag : Int), .int .i64 (r.seq : Int)] 59 (0, 0))
  low : Below w.heap.size w W
theorem LdI.below {w W W' : World} {b : Nat} {d : Dk} {r : Rc} (h : LdI w b d r W) (hb : Below W.heap.size W W') : LdI w b d r W' := ⟨h.disk.below hb, blk_below' hb h.res, blk_below' hb h.best, below_then h.low hb⟩
theorem LdI.put {w W : World} {b : Nat} {d : Dk} {r : Rc} (h : LdI w b d r W) (hb : b < w.heap.size) (q : Rc) :
    LdI w b d q ((((W.setCell ⟨w.heap.size + 1, 0, none⟩ (.int .i64 (q.life : Int))).setCell ⟨w.heap.size + 1, 1, none⟩ (.int .i64 (q.round : Int))).setCell ⟨w.heap.size + 1, 2, none⟩ (.int .i64 (q.tag : Int))).setCell ⟨w.heap.size + 1, 3, none⟩ (.int .i64 (q.seq : Int))) := by
  have hlt := blk_lt h.best
  have hgr : W.grownBy ((((W.setCell ⟨w.heap.size + 1, 0, none⟩ (.int .i64 (q.life : Int))).setCell ⟨w.heap.size + 1, 1, none⟩ (.int .i64 (q.round : Int))).setCell ⟨w.heap.size + 1, 2, none⟩ (.int .i64 (q.tag : Int))).setCell ⟨w.heap.size + 1, 3, none⟩ (.int .i64 (q.seq : Int))) (some (w.heap.size + 1)) :=
    but_set (but_set (but_set (but_set (but_refl _ _) hlt _ _) hlt _ _) hlt _ _) hlt _ _
  exact ⟨h.disk.but hgr (by omega), blk_grown hgr h.res (by simp), blk_store (blk_store (blk_store (blk_store h.best 0 _) 1 _) 2 _) 3 _, h.low.grown hgr h.low.size (fun j hj => by cases hj; omega)⟩
theorem slotB_get {bs : List Nat} (h : bs.length = 256) {k : Nat} (hk : k < 4) : (slotB bs k).length = 64 := by
  unfold slotB; rw [List.length_append, rowS_len h (by omega), rowS_len h (by omega)]
theorem rowS_lt {bs : List Nat} (h : ∀ c ∈ bs, c < 256) (s : Nat) : ∀ c ∈ rowS bs s, c < 256 := fun c hc => h c (List.mem_of_mem_drop (List.mem_of_mem_take hc))
theorem slotB_lt {bs : List Nat} (h : ∀ c ∈ bs, c < 256) (k : Nat) : ∀ c ∈ slotB bs k, c < 256 := by
  intro c hc
  rcases List.mem_append.1 hc with hc | hc
  · exact rowS_lt h _ c hc
  · exact rowS_lt h _ c hc
theorem blk4 {W : World} {b : Nat} {x y z s : Value} {t : TypeId} (h : W.heap[b]? = some (.cells #[x, y, z, s] t (0, 0))) :
    W.cell? ⟨b, 0, none⟩ = some x ∧ W.cell? ⟨b, 1, none⟩ = some y ∧ W.cell? ⟨b, 2, none⟩ = some z ∧ W.cell? ⟨b, 3, none⟩ = some s ∧ W.frozen? ⟨b, 0, none⟩ = false ∧ W.frozen? ⟨b, 1, none⟩ = false ∧ W.frozen? ⟨b, 2, none⟩ = false ∧ W.frozen? ⟨b, 3, none⟩ = false :=
  ⟨(blk_cell h 0).trans rfl, (blk_cell h 1).trans rfl, (blk_cell h 2).trans rfl, (blk_cell h 3).trans rfl, blk_free h 0, blk_free h 1, blk_free h 2, blk_free h 3⟩
theorem blk3 {W : World} {b : Nat} {x y z : Value} {t : TypeId} (h : W.heap[b]? = some (.cells #[x, y, z] t (0, 0))) :
    W.cell? ⟨b, 0, none⟩ = some x ∧ W.cell? ⟨b, 1, none⟩ = some y ∧ W.cell? ⟨b, 2, none⟩ = some z ∧ W.frozen? ⟨b, 0, none⟩ = false ∧ W.frozen? ⟨b, 1, none⟩ = false ∧ W.frozen? ⟨b, 2, none⟩ = false :=
  ⟨(blk_cell h 0).trans rfl, (blk_cell h 1).trans rfl, (blk_cell h 2).trans rfl, blk_free h 0, blk_free h 1, blk_free h 2⟩
def ldA (d : Dk) : Value := if d.off then .tuple #[keptV Rc.zero, .int .i64 (-1), .int .i64 100] else .tuple #[keptV (bestL d.bs).1, .int .i64 (bestL d.bs).2, .int .i64 0]
theorem ld_end {w W : World} {d : Dk} {a : Act} {x y z s i c : Int} (hd : a.defers = []) (h2 : a.tmps[2]?.getD undef = .pointer (some ⟨w.heap.size, 0, none⟩)) (h3 : a.tmps[3]?.getD undef = .int .i64 i) (h4 : a.tmps[4]?.getD undef = .int .i64 c)
    (hb : W.heap[w.heap.size]? = some (.cells #[.int .i64 x, .int .i64 y, .int .i64 z, .int .i64 s] 59 (0, 0))) (hl : Below w.heap.size w W)
    (he : .tuple #[.agg #[.int .i64 x, .int .i64 y, .int .i64 z, .int .i64 s], .int .i64 i, .int .i64 c] = ldA d) :
    bodyPost Tryz.prog Tryz.f73 (fun e w' => e = .returned (ldA d) ∧ Below w.heap.size w w') Exit.ret a W := by
  obtain ⟨y0, y1, y2, y3, _⟩ := blk4 hb
  refine bodyPost_ret (v := .tuple #[.agg #[.int .i64 x, .int .i64 y, .int .i64 z, .int .i64 s], .int .i64 i, .int .i64 c]) ?_ hd ⟨by rw [he], hl⟩
  simp [results, Tryz.results73, go_sem, h2, h3, h4, y0, y1, y2, y3]
set_option maxRecDepth 100000 in
set_option maxHeartbeats 2000000 in
theorem ld_any (b : Nat) (d : Dk) (w : World) (h : DkAt w b d) (hlt : ∀ c ∈ d.bs, c < 256) :
    Calls Tryz.prog 73 #[.pointer (some ⟨b, 0, none⟩)] w fun e w' => e = .returned (ldA d) ∧ Below w.heap.size w w' := by
  obtain ⟨i0, hi, hz0, hz1, hz2⟩ := info_parts Tryz.infoByte
  have hI : LdI w b d Rc.zero ((w.alloc (.cells #[.int .i64 0, .int .i64 0, .int .i64 0, .int .i64 0] 59)).alloc (.cells #[.int .i64 0, .int .i64 0, .int .i64 0, .int .i64 0] 59)) :=
    ⟨(h.below ((Below.refl _ w).alloc (Nat.le_refl _) _)).below ((Below.refl _ _).alloc (Nat.le_refl _) _), blk_old (blk_new w _) _, b1' w _ _, ((Below.refl _ w).alloc (Nat.le_refl _) _).alloc (by simp) _⟩
  have HLT := Lib.hid hlt
  have HLEN := Lib.hid h.2
  have HBW := Lib.hid h.lt
  clear h hlt
  go_enter Tryz.func73, Tryz.ntmps73
  go_wp2_with fail
  go_loopw [6, 14] (fun av i wr => ∃ (k : Nat), i = .int .i64 k ∧ k ≤ 2 ∧ av = .int .i64 (bestK d.bs k).2 ∧ LdI w b d (bestK d.bs k).1 wr ∧ (k = 0 ∨ d.off = false)) (fun _ i _ => 2 - (intOf i).toNat)
  case atStart => exact ⟨0, rfl, by omega, rfl, hI, .inl rfl⟩
  case round =>
    obtain ⟨k, rfl, hk, rfl, hI, hoff⟩ := hrel
    by_cases hlt : k < 2
    · have i1 : (k : Int) < 2 := by omega
      have i2 : (0 : Int) ≤ (k : Int) := by omega
      have i3 : (k : Int).toNat = k := Int.toNat_natCast k
      go_wp2_with fail
      refine (read_any b d (2 * (k : Int)) wr hI.disk).mono ?_
      rintro e w1 ⟨v1, rfl, hno, hv1, hB1⟩
      have hI1 := hI.below hB1
      by_cases ho : d.off = true
      · have hm : mayV d (2 * (k : Int)) = 100 := by unfold mayV; rw [ho]; rfl
        have hvn := hno (by rw [hm]; decide)
        subst hvn
        rw [hm]
        obtain rfl : k = 0 := by rcases hoff with h | h; exact h; rw [ho] at h; cases h
        obtain ⟨z0, z1, z2, z3, f0, f1, f2, f3⟩ := blk4 hI1.res
        go_wp2_with fail
        generalize hWF : World.setCell (World.setCell (World.setCell (World.setCell _ _ _) _ _) _ _) _ _ = WF
        refine ld_end (x := 0) (y := 0) (z := 0) (s := 0) (i := -1) (c := 100) rfl rfl rfl rfl ?_ ?_ ?_
        · rw [← hWF]; exact blk_store (blk_store (blk_store (blk_store hI1.res 0 _) 1 _) 2 _) 3 _
        · rw [← hWF]; exact (((hI1.low.setCell (Nat.le_refl _) _).setCell (Nat.le_refl _) _).setCell (Nat.le_refl _) _).setCell (Nat.le_refl _) _
        · unfold ldA; rw [if_pos ho]; rfl
      · have ho : d.off = false := by simpa using ho
        have hm : mayV d (2 * (k : Int)) = 0 := by unfold mayV; rw [ho, if_neg (by decide), if_neg (by omega)]
        have hm2 : mayV d (2 * (k : Int) + 1) = 0 := by unfold mayV; rw [ho, if_neg (by decide), if_neg (by omega)]
        have hr1 := hv1 hm
        rw [hm]
        rw [show (2 * (k : Int)).toNat = 2 * k from by omega] at hr1
        have hr1 : w1.ownsRow wr.heap.size 5 1 v1 32 (bC (rowS d.bs (2 * k))) := hr1
        clear hno hv1 hm
        go_wp2_with fail
        refine (read_any b d (2 * (k : Int) + 1) w1 hI1.disk).mono ?_
        rintro e w2 ⟨v2, rfl, _, hv2, hB2⟩
        have hI2 := hI1.below hB2
        have hr2 := hv2 hm2
        rw [hm2]
        rw [show (2 * (k : Int) + 1).toNat = 2 * k + 1 from by omega] at hr2
        have hr2 : w2.ownsRow w1.heap.size 5 1 v2 32 (bC (rowS d.bs (2 * k + 1))) := hr2
        have hr1 := ownsRow_below hr1 hB2
        obtain ⟨g2, c2, rfl, hg21, hg22⟩ := ownsRow_pos hr2 (by omega)
        have hp2 := row_all hr2 (rowS_len HLEN.out (show 2 * k + 1 < 8 by omega))
        have hsz1 := hB1.size
        have hsz2 := hB2.size
        clear hv2 hm2
        go_wp2_with (at_builtin; refine wpList_append_own _ rfl _ _ 24 rfl wr.heap.size 5 i0 (.int .u8 0) 1 1 Tryz.underlying24 hi hz0 hz1 hz2 rfl (by decide) _ _ _ rfl hr1 ⟨g2, 0, none⟩ 32 c2 (bC (rowS d.bs (2 * k + 1))) rfl ?a1 ?a2 ?a3 ?a4 ?a5 ?a6 ?_)
        case a1 => rw [bC_len, rowS_len HLEN.out (by omega)]
        case a2 => intro j u hu; rw [bC_get] at hu; obtain ⟨x, hx, rfl⟩ := Option.map_eq_some_iff.1 hu; obtain ⟨q, h1, h2⟩ := hp2 j x hx; cases h1; exact h2
        case a3 => exact bC_one _
        case a4 => unfold maxLen; omega
        case a5 => omega
        case a6 => omega
        intro v3 w3 hown3 hg3 hv3
        have hb3 : Below wr.heap.size wr w3 := (below_then hB1 hB2).grown hg3 (by omega) (fun j hj => (hr1.lt _ hj).1)
        have hI3 := hI.below hb3
        have hown4 : w3.ownsRow wr.heap.size 5 1 v3 64 (bC (slotB d.bs k)) := by
          have : bC (slotB d.bs k) = bC (rowS d.bs (2 * k)) ++ bC (rowS d.bs (2 * k + 1)) := by unfold slotB bC; rw [List.map_append]
          rw [this]; exact hown3
        obtain ⟨g3, c3, rfl, hg31, hg32⟩ := ownsRow_pos hown4 (by omega)
        have hp3 := row_all hown4 (slotB_get HLEN.out (show k < 4 by omega))
        have hcp3 := row_cap hown4
        have HDE := Lib.hid (decode_any g3 0 c3 (slotB d.bs k) (slotB_get HLEN.out (by omega)) (slotB_lt HLT.out k) hcp3 w3 hp3 hg32)
        clear hown3 hown4 hg3 hp2 hr1 hr2 hI1 hI2 hI hp3
        cases hd : decL (slotB d.bs k) with
        | none =>
          rw [hd] at HDE
          unfold decA recV at HDE
          have hbk : bestK d.bs (k + 1) = bestK d.bs k := by show pick _ _ _ = _; rw [hd]; rfl
          have HBK := Lib.hid hbk
          clear hd hbk
          go_wp2_with (go_at_call 8; refine HDE.out.mono ?_; rintro e w4 ⟨rfl, hB4⟩)
          go_roundw
          case rel =>
            refine ⟨k + 1, by go_num, by omega, by rw [HBK.out], ?_, .inr ho⟩
            rw [HBK.out]
            exact (hI3.below hB4).below ((Below.refl _ _).alloc (Nat.le_refl _) _)
          case measure => simp [intOf]; omega
        | some r =>
          rw [hd] at HDE
          unfold decA recV at HDE
          obtain ⟨y0, y1, y2, y3, f0, f1, f2, f3⟩ := blk4 hI3.best
          by_cases hgt : (bestK d.bs k).1.seq < r.seq
          · have hgi : ((bestK d.bs k).1.seq : Int) < (r.seq : Int) := by omega
            have hbk : bestK d.bs (k + 1) = (r, (k : Int)) := by show pick _ _ _ = _; rw [hd]; unfold pick; simp only; rw [if_pos hgt]
            have HBK := Lib.hid hbk
            clear hd hbk hgt y0 y1 y2 y3 f0 f1 f2 f3
            go_wp2_with (go_at_call 8; refine HDE.out.mono ?_; rintro e w4 ⟨rfl, hB4⟩; obtain ⟨y0, y1, y2, y3, f0, f1, f2, f3⟩ := blk4 (hI3.below hB4).best; have hs4 := blk_lt (hI3.below hB4).best)
            have hI4 := hI3.below hB4
            go_roundw
            case rel =>
              refine ⟨k + 1, by go_num, by omega, by rw [HBK.out], ?_, .inr ho⟩
              rw [HBK.out]
              exact (hI4.put HBW.out r).below ((Below.refl _ _).alloc (Nat.le_refl _) _)
            case measure => simp [intOf]; omega
          · have hgi : ¬ ((bestK d.bs k).1.seq : Int) < (r.seq : Int) := by omega
            have hbk : bestK d.bs (k + 1) = bestK d.bs k := by show pick _ _ _ = _; rw [hd]; unfold pick; simp only; rw [if_neg hgt]
            have HBK := Lib.hid hbk
            clear hd hbk hgt y0 y1 y2 y3 f0 f1 f2 f3
            go_wp2_with (go_at_call 8; refine HDE.out.mono ?_; rintro e w4 ⟨rfl, hB4⟩; obtain ⟨y0, y1, y2, y3, f0, f1, f2, f3⟩ := blk4 (hI3.below hB4).best; have hs4 := blk_lt (hI3.below hB4).best)
            go_roundw
            case rel =>
              refine ⟨k + 1, by go_num, by omega, by rw [HBK.out], ?_, .inr ho⟩
              rw [HBK.out]
              exact (hI3.below hB4).below ((Below.refl _ _).alloc (Nat.le_refl _) _)
            case measure => simp [intOf]; omega
    · obtain rfl : k = 2 := by omega
      rw [bestK_two] at hI ⊢
      obtain ⟨z0, z1, z2, z3, f0, f1, f2, f3⟩ := blk4 hI.res
      obtain ⟨y0, y1, y2, y3, _⟩ := blk4 hI.best
      have hoff : d.off = false := by rcases hoff with h | h; cases h; exact h
      go_wp2_with fail
      generalize hWF : World.setCell (World.setCell (World.setCell (World.setCell _ _ _) _ _) _ _) _ _ = WF
      refine ld_end (x := ((bestL d.bs).1.life : Int)) (y := ((bestL d.bs).1.round : Int)) (z := ((bestL d.bs).1.tag : Int)) (s := ((bestL d.bs).1.seq : Int)) (i := (bestL d.bs).2) (c := 0) rfl rfl rfl rfl ?_ ?_ ?_
      · rw [← hWF]; exact blk_store (blk_store (blk_store (blk_store hI.res 0 _) 1 _) 2 _) 3 _
      · rw [← hWF]; exact (((hI.low.setCell (Nat.le_refl _) _).setCell (Nat.le_refl _) _).setCell (Nat.le_refl _) _).setCell (Nat.le_refl _) _
      · unfold ldA; rw [if_neg (by rw [hoff]; decide)]; rfl
end Go.Proofs.YthkppkecclnlnaaGreat
