/-
  CHAPTER 35, THE REFERENCE: Has, only, At.
-/
import Derived.Test.YtnddjcadkbjjhaaGreatDoorRb
import Derived.Test.YtnddjcadkbjjhaaGreatDoorDifA
namespace Go.Proofs.YtnddjcadkbjjhaaGreatDoor
open Go.RowKit

theorem boxSX (w : World) (L O : Int) (V : Value) (x : C5) : Below w.heap.size w ((w.alloc (N30 L O V)).alloc (N51 x)) ∧ BoxS ((w.alloc (N30 L O V)).alloc (N51 x)) w.heap.size L O V ∧ Box5 ((w.alloc (N30 L O V)).alloc (N51 x)) (w.heap.size + 1) x ∧ w.heap.size + 1 < ((w.alloc (N30 L O V)).alloc (N51 x)).heap.size := by
  refine ⟨((Below.refl _ _).alloc (Nat.le_refl _) _).alloc (by simp) _, (BoxS.new L O V 30 w).below ((Below.refl _ _).alloc (Nat.le_refl _) _) (by simp), ?_, by simp⟩
  have := Box5.new x 51 (w.alloc (N30 L O V))
  rwa [World.size_alloc] at this
set_option maxHeartbeats 1600000 in
set_option maxRecDepth 100000 in
theorem Has_any (L O : Int) (x : C5) (A : Option Addr) (n c : Nat) (cs : List C5) (hn : n ≤ 1000000) (r : Bool) (hr : Hid (decide (x ∈ cs) = r)) (w : World) (hcs : Hid (Cells w w.heap.size A n cs)) :
    Calls Tryz.prog 74 #[.agg #[.int .i64 L, .int .i64 O, .slice A n c], .agg #[.int .i64 x.s, .int .i64 x.o, .int .i64 x.f, .int .i64 x.t, .int .i64 x.w]] w fun e w' => e = .returned (.bool r) ∧ Below w.heap.size w w' := by
  have hm51 := hm51
  obtain ⟨hb0, hS, hX, hz⟩ := boxSX w L O (.slice A n c) x
  have hC := Lib.hid (hcs.out.below hb0)
  have hl := hcs.out.1
  clear hcs
  go_enter Tryz.func74, Tryz.ntmps74
  go_upto_region 1 with fail
  revert hb0 hS hX hC hz
  generalize ((w.alloc (N30 L O (.slice A n c))).alloc (N51 x)) = w1
  intro hb0 hS hX hz hC
  obtain ⟨s0, s1, s2⟩ := id hS
  obtain ⟨q0, q1, q2, q3, q4⟩ := id hX
  go_wp2
  go_loopw [5] (fun i wx => ∃ k m : Nat, k ≤ n ∧ i = .int .i64 k ∧ wx = w1.drewN m ∧ Hid (∀ t z, cs[t]? = some z → t < k → x ≠ z)) (fun i _ => n - (intOf i).toNat)
  case atStart => exact ⟨0, 0, Nat.zero_le _, rfl, rfl, Lib.hid (fun t z _ h => absurd h (Nat.not_lt_zero _))⟩
  case round =>
    obtain ⟨k, m, hk, rfl, rfl, H⟩ := hrel
    by_cases hlt : k < n
    · obtain ⟨b, off, y, rfl, hb, ey, y0, y1, y2, y3, y4⟩ := hC.out.at_ hlt
      have heq := equal51 y x
      have hk0 : (0 : Int) ≤ (k : Int) := by omega
      have hk1 : (k : Int) < (n : Int) := by omega
      have ey := Lib.hid ey
      cases hxy : eqC y x
      · rw [hxy] at heq
        have hxy := Lib.hid hxy
        go_wp2
        go_quiet (fail)
        go_wp2
        go_roundw
        case rel =>
          refine ⟨k + 1, m + nq, by omega, by go_num, by simp, Lib.hid fun t z hz ht e => ?_⟩
          rcases Nat.lt_or_ge t k with h | h
          · exact H.out t z hz h e
          · have : t = k := by omega
            subst this
            have h2 := hxy.out
            rw [ey.out] at hz
            have := Option.some.inj hz
            subst this e
            rw [(eqC_iff x x).2 rfl] at h2
            cases h2
        case measure => simp [intOf]; omega
      · rw [hxy] at heq
        have hxy := Lib.hid hxy
        go_wp2
        go_quiet (fail)
        go_wp2
        go_ret
        have hm : x ∈ cs := by
          rw [← (eqC_iff y x).1 hxy.out]
          exact List.mem_of_getElem? ey.out
        exact ⟨ret_bool (by rw [← hr.out]; simp [hm]), below_drewN (below_drewN hb0 _) _⟩
    · go_wp2
      go_ret
      have hm : ¬ x ∈ cs := fun hx => by
        obtain ⟨t, ht, e⟩ := List.getElem_of_mem hx
        exact H.out t _ (List.getElem?_eq_getElem ht) (by omega) e.symm
      exact ⟨ret_bool (by rw [← hr.out]; simp [hm]), below_drewN hb0 _⟩
theorem own_empty (w : World) : (w.alloc (.cells #[] 51)).ownsRow w.heap.size 51 5 (.slice (some ⟨w.heap.size, 0, none⟩) 0 0) 0 [] :=
  ⟨by simp, .inr ⟨w.heap.size, 0, #[], rfl, Nat.le_refl _, heap_alloc_new w _, by simp, by simp [maxLen], by simp, by simp⟩⟩
theorem filt_snoc (p : C5 → Bool) {cs : List C5} {j : Nat} {y : C5} (h : cs[j]? = some y) : (cs.take (j + 1)).filter p = if p y = true then (cs.take j).filter p ++ [y] else (cs.take j).filter p := by
  obtain ⟨h1, e1⟩ := List.getElem?_eq_some_iff.1 h
  rw [List.take_succ_eq_append_getElem h1, List.filter_append, e1]
  by_cases hp : p y = true <;> simp [hp]
theorem filt_le (p : C5 → Bool) (cs : List C5) (j : Nat) : ((cs.take j).filter p).length ≤ j := Nat.le_trans (List.length_filter_le _ _) (List.length_take_le _ _)
/-- What a loop has gathered: acc in a row of the call's own. -/
def GRel (w0 : World) (v : Value) (acc : List C5) (wx : World) : Prop := wx.ownsRow w0.heap.size 51 5 v acc.length (acc.flatMap C5.cells) ∧ Below w0.heap.size w0 wx
theorem GRel.later {w0 wr w6 : World} {v : Value} {acc : List C5} (h : GRel w0 v acc wr) (hb : Below wr.heap.size wr w6) : GRel w0 v acc w6 := ⟨own_below h.1 hb, bstep h.2 hb (Nat.le_refl _)⟩
theorem GRel.step {w0 w6 w7 : World} {v : Value} {acc : List C5} {x : C5} {g cap : Nat} {o : Obj} (h : GRel w0 v acc w6) (hown : w7.ownsRow w0.heap.size 51 5 (.slice (some ⟨g, 0, none⟩) (acc.length + 1) cap) (acc.length + 1) (acc.flatMap C5.cells ++ x.cells)) (hg : (w6.alloc o).grownBy w7 v.ownBlock) :
    GRel w0 (.slice (some ⟨g, 0, none⟩) (acc.length + 1) cap) (acc ++ [x]) w7 := by
  have hs := h.2.size
  exact ⟨by simpa using hown, (h.2.alloc (by omega) o).grown hg (by simp; omega) (fun j hj => (h.1.lt j hj).1)⟩
theorem GRel.end_ {w w0 wx : World} {v : Value} {acc : List C5} (h : GRel w0 v acc wx) (hb : Below w.heap.size w w0) : CellsEnd w acc (.returned v) wx := by
  obtain ⟨A, c, rfl, hle, hC⟩ := own_cells h.1
  exact ⟨A, c, rfl, hC, hle, bstep hb h.2 (Nat.le_refl _)⟩
theorem keepO {W5 W : World} {d e b o : Nat} {L O L' O' : Int} {V V' : Value} {x : C5} (hB : Hid (BoxS W5 d L O V)) (hB' : Hid (BoxS W5 e L' O' V')) (hX : Hid (Row5 W5 b o x)) (hd : d < W5.heap.size) (he : e < W5.heap.size) (hb : b < W5.heap.size) (h : Below W5.heap.size W5 W) :
    W.cell? ⟨d, 0, none⟩ = some (.int .i64 L) ∧ W.cell? ⟨d, 1, none⟩ = some (.int .i64 O) ∧ W.cell? ⟨d, 2, none⟩ = some V ∧ W.cell? ⟨e, 0, none⟩ = some (.int .i64 L') ∧ W.cell? ⟨e, 1, none⟩ = some (.int .i64 O') ∧ W.cell? ⟨e, 2, none⟩ = some V' ∧
    W.cell? ⟨b, o, none⟩ = some (.int .i64 x.s) ∧ W.cell? ⟨b, o + 1, none⟩ = some (.int .i64 x.o) ∧ W.cell? ⟨b, o + 2, none⟩ = some (.int .i64 x.f) ∧ W.cell? ⟨b, o + 3, none⟩ = some (.int .i64 x.t) ∧ W.cell? ⟨b, o + 4, none⟩ = some (.int .i64 x.w) := by
  obtain ⟨a0, a1, a2⟩ := hB.out.below h hd
  obtain ⟨d0, d1, d2⟩ := hB'.out.below h he
  obtain ⟨b0, b1, b2, b3, b4⟩ := hX.out.below h hb
  exact ⟨a0, a1, a2, d0, d1, d2, b0, b1, b2, b3, b4⟩
set_option maxHeartbeats 4000000 in
set_option maxRecDepth 100000 in
theorem ronly_any (L O L' O' : Int) (A A' : Option Addr) (n c n' c' : Nat) (cs ds : List C5) (hn : n ≤ 1000000) (hn' : n' ≤ 1000000) (w : World) (hcs : Hid (Cells w w.heap.size A n cs)) (hds : Hid (Cells w w.heap.size A' n' ds)) :
    Calls Tryz.prog 78 #[.agg #[.int .i64 L, .int .i64 O, .slice A n c], .agg #[.int .i64 L', .int .i64 O', .slice A' n' c']] w (CellsEnd w (keepL ds cs)) := by
  have hw0 := D0_below w L O (.slice A n c) L' O' (.slice A' n' c')
  have hC0 := Lib.hid ((hcs.out.below hw0).more hw0.size)
  have hD0 := Lib.hid ((hds.out.below hw0).more hw0.size)
  have hA0 := Lib.hid (D0_a w L O (.slice A n c) L' O' (.slice A' n' c'))
  have hB0 := Lib.hid (D0_b w L O (.slice A n c) L' O' (.slice A' n' c'))
  have hs0 := D0_size w L O (.slice A n c) L' O' (.slice A' n' c')
  have hG0 := Lib.hid (show GRel (D0 w L O (.slice A n c) L' O' (.slice A' n' c')) (.slice (some ⟨w.heap.size + 1 + 1, 0, none⟩) 0 0) [] ((D0 w L O (.slice A n c) L' O' (.slice A' n' c')).alloc (.cells #[] 51)) from by
    have h := own_empty (D0 w L O (.slice A n c) L' O' (.slice A' n' c'))
    have e : (D0 w L O (.slice A n c) L' O' (.slice A' n' c')).heap.size = w.heap.size + 1 + 1 := by simp
    exact ⟨by rw [← e]; exact h, (Below.refl _ _).alloc (Nat.le_refl _) _⟩)
  have hl := hcs.out.1
  clear hcs hds
  obtain ⟨i0, hi, hj0, hj1, hj2⟩ := info_parts Tryz.info51
  unfold D0 at hw0 hC0 hD0 hA0 hB0 hs0 hG0
  go_enter Tryz.func78, Tryz.ntmps78
  go_wp2_with fail
  revert hw0 hC0 hD0 hA0 hB0 hs0 hG0
  generalize ((w.alloc (N30 L O (.slice A n c))).alloc (N30 L' O' (.slice A' n' c'))) = w0
  intro hw0 hC0 hD0 hA0 hB0 hs0 hG0
  go_loopw [5, 6] (fun v i wx => ∃ k : Nat, k ≤ n ∧ i = .int .i64 k ∧ Hid (GRel w0 v ((cs.take k).filter (fun z => decide (¬ z ∈ ds))) wx)) (fun _ i _ => n - (intOf i).toNat)
  case atStart => exact ⟨0, Nat.zero_le _, rfl, hG0⟩
  case round =>
    obtain ⟨k, hk, rfl, H⟩ := hrel
    obtain ⟨w5, hw5⟩ : ∃ w5, w5 = wr := ⟨_, rfl⟩
    rw [← hw5] at H ⊢
    clear hw5
    have hwx := H.out.2
    have hz5 := hwx.size
    have hB5 := Lib.hid (hA0.out.below hwx (by omega))
    have hB5' := Lib.hid (hB0.out.below hwx hs0)
    have hD5 := Lib.hid ((hD0.out.below hwx).more hwx.size)
    obtain ⟨s0, s1, s2⟩ := id hB5.out
    by_cases hlt : k < n
    · obtain ⟨b, off, x, hA, hbx, ex, x0⟩ := (hC0.out.below hwx).at_ hlt
      subst hA
      have hX5 : Hid (Row5 w5 b (off + k * 5) x) := Lib.hid x0
      have hdz : w.heap.size < w5.heap.size := by omega
      have hdz1 : w.heap.size + 1 < w5.heap.size := by omega
      have hbz : b < w5.heap.size := by omega
      have hk0 : (0 : Int) ≤ (k : Int) := by omega
      have hk1 : (k : Int) < (n : Int) := by omega
      have hsn := Lib.hid (filt_snoc (fun z => decide (¬ z ∈ ds)) ex)
      have hle := filt_le (fun z => decide (¬ z ∈ ds)) cs k
      clear x0 ex
      obtain ⟨acc, hacc⟩ : ∃ acc, (cs.take k).filter (fun z => decide (¬ z ∈ ds)) = acc := ⟨_, rfl⟩
      rw [hacc] at H hle hsn
      clear hacc
      go_wp2_with fail
      clear s0 s1 s2
      by_cases hx : x ∈ ds
      · have hin : Hid (decide (x ∈ ds) = true) := Lib.hid (by simp [hx])
        have hn1 : Hid ((cs.take (k + 1)).filter (fun z => decide (¬ z ∈ ds)) = acc) := Lib.hid (by rw [hsn.out, if_neg (by simp [hx])])
        clear hx hsn
        refine wp_region_held_drew (S := (fun w' => w'.cell? ⟨w.heap.size, 0, none⟩ = some (.int .i64 L) ∧ w'.cell? ⟨w.heap.size, 1, none⟩ = some (.int .i64 O) ∧ w'.cell? ⟨w.heap.size, 2, none⟩ = some (.slice (some ⟨b, off, none⟩) n c) ∧ w'.cell? ⟨w.heap.size + 1, 0, none⟩ = some (.int .i64 L') ∧ w'.cell? ⟨w.heap.size + 1, 1, none⟩ = some (.int .i64 O') ∧ w'.cell? ⟨w.heap.size + 1, 2, none⟩ = some (.slice A' n' c') ∧ w'.cell? ⟨b, off + k * 5, none⟩ = some (.int .i64 x.s) ∧ w'.cell? ⟨b, off + k * 5 + 1, none⟩ = some (.int .i64 x.o) ∧ w'.cell? ⟨b, off + k * 5 + 2, none⟩ = some (.int .i64 x.f) ∧ w'.cell? ⟨b, off + k * 5 + 3, none⟩ = some (.int .i64 x.t) ∧ w'.cell? ⟨b, off + k * 5 + 4, none⟩ = some (.int .i64 x.w))) (by kernel_rfl) ?_ (fun hHeld => ?_)
        · (refine keepO hB5 hB5' hX5 hdz hdz1 hbz ?_; (repeat first | assumption | exact Below.refl _ _ | refine Below.drew ?_))
        refine wpAnyH_take (i := 0) (oi := ?o1) (v := ?hv1) ?hi1 (by kernel_rfl) (by kernel_rfl) (by kernel_rfl) ?hq1 ?hy1 (by assumption) ?hr1
        case hi1 => (simp only [List.getElem?_toArray, List.getElem?_cons_zero]; rfl)
        case hq1 => exact fun _ _ _ h => h
        case hy1 => exact Or.inl ⟨by rfl, by intro w hSw; (try dsimp only at hSw); go_simp; try with_reducible rfl⟩
        simp only [Act.put, List.setIfInBounds_toArray, List.set_cons_zero, List.set_cons_succ]
        refine wpAnyH_take (i := 1) (oi := ?o2) (v := ?hv2) ?hi2 (by kernel_rfl) (by kernel_rfl) (by kernel_rfl) ?hq2 ?hy2 (by assumption) ?hr2
        case hi2 => (simp only [List.getElem?_toArray, List.getElem?_cons_succ, List.getElem?_cons_zero]; rfl)
        case hq2 => exact fun _ _ _ h => h
        case hy2 => exact Or.inl ⟨by rfl, by intro w hSw; (try dsimp only at hSw); go_simp; try with_reducible rfl⟩
        simp only [Act.put, List.setIfInBounds_toArray, List.set_cons_zero, List.set_cons_succ]
        refine wpAnyH_take (i := 2) (oi := ?o3) (v := ?hv3) ?hi3 (by kernel_rfl) (by kernel_rfl) (by kernel_rfl) ?hq3 ?hy3 (by assumption) ?hr3
        case hi3 => (simp only [List.getElem?_toArray, List.getElem?_cons_succ, List.getElem?_cons_zero]; rfl)
        case hq3 => exact fun _ _ _ h => h
        case hy3 => exact Or.inl ⟨by rfl, by intro w hSw; (try dsimp only at hSw); go_simp; try with_reducible rfl⟩
        simp only [Act.put, List.setIfInBounds_toArray, List.set_cons_zero, List.set_cons_succ]
        refine wpAnyH_take (i := 3) (oi := ?o4) (v := ?hv4) ?hi4 (by kernel_rfl) (by kernel_rfl) (by kernel_rfl) ?hq4 ?hy4 (by assumption) ?hr4
        case hi4 => (simp only [List.getElem?_toArray, List.getElem?_cons_succ, List.getElem?_cons_zero]; rfl)
        case hq4 => exact fun _ _ _ h => h
        case hy4 => exact Or.inl ⟨by rfl, by intro w hSw; (try dsimp only at hSw); go_simp; try with_reducible rfl⟩
        simp only [Act.put, List.setIfInBounds_toArray, List.set_cons_zero, List.set_cons_succ]
        refine wpAnyH_take (i := 4) (oi := ?o5) (v := ?hv5) ?hi5 (by kernel_rfl) (by kernel_rfl) (by kernel_rfl) ?hq5 ?hy5 (by assumption) ?hr5
        case hi5 => (simp only [List.getElem?_toArray, List.getElem?_cons_succ, List.getElem?_cons_zero]; rfl)
        case hq5 => exact fun _ _ _ h => h
        case hy5 => exact Or.inl ⟨by rfl, by intro w hSw; (try dsimp only at hSw); go_simp; try with_reducible rfl⟩
        simp only [Act.put, List.setIfInBounds_toArray, List.set_cons_zero, List.set_cons_succ]
        refine wpAnyH_take (i := 5) (oi := ?o6) (v := ?hv6) ?hi6 (by kernel_rfl) (by kernel_rfl) (by kernel_rfl) ?hq6 ?hy6 (by assumption) ?hr6
        case hi6 => (simp only [List.getElem?_toArray, List.getElem?_cons_succ, List.getElem?_cons_zero]; rfl)
        case hq6 => exact fun _ _ _ h => h
        case hy6 => exact Or.inl ⟨by rfl, by intro w hSw; (try dsimp only at hSw); go_simp; try with_reducible rfl⟩
        simp only [Act.put, List.setIfInBounds_toArray, List.set_cons_zero, List.set_cons_succ]
        refine wpAnyH_ready (rs := [6]) (by kernel_rfl) (by simp) ?_
        refine AllReadyH.cons (o := ?o7) ?hi7 (fun K hK => ?hr7) AllReadyH.nil
        case hi7 => (simp only [List.getElem?_toArray, List.getElem?_cons_succ, List.getElem?_cons_zero]; rfl)
        go_simp
        refine (carry (w0 := w5) (Has_any L' O' x A' n' c' ds hn' true hin _ (Lib.hid (by exact hD5.out.below (Below.refl _ w5).drew))) ?_).mono ?_
        · (repeat first | assumption | exact Below.refl _ _ | refine Below.drew ?_)
        rintro e w6 ⟨rfl, hb6⟩
        go_wp2_with fail
        refine hK.out _ _ ?_ (fun hHeld => ?_)
        · (refine keepO hB5 hB5' hX5 hdz hdz1 hbz ?_; (repeat first | assumption | exact Below.refl _ _ | refine Below.drew ?_))
        clear hK K
        try simp only [Act.put, List.setIfInBounds_toArray, List.set_cons_zero, List.set_cons_succ]
        refine wpAnyH_take (i := 7) (oi := ?o8) (v := ?hv8) ?hi8 (by kernel_rfl) (by kernel_rfl) (by kernel_rfl) ?hq8 ?hy8 (by assumption) ?hr8
        case hi8 => (simp only [List.getElem?_toArray, List.getElem?_cons_succ, List.getElem?_cons_zero]; rfl)
        case hq8 => exact fun _ _ _ h => h
        case hy8 => exact Or.inl ⟨by rfl, by intro w hSw; (try dsimp only at hSw); go_simp; try with_reducible rfl⟩
        simp only [Act.put, List.setIfInBounds_toArray, List.set_cons_zero, List.set_cons_succ]
        refine wpAnyH_done (by kernel_rfl) ?_ _
        have H6 : Hid (GRel w0 u5 ((cs.take (k + 1)).filter (fun z => decide (¬ z ∈ ds))) w6) := Lib.hid (by rw [hn1.out]; exact H.out.later hb6)
        go_wp2_with fail
        go_roundw
        case rel => exact ⟨k + 1, by omega, by go_num, H6⟩
        case measure => simp [intOf]; omega
      · have hin : Hid (decide (x ∈ ds) = false) := Lib.hid (by simp [hx])
        have hn1 : Hid ((cs.take (k + 1)).filter (fun z => decide (¬ z ∈ ds)) = acc ++ [x]) := Lib.hid (by rw [hsn.out, if_pos (by simp [hx])])
        clear hx hsn
        refine wp_region_held_drew (S := (fun w' => w'.cell? ⟨w.heap.size, 0, none⟩ = some (.int .i64 L) ∧ w'.cell? ⟨w.heap.size, 1, none⟩ = some (.int .i64 O) ∧ w'.cell? ⟨w.heap.size, 2, none⟩ = some (.slice (some ⟨b, off, none⟩) n c) ∧ w'.cell? ⟨w.heap.size + 1, 0, none⟩ = some (.int .i64 L') ∧ w'.cell? ⟨w.heap.size + 1, 1, none⟩ = some (.int .i64 O') ∧ w'.cell? ⟨w.heap.size + 1, 2, none⟩ = some (.slice A' n' c') ∧ w'.cell? ⟨b, off + k * 5, none⟩ = some (.int .i64 x.s) ∧ w'.cell? ⟨b, off + k * 5 + 1, none⟩ = some (.int .i64 x.o) ∧ w'.cell? ⟨b, off + k * 5 + 2, none⟩ = some (.int .i64 x.f) ∧ w'.cell? ⟨b, off + k * 5 + 3, none⟩ = some (.int .i64 x.t) ∧ w'.cell? ⟨b, off + k * 5 + 4, none⟩ = some (.int .i64 x.w))) (by kernel_rfl) ?_ (fun hHeld => ?_)
        · (refine keepO hB5 hB5' hX5 hdz hdz1 hbz ?_; (repeat first | assumption | exact Below.refl _ _ | refine Below.drew ?_))
        refine wpAnyH_take (i := 0) (oi := ?o9) (v := ?hv9) ?hi9 (by kernel_rfl) (by kernel_rfl) (by kernel_rfl) ?hq9 ?hy9 (by assumption) ?hr9
        case hi9 => (simp only [List.getElem?_toArray, List.getElem?_cons_zero]; rfl)
        case hq9 => exact fun _ _ _ h => h
        case hy9 => exact Or.inl ⟨by rfl, by intro w hSw; (try dsimp only at hSw); go_simp; try with_reducible rfl⟩
        simp only [Act.put, List.setIfInBounds_toArray, List.set_cons_zero, List.set_cons_succ]
        refine wpAnyH_take (i := 1) (oi := ?o10) (v := ?hv10) ?hi10 (by kernel_rfl) (by kernel_rfl) (by kernel_rfl) ?hq10 ?hy10 (by assumption) ?hr10
        case hi10 => (simp only [List.getElem?_toArray, List.getElem?_cons_succ, List.getElem?_cons_zero]; rfl)
        case hq10 => exact fun _ _ _ h => h
        case hy10 => exact Or.inl ⟨by rfl, by intro w hSw; (try dsimp only at hSw); go_simp; try with_reducible rfl⟩
        simp only [Act.put, List.setIfInBounds_toArray, List.set_cons_zero, List.set_cons_succ]
        refine wpAnyH_take (i := 2) (oi := ?o11) (v := ?hv11) ?hi11 (by kernel_rfl) (by kernel_rfl) (by kernel_rfl) ?hq11 ?hy11 (by assumption) ?hr11
        case hi11 => (simp only [List.getElem?_toArray, List.getElem?_cons_succ, List.getElem?_cons_zero]; rfl)
        case hq11 => exact fun _ _ _ h => h
        case hy11 => exact Or.inl ⟨by rfl, by intro w hSw; (try dsimp only at hSw); go_simp; try with_reducible rfl⟩
        simp only [Act.put, List.setIfInBounds_toArray, List.set_cons_zero, List.set_cons_succ]
        refine wpAnyH_take (i := 3) (oi := ?o12) (v := ?hv12) ?hi12 (by kernel_rfl) (by kernel_rfl) (by kernel_rfl) ?hq12 ?hy12 (by assumption) ?hr12
        case hi12 => (simp only [List.getElem?_toArray, List.getElem?_cons_succ, List.getElem?_cons_zero]; rfl)
        case hq12 => exact fun _ _ _ h => h
        case hy12 => exact Or.inl ⟨by rfl, by intro w hSw; (try dsimp only at hSw); go_simp; try with_reducible rfl⟩
        simp only [Act.put, List.setIfInBounds_toArray, List.set_cons_zero, List.set_cons_succ]
        refine wpAnyH_take (i := 4) (oi := ?o13) (v := ?hv13) ?hi13 (by kernel_rfl) (by kernel_rfl) (by kernel_rfl) ?hq13 ?hy13 (by assumption) ?hr13
        case hi13 => (simp only [List.getElem?_toArray, List.getElem?_cons_succ, List.getElem?_cons_zero]; rfl)
        case hq13 => exact fun _ _ _ h => h
        case hy13 => exact Or.inl ⟨by rfl, by intro w hSw; (try dsimp only at hSw); go_simp; try with_reducible rfl⟩
        simp only [Act.put, List.setIfInBounds_toArray, List.set_cons_zero, List.set_cons_succ]
        refine wpAnyH_take (i := 5) (oi := ?o14) (v := ?hv14) ?hi14 (by kernel_rfl) (by kernel_rfl) (by kernel_rfl) ?hq14 ?hy14 (by assumption) ?hr14
        case hi14 => (simp only [List.getElem?_toArray, List.getElem?_cons_succ, List.getElem?_cons_zero]; rfl)
        case hq14 => exact fun _ _ _ h => h
        case hy14 => exact Or.inl ⟨by rfl, by intro w hSw; (try dsimp only at hSw); go_simp; try with_reducible rfl⟩
        simp only [Act.put, List.setIfInBounds_toArray, List.set_cons_zero, List.set_cons_succ]
        refine wpAnyH_ready (rs := [6]) (by kernel_rfl) (by simp) ?_
        refine AllReadyH.cons (o := ?o15) ?hi15 (fun K hK => ?hr15) AllReadyH.nil
        case hi15 => (simp only [List.getElem?_toArray, List.getElem?_cons_succ, List.getElem?_cons_zero]; rfl)
        go_simp
        refine (carry (w0 := w5) (Has_any L' O' x A' n' c' ds hn' false hin _ (Lib.hid (by exact hD5.out.below (Below.refl _ w5).drew))) ?_).mono ?_
        · (repeat first | assumption | exact Below.refl _ _ | refine Below.drew ?_)
        rintro e w6 ⟨rfl, hb6⟩
        go_wp2_with fail
        refine hK.out _ _ ?_ (fun hHeld => ?_)
        · (refine keepO hB5 hB5' hX5 hdz hdz1 hbz ?_; (repeat first | assumption | exact Below.refl _ _ | refine Below.drew ?_))
        clear hK K
        try simp only [Act.put, List.setIfInBounds_toArray, List.set_cons_zero, List.set_cons_succ]
        refine wpAnyH_take (i := 7) (oi := ?o16) (v := ?hv16) ?hi16 (by kernel_rfl) (by kernel_rfl) (by kernel_rfl) ?hq16 ?hy16 (by assumption) ?hr16
        case hi16 => (simp only [List.getElem?_toArray, List.getElem?_cons_succ, List.getElem?_cons_zero]; rfl)
        case hq16 => exact fun _ _ _ h => h
        case hy16 => exact Or.inl ⟨by rfl, by intro w hSw; (try dsimp only at hSw); go_simp; try with_reducible rfl⟩
        simp only [Act.put, List.setIfInBounds_toArray, List.set_cons_zero, List.set_cons_succ]
        refine wpAnyH_done (by kernel_rfl) ?_ _
        have H6 := Lib.hid (H.out.later hb6)
        have hown := Lib.hid H6.out.1
        obtain ⟨s0, s1, s2⟩ := hB5.out.below hb6 hdz
        obtain ⟨x0, x1, x2, x3, x4⟩ := hX5.out.below hb6 hbz
        have hz6 := hb6.size
        go_wp2_with (at_builtin; refine wpList_append_lies _ rfl _ _ 28 rfl w0.heap.size 51 i0 _ 5 40 Tryz.underlying28 hi hj0 hj1 hj2 rfl (by omega) u5 acc.length (acc.flatMap C5.cells) rfl (hown.out.alloc _) ⟨w6.heap.size, 0, none⟩ 1 1 x.cells rfl rfl (news_cells w6 51 x) (cells_one _) (by omega) (by unfold maxLen; omega) (by omega) (by simp; omega) (w6.heap.size + 1) (by simp) ?_; intro gg cap w7 hown7 hgrow7 _ _)
        have H7 : Hid (GRel w0 (.slice (some ⟨gg, 0, none⟩) (acc.length + 1) cap) ((cs.take (k + 1)).filter (fun z => decide (¬ z ∈ ds))) w7) := Lib.hid (by rw [hn1.out]; exact H6.out.step hown7 hgrow7)
        go_roundw
        case rel => exact ⟨k + 1, by omega, by go_num, H7⟩
        case measure => simp [intOf]; omega
    · have H8 : Hid (GRel w0 u5 (keepL ds cs) w5) := Lib.hid (by have := H.out; rwa [List.take_of_length_le (by omega)] at this)
      go_wp2_with fail
      go_ret
      exact H8.out.end_ hw0
end Go.Proofs.YtnddjcadkbjjhaaGreatDoor
