/-
  CHAPTER 35: Add.
-/
import Derived.Test.YtnddjcadkbjjhaaGreatDoorAddB
namespace Go.Proofs.YtnddjcadkbjjhaaGreatDoor
open Go.RowKit

theorem insert_n (v : Value) (base n : Nat) (cs : List C5) (x : C5) (i vb : Nat) (hl : cs.length = n) (hn : n ≤ 1000000) (hi : i ≤ n) (w : World) (hown : w.ownsRow base 51 5 v n (cs.flatMap C5.cells)) (hbase : base ≤ w.heap.size) (hV : Blk w vb 51 x.cells.toArray) (hne : ∀ k, v.ownBlock = some k → k ≠ vb) :
    Calls Tryz.prog 72 #[v, .int .i64 i, .slice (some ⟨vb, 0, none⟩) 1 1] w fun e w' => ∃ A c, e = .returned (.slice A (n + 1) c) ∧ n + 1 ≤ c ∧ Cells w' w'.heap.size A (n + 1) (insL cs i x) ∧ (∀ b off, A = some ⟨b, off, none⟩ → base ≤ b) ∧ Below base w w' := by
  subst hl
  exact insert_any v base cs x i vb hn hi w hown hbase hV hne
theorem Box5.far {w : World} {b : Nat} {x : C5} (h : Box5 w b x) (q : Addr) (u : Value) (hq : q.block ≠ b) : Box5 (w.setCell q u) b x := by
  obtain ⟨h0, h1, h2, h3, h4⟩ := h
  have hne : ∀ o, q ≠ ⟨b, o, none⟩ := fun o e => hq (by rw [e])
  exact ⟨(World.cell?_setCell_other _ _ _ _ (hne 0)).trans h0, (World.cell?_setCell_other _ _ _ _ (hne 1)).trans h1, (World.cell?_setCell_other _ _ _ _ (hne 2)).trans h2, (World.cell?_setCell_other _ _ _ _ (hne 3)).trans h3, (World.cell?_setCell_other _ _ _ _ (hne 4)).trans h4⟩
set_option maxHeartbeats 4000000 in
set_option maxRecDepth 100000 in
theorem Add_yes (L O : Int) (A : Option Addr) (n c : Nat) (cs : List C5) (x : C5) (hn : n ≤ 1000000) (hr : Hid (formB L O cs = true)) (hf : Hid (formedB L O x = true)) (hin : ¬ x ∈ cs) (h512 : Hid (n ≠ 512)) (w : World) (hcs : Hid (Cells w w.heap.size A n cs)) :
    Calls Tryz.prog 28 #[.agg #[.int .i64 L, .int .i64 O, .slice A n c], .agg #[.int .i64 x.s, .int .i64 x.o, .int .i64 x.f, .int .i64 x.t, .int .i64 x.w]] w (SchedEnd w ⟨L, O, insL cs (posL x cs) x, 0, 0⟩) := by
  have hw0 := A0_below w L O A n c x
  have hC0 := Lib.hid ((hcs.out.below hw0).more hw0.size)
  have hZ0 := Lib.hid (A0_blk w L O A n c x)
  have hB0 := Lib.hid (A0_sbox w L O A n c x)
  have hX0 := Lib.hid (A0_x w L O A n c x)
  have hs0 := A0_size w L O A n c x
  have hs0 := Lib.hid hs0
  have hl := hcs.out.1
  clear hcs
  have hsr := form_srt hr.out
  obtain ⟨i, hi'⟩ : ∃ i, i = posL x cs := ⟨_, rfl⟩
  have hlo := Lib.hid (posL_lo x cs)
  have hhi := Lib.hid (posL_hi x cs hsr)
  have hfd : Hid ((match cs[posL x cs]? with | some z => decide (cmpC z x = 0) | none => false) = false) := Lib.hid ((posL_has x cs hsr).trans (by simpa using hin))
  have hile := posL_le x cs
  
  rw [← hi'] at hlo hhi hfd hile ⊢
  have hi := Lib.hid hi'
  clear hsr hin hi'
  have h5 : ((n : Int) == 512) = false := by have := h512.out; simp; omega
  go_enter Tryz.func28, Tryz.ntmps28
  go_wp2_with (go_at_call 53; refine (form_lit L O A n c cs hn true hr.out _ hC0.out).mono ?_; rintro e w1 ⟨rfl, hb1⟩; have hZ1 := Lib.hid (hZ0.out.below hb1 hs0.out); have hB1 := Lib.hid (hB0.out.below hb1 (Nat.lt_of_succ_lt (Nat.lt_of_succ_lt hs0.out))); have hX1 := Lib.hid (hX0.out.below hb1 (Nat.lt_of_succ_lt hs0.out)); have hw1 := bstep hw0 hb1 (Nat.le_refl _); have hC1 := Lib.hid ((hC0.out.below hb1).more hb1.size); have hs1 := Lib.hid (Nat.lt_of_lt_of_le hs0.out hb1.size); clear hZ0 hB0 hX0 hC0 hs0 hw0 hb1; (try clear z0 z1 z2 f0 f1 f2 b0 b1 b2 g0 g1 g2 x0 x1 x2 x3 x4); obtain ⟨z0, z1, z2, f0, f1, f2⟩ := hZ1.out.three; obtain ⟨b0, b1, b2, g0, g1, g2⟩ := hB1.out.three; obtain ⟨x0, x1, x2, x3, x4⟩ := id hX1.out)
  go_wp2_with (go_at_call 71; refine (formed_lit L O _ x true hf.out _).mono ?_; rintro e w2 ⟨rfl, hb2⟩; have hZ2 := Lib.hid (hZ1.out.below hb2 hs1.out); have hB2 := Lib.hid (hB1.out.below hb2 (Nat.lt_of_succ_lt (Nat.lt_of_succ_lt hs1.out))); have hX2 := Lib.hid (hX1.out.below hb2 (Nat.lt_of_succ_lt hs1.out)); have hw2 := bstep hw1 hb2 (Nat.le_refl _); have hC2 := Lib.hid ((hC1.out.below hb2).more hb2.size); have hs2 := Lib.hid (Nat.lt_of_lt_of_le hs1.out hb2.size); clear hZ1 hB1 hX1 hC1 hs1 hw1 hb2; (try clear z0 z1 z2 f0 f1 f2 b0 b1 b2 g0 g1 g2 x0 x1 x2 x3 x4); obtain ⟨z0, z1, z2, f0, f1, f2⟩ := hZ2.out.three; obtain ⟨b0, b1, b2, g0, g1, g2⟩ := hB2.out.three; obtain ⟨x0, x1, x2, x3, x4⟩ := id hX2.out)
  refine (search_any x A n c cs i hn (by omega) hlo hhi false hfd _ hC2).mono ?_
  rintro e w3 ⟨rfl, hb3⟩
  have hZ3 := Lib.hid (hZ2.out.below hb3 hs2.out)
  have hB3 := Lib.hid (hB2.out.below hb3 (Nat.lt_of_succ_lt (Nat.lt_of_succ_lt hs2.out)))
  have hX3 := Lib.hid (hX2.out.below hb3 (Nat.lt_of_succ_lt hs2.out))
  have hw3 := bstep hw2 hb3 (Nat.le_refl _)
  have hC3 := Lib.hid ((hC2.out.below hb3).more hb3.size)
  have hs3 := Lib.hid (Nat.lt_of_lt_of_le hs2.out hb3.size)
  clear hZ2 hB2 hX2 hC2 hs2 hw2 hb3
  (try clear z0 z1 z2 f0 f1 f2 b0 b1 b2 g0 g1 g2 x0 x1 x2 x3 x4)
  obtain ⟨z0, z1, z2, f0, f1, f2⟩ := hZ3.out.three
  obtain ⟨b0, b1, b2, g0, g1, g2⟩ := hB3.out.three
  obtain ⟨x0, x1, x2, x3, x4⟩ := id hX3.out
  go_upto_region 9 with fail
  refine wp_region_held_drew (S := (fun w' => w'.cell? ⟨w.heap.size + 1, 0, none⟩ = some (.int .i64 x.s) ∧ w'.cell? ⟨w.heap.size + 1, 1, none⟩ = some (.int .i64 x.o) ∧ w'.cell? ⟨w.heap.size + 1, 2, none⟩ = some (.int .i64 x.f) ∧ w'.cell? ⟨w.heap.size + 1, 3, none⟩ = some (.int .i64 x.t) ∧ w'.cell? ⟨w.heap.size + 1, 4, none⟩ = some (.int .i64 x.w))) (by kernel_rfl) (hX3.out.below (Below.refl _ _).drew (Nat.lt_of_succ_lt hs3.out)) (fun hHeld => ?_)
  refine wpAnyH_take (i := 0) (oi := ?o1) (v := ?hv1) ?hi1 (by kernel_rfl) (by kernel_rfl) (by kernel_rfl) ?hq1 ?hy1 (by assumption) ?hr1
  case hi1 => (simp only [List.getElem?_toArray, List.getElem?_cons_zero]; rfl)
  case hq1 => exact fun _ _ _ h => h
  case hy1 => exact Or.inl ⟨by rfl, by intro w hSw; (try dsimp only at hSw); go_simp; try with_reducible rfl⟩
  simp only [Act.put, List.setIfInBounds_toArray, List.set_cons_zero, List.set_cons_succ]
  refine wpAnyH_take (i := 3) (oi := ?o2) (v := ?hv2) ?hi2 (by kernel_rfl) (by kernel_rfl) (by kernel_rfl) ?hq2 ?hy2 (by assumption) ?hr2
  case hi2 => (simp only [List.getElem?_toArray, List.getElem?_cons_succ, List.getElem?_cons_zero]; rfl)
  case hq2 => exact fun _ _ _ h => h
  case hy2 => exact Or.inl ⟨by rfl, by intro w hSw; (try dsimp only at hSw); go_simp; try with_reducible rfl⟩
  simp only [Act.put, List.setIfInBounds_toArray, List.set_cons_zero, List.set_cons_succ]
  refine wpAnyH_take (i := 4) (oi := ?o3) (v := ?hv3) ?hi3 (by kernel_rfl) (by kernel_rfl) (by kernel_rfl) ?hq3 ?hy3 (by assumption) ?hr3
  case hi3 => (simp only [List.getElem?_toArray, List.getElem?_cons_succ, List.getElem?_cons_zero]; rfl)
  case hq3 => exact fun _ _ _ h => h
  case hy3 => exact Or.inl ⟨by rfl, by intro w hSw; (try dsimp only at hSw); go_simp; try with_reducible rfl⟩
  simp only [Act.put, List.setIfInBounds_toArray, List.set_cons_zero, List.set_cons_succ]
  refine wpAnyH_ready (rs := [1, 5]) (by kernel_rfl) (by simp) ?_
  refine (AllReadyH.cons (o := ?o20) ?hi20 (fun K hK => ?hr20) (AllReadyH.cons (o := ?o19) ?hi19 (fun K hK => ?hr19) AllReadyH.nil))
  case hi20 => (simp only [List.getElem?_toArray, List.getElem?_cons_succ, List.getElem?_cons_zero]; rfl)
  case hi19 => (simp only [List.getElem?_toArray, List.getElem?_cons_succ, List.getElem?_cons_zero]; rfl)
  case hr20 =>
    go_simp
    refine hK.out _ _ ?_ (fun hHeld => ?_)
    · exact hX3.out.below ((Below.refl _ w3).drew) (Nat.lt_of_succ_lt hs3.out)
    clear hK K
    try simp only [Act.put, List.setIfInBounds_toArray, List.set_cons_zero, List.set_cons_succ]
    refine wpAnyH_ready (rs := [2, 5]) (by kernel_rfl) (by simp) ?_
    refine (AllReadyH.cons (o := ?o13) ?hi13 (fun K hK => ?hr13) (AllReadyH.cons (o := ?o12) ?hi12 (fun K hK => ?hr12) AllReadyH.nil))
    case hi13 => (simp only [List.getElem?_toArray, List.getElem?_cons_succ, List.getElem?_cons_zero]; rfl)
    case hi12 => (simp only [List.getElem?_toArray, List.getElem?_cons_succ, List.getElem?_cons_zero]; rfl)
    case hr13 =>
      have hC4 := Lib.hid (hC3.out.below (Below.refl _ w3).drew)
      go_simp
      refine (clone_any A n c cs hn _ hC4.out).mono ?_
      rintro e w4 ⟨v4, rfl, hown, hb4⟩
      have hb4d : Below w3.heap.size w3 w4 := (Below.refl _ w3).drew.trans hb4
      go_wp2_with fail
      refine hK.out _ _ ?_ (fun hHeld => ?_)
      · exact hX3.out.below (hb4d) (Nat.lt_of_succ_lt hs3.out)
      clear hK K
      try simp only [Act.put, List.setIfInBounds_toArray, List.set_cons_zero, List.set_cons_succ]
      refine wpAnyH_ready (rs := [5]) (by kernel_rfl) (by simp) ?_
      refine (AllReadyH.cons (o := ?o7) ?hi7 (fun K hK => ?hr7) AllReadyH.nil)
      case hi7 => (simp only [List.getElem?_toArray, List.getElem?_cons_succ, List.getElem?_cons_zero]; rfl)
      case hr7 =>
        go_simp
        refine hK.out _ _ ?_ (fun hHeld => ?_)
        · exact hX3.out.below (hb4d.alloc hb4d.size (N51 x)) (Nat.lt_of_succ_lt hs3.out)
        clear hK K
        try simp only [Act.put, List.setIfInBounds_toArray, List.set_cons_zero, List.set_cons_succ]
        refine wpAnyH_ready (rs := [6]) (by kernel_rfl) (by simp) ?_
        refine (AllReadyH.cons (o := ?o6) ?hi6 (fun K hK => ?hr6) AllReadyH.nil)
        case hi6 => (simp only [List.getElem?_toArray, List.getElem?_cons_succ, List.getElem?_cons_zero]; rfl)
        case hr6 =>
          have hb35 : Below w3.heap.size w3 (w4.alloc (N51 x)) := (hb4d.alloc hb4d.size (N51 x))
          have hown5 := own_below hown ((Below.refl _ w4).alloc (Nat.le_refl _) (N51 x))
          have hV5 : Blk (w4.alloc (N51 x)) w4.heap.size 51 x.cells.toArray := Blk.new w4 51 _
          have hbase3 : w3.heap.size ≤ w3.heap.size := Nat.le_refl _
          have hbase : w3.heap.size ≤ (w4.alloc (N51 x)).heap.size := hb35.size
          have hne5 : ∀ k, v4.ownBlock = some k → k ≠ w4.heap.size := fun k hk => by have := (hown.lt k hk).2; omega
          go_simp
          refine (insert_n v4 _ n cs x i _ hl hn (by omega) _ hown5 hbase hV5 hne5).mono ?_
          rintro e w6 ⟨A6, c6, rfl, hle6, hC6, hfar6, hb6⟩
          go_wp2_with fail
          have hb36 := hb35.trans (hb6.mono hbase3)
          refine hK.out _ _ ?_ (fun hHeld => ?_)
          · exact hX3.out.below (hb36) (Nat.lt_of_succ_lt hs3.out)
          clear hK K
          try simp only [Act.put, List.setIfInBounds_toArray, List.set_cons_zero, List.set_cons_succ]
          refine wpAnyH_take (i := 7) (oi := ?o4) (v := ?hv4) ?hi4 (by kernel_rfl) (by kernel_rfl) (by kernel_rfl) ?hq4 ?hy4 (by assumption) ?hr4
          case hi4 => (simp only [List.getElem?_toArray, List.getElem?_cons_succ, List.getElem?_cons_zero]; rfl)
          case hq4 => exact fun _ _ _ h => h
          case hy4 => exact Or.inl ⟨by rfl, by intro w hSw; (try dsimp only at hSw); go_simp; try with_reducible rfl⟩
          simp only [Act.put, List.setIfInBounds_toArray, List.set_cons_zero, List.set_cons_succ]
          refine wpAnyH_ready (rs := [8]) (by kernel_rfl) (by simp) ?_
          refine (AllReadyH.cons (o := ?o5) ?hi5 (fun K hK => ?hr5) AllReadyH.nil)
          case hi5 => (simp only [List.getElem?_toArray, List.getElem?_cons_succ, List.getElem?_cons_zero]; rfl)
          case hr5 =>
            have hZ6 := hZ3.out.below hb36 hs3.out
            have hB6 := hB3.out.below hb36 (Nat.lt_of_succ_lt (Nat.lt_of_succ_lt hs3.out))
            clear z0 z1 z2 f0 f1 f2 b0 b1 b2 g0 g1 g2
            obtain ⟨z0, z1, z2, f0, f1, f2⟩ := hZ6.three
            obtain ⟨b0, b1, b2, g0, g1, g2⟩ := hB6.three
            go_simp
            refine hK.out _ _ ?_ (fun hHeld => ?_)
            · exact (hX3.out.below hb36 (Nat.lt_of_succ_lt hs3.out)).far ⟨w.heap.size, 2, none⟩ _ (by show w.heap.size ≠ w.heap.size + 1; omega)
            clear hK K
            try simp only [Act.put, List.setIfInBounds_toArray, List.set_cons_zero, List.set_cons_succ]
            refine wpAnyH_done (by kernel_rfl) ?_ _
            go_wp2_with fail
            refine bodyPost_ret (v := .tuple #[.agg #[.int .i64 L, .int .i64 O, .slice A6 (n + 1) c6], .int .i64 0]) (by simp [results, Tryz.results28, go_sem, z0, z1, z2]) rfl ?_
            have hln : (insL cs i x).length = n + 1 := by rw [insL_length cs i x (by omega)]; omega
            have hlt3 := hs3.out
            have hfar7 : ∀ b off, A6 = some ⟨b, off, none⟩ → w3.heap.size ≤ b := fun b off h => Nat.le_trans hbase3 (hfar6 b off h)
            rw [← hln] at hC6 hle6 ⊢
            exact sched_good L O 0 0 (insL cs i x) (w.heap.size + 1 + 1) (by omega) hle6 (by have h := hC6.far ⟨w.heap.size, 2, none⟩ (.slice A6 (insL cs i x).length c6) (fun b off h => by have := hfar7 b off h; show b ≠ w.heap.size; omega); simpa [World.setCell] using h) ((bstep hw3 hb36 (Nat.le_refl _)).setCell (p := ⟨w.heap.size, 2, none⟩) (Nat.le_refl _) _) (fun b off h => by have := hfar7 b off h; omega)
    case hr12 =>
      go_simp
      refine hK.out _ _ ?_ (fun hHeld => ?_)
      · exact hX3.out.below (((Below.refl _ w3).alloc (Nat.le_refl _) (N51 x)).drew) (Nat.lt_of_succ_lt hs3.out)
      clear hK K
      try simp only [Act.put, List.setIfInBounds_toArray, List.set_cons_zero, List.set_cons_succ]
      refine wpAnyH_ready (rs := [2]) (by kernel_rfl) (by simp) ?_
      refine (AllReadyH.cons (o := ?o11) ?hi11 (fun K hK => ?hr11) AllReadyH.nil)
      case hi11 => (simp only [List.getElem?_toArray, List.getElem?_cons_succ, List.getElem?_cons_zero]; rfl)
      case hr11 =>
        have hC4 := Lib.hid ((hC3.out.below ((Below.refl _ w3).alloc (Nat.le_refl _) (N51 x)).drew).more (((Below.refl _ w3).alloc (Nat.le_refl _) (N51 x)).drew).size)
        go_simp
        refine (clone_any A n c cs hn _ hC4.out).mono ?_
        rintro e w4 ⟨v4, rfl, hown, hb4⟩
        have hb45 : Below w3.heap.size w3 w4 := (((Below.refl _ w3).alloc (Nat.le_refl _) (N51 x)).drew).trans (hb4.mono (by simp))
        go_wp2_with fail
        refine hK.out _ _ ?_ (fun hHeld => ?_)
        · exact hX3.out.below (hb45) (Nat.lt_of_succ_lt hs3.out)
        clear hK K
        try simp only [Act.put, List.setIfInBounds_toArray, List.set_cons_zero, List.set_cons_succ]
        refine wpAnyH_ready (rs := [6]) (by kernel_rfl) (by simp) ?_
        refine (AllReadyH.cons (o := ?o10) ?hi10 (fun K hK => ?hr10) AllReadyH.nil)
        case hi10 => (simp only [List.getElem?_toArray, List.getElem?_cons_succ, List.getElem?_cons_zero]; rfl)
        case hr10 =>
          have hb35 : Below w3.heap.size w3 w4 := hb45
          have hown5 := hown
          have hVd : Blk (w3.alloc (N51 x)).drew w3.heap.size 51 x.cells.toArray := Blk.new w3 51 x.cells.toArray
          have hV5 : Blk w4 w3.heap.size 51 x.cells.toArray := hVd.below hb4 (by show w3.heap.size < (w3.alloc (N51 x)).heap.size; simp)
          have hbase3 : w3.heap.size ≤ (w3.alloc (N51 x)).heap.size := by simp
          have hbase : (w3.alloc (N51 x)).heap.size ≤ w4.heap.size := hb4.size
          have hne5 : ∀ k, v4.ownBlock = some k → k ≠ w3.heap.size := fun k hk => by have := (hown.lt k hk).1; simp at this; omega
          go_simp
          refine (insert_n v4 _ n cs x i _ hl hn (by omega) _ hown5 hbase hV5 hne5).mono ?_
          rintro e w6 ⟨A6, c6, rfl, hle6, hC6, hfar6, hb6⟩
          go_wp2_with fail
          have hb36 := hb35.trans (hb6.mono hbase3)
          refine hK.out _ _ ?_ (fun hHeld => ?_)
          · exact hX3.out.below (hb36) (Nat.lt_of_succ_lt hs3.out)
          clear hK K
          try simp only [Act.put, List.setIfInBounds_toArray, List.set_cons_zero, List.set_cons_succ]
          refine wpAnyH_take (i := 7) (oi := ?o8) (v := ?hv8) ?hi8 (by kernel_rfl) (by kernel_rfl) (by kernel_rfl) ?hq8 ?hy8 (by assumption) ?hr8
          case hi8 => (simp only [List.getElem?_toArray, List.getElem?_cons_succ, List.getElem?_cons_zero]; rfl)
          case hq8 => exact fun _ _ _ h => h
          case hy8 => exact Or.inl ⟨by rfl, by intro w hSw; (try dsimp only at hSw); go_simp; try with_reducible rfl⟩
          simp only [Act.put, List.setIfInBounds_toArray, List.set_cons_zero, List.set_cons_succ]
          refine wpAnyH_ready (rs := [8]) (by kernel_rfl) (by simp) ?_
          refine (AllReadyH.cons (o := ?o9) ?hi9 (fun K hK => ?hr9) AllReadyH.nil)
          case hi9 => (simp only [List.getElem?_toArray, List.getElem?_cons_succ, List.getElem?_cons_zero]; rfl)
          case hr9 =>
            have hZ6 := hZ3.out.below hb36 hs3.out
            have hB6 := hB3.out.below hb36 (Nat.lt_of_succ_lt (Nat.lt_of_succ_lt hs3.out))
            clear z0 z1 z2 f0 f1 f2 b0 b1 b2 g0 g1 g2
            obtain ⟨z0, z1, z2, f0, f1, f2⟩ := hZ6.three
            obtain ⟨b0, b1, b2, g0, g1, g2⟩ := hB6.three
            go_simp
            refine hK.out _ _ ?_ (fun hHeld => ?_)
            · exact (hX3.out.below hb36 (Nat.lt_of_succ_lt hs3.out)).far ⟨w.heap.size, 2, none⟩ _ (by show w.heap.size ≠ w.heap.size + 1; omega)
            clear hK K
            try simp only [Act.put, List.setIfInBounds_toArray, List.set_cons_zero, List.set_cons_succ]
            refine wpAnyH_done (by kernel_rfl) ?_ _
            go_wp2_with fail
            refine bodyPost_ret (v := .tuple #[.agg #[.int .i64 L, .int .i64 O, .slice A6 (n + 1) c6], .int .i64 0]) (by simp [results, Tryz.results28, go_sem, z0, z1, z2]) rfl ?_
            have hln : (insL cs i x).length = n + 1 := by rw [insL_length cs i x (by omega)]; omega
            have hlt3 := hs3.out
            have hfar7 : ∀ b off, A6 = some ⟨b, off, none⟩ → w3.heap.size ≤ b := fun b off h => Nat.le_trans hbase3 (hfar6 b off h)
            rw [← hln] at hC6 hle6 ⊢
            exact sched_good L O 0 0 (insL cs i x) (w.heap.size + 1 + 1) (by omega) hle6 (by have h := hC6.far ⟨w.heap.size, 2, none⟩ (.slice A6 (insL cs i x).length c6) (fun b off h => by have := hfar7 b off h; show b ≠ w.heap.size; omega); simpa [World.setCell] using h) ((bstep hw3 hb36 (Nat.le_refl _)).setCell (p := ⟨w.heap.size, 2, none⟩) (Nat.le_refl _) _) (fun b off h => by have := hfar7 b off h; omega)
  case hr19 =>
    go_simp
    refine hK.out _ _ ?_ (fun hHeld => ?_)
    · exact hX3.out.below (((Below.refl _ w3).alloc (Nat.le_refl _) (N51 x)).drew) (Nat.lt_of_succ_lt hs3.out)
    clear hK K
    try simp only [Act.put, List.setIfInBounds_toArray, List.set_cons_zero, List.set_cons_succ]
    have b2a : (w3.alloc (N51 x)).drew.cell? ⟨w.heap.size, 2, none⟩ = some (.slice A n c) := (World.cell?_alloc_lt w3 (N51 x) ⟨w.heap.size, 2, none⟩ (by show w.heap.size < w3.heap.size; have := hs3.out; omega)).trans b2
    refine wpAnyH_ready (rs := [1]) (by kernel_rfl) (by simp) ?_
    refine (AllReadyH.cons (o := ?o18) ?hi18 (fun K hK => ?hr18) AllReadyH.nil)
    case hi18 => (simp only [List.getElem?_toArray, List.getElem?_cons_succ, List.getElem?_cons_zero]; rfl)
    case hr18 =>
      go_simp
      refine hK.out _ _ ?_ (fun hHeld => ?_)
      · exact hX3.out.below (((Below.refl _ w3).alloc (Nat.le_refl _) (N51 x)).drew) (Nat.lt_of_succ_lt hs3.out)
      clear hK K
      try simp only [Act.put, List.setIfInBounds_toArray, List.set_cons_zero, List.set_cons_succ]
      refine wpAnyH_ready (rs := [2]) (by kernel_rfl) (by simp) ?_
      refine (AllReadyH.cons (o := ?o17) ?hi17 (fun K hK => ?hr17) AllReadyH.nil)
      case hi17 => (simp only [List.getElem?_toArray, List.getElem?_cons_succ, List.getElem?_cons_zero]; rfl)
      case hr17 =>
        have hC4 := Lib.hid ((hC3.out.below ((Below.refl _ w3).alloc (Nat.le_refl _) (N51 x)).drew).more (((Below.refl _ w3).alloc (Nat.le_refl _) (N51 x)).drew).size)
        go_simp
        refine (clone_any A n c cs hn _ hC4.out).mono ?_
        rintro e w4 ⟨v4, rfl, hown, hb4⟩
        have hb45 : Below w3.heap.size w3 w4 := (((Below.refl _ w3).alloc (Nat.le_refl _) (N51 x)).drew).trans (hb4.mono (by simp))
        go_wp2_with fail
        refine hK.out _ _ ?_ (fun hHeld => ?_)
        · exact hX3.out.below (hb45) (Nat.lt_of_succ_lt hs3.out)
        clear hK K
        try simp only [Act.put, List.setIfInBounds_toArray, List.set_cons_zero, List.set_cons_succ]
        refine wpAnyH_ready (rs := [6]) (by kernel_rfl) (by simp) ?_
        refine (AllReadyH.cons (o := ?o16) ?hi16 (fun K hK => ?hr16) AllReadyH.nil)
        case hi16 => (simp only [List.getElem?_toArray, List.getElem?_cons_succ, List.getElem?_cons_zero]; rfl)
        case hr16 =>
          have hb35 : Below w3.heap.size w3 w4 := hb45
          have hown5 := hown
          have hVd : Blk (w3.alloc (N51 x)).drew w3.heap.size 51 x.cells.toArray := Blk.new w3 51 x.cells.toArray
          have hV5 : Blk w4 w3.heap.size 51 x.cells.toArray := hVd.below hb4 (by show w3.heap.size < (w3.alloc (N51 x)).heap.size; simp)
          have hbase3 : w3.heap.size ≤ (w3.alloc (N51 x)).heap.size := by simp
          have hbase : (w3.alloc (N51 x)).heap.size ≤ w4.heap.size := hb4.size
          have hne5 : ∀ k, v4.ownBlock = some k → k ≠ w3.heap.size := fun k hk => by have := (hown.lt k hk).1; simp at this; omega
          go_simp
          refine (insert_n v4 _ n cs x i _ hl hn (by omega) _ hown5 hbase hV5 hne5).mono ?_
          rintro e w6 ⟨A6, c6, rfl, hle6, hC6, hfar6, hb6⟩
          go_wp2_with fail
          have hb36 := hb35.trans (hb6.mono hbase3)
          refine hK.out _ _ ?_ (fun hHeld => ?_)
          · exact hX3.out.below (hb36) (Nat.lt_of_succ_lt hs3.out)
          clear hK K
          try simp only [Act.put, List.setIfInBounds_toArray, List.set_cons_zero, List.set_cons_succ]
          refine wpAnyH_take (i := 7) (oi := ?o14) (v := ?hv14) ?hi14 (by kernel_rfl) (by kernel_rfl) (by kernel_rfl) ?hq14 ?hy14 (by assumption) ?hr14
          case hi14 => (simp only [List.getElem?_toArray, List.getElem?_cons_succ, List.getElem?_cons_zero]; rfl)
          case hq14 => exact fun _ _ _ h => h
          case hy14 => exact Or.inl ⟨by rfl, by intro w hSw; (try dsimp only at hSw); go_simp; try with_reducible rfl⟩
          simp only [Act.put, List.setIfInBounds_toArray, List.set_cons_zero, List.set_cons_succ]
          refine wpAnyH_ready (rs := [8]) (by kernel_rfl) (by simp) ?_
          refine (AllReadyH.cons (o := ?o15) ?hi15 (fun K hK => ?hr15) AllReadyH.nil)
          case hi15 => (simp only [List.getElem?_toArray, List.getElem?_cons_succ, List.getElem?_cons_zero]; rfl)
          case hr15 =>
            have hZ6 := hZ3.out.below hb36 hs3.out
            have hB6 := hB3.out.below hb36 (Nat.lt_of_succ_lt (Nat.lt_of_succ_lt hs3.out))
            clear z0 z1 z2 f0 f1 f2 b0 b1 b2 g0 g1 g2
            obtain ⟨z0, z1, z2, f0, f1, f2⟩ := hZ6.three
            obtain ⟨b0, b1, b2, g0, g1, g2⟩ := hB6.three
            go_simp
            refine hK.out _ _ ?_ (fun hHeld => ?_)
            · exact (hX3.out.below hb36 (Nat.lt_of_succ_lt hs3.out)).far ⟨w.heap.size, 2, none⟩ _ (by show w.heap.size ≠ w.heap.size + 1; omega)
            clear hK K
            try simp only [Act.put, List.setIfInBounds_toArray, List.set_cons_zero, List.set_cons_succ]
            refine wpAnyH_done (by kernel_rfl) ?_ _
            go_wp2_with fail
            refine bodyPost_ret (v := .tuple #[.agg #[.int .i64 L, .int .i64 O, .slice A6 (n + 1) c6], .int .i64 0]) (by simp [results, Tryz.results28, go_sem, z0, z1, z2]) rfl ?_
            have hln : (insL cs i x).length = n + 1 := by rw [insL_length cs i x (by omega)]; omega
            have hlt3 := hs3.out
            have hfar7 : ∀ b off, A6 = some ⟨b, off, none⟩ → w3.heap.size ≤ b := fun b off h => Nat.le_trans hbase3 (hfar6 b off h)
            rw [← hln] at hC6 hle6 ⊢
            exact sched_good L O 0 0 (insL cs i x) (w.heap.size + 1 + 1) (by omega) hle6 (by have h := hC6.far ⟨w.heap.size, 2, none⟩ (.slice A6 (insL cs i x).length c6) (fun b off h => by have := hfar7 b off h; show b ≠ w.heap.size; omega); simpa [World.setCell] using h) ((bstep hw3 hb36 (Nat.le_refl _)).setCell (p := ⟨w.heap.size, 2, none⟩) (Nat.le_refl _) _) (fun b off h => by have := hfar7 b off h; omega)
theorem Add_any (L O : Int) (A : Option Addr) (n c : Nat) (cs : List C5) (x : C5) (hn : n ≤ 1000000) (w : World) (hcs : Cells w w.heap.size A n cs) :
    Calls Tryz.prog 28 #[.agg #[.int .i64 L, .int .i64 O, .slice A n c], .agg #[.int .i64 x.s, .int .i64 x.o, .int .i64 x.f, .int .i64 x.t, .int .i64 x.w]] w (SchedEnd w (addR L O cs x)) := by
  have hl := hcs.1
  unfold addR
  cases hr : formB L O cs
  · rw [if_pos rfl]
    exact Add_form L O A n c cs x hn (Lib.hid hr) w (Lib.hid hcs)
  · rw [if_neg (by simp)]
    cases hf : formedB L O x
    · rw [if_pos rfl]
      exact Add_range L O A n c cs x hn (Lib.hid hr) (Lib.hid hf) w (Lib.hid hcs)
    · rw [if_neg (by simp)]
      by_cases hin : x ∈ cs
      · rw [if_pos hin]
        exact Add_twice L O A n c cs x hn (Lib.hid hr) (Lib.hid hf) hin w (Lib.hid hcs)
      · rw [if_neg hin]
        by_cases h5 : cs.length = 512
        · rw [if_pos h5]
          exact Add_large L O A n c cs x hn (Lib.hid hr) (Lib.hid hf) hin (Lib.hid (by omega)) w (Lib.hid hcs)
        · rw [if_neg h5]
          exact Add_yes L O A n c cs x hn (Lib.hid hr) (Lib.hid hf) hin (Lib.hid (by omega)) w (Lib.hid hcs)
theorem Rem_any (L O : Int) (A : Option Addr) (n c : Nat) (cs : List C5) (x : C5) (hn : n ≤ 1000000) (w : World) (hcs : Cells w w.heap.size A n cs) :
    Calls Tryz.prog 27 #[.agg #[.int .i64 L, .int .i64 O, .slice A n c], .agg #[.int .i64 x.s, .int .i64 x.o, .int .i64 x.f, .int .i64 x.t, .int .i64 x.w]] w (SchedEnd w (remR L O cs x)) := by
  unfold remR
  cases hr : formB L O cs
  · rw [if_pos rfl]
    exact Rem_form L O A n c cs x hn (Lib.hid hr) w (Lib.hid hcs)
  · rw [if_neg (by simp)]
    by_cases hin : x ∈ cs
    · rw [if_pos hin]
      exact Rem_yes L O A n c cs x hn (Lib.hid hr) hin w (Lib.hid hcs)
    · rw [if_neg hin]
      exact Rem_none L O A n c cs x hn (Lib.hid hr) hin w (Lib.hid hcs)
end Go.Proofs.YtnddjcadkbjjhaaGreatDoor
