/-
  CHAPTER 35: Differ.
-/
import Derived.Test.YtnddjcadkbjjhaaGreatDoorZ
namespace Go.Proofs.YtnddjcadkbjjhaaGreatDoor
open Go.RowKit

/-- How Differ ends. -/
def DiffEnd (w : World) (r1 r2 : List C5) (x : Int) (e : Ending) (w' : World) : Prop :=
  ∃ A1 c1 A2 c2, e = .returned (.tuple #[.slice A1 r1.length c1, .slice A2 r2.length c2, .int .i64 x]) ∧ Cells w' w'.heap.size A1 r1.length r1 ∧ Cells w' w'.heap.size A2 r2.length r2 ∧ Below w.heap.size w w'
theorem DiffEnd.bad {w w' : World} (x : Int) (hb : Below w.heap.size w w') : DiffEnd w [] [] x (.returned (.tuple #[.slice none 0 0, .slice none 0 0, .int .i64 x])) w' :=
  ⟨none, 0, none, 0, rfl, ⟨rfl, fun h => absurd h (by simp)⟩, ⟨rfl, fun h => absurd h (by simp)⟩, hb⟩
abbrev D0 (w : World) (L O : Int) (V : Value) (L' O' : Int) (V' : Value) : World := (w.alloc (N30 L O V)).alloc (N30 L' O' V')
theorem D0_below (w : World) (L O : Int) (V : Value) (L' O' : Int) (V' : Value) : Below w.heap.size w (D0 w L O V L' O' V') := ((Below.refl _ _).alloc (Nat.le_refl _) _).alloc (by simp) _
theorem D0_a (w : World) (L O : Int) (V : Value) (L' O' : Int) (V' : Value) : BoxS (D0 w L O V L' O' V') w.heap.size L O V := (BoxS.new L O V 30 w).below ((Below.refl _ _).alloc (Nat.le_refl _) _) (by simp)
theorem D0_b (w : World) (L O : Int) (V : Value) (L' O' : Int) (V' : Value) : BoxS (D0 w L O V L' O' V') (w.heap.size + 1) L' O' V' := by
  have := BoxS.new L' O' V' 30 (w.alloc (N30 L O V))
  rwa [World.size_alloc] at this
theorem D0_size (w : World) (L O : Int) (V : Value) (L' O' : Int) (V' : Value) : w.heap.size + 1 < (D0 w L O V L' O' V').heap.size := by simp
theorem keepAB {W0 W : World} {a b : Nat} {L O L' O' : Int} {V V' : Value} (hA : Hid (BoxS W0 a L O V)) (hB : Hid (BoxS W0 b L' O' V')) (ha : a < W0.heap.size) (hb : b < W0.heap.size) (h : Below W0.heap.size W0 W) :
    W.cell? ⟨a, 0, none⟩ = some (.int .i64 L) ∧ W.cell? ⟨a, 1, none⟩ = some (.int .i64 O) ∧ W.cell? ⟨a, 2, none⟩ = some V ∧ W.cell? ⟨b, 0, none⟩ = some (.int .i64 L') ∧ W.cell? ⟨b, 1, none⟩ = some (.int .i64 O') ∧ W.cell? ⟨b, 2, none⟩ = some V' := by
  obtain ⟨a0, a1, a2⟩ := hA.out.below h ha
  obtain ⟨b0, b1, b2⟩ := hB.out.below h hb
  exact ⟨a0, a1, a2, b0, b1, b2⟩
set_option maxHeartbeats 4000000 in
set_option maxRecDepth 100000 in
theorem Dif_a (L O L' O' : Int) (A A' : Option Addr) (n c n' c' : Nat) (cs ds : List C5) (hn : n ≤ 1000000) (_hn' : n' ≤ 1000000) (hr : Hid (formB L O cs = false)) (w : World) (hcs : Hid (Cells w w.heap.size A n cs)) (hds : Hid (Cells w w.heap.size A' n' ds)) :
    Calls Tryz.prog 31 #[.agg #[.int .i64 L, .int .i64 O, .slice A n c], .agg #[.int .i64 L', .int .i64 O', .slice A' n' c']] w (DiffEnd w [] [] 1) := by
  have hw0 := D0_below w L O (.slice A n c) L' O' (.slice A' n' c')
  have hC0 := Lib.hid ((hcs.out.below hw0).more hw0.size)
  have hD0 := Lib.hid ((hds.out.below hw0).more hw0.size)
  have hA0 := Lib.hid (D0_a w L O (.slice A n c) L' O' (.slice A' n' c'))
  have hB0 := Lib.hid (D0_b w L O (.slice A n c) L' O' (.slice A' n' c'))
  have hs0 := Lib.hid (D0_size w L O (.slice A n c) L' O' (.slice A' n' c'))
  clear hcs hds
  go_enter Tryz.func31, Tryz.ntmps31
  go_wp2_with fail
  refine (form_lit L O A n c cs hn false hr.out _ hC0.out).mono ?_
  rintro e w1 ⟨rfl, hb1⟩
  have hA1 := Lib.hid (hA0.out.below hb1 (Nat.lt_of_succ_lt hs0.out))
  have hB1 := Lib.hid (hB0.out.below hb1 hs0.out)
  have hw1 := bstep hw0 hb1 (Nat.le_refl _)
  have hC1 := Lib.hid ((hC0.out.below hb1).more hb1.size)
  have hD1 := Lib.hid ((hD0.out.below hb1).more hb1.size)
  have hs1 := Lib.hid (Nat.lt_of_lt_of_le hs0.out hb1.size)
  clear hA0 hB0 hC0 hD0 hs0 hw0 hb1
  (try clear a0 a1 a2 b0 b1 b2)
  obtain ⟨a0, a1, a2⟩ := id hA1.out
  obtain ⟨b0, b1, b2⟩ := id hB1.out
  go_wp2_with fail
  refine bodyPost_ret (v := .tuple #[.slice none 0 0, .slice none 0 0, .int .i64 1]) (by simp [results, Tryz.results31, go_sem]) rfl ?_
  exact DiffEnd.bad 1 hw1
set_option maxHeartbeats 4000000 in
set_option maxRecDepth 100000 in
theorem Dif_b (L O L' O' : Int) (A A' : Option Addr) (n c n' c' : Nat) (cs ds : List C5) (hn : n ≤ 1000000) (hn' : n' ≤ 1000000) (hr : Hid (formB L O cs = true)) (hr' : Hid (formB L' O' ds = false)) (w : World) (hcs : Hid (Cells w w.heap.size A n cs)) (hds : Hid (Cells w w.heap.size A' n' ds)) :
    Calls Tryz.prog 31 #[.agg #[.int .i64 L, .int .i64 O, .slice A n c], .agg #[.int .i64 L', .int .i64 O', .slice A' n' c']] w (DiffEnd w [] [] 1) := by
  have hw0 := D0_below w L O (.slice A n c) L' O' (.slice A' n' c')
  have hC0 := Lib.hid ((hcs.out.below hw0).more hw0.size)
  have hD0 := Lib.hid ((hds.out.below hw0).more hw0.size)
  have hA0 := Lib.hid (D0_a w L O (.slice A n c) L' O' (.slice A' n' c'))
  have hB0 := Lib.hid (D0_b w L O (.slice A n c) L' O' (.slice A' n' c'))
  have hs0 := Lib.hid (D0_size w L O (.slice A n c) L' O' (.slice A' n' c'))
  clear hcs hds
  go_enter Tryz.func31, Tryz.ntmps31
  go_wp2_with fail
  refine (form_lit L O A n c cs hn true hr.out _ hC0.out).mono ?_
  rintro e w1 ⟨rfl, hb1⟩
  have hA1 := Lib.hid (hA0.out.below hb1 (Nat.lt_of_succ_lt hs0.out))
  have hB1 := Lib.hid (hB0.out.below hb1 hs0.out)
  have hw1 := bstep hw0 hb1 (Nat.le_refl _)
  have hC1 := Lib.hid ((hC0.out.below hb1).more hb1.size)
  have hD1 := Lib.hid ((hD0.out.below hb1).more hb1.size)
  have hs1 := Lib.hid (Nat.lt_of_lt_of_le hs0.out hb1.size)
  clear hA0 hB0 hC0 hD0 hs0 hw0 hb1
  (try clear a0 a1 a2 b0 b1 b2)
  obtain ⟨a0, a1, a2⟩ := id hA1.out
  obtain ⟨b0, b1, b2⟩ := id hB1.out
  go_wp2_with fail
  refine (form_lit L' O' A' n' c' ds hn' false hr'.out _ hD1.out).mono ?_
  rintro e w2 ⟨rfl, hb2⟩
  have hA2 := Lib.hid (hA1.out.below hb2 (Nat.lt_of_succ_lt hs1.out))
  have hB2 := Lib.hid (hB1.out.below hb2 hs1.out)
  have hw2 := bstep hw1 hb2 (Nat.le_refl _)
  have hC2 := Lib.hid ((hC1.out.below hb2).more hb2.size)
  have hD2 := Lib.hid ((hD1.out.below hb2).more hb2.size)
  have hs2 := Lib.hid (Nat.lt_of_lt_of_le hs1.out hb2.size)
  clear hA1 hB1 hC1 hD1 hs1 hw1 hb2
  (try clear a0 a1 a2 b0 b1 b2)
  obtain ⟨a0, a1, a2⟩ := id hA2.out
  obtain ⟨b0, b1, b2⟩ := id hB2.out
  go_wp2_with fail
  refine bodyPost_ret (v := .tuple #[.slice none 0 0, .slice none 0 0, .int .i64 1]) (by simp [results, Tryz.results31, go_sem]) rfl ?_
  exact DiffEnd.bad 1 hw2
set_option maxHeartbeats 4000000 in
set_option maxRecDepth 100000 in
theorem Dif_L (L O L' O' : Int) (A A' : Option Addr) (n c n' c' : Nat) (cs ds : List C5) (hn : n ≤ 1000000) (hn' : n' ≤ 1000000) (hr : Hid (formB L O cs = true)) (hr' : Hid (formB L' O' ds = true)) (hne : (L == L') = false) (w : World) (hcs : Hid (Cells w w.heap.size A n cs)) (hds : Hid (Cells w w.heap.size A' n' ds)) :
    Calls Tryz.prog 31 #[.agg #[.int .i64 L, .int .i64 O, .slice A n c], .agg #[.int .i64 L', .int .i64 O', .slice A' n' c']] w (DiffEnd w [] [] 11) := by
  have hw0 := D0_below w L O (.slice A n c) L' O' (.slice A' n' c')
  have hC0 := Lib.hid ((hcs.out.below hw0).more hw0.size)
  have hD0 := Lib.hid ((hds.out.below hw0).more hw0.size)
  have hA0 := Lib.hid (D0_a w L O (.slice A n c) L' O' (.slice A' n' c'))
  have hB0 := Lib.hid (D0_b w L O (.slice A n c) L' O' (.slice A' n' c'))
  have hs0 := Lib.hid (D0_size w L O (.slice A n c) L' O' (.slice A' n' c'))
  clear hcs hds
  go_enter Tryz.func31, Tryz.ntmps31
  have hne2 : (L != L') = true := by rw [bne, hne]; rfl
  go_wp2_with fail
  refine (form_lit L O A n c cs hn true hr.out _ hC0.out).mono ?_
  rintro e w1 ⟨rfl, hb1⟩
  have hA1 := Lib.hid (hA0.out.below hb1 (Nat.lt_of_succ_lt hs0.out))
  have hB1 := Lib.hid (hB0.out.below hb1 hs0.out)
  have hw1 := bstep hw0 hb1 (Nat.le_refl _)
  have hC1 := Lib.hid ((hC0.out.below hb1).more hb1.size)
  have hD1 := Lib.hid ((hD0.out.below hb1).more hb1.size)
  have hs1 := Lib.hid (Nat.lt_of_lt_of_le hs0.out hb1.size)
  clear hA0 hB0 hC0 hD0 hs0 hw0 hb1
  (try clear a0 a1 a2 b0 b1 b2)
  obtain ⟨a0, a1, a2⟩ := id hA1.out
  obtain ⟨b0, b1, b2⟩ := id hB1.out
  go_wp2_with fail
  refine (form_lit L' O' A' n' c' ds hn' true hr'.out _ hD1.out).mono ?_
  rintro e w2 ⟨rfl, hb2⟩
  have hA2 := Lib.hid (hA1.out.below hb2 (Nat.lt_of_succ_lt hs1.out))
  have hB2 := Lib.hid (hB1.out.below hb2 hs1.out)
  have hw2 := bstep hw1 hb2 (Nat.le_refl _)
  have hC2 := Lib.hid ((hC1.out.below hb2).more hb2.size)
  have hD2 := Lib.hid ((hD1.out.below hb2).more hb2.size)
  have hs2 := Lib.hid (Nat.lt_of_lt_of_le hs1.out hb2.size)
  clear hA1 hB1 hC1 hD1 hs1 hw1 hb2
  (try clear a0 a1 a2 b0 b1 b2)
  obtain ⟨a0, a1, a2⟩ := id hA2.out
  obtain ⟨b0, b1, b2⟩ := id hB2.out
  go_wp2_with fail
  refine bodyPost_ret (v := .tuple #[.slice none 0 0, .slice none 0 0, .int .i64 11]) (by simp [results, Tryz.results31, go_sem]) rfl ?_
  exact DiffEnd.bad 11 hw2
set_option maxHeartbeats 4000000 in
set_option maxRecDepth 100000 in
theorem Dif_O (L O L' O' : Int) (A A' : Option Addr) (n c n' c' : Nat) (cs ds : List C5) (hn : n ≤ 1000000) (hn' : n' ≤ 1000000) (hr : Hid (formB L O cs = true)) (hr' : Hid (formB L' O' ds = true)) (he : (L == L') = true) (hne : (O == O') = false) (w : World) (hcs : Hid (Cells w w.heap.size A n cs)) (hds : Hid (Cells w w.heap.size A' n' ds)) :
    Calls Tryz.prog 31 #[.agg #[.int .i64 L, .int .i64 O, .slice A n c], .agg #[.int .i64 L', .int .i64 O', .slice A' n' c']] w (DiffEnd w [] [] 11) := by
  have hw0 := D0_below w L O (.slice A n c) L' O' (.slice A' n' c')
  have hC0 := Lib.hid ((hcs.out.below hw0).more hw0.size)
  have hD0 := Lib.hid ((hds.out.below hw0).more hw0.size)
  have hA0 := Lib.hid (D0_a w L O (.slice A n c) L' O' (.slice A' n' c'))
  have hB0 := Lib.hid (D0_b w L O (.slice A n c) L' O' (.slice A' n' c'))
  have hs0 := Lib.hid (D0_size w L O (.slice A n c) L' O' (.slice A' n' c'))
  clear hcs hds
  go_enter Tryz.func31, Tryz.ntmps31
  have he2 : (L != L') = false := by rw [bne, he]; rfl
  have hne2 : (O != O') = true := by rw [bne, hne]; rfl
  go_wp2_with fail
  refine (form_lit L O A n c cs hn true hr.out _ hC0.out).mono ?_
  rintro e w1 ⟨rfl, hb1⟩
  have hA1 := Lib.hid (hA0.out.below hb1 (Nat.lt_of_succ_lt hs0.out))
  have hB1 := Lib.hid (hB0.out.below hb1 hs0.out)
  have hw1 := bstep hw0 hb1 (Nat.le_refl _)
  have hC1 := Lib.hid ((hC0.out.below hb1).more hb1.size)
  have hD1 := Lib.hid ((hD0.out.below hb1).more hb1.size)
  have hs1 := Lib.hid (Nat.lt_of_lt_of_le hs0.out hb1.size)
  clear hA0 hB0 hC0 hD0 hs0 hw0 hb1
  (try clear a0 a1 a2 b0 b1 b2)
  obtain ⟨a0, a1, a2⟩ := id hA1.out
  obtain ⟨b0, b1, b2⟩ := id hB1.out
  go_wp2_with fail
  refine (form_lit L' O' A' n' c' ds hn' true hr'.out _ hD1.out).mono ?_
  rintro e w2 ⟨rfl, hb2⟩
  have hA2 := Lib.hid (hA1.out.below hb2 (Nat.lt_of_succ_lt hs1.out))
  have hB2 := Lib.hid (hB1.out.below hb2 hs1.out)
  have hw2 := bstep hw1 hb2 (Nat.le_refl _)
  have hC2 := Lib.hid ((hC1.out.below hb2).more hb2.size)
  have hD2 := Lib.hid ((hD1.out.below hb2).more hb2.size)
  have hs2 := Lib.hid (Nat.lt_of_lt_of_le hs1.out hb2.size)
  clear hA1 hB1 hC1 hD1 hs1 hw1 hb2
  (try clear a0 a1 a2 b0 b1 b2)
  obtain ⟨a0, a1, a2⟩ := id hA2.out
  obtain ⟨b0, b1, b2⟩ := id hB2.out
  go_wp2_with fail
  refine bodyPost_ret (v := .tuple #[.slice none 0 0, .slice none 0 0, .int .i64 11]) (by simp [results, Tryz.results31, go_sem]) rfl ?_
  exact DiffEnd.bad 11 hw2
set_option maxHeartbeats 4000000 in
set_option maxRecDepth 100000 in
theorem Dif_yes (L O L' O' : Int) (A A' : Option Addr) (n c n' c' : Nat) (cs ds : List C5) (hn : n ≤ 1000000) (hn' : n' ≤ 1000000) (hr : Hid (formB L O cs = true)) (hr' : Hid (formB L' O' ds = true)) (he : (L == L') = true) (he' : (O == O') = true) (w : World) (hcs : Hid (Cells w w.heap.size A n cs)) (hds : Hid (Cells w w.heap.size A' n' ds)) :
    Calls Tryz.prog 31 #[.agg #[.int .i64 L, .int .i64 O, .slice A n c], .agg #[.int .i64 L', .int .i64 O', .slice A' n' c']] w (DiffEnd w (keepL ds cs) (keepL cs ds) 0) := by
  have hw0 := D0_below w L O (.slice A n c) L' O' (.slice A' n' c')
  have hC0 := Lib.hid ((hcs.out.below hw0).more hw0.size)
  have hD0 := Lib.hid ((hds.out.below hw0).more hw0.size)
  have hA0 := Lib.hid (D0_a w L O (.slice A n c) L' O' (.slice A' n' c'))
  have hB0 := Lib.hid (D0_b w L O (.slice A n c) L' O' (.slice A' n' c'))
  have hs0 := Lib.hid (D0_size w L O (.slice A n c) L' O' (.slice A' n' c'))
  clear hcs hds
  go_enter Tryz.func31, Tryz.ntmps31
  have he2 : (L != L') = false := by rw [bne, he]; rfl
  have he3 : (O != O') = false := by rw [bne, he']; rfl
  go_wp2_with fail
  refine (form_lit L O A n c cs hn true hr.out _ hC0.out).mono ?_
  rintro e w1 ⟨rfl, hb1⟩
  have hA1 := Lib.hid (hA0.out.below hb1 (Nat.lt_of_succ_lt hs0.out))
  have hB1 := Lib.hid (hB0.out.below hb1 hs0.out)
  have hw1 := bstep hw0 hb1 (Nat.le_refl _)
  have hC1 := Lib.hid ((hC0.out.below hb1).more hb1.size)
  have hD1 := Lib.hid ((hD0.out.below hb1).more hb1.size)
  have hs1 := Lib.hid (Nat.lt_of_lt_of_le hs0.out hb1.size)
  clear hA0 hB0 hC0 hD0 hs0 hw0 hb1
  (try clear a0 a1 a2 b0 b1 b2)
  obtain ⟨a0, a1, a2⟩ := id hA1.out
  obtain ⟨b0, b1, b2⟩ := id hB1.out
  go_wp2_with fail
  refine (form_lit L' O' A' n' c' ds hn' true hr'.out _ hD1.out).mono ?_
  rintro e w2 ⟨rfl, hb2⟩
  have hA2 := Lib.hid (hA1.out.below hb2 (Nat.lt_of_succ_lt hs1.out))
  have hB2 := Lib.hid (hB1.out.below hb2 hs1.out)
  have hw2 := bstep hw1 hb2 (Nat.le_refl _)
  have hC2 := Lib.hid ((hC1.out.below hb2).more hb2.size)
  have hD2 := Lib.hid ((hD1.out.below hb2).more hb2.size)
  have hs2 := Lib.hid (Nat.lt_of_lt_of_le hs1.out hb2.size)
  clear hA1 hB1 hC1 hD1 hs1 hw1 hb2
  (try clear a0 a1 a2 b0 b1 b2)
  obtain ⟨a0, a1, a2⟩ := id hA2.out
  obtain ⟨b0, b1, b2⟩ := id hB2.out
  go_upto_region 9 with fail
  refine wp_region_held_drew (S := (fun w' => w'.cell? ⟨w.heap.size, 0, none⟩ = some (.int .i64 L) ∧ w'.cell? ⟨w.heap.size, 1, none⟩ = some (.int .i64 O) ∧ w'.cell? ⟨w.heap.size, 2, none⟩ = some (.slice A n c) ∧ w'.cell? ⟨w.heap.size + 1, 0, none⟩ = some (.int .i64 L') ∧ w'.cell? ⟨w.heap.size + 1, 1, none⟩ = some (.int .i64 O') ∧ w'.cell? ⟨w.heap.size + 1, 2, none⟩ = some (.slice A' n' c'))) (by kernel_rfl) (keepAB hA2 hB2 (Nat.lt_of_succ_lt hs2.out) hs2.out ((Below.refl _ w2).drew)) (fun hHeld => ?_)
  refine wpAnyH_take (i := 0) (oi := ?o1) (v := ?hv1) ?hi1 (by kernel_rfl) (by kernel_rfl) (by kernel_rfl) ?hq1 ?hy1 (by assumption) ?hr1
  case hi1 => (simp only [List.getElem?_toArray, List.getElem?_cons_zero]; rfl)
  case hq1 => exact fun _ _ _ h => h
  case hy1 => exact Or.inl ⟨by rfl, by intro w hSw; (try dsimp only at hSw); go_simp; try with_reducible rfl⟩
  simp only [Act.put, List.setIfInBounds_toArray, List.set_cons_zero, List.set_cons_succ]
  refine wpAnyH_take (i := 1) (oi := ?o2) (v := ?hv2) ?hi2 (by kernel_rfl) (by kernel_rfl) (by kernel_rfl) ?hq2 ?hy2 (by assumption) ?hr2
  case hi2 => (simp only [List.getElem?_toArray, List.getElem?_cons_succ, List.getElem?_cons_zero]; rfl)
  case hq2 => exact fun _ _ _ h => h
  case hy2 => exact Or.inl ⟨by rfl, by intro w hSw; (try dsimp only at hSw); go_simp; try with_reducible rfl⟩
  simp only [Act.put, List.setIfInBounds_toArray, List.set_cons_zero, List.set_cons_succ]
  refine wpAnyH_take (i := 3) (oi := ?o3) (v := ?hv3) ?hi3 (by kernel_rfl) (by kernel_rfl) (by kernel_rfl) ?hq3 ?hy3 (by assumption) ?hr3
  case hi3 => (simp only [List.getElem?_toArray, List.getElem?_cons_succ, List.getElem?_cons_zero]; rfl)
  case hq3 => exact fun _ _ _ h => h
  case hy3 => exact Or.inl ⟨by rfl, by intro w hSw; (try dsimp only at hSw); go_simp; try with_reducible rfl⟩
  simp only [Act.put, List.setIfInBounds_toArray, List.set_cons_zero, List.set_cons_succ]
  refine wpAnyH_take (i := 4) (oi := ?o4) (v := ?hv4) ?hi4 (by kernel_rfl) (by kernel_rfl) (by kernel_rfl) ?hq4 ?hy4 (by assumption) ?hr4
  case hi4 => (simp only [List.getElem?_toArray, List.getElem?_cons_succ, List.getElem?_cons_zero]; rfl)
  case hq4 => exact fun _ _ _ h => h
  case hy4 => exact Or.inl ⟨by rfl, by intro w hSw; (try dsimp only at hSw); go_simp; try with_reducible rfl⟩
  simp only [Act.put, List.setIfInBounds_toArray, List.set_cons_zero, List.set_cons_succ]
  refine wpAnyH_ready (rs := [2]) (by kernel_rfl) (by simp) ?_
  refine (AllReadyH.cons (o := ?o9) ?hi9 (fun K hK => ?hr9) AllReadyH.nil)
  case hi9 => (simp only [List.getElem?_toArray, List.getElem?_cons_succ, List.getElem?_cons_zero]; rfl)
  case hr9 =>
    go_simp
    refine (only_any L O L' O' A A' n c n' c' cs ds hn hn' _ (Lib.hid ((hC2.out.below ((Below.refl w2.heap.size w2).drew)).more (((Below.refl w2.heap.size w2).drew)).size)) (Lib.hid ((hD2.out.below ((Below.refl w2.heap.size w2).drew)).more (((Below.refl w2.heap.size w2).drew)).size))).mono ?_
    rintro e w3 ⟨Aw3, cw3, rfl, hCw3, _, hbw3⟩
    have hqw3 : Below w2.heap.size w2 w3 := bstep ((Below.refl w2.heap.size w2).drew) hbw3 (Nat.le_refl _)
    go_wp2_with fail
    refine hK.out _ _ ?_ (fun hHeld => ?_)
    · exact (keepAB hA2 hB2 (Nat.lt_of_succ_lt hs2.out) hs2.out (hqw3))
    clear hK K
    try simp only [Act.put, List.setIfInBounds_toArray, List.set_cons_zero, List.set_cons_succ]
    refine wpAnyH_ready (rs := [5]) (by kernel_rfl) (by simp) ?_
    refine (AllReadyH.cons (o := ?o8) ?hi8 (fun K hK => ?hr8) AllReadyH.nil)
    case hi8 => (simp only [List.getElem?_toArray, List.getElem?_cons_succ, List.getElem?_cons_zero]; rfl)
    case hr8 =>
      go_simp
      refine (only_any L' O' L O A' A n' c' n c ds cs hn' hn _ (Lib.hid ((hD2.out.below hqw3).more (hqw3).size)) (Lib.hid ((hC2.out.below hqw3).more (hqw3).size))).mono ?_
      rintro e w4 ⟨Aw4, cw4, rfl, hCw4, _, hbw4⟩
      have hqw4 : Below w2.heap.size w2 w4 := bstep hqw3 hbw4 (Nat.le_refl _)
      go_wp2_with fail
      refine hK.out _ _ ?_ (fun hHeld => ?_)
      · exact (keepAB hA2 hB2 (Nat.lt_of_succ_lt hs2.out) hs2.out (hqw4))
      clear hK K
      try simp only [Act.put, List.setIfInBounds_toArray, List.set_cons_zero, List.set_cons_succ]
      refine wpAnyH_take (i := 6) (oi := ?o5) (v := ?hv5) ?hi5 (by kernel_rfl) (by kernel_rfl) (by kernel_rfl) ?hq5 ?hy5 (by assumption) ?hr5
      case hi5 => (simp only [List.getElem?_toArray, List.getElem?_cons_succ, List.getElem?_cons_zero]; rfl)
      case hq5 => exact fun _ _ _ h => h
      case hy5 => exact Or.inl ⟨by rfl, by intro w hSw; (try dsimp only at hSw); go_simp; try with_reducible rfl⟩
      simp only [Act.put, List.setIfInBounds_toArray, List.set_cons_zero, List.set_cons_succ]
      refine wpAnyH_take (i := 7) (oi := ?o6) (v := ?hv6) ?hi6 (by kernel_rfl) (by kernel_rfl) (by kernel_rfl) ?hq6 ?hy6 (by assumption) ?hr6
      case hi6 => (simp only [List.getElem?_toArray, List.getElem?_cons_succ, List.getElem?_cons_zero]; rfl)
      case hq6 => exact fun _ _ _ h => h
      case hy6 => exact Or.inl ⟨by rfl, by intro w hSw; (try dsimp only at hSw); go_simp; try with_reducible rfl⟩
      simp only [Act.put, List.setIfInBounds_toArray, List.set_cons_zero, List.set_cons_succ]
      refine wpAnyH_take (i := 8) (oi := ?o7) (v := ?hv7) ?hi7 (by kernel_rfl) (by kernel_rfl) (by kernel_rfl) ?hq7 ?hy7 (by assumption) ?hr7
      case hi7 => (simp only [List.getElem?_toArray, List.getElem?_cons_succ, List.getElem?_cons_zero]; rfl)
      case hq7 => exact fun _ _ _ h => h
      case hy7 => exact Or.inl ⟨by rfl, by intro w hSw; (try dsimp only at hSw); go_simp; try with_reducible rfl⟩
      simp only [Act.put, List.setIfInBounds_toArray, List.set_cons_zero, List.set_cons_succ]
      refine wpAnyH_done (by kernel_rfl) ?_ _
      go_wp2_with fail
      refine bodyPost_ret (v := .tuple #[.slice Aw3 (keepL ds cs).length cw3, .slice Aw4 (keepL cs ds).length cw4, .int .i64 0]) (by simp [results, Tryz.results31, go_sem]) rfl ?_
      exact ⟨Aw3, cw3, Aw4, cw4, rfl, (hCw3.below hbw4).more hbw4.size, hCw4, bstep hw2 hqw4 (Nat.le_refl _)⟩
def difR (L O : Int) (cs : List C5) (L' O' : Int) (ds : List C5) : List C5 × List C5 × Int :=
  if formB L O cs = false then ([], [], 1)
  else if formB L' O' ds = false then ([], [], 1)
  else if (L == L') = false then ([], [], 11)
  else if (O == O') = false then ([], [], 11)
  else (keepL ds cs, keepL cs ds, 0)
theorem Dif_any (L O L' O' : Int) (A A' : Option Addr) (n c n' c' : Nat) (cs ds : List C5) (hn : n ≤ 1000000) (hn' : n' ≤ 1000000) (r1 r2 : List C5) (x : Int) (h : difR L O cs L' O' ds = (r1, r2, x)) (w : World) (hcs : Cells w w.heap.size A n cs) (hds : Cells w w.heap.size A' n' ds) :
    Calls Tryz.prog 31 #[.agg #[.int .i64 L, .int .i64 O, .slice A n c], .agg #[.int .i64 L', .int .i64 O', .slice A' n' c']] w (DiffEnd w r1 r2 x) := by
  unfold difR at h
  cases hr : formB L O cs
  · rw [if_pos hr] at h
    cases h
    exact Dif_a L O L' O' A A' n c n' c' cs ds hn hn' (Lib.hid hr) w (Lib.hid hcs) (Lib.hid hds)
  · rw [if_neg (by simp [hr])] at h
    cases hr' : formB L' O' ds
    · rw [if_pos hr'] at h
      cases h
      exact Dif_b L O L' O' A A' n c n' c' cs ds hn hn' (Lib.hid hr) (Lib.hid hr') w (Lib.hid hcs) (Lib.hid hds)
    · rw [if_neg (by simp [hr'])] at h
      cases he : (L == L')
      · rw [if_pos he] at h
        cases h
        exact Dif_L L O L' O' A A' n c n' c' cs ds hn hn' (Lib.hid hr) (Lib.hid hr') he w (Lib.hid hcs) (Lib.hid hds)
      · rw [if_neg (by rw [he]; simp)] at h
        cases he' : (O == O')
        · rw [if_pos he'] at h
          cases h
          exact Dif_O L O L' O' A A' n c n' c' cs ds hn hn' (Lib.hid hr) (Lib.hid hr') he he' w (Lib.hid hcs) (Lib.hid hds)
        · rw [if_neg (by rw [he']; simp)] at h
          cases h
          exact Dif_yes L O L' O' A A' n c n' c' cs ds hn hn' (Lib.hid hr) (Lib.hid hr') he he' w (Lib.hid hcs) (Lib.hid hds)
end Go.Proofs.YtnddjcadkbjjhaaGreatDoor
