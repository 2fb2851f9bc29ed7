/-
  The law ScheduleBack, walked: it returns true for every schedule and cell.
-/
import Derived.Test.YtnddjcadkbjjhaaGreatDoorK
import Derived.Test.YtnddjcadkbjjhaaGreatDoorBk
import Derived.Test.YtnddjcadkbjjhaaGreatDoorEq
namespace Go.Proofs.YtnddjcadkbjjhaaGreatDoor
open Go.RowKit

def inI9 (x : Int) : Prop := -9223372036854775808 ≤ x ∧ x ≤ 9223372036854775807
theorem addR_cases (L O : Int) (cs : List C5) (x : C5) : (∃ e, e ≠ 0 ∧ addR L O cs x = ⟨0, 0, [], 0, e⟩) ∨ (formB L O cs = true ∧ formedB L O x = true ∧ (¬ x ∈ cs) ∧ cs.length ≠ 512 ∧ addR L O cs x = ⟨L, O, insL cs (posL x cs) x, 0, 0⟩) := by
  unfold addR
  cases h1 : formB L O cs
  · exact Or.inl ⟨1, by decide, by rw [if_pos rfl]⟩
  · cases h2 : formedB L O x
    · exact Or.inl ⟨2, by decide, by rw [if_neg (by simp), if_pos rfl]⟩
    · by_cases h3 : x ∈ cs
      · exact Or.inl ⟨6, by decide, by rw [if_neg (by simp), if_neg (by simp), if_pos h3]⟩
      · by_cases h4 : cs.length = 512
        · exact Or.inl ⟨8, by decide, by rw [if_neg (by simp), if_neg (by simp), if_neg h3, if_pos h4]⟩
        · exact Or.inr ⟨rfl, rfl, h3, h4, by rw [if_neg (by simp), if_neg (by simp), if_neg h3, if_neg h4]⟩
set_option maxHeartbeats 8000000 in
set_option maxRecDepth 100000 in
theorem walk_Back_big (L O : Int) (A : Option Addr) (n c : Nat) (cs : List C5) (x : C5) (hn : n ≤ 9223372036854775807) (h60 : 60 < n) (w : World) (ht : Hid (Tabs w)) (hcs : Hid (Cells w w.heap.size A n cs)) :
    Calls Tryz.prog 10 #[.agg #[.int .i64 L, .int .i64 O, .slice A n c], .agg #[.int .i64 x.s, .int .i64 x.o, .int .i64 x.f, .int .i64 x.t, .int .i64 x.w]] w fun e w' => e = .returned (.bool true) ∧ Below w.heap.size w w' := by
  have hb0 : Below w.heap.size w ((w.alloc (N30 L O (.slice A n c))).alloc (N51 x)) := ((Below.refl _ _).alloc (Nat.le_refl _) _).alloc (by simp) _
  have hT0 := Lib.hid (ht.out.later hb0)
  have hB0 := Lib.hid ((BoxS.new L O (.slice A n c) 30 w).below ((Below.refl _ _).alloc (Nat.le_refl _) (N51 x)) (by simp))
  have hX0' := Box5.new x 51 (w.alloc (N30 L O (.slice A n c)))
  rw [World.size_alloc] at hX0'
  have hX0 := Lib.hid hX0'
  clear hX0'
  have hC0 := Lib.hid ((hcs.out.below hb0).more hb0.size)
  have hs0 := Lib.hid (show w.heap.size + 1 < ((w.alloc (N30 L O (.slice A n c))).alloc (N51 x)).heap.size from by simp)
  clear hcs ht
  go_enter Tryz.func10, Tryz.ntmps10
  go_wp2_with fail
  refine (awake_any _ hT0).mono ?_
  rintro e w1 ⟨rfl, hb1⟩
  have hw0 := hb0
  have hB1 := Lib.hid (hB0.out.below hb1 (Nat.lt_of_succ_lt hs0.out))
  have hX1 := Lib.hid (hX0.out.below hb1 hs0.out)
  have hC1 := Lib.hid ((hC0.out.below hb1).more hb1.size)
  have hs1 := Lib.hid (Nat.lt_of_lt_of_le hs0.out hb1.size)
  have hw1 := bstep hw0 hb1 (Nat.le_refl _)
  clear hB0 hX0 hC0 hs0 hw0
  (try clear b0 b1 b2 x0 x1 x2 x3 x4)
  obtain ⟨b0, b1, b2⟩ := id hB1.out
  obtain ⟨x0, x1, x2, x3, x4⟩ := id hX1.out
  go_wp2_with fail
  go_ret
  exact ⟨rfl, hw1⟩
set_option maxHeartbeats 8000000 in
set_option maxRecDepth 100000 in
theorem walk_Back_err (L O : Int) (A : Option Addr) (n c : Nat) (cs : List C5) (x : C5) (hn : n ≤ 60) (e0 : Int) (he : e0 ≠ 0) (hR : Hid (addR L O cs x = ⟨0, 0, [], 0, e0⟩)) (w : World) (ht : Hid (Tabs w)) (hcs : Hid (Cells w w.heap.size A n cs)) :
    Calls Tryz.prog 10 #[.agg #[.int .i64 L, .int .i64 O, .slice A n c], .agg #[.int .i64 x.s, .int .i64 x.o, .int .i64 x.f, .int .i64 x.t, .int .i64 x.w]] w fun e w' => e = .returned (.bool true) ∧ Below w.heap.size w w' := by
  have hb0 : Below w.heap.size w ((w.alloc (N30 L O (.slice A n c))).alloc (N51 x)) := ((Below.refl _ _).alloc (Nat.le_refl _) _).alloc (by simp) _
  have hT0 := Lib.hid (ht.out.later hb0)
  have hB0 := Lib.hid ((BoxS.new L O (.slice A n c) 30 w).below ((Below.refl _ _).alloc (Nat.le_refl _) (N51 x)) (by simp))
  have hX0' := Box5.new x 51 (w.alloc (N30 L O (.slice A n c)))
  rw [World.size_alloc] at hX0'
  have hX0 := Lib.hid hX0'
  clear hX0'
  have hC0 := Lib.hid ((hcs.out.below hb0).more hb0.size)
  have hs0 := Lib.hid (show w.heap.size + 1 < ((w.alloc (N30 L O (.slice A n c))).alloc (N51 x)).heap.size from by simp)
  clear hcs ht
  go_enter Tryz.func10, Tryz.ntmps10
  go_wp2_with fail
  refine (awake_any _ hT0).mono ?_
  rintro e w1 ⟨rfl, hb1⟩
  have hw0 := hb0
  have hB1 := Lib.hid (hB0.out.below hb1 (Nat.lt_of_succ_lt hs0.out))
  have hX1 := Lib.hid (hX0.out.below hb1 hs0.out)
  have hC1 := Lib.hid ((hC0.out.below hb1).more hb1.size)
  have hs1 := Lib.hid (Nat.lt_of_lt_of_le hs0.out hb1.size)
  have hw1 := bstep hw0 hb1 (Nat.le_refl _)
  clear hB0 hX0 hC0 hs0 hw0
  (try clear b0 b1 b2 x0 x1 x2 x3 x4)
  obtain ⟨b0, b1, b2⟩ := id hB1.out
  obtain ⟨x0, x1, x2, x3, x4⟩ := id hX1.out
  have h28 := Add_any L O A n c cs x (by omega) _ hC1.out
  rw [hR.out] at h28
  go_wp2_with fail
  refine h28.mono ?_
  clear h28
  rintro e w2 ⟨A2, c2, rfl, hC2, hle2, hb2⟩
  have hw2 := bstep hw1 hb2 (Nat.le_refl _)
  have hb3 : Below w2.heap.size w2 (w2.alloc (N30 0 0 (.slice A2 0 c2))) := (Below.refl _ _).alloc (Nat.le_refl _) _
  have hw3 := bstep hw2 hb3 (Nat.le_refl _)
  go_wp2_with fail
  go_ret
  exact ⟨rfl, hw3⟩
theorem keepBack {W0 W : World} {a b a9 d9 bm om n N c c2 c5 : Nat} {L O : Int} {A A2 A5 : Option Addr} {x : C5} (h1 : Hid (BoxS W0 a L O (.slice A n c))) (h2 : Hid (Box5 W0 b x)) (h3 : Hid (BoxS W0 a9 L O (.slice A2 N c2))) (h4 : Hid (BoxS W0 d9 L O (.slice A5 n c5)))
    (h5 : Hid (W0.cell? ⟨bm, om, none⟩ = some (.int .i64 x.s) ∧ W0.cell? ⟨bm, om + 1, none⟩ = some (.int .i64 x.o) ∧ W0.cell? ⟨bm, om + 2, none⟩ = some (.int .i64 x.f) ∧ W0.cell? ⟨bm, om + 3, none⟩ = some (.int .i64 x.t) ∧ W0.cell? ⟨bm, om + 4, none⟩ = some (.int .i64 x.w)))
    (l1 : a < W0.heap.size) (l2 : b < W0.heap.size) (l3 : a9 < W0.heap.size) (l4 : d9 < W0.heap.size) (l5 : bm < W0.heap.size) (h : Below W0.heap.size W0 W) :
    W.cell? ⟨a, 0, none⟩ = some (.int .i64 L) ∧ W.cell? ⟨a, 1, none⟩ = some (.int .i64 O) ∧ W.cell? ⟨a, 2, none⟩ = some (.slice A n c) ∧ W.cell? ⟨b, 0, none⟩ = some (.int .i64 x.s) ∧ W.cell? ⟨b, 1, none⟩ = some (.int .i64 x.o) ∧ W.cell? ⟨b, 2, none⟩ = some (.int .i64 x.f) ∧ W.cell? ⟨b, 3, none⟩ = some (.int .i64 x.t) ∧ W.cell? ⟨b, 4, none⟩ = some (.int .i64 x.w) ∧ W.cell? ⟨a9, 0, none⟩ = some (.int .i64 L) ∧ W.cell? ⟨a9, 1, none⟩ = some (.int .i64 O) ∧ W.cell? ⟨a9, 2, none⟩ = some (.slice A2 N c2) ∧ W.cell? ⟨d9, 0, none⟩ = some (.int .i64 L) ∧ W.cell? ⟨d9, 1, none⟩ = some (.int .i64 O) ∧ W.cell? ⟨d9, 2, none⟩ = some (.slice A5 n c5) ∧ W.cell? ⟨bm, om, none⟩ = some (.int .i64 x.s) ∧ W.cell? ⟨bm, om + 1, none⟩ = some (.int .i64 x.o) ∧ W.cell? ⟨bm, om + 2, none⟩ = some (.int .i64 x.f) ∧ W.cell? ⟨bm, om + 3, none⟩ = some (.int .i64 x.t) ∧ W.cell? ⟨bm, om + 4, none⟩ = some (.int .i64 x.w) := by
  obtain ⟨a0, a1, a2⟩ := h1.out.below h l1
  obtain ⟨b0, b1, b2, b3, b4⟩ := h2.out.below h l2
  obtain ⟨c0, c1, c2⟩ := h3.out.below h l3
  obtain ⟨d0, d1, d2⟩ := h4.out.below h l4
  obtain ⟨e0, e1, e2, e3, e4⟩ := h5.out
  exact ⟨a0, a1, a2, b0, b1, b2, b3, b4, c0, c1, c2, d0, d1, d2, (h.cell (p := ⟨bm, _, none⟩) l5).trans e0, (h.cell (p := ⟨bm, _, none⟩) l5).trans e1, (h.cell (p := ⟨bm, _, none⟩) l5).trans e2, (h.cell (p := ⟨bm, _, none⟩) l5).trans e3, (h.cell (p := ⟨bm, _, none⟩) l5).trans e4⟩
set_option maxHeartbeats 8000000 in
set_option maxRecDepth 100000 in
theorem walk_Back_good (L O : Int) (A : Option Addr) (n c : Nat) (cs : List C5) (x : C5) (hn : n ≤ 60) (ds : List C5) (N : Nat) (hN : Hid (ds.length = N)) (hNn : N ≤ 61) (hR : Hid (addR L O cs x = ⟨L, O, ds, 0, 0⟩)) (hd : Hid (difR L O cs L O ds = ([], [x], 0))) (hr : Hid (remR L O ds x = ⟨L, O, cs, 0, 0⟩)) (hat : Hid (x ∈ atR L O ds x.s)) (hl : Hid (cs.length = n)) (hxs : Hid (inI9 x.s)) (hatl : Hid ((atR L O ds x.s).length ≤ 1000000)) (w : World) (ht : Hid (Tabs w)) (hcs : Hid (Cells w w.heap.size A n cs)) :
    Calls Tryz.prog 10 #[.agg #[.int .i64 L, .int .i64 O, .slice A n c], .agg #[.int .i64 x.s, .int .i64 x.o, .int .i64 x.f, .int .i64 x.t, .int .i64 x.w]] w fun e w' => e = .returned (.bool true) ∧ Below w.heap.size w w' := by
  have hb0 : Below w.heap.size w ((w.alloc (N30 L O (.slice A n c))).alloc (N51 x)) := ((Below.refl _ _).alloc (Nat.le_refl _) _).alloc (by simp) _
  have hT0 := Lib.hid (ht.out.later hb0)
  have hB0 := Lib.hid ((BoxS.new L O (.slice A n c) 30 w).below ((Below.refl _ _).alloc (Nat.le_refl _) (N51 x)) (by simp))
  have hX0' := Box5.new x 51 (w.alloc (N30 L O (.slice A n c)))
  rw [World.size_alloc] at hX0'
  have hX0 := Lib.hid hX0'
  clear hX0'
  have hC0 := Lib.hid ((hcs.out.below hb0).more hb0.size)
  have hs0 := Lib.hid (show w.heap.size + 1 < ((w.alloc (N30 L O (.slice A n c))).alloc (N51 x)).heap.size from by simp)
  clear hcs ht
  go_enter Tryz.func10, Tryz.ntmps10
  go_wp2_with fail
  refine (awake_any _ hT0).mono ?_
  rintro e w1 ⟨rfl, hb1⟩
  have hw0 := hb0
  have hB1 := Lib.hid (hB0.out.below hb1 (Nat.lt_of_succ_lt hs0.out))
  have hX1 := Lib.hid (hX0.out.below hb1 hs0.out)
  have hC1 := Lib.hid ((hC0.out.below hb1).more hb1.size)
  have hs1 := Lib.hid (Nat.lt_of_lt_of_le hs0.out hb1.size)
  have hw1 := bstep hw0 hb1 (Nat.le_refl _)
  clear hB0 hX0 hC0 hs0 hw0
  (try clear b0 b1 b2 x0 x1 x2 x3 x4)
  obtain ⟨b0, b1, b2⟩ := id hB1.out
  obtain ⟨x0, x1, x2, x3, x4⟩ := id hX1.out
  have h28 := Add_any L O A n c cs x (by omega) _ hC1.out
  rw [hR.out] at h28
  go_wp2_with fail
  refine h28.mono ?_
  clear h28
  rintro e w2 ⟨A2, c2, rfl, hD2', hle2, hb2⟩
  dsimp only at hD2' hle2 ⊢
  rw [hN.out] at hD2' hle2 ⊢
  have hD2 := Lib.hid hD2'
  clear hD2'
  have hB2 := Lib.hid (hB1.out.below hb2 (Nat.lt_of_succ_lt hs1.out))
  have hX2 := Lib.hid (hX1.out.below hb2 hs1.out)
  have hC2 := Lib.hid ((hC1.out.below hb2).more hb2.size)
  have hs2 := Lib.hid (Nat.lt_of_lt_of_le hs1.out hb2.size)
  have hw2 := bstep hw1 hb2 (Nat.le_refl _)
  clear hB1 hX1 hC1 hs1 hw1
  (try clear b0 b1 b2 x0 x1 x2 x3 x4)
  obtain ⟨b0, b1, b2⟩ := id hB2.out
  obtain ⟨x0, x1, x2, x3, x4⟩ := id hX2.out
  clear hb2
  have hzA := Nat.lt_of_succ_lt hs2.out
  have hzB := hs2.out
  have hb3 : Below w2.heap.size w2 (w2.alloc (N30 L O (.slice A2 N c2))) := (Below.refl _ _).alloc (Nat.le_refl _) _
  have hE3 := Lib.hid (BoxS.new L O (.slice A2 N c2) 30 w2)
  have hD3 := Lib.hid ((hD2.out.below hb3).more hb3.size)
  have hz3 := Lib.hid (show w2.heap.size < (w2.alloc (N30 L O (.slice A2 N c2))).heap.size from by simp)
  have hB3 := Lib.hid (hB2.out.below hb3 (Nat.lt_of_succ_lt hs2.out))
  have hX3 := Lib.hid (hX2.out.below hb3 hs2.out)
  have hC3 := Lib.hid ((hC2.out.below hb3).more hb3.size)
  have hs3 := Lib.hid (Nat.lt_of_lt_of_le hs2.out hb3.size)
  have hw3 := bstep hw2 hb3 (Nat.le_refl _)
  clear hB2 hX2 hC2 hs2 hw2
  have hdif := Dif_any L O L O A A2 n c N c2 cs ds (by omega) (by omega) [] [x] 0 hd.out _ hC3.out hD3.out
  go_wp2_with fail
  clear b0 b1 b2 x0 x1 x2 x3 x4
  revert hB3 hX3 hC3 hs3 hw3 hE3 hD3 hz3 hdif hb3
  generalize w2.alloc (N30 L O (.slice A2 N c2)) = w3
  intro hb3 hE3 hD3 hz3 hB3 hX3 hC3 hs3 hw3 hdif
  refine hdif.mono ?_
  clear hdif
  rintro e w4 ⟨A3, c3, A4, c4, rfl, hF4', hG4', hb4⟩
  have hG4 := Lib.hid hG4'
  clear hF4' hG4'
  have hE4 := Lib.hid (hE3.out.below hb4 hz3.out)
  have hD4 := Lib.hid ((hD3.out.below hb4).more hb4.size)
  have hz4 := Lib.hid (Nat.lt_of_lt_of_le hz3.out hb4.size)
  clear hE3 hD3 hz3
  have hB4 := Lib.hid (hB3.out.below hb4 (Nat.lt_of_succ_lt hs3.out))
  have hX4 := Lib.hid (hX3.out.below hb4 hs3.out)
  have hC4 := Lib.hid ((hC3.out.below hb4).more hb4.size)
  have hs4 := Lib.hid (Nat.lt_of_lt_of_le hs3.out hb4.size)
  have hw4 := bstep hw3 hb4 (Nat.le_refl _)
  clear hB3 hX3 hC3 hs3 hw3
  (try clear b0 b1 b2 x0 x1 x2 x3 x4)
  obtain ⟨b0, b1, b2⟩ := id hB4.out
  obtain ⟨x0, x1, x2, x3, x4⟩ := id hX4.out
  clear hb4 hb3
  obtain ⟨a0, a1, a2⟩ := id hE4.out
  have h27 := Rem_any L O A2 N c2 ds x (by omega) _ hD4.out
  rw [hr.out] at h27
  go_wp2_with fail
  refine h27.mono ?_
  clear h27
  rintro e w5 ⟨A5, c5, rfl, hH5', hle5, hb5⟩
  dsimp only at hH5' hle5 ⊢
  rw [hl.out] at hH5' hle5 ⊢
  have hH5 := Lib.hid hH5'
  clear hH5' a0 a1 a2
  have hE5 := Lib.hid (hE4.out.below hb5 hz4.out)
  have hD5 := Lib.hid ((hD4.out.below hb5).more hb5.size)
  have hG5 := Lib.hid ((hG4.out.below hb5).more hb5.size)
  have hz5 := Lib.hid (Nat.lt_of_lt_of_le hz4.out hb5.size)
  clear hE4 hD4 hz4 hG4
  have hB5 := Lib.hid (hB4.out.below hb5 (Nat.lt_of_succ_lt hs4.out))
  have hX5 := Lib.hid (hX4.out.below hb5 hs4.out)
  have hC5 := Lib.hid ((hC4.out.below hb5).more hb5.size)
  have hs5 := Lib.hid (Nat.lt_of_lt_of_le hs4.out hb5.size)
  have hw5 := bstep hw4 hb5 (Nat.le_refl _)
  clear hB4 hX4 hC4 hs4 hw4
  (try clear b0 b1 b2 x0 x1 x2 x3 x4)
  obtain ⟨b0, b1, b2⟩ := id hB5.out
  obtain ⟨x0, x1, x2, x3, x4⟩ := id hX5.out
  clear hb5
  have hb6 : Below w5.heap.size w5 (w5.alloc (N30 L O (.slice A5 n c5))) := (Below.refl _ _).alloc (Nat.le_refl _) _
  have hI6 := Lib.hid (BoxS.new L O (.slice A5 n c5) 30 w5)
  have hH6 := Lib.hid ((hH5.out.below hb6).more hb6.size)
  have hE6 := Lib.hid (hE5.out.below hb6 hz5.out)
  have hD6 := Lib.hid ((hD5.out.below hb6).more hb6.size)
  have hG6 := Lib.hid ((hG5.out.below hb6).more hb6.size)
  have hz6 := Lib.hid (Nat.lt_of_lt_of_le hz5.out hb6.size)
  have hy6 := Lib.hid (show w5.heap.size < (w5.alloc (N30 L O (.slice A5 n c5))).heap.size from by simp)
  clear hE5 hD5 hz5 hG5 hH5
  have hB6 := Lib.hid (hB5.out.below hb6 (Nat.lt_of_succ_lt hs5.out))
  have hX6 := Lib.hid (hX5.out.below hb6 hs5.out)
  have hC6 := Lib.hid ((hC5.out.below hb6).more hb6.size)
  have hs6 := Lib.hid (Nat.lt_of_lt_of_le hs5.out hb6.size)
  have hw6 := bstep hw5 hb6 (Nat.le_refl _)
  clear hB5 hX5 hC5 hs5 hw5
  go_upto_region 53 with fail
  (try clear b0 b1 b2 x0 x1 x2 x3 x4)
  revert hB6 hX6 hC6 hs6 hw6 hI6 hH6 hE6 hD6 hG6 hz6 hy6 hb6
  generalize w5.alloc (N30 L O (.slice A5 n c5)) = w6
  intro hb6 hI6 hH6 hE6 hD6 hG6 hz6 hy6 hB6 hX6 hC6 hs6 hw6
  generalize hd9 : w5.heap.size = d9 at *
  generalize ha9 : w2.heap.size = a9 at *
  obtain ⟨bm, om, z, rfl, hbm, ez, hz⟩ := hG6.out.at_ (Nat.zero_lt_one)
  obtain rfl : x = z := by simpa using ez
  rw [Nat.zero_mul, Nat.add_zero] at hz
  have hZ6 := Lib.hid hz
  clear hz ez hb6 hd9 ha9
  have heq := equal51 x x
  rw [(eqC_iff x x).2 rfl] at heq
  have hm51 := hm51
  have hcon : Hid (decide (x ∈ atR L O ds x.s) = true) := Lib.hid (by simpa using hat.out)
  refine wp_region_held_drew (S := (fun w' => w'.cell? ⟨w.heap.size, 0, none⟩ = some (.int .i64 L) ∧ w'.cell? ⟨w.heap.size, 1, none⟩ = some (.int .i64 O) ∧ w'.cell? ⟨w.heap.size, 2, none⟩ = some (.slice A n c) ∧ w'.cell? ⟨w.heap.size + 1, 0, none⟩ = some (.int .i64 x.s) ∧ w'.cell? ⟨w.heap.size + 1, 1, none⟩ = some (.int .i64 x.o) ∧ w'.cell? ⟨w.heap.size + 1, 2, none⟩ = some (.int .i64 x.f) ∧ w'.cell? ⟨w.heap.size + 1, 3, none⟩ = some (.int .i64 x.t) ∧ w'.cell? ⟨w.heap.size + 1, 4, none⟩ = some (.int .i64 x.w) ∧ w'.cell? ⟨a9, 0, none⟩ = some (.int .i64 L) ∧ w'.cell? ⟨a9, 1, none⟩ = some (.int .i64 O) ∧ w'.cell? ⟨a9, 2, none⟩ = some (.slice A2 N c2) ∧ w'.cell? ⟨d9, 0, none⟩ = some (.int .i64 L) ∧ w'.cell? ⟨d9, 1, none⟩ = some (.int .i64 O) ∧ w'.cell? ⟨d9, 2, none⟩ = some (.slice A5 n c5) ∧ w'.cell? ⟨bm, om, none⟩ = some (.int .i64 x.s) ∧ w'.cell? ⟨bm, om + 1, none⟩ = some (.int .i64 x.o) ∧ w'.cell? ⟨bm, om + 2, none⟩ = some (.int .i64 x.f) ∧ w'.cell? ⟨bm, om + 3, none⟩ = some (.int .i64 x.t) ∧ w'.cell? ⟨bm, om + 4, none⟩ = some (.int .i64 x.w))) (by kernel_rfl) ?_ (fun hHeld => ?_)
  · (refine keepBack hB6 hX6 hE6 hI6 hZ6 (Nat.lt_of_succ_lt hs6.out) hs6.out hz6.out hy6.out hbm ?_; (repeat first | assumption | exact Below.refl _ _ | refine Below.drew ?_ | refine ba ?_ _))
  refine wpAnyH_take (i := 0) (oi := ?o1) (v := ?hv1) ?hi1 (by kernel_rfl) (by kernel_rfl) (by kernel_rfl) ?hq1 ?hy1 (by assumption) ?hr1
  case hi1 => (simp only [List.getElem?_toArray, List.getElem?_cons_zero]; rfl)
  case hq1 => exact fun _ _ _ h => h
  case hy1 => exact Or.inl ⟨by rfl, by intro w hSw; (try dsimp only at hSw); go_simp; try with_reducible rfl⟩
  simp only [Act.put, List.setIfInBounds_toArray, List.set_cons_zero, List.set_cons_succ]
  refine wpAnyH_take (i := 1) (oi := ?o2) (v := ?hv2) ?hi2 (by kernel_rfl) (by kernel_rfl) (by kernel_rfl) ?hq2 ?hy2 (by assumption) ?hr2
  case hi2 => (simp only [List.getElem?_toArray, List.getElem?_cons_succ, List.getElem?_cons_zero]; rfl)
  case hq2 => exact fun _ _ _ h => h
  case hy2 => exact Or.inl ⟨by rfl, by intro w hSw; (try dsimp only at hSw); go_simp; try with_reducible rfl⟩
  simp only [Act.put, List.setIfInBounds_toArray, List.set_cons_zero, List.set_cons_succ]
  refine wpAnyH_take (i := 2) (oi := ?o3) (v := ?hv3) ?hi3 (by kernel_rfl) (by kernel_rfl) (by kernel_rfl) ?hq3 ?hy3 (by assumption) ?hr3
  case hi3 => (simp only [List.getElem?_toArray, List.getElem?_cons_succ, List.getElem?_cons_zero]; rfl)
  case hq3 => exact fun _ _ _ h => h
  case hy3 => exact Or.inl ⟨by rfl, by intro w hSw; (try dsimp only at hSw); go_simp; try with_reducible rfl⟩
  simp only [Act.put, List.setIfInBounds_toArray, List.set_cons_zero, List.set_cons_succ]
  refine wpAnyH_take (i := 3) (oi := ?o4) (v := ?hv4) ?hi4 (by kernel_rfl) (by kernel_rfl) (by kernel_rfl) ?hq4 ?hy4 (by assumption) ?hr4
  case hi4 => (simp only [List.getElem?_toArray, List.getElem?_cons_succ, List.getElem?_cons_zero]; rfl)
  case hq4 => exact fun _ _ _ h => h
  case hy4 => exact Or.inl ⟨by rfl, by intro w hSw; (try dsimp only at hSw); go_simp; try with_reducible rfl⟩
  simp only [Act.put, List.setIfInBounds_toArray, List.set_cons_zero, List.set_cons_succ]
  refine wpAnyH_take (i := 4) (oi := ?o5) (v := ?hv5) ?hi5 (by kernel_rfl) (by kernel_rfl) (by kernel_rfl) ?hq5 ?hy5 (by assumption) ?hr5
  case hi5 => (simp only [List.getElem?_toArray, List.getElem?_cons_succ, List.getElem?_cons_zero]; rfl)
  case hq5 => exact fun _ _ _ h => h
  case hy5 => exact Or.inl ⟨by rfl, by intro w hSw; (try dsimp only at hSw); go_simp; try with_reducible rfl⟩
  simp only [Act.put, List.setIfInBounds_toArray, List.set_cons_zero, List.set_cons_succ]
  refine wpAnyH_take (i := 5) (oi := ?o6) (v := ?hv6) ?hi6 (by kernel_rfl) (by kernel_rfl) (by kernel_rfl) ?hq6 ?hy6 (by assumption) ?hr6
  case hi6 => (simp only [List.getElem?_toArray, List.getElem?_cons_succ, List.getElem?_cons_zero]; rfl)
  case hq6 => exact fun _ _ _ h => h
  case hy6 => exact Or.inl ⟨by rfl, by intro w hSw; (try dsimp only at hSw); go_simp; try with_reducible rfl⟩
  simp only [Act.put, List.setIfInBounds_toArray, List.set_cons_zero, List.set_cons_succ]
  refine wpAnyH_take (i := 6) (oi := ?o7) (v := ?hv7) ?hi7 (by kernel_rfl) (by kernel_rfl) (by kernel_rfl) ?hq7 ?hy7 (by assumption) ?hr7
  case hi7 => (simp only [List.getElem?_toArray, List.getElem?_cons_succ, List.getElem?_cons_zero]; rfl)
  case hq7 => exact fun _ _ _ h => h
  case hy7 => exact Or.inl ⟨by rfl, by intro w hSw; (try dsimp only at hSw); go_simp; try with_reducible rfl⟩
  simp only [Act.put, List.setIfInBounds_toArray, List.set_cons_zero, List.set_cons_succ]
  refine wpAnyH_take (i := 7) (oi := ?o8) (v := ?hv8) ?hi8 (by kernel_rfl) (by kernel_rfl) (by kernel_rfl) ?hq8 ?hy8 (by assumption) ?hr8
  case hi8 => (simp only [List.getElem?_toArray, List.getElem?_cons_succ, List.getElem?_cons_zero]; rfl)
  case hq8 => exact fun _ _ _ h => h
  case hy8 => exact Or.inl ⟨by rfl, by intro w hSw; (try dsimp only at hSw); go_simp; try with_reducible rfl⟩
  simp only [Act.put, List.setIfInBounds_toArray, List.set_cons_zero, List.set_cons_succ]
  refine wpAnyH_take (i := 8) (oi := ?o9) (v := ?hv9) ?hi9 (by kernel_rfl) (by kernel_rfl) (by kernel_rfl) ?hq9 ?hy9 (by assumption) ?hr9
  case hi9 => (simp only [List.getElem?_toArray, List.getElem?_cons_succ, List.getElem?_cons_zero]; rfl)
  case hq9 => exact fun _ _ _ h => h
  case hy9 => exact Or.inl ⟨by rfl, by intro w hSw; (try dsimp only at hSw); go_simp; try with_reducible rfl⟩
  simp only [Act.put, List.setIfInBounds_toArray, List.set_cons_zero, List.set_cons_succ]
  refine wpAnyH_take (i := 9) (oi := ?o10) (v := ?hv10) ?hi10 (by kernel_rfl) (by kernel_rfl) (by kernel_rfl) ?hq10 ?hy10 (by assumption) ?hr10
  case hi10 => (simp only [List.getElem?_toArray, List.getElem?_cons_succ, List.getElem?_cons_zero]; rfl)
  case hq10 => exact fun _ _ _ h => h
  case hy10 => exact Or.inl ⟨by rfl, by intro w hSw; (try dsimp only at hSw); go_simp; try with_reducible rfl⟩
  simp only [Act.put, List.setIfInBounds_toArray, List.set_cons_zero, List.set_cons_succ]
  refine wpAnyH_take (i := 10) (oi := ?o11) (v := ?hv11) ?hi11 (by kernel_rfl) (by kernel_rfl) (by kernel_rfl) ?hq11 ?hy11 (by assumption) ?hr11
  case hi11 => (simp only [List.getElem?_toArray, List.getElem?_cons_succ, List.getElem?_cons_zero]; rfl)
  case hq11 => exact fun _ _ _ h => h
  case hy11 => exact Or.inl ⟨by rfl, by intro w hSw; (try dsimp only at hSw); go_simp; try with_reducible rfl⟩
  simp only [Act.put, List.setIfInBounds_toArray, List.set_cons_zero, List.set_cons_succ]
  refine wpAnyH_take (i := 11) (oi := ?o12) (v := ?hv12) ?hi12 (by kernel_rfl) (by kernel_rfl) (by kernel_rfl) ?hq12 ?hy12 (by assumption) ?hr12
  case hi12 => (simp only [List.getElem?_toArray, List.getElem?_cons_succ, List.getElem?_cons_zero]; rfl)
  case hq12 => exact fun _ _ _ h => h
  case hy12 => exact Or.inl ⟨by rfl, by intro w hSw; (try dsimp only at hSw); go_simp; try with_reducible rfl⟩
  simp only [Act.put, List.setIfInBounds_toArray, List.set_cons_zero, List.set_cons_succ]
  refine wpAnyH_take (i := 12) (oi := ?o13) (v := ?hv13) ?hi13 (by kernel_rfl) (by kernel_rfl) (by kernel_rfl) ?hq13 ?hy13 (by assumption) ?hr13
  case hi13 => (simp only [List.getElem?_toArray, List.getElem?_cons_succ, List.getElem?_cons_zero]; rfl)
  case hq13 => exact fun _ _ _ h => h
  case hy13 => exact Or.inl ⟨by rfl, by intro w hSw; (try dsimp only at hSw); go_simp; try with_reducible rfl⟩
  simp only [Act.put, List.setIfInBounds_toArray, List.set_cons_zero, List.set_cons_succ]
  refine wpAnyH_take (i := 13) (oi := ?o14) (v := ?hv14) ?hi14 (by kernel_rfl) (by kernel_rfl) (by kernel_rfl) ?hq14 ?hy14 (by assumption) ?hr14
  case hi14 => (simp only [List.getElem?_toArray, List.getElem?_cons_succ, List.getElem?_cons_zero]; rfl)
  case hq14 => exact fun _ _ _ h => h
  case hy14 => exact Or.inl ⟨by rfl, by intro w hSw; (try dsimp only at hSw); go_simp; try with_reducible rfl⟩
  simp only [Act.put, List.setIfInBounds_toArray, List.set_cons_zero, List.set_cons_succ]
  refine wpAnyH_take (i := 14) (oi := ?o15) (v := .pointer (some ⟨bm, om, none⟩)) ?hi15 (by kernel_rfl) (by kernel_rfl) (by kernel_rfl) ?hq15 ?hy15 (by assumption) ?hr15
  case hi15 => (simp only [List.getElem?_toArray, List.getElem?_cons_succ, List.getElem?_cons_zero]; rfl)
  case hq15 => exact fun _ _ _ h => h
  case hy15 => exact Or.inl ⟨by rfl, by intro w hSw; (try dsimp only at hSw); go_simp; skip; try with_reducible rfl⟩
  simp only [Act.put, List.setIfInBounds_toArray, List.set_cons_zero, List.set_cons_succ]
  refine wpAnyH_take (i := 15) (oi := ?o16) (v := ?hv16) ?hi16 (by kernel_rfl) (by kernel_rfl) (by kernel_rfl) ?hq16 ?hy16 (by assumption) ?hr16
  case hi16 => (simp only [List.getElem?_toArray, List.getElem?_cons_succ, List.getElem?_cons_zero]; rfl)
  case hq16 => exact fun _ _ _ h => h
  case hy16 => exact Or.inl ⟨by rfl, by intro w hSw; (try dsimp only at hSw); go_simp; try with_reducible rfl⟩
  simp only [Act.put, List.setIfInBounds_toArray, List.set_cons_zero, List.set_cons_succ]
  refine wpAnyH_take (i := 16) (oi := ?o17) (v := ?hv17) ?hi17 (by kernel_rfl) (by kernel_rfl) (by kernel_rfl) ?hq17 ?hy17 (by assumption) ?hr17
  case hi17 => (simp only [List.getElem?_toArray, List.getElem?_cons_succ, List.getElem?_cons_zero]; rfl)
  case hq17 => exact fun _ _ _ h => h
  case hy17 => exact Or.inl ⟨by rfl, by intro w hSw; (try dsimp only at hSw); go_simp; try with_reducible rfl⟩
  simp only [Act.put, List.setIfInBounds_toArray, List.set_cons_zero, List.set_cons_succ]
  refine wpAnyH_take (i := 17) (oi := ?o18) (v := ?hv18) ?hi18 (by kernel_rfl) (by kernel_rfl) (by kernel_rfl) ?hq18 ?hy18 (by assumption) ?hr18
  case hi18 => (simp only [List.getElem?_toArray, List.getElem?_cons_succ, List.getElem?_cons_zero]; rfl)
  case hq18 => exact fun _ _ _ h => h
  case hy18 => exact Or.inl ⟨by rfl, by intro w hSw; (try dsimp only at hSw); go_simp; try with_reducible rfl⟩
  simp only [Act.put, List.setIfInBounds_toArray, List.set_cons_zero, List.set_cons_succ]
  refine wpAnyH_take (i := 18) (oi := ?o19) (v := ?hv19) ?hi19 (by kernel_rfl) (by kernel_rfl) (by kernel_rfl) ?hq19 ?hy19 (by assumption) ?hr19
  case hi19 => (simp only [List.getElem?_toArray, List.getElem?_cons_succ, List.getElem?_cons_zero]; rfl)
  case hq19 => exact fun _ _ _ h => h
  case hy19 => exact Or.inl ⟨by rfl, by intro w hSw; (try dsimp only at hSw); go_simp; try with_reducible rfl⟩
  simp only [Act.put, List.setIfInBounds_toArray, List.set_cons_zero, List.set_cons_succ]
  refine wpAnyH_take (i := 19) (oi := ?o20) (v := ?hv20) ?hi20 (by kernel_rfl) (by kernel_rfl) (by kernel_rfl) ?hq20 ?hy20 (by assumption) ?hr20
  case hi20 => (simp only [List.getElem?_toArray, List.getElem?_cons_succ, List.getElem?_cons_zero]; rfl)
  case hq20 => exact fun _ _ _ h => h
  case hy20 => exact Or.inl ⟨by rfl, by intro w hSw; (try dsimp only at hSw); go_simp; try with_reducible rfl⟩
  simp only [Act.put, List.setIfInBounds_toArray, List.set_cons_zero, List.set_cons_succ]
  refine wpAnyH_take (i := 20) (oi := ?o21) (v := ?hv21) ?hi21 (by kernel_rfl) (by kernel_rfl) (by kernel_rfl) ?hq21 ?hy21 (by assumption) ?hr21
  case hi21 => (simp only [List.getElem?_toArray, List.getElem?_cons_succ, List.getElem?_cons_zero]; rfl)
  case hq21 => exact fun _ _ _ h => h
  case hy21 => exact Or.inl ⟨by rfl, by intro w hSw; (try dsimp only at hSw); go_simp; try with_reducible rfl⟩
  simp only [Act.put, List.setIfInBounds_toArray, List.set_cons_zero, List.set_cons_succ]
  refine wpAnyH_take (i := 21) (oi := ?o22) (v := ?hv22) ?hi22 (by kernel_rfl) (by kernel_rfl) (by kernel_rfl) ?hq22 ?hy22 (by assumption) ?hr22
  case hi22 => (simp only [List.getElem?_toArray, List.getElem?_cons_succ, List.getElem?_cons_zero]; rfl)
  case hq22 => exact fun _ _ _ h => h
  case hy22 => exact Or.inl ⟨by rfl, by intro w hSw; (try dsimp only at hSw); go_simp; try with_reducible rfl⟩
  simp only [Act.put, List.setIfInBounds_toArray, List.set_cons_zero, List.set_cons_succ]
  refine wpAnyH_take (i := 22) (oi := ?o23) (v := ?hv23) ?hi23 (by kernel_rfl) (by kernel_rfl) (by kernel_rfl) ?hq23 ?hy23 (by assumption) ?hr23
  case hi23 => (simp only [List.getElem?_toArray, List.getElem?_cons_succ, List.getElem?_cons_zero]; rfl)
  case hq23 => exact fun _ _ _ h => h
  case hy23 => exact Or.inl ⟨by rfl, by intro w hSw; (try dsimp only at hSw); go_simp; try with_reducible rfl⟩
  simp only [Act.put, List.setIfInBounds_toArray, List.set_cons_zero, List.set_cons_succ]
  refine wpAnyH_take (i := 23) (oi := ?o24) (v := ?hv24) ?hi24 (by kernel_rfl) (by kernel_rfl) (by kernel_rfl) ?hq24 ?hy24 (by assumption) ?hr24
  case hi24 => (simp only [List.getElem?_toArray, List.getElem?_cons_succ, List.getElem?_cons_zero]; rfl)
  case hq24 => exact fun _ _ _ h => h
  case hy24 => exact Or.inl ⟨by rfl, by intro w hSw; (try dsimp only at hSw); go_simp; try with_reducible rfl⟩
  simp only [Act.put, List.setIfInBounds_toArray, List.set_cons_zero, List.set_cons_succ]
  refine wpAnyH_take (i := 24) (oi := ?o25) (v := ?hv25) ?hi25 (by kernel_rfl) (by kernel_rfl) (by kernel_rfl) ?hq25 ?hy25 (by assumption) ?hr25
  case hi25 => (simp only [List.getElem?_toArray, List.getElem?_cons_succ, List.getElem?_cons_zero]; rfl)
  case hq25 => exact fun _ _ _ h => h
  case hy25 => exact Or.inl ⟨by rfl, by intro w hSw; (try dsimp only at hSw); go_simp; try with_reducible rfl⟩
  simp only [Act.put, List.setIfInBounds_toArray, List.set_cons_zero, List.set_cons_succ]
  refine wpAnyH_take (i := 25) (oi := ?o26) (v := ?hv26) ?hi26 (by kernel_rfl) (by kernel_rfl) (by kernel_rfl) ?hq26 ?hy26 (by assumption) ?hr26
  case hi26 => (simp only [List.getElem?_toArray, List.getElem?_cons_succ, List.getElem?_cons_zero]; rfl)
  case hq26 => exact fun _ _ _ h => h
  case hy26 => exact Or.inl ⟨by rfl, by intro w hSw; (try dsimp only at hSw); go_simp; try with_reducible rfl⟩
  simp only [Act.put, List.setIfInBounds_toArray, List.set_cons_zero, List.set_cons_succ]
  refine wpAnyH_take (i := 26) (oi := ?o27) (v := ?hv27) ?hi27 (by kernel_rfl) (by kernel_rfl) (by kernel_rfl) ?hq27 ?hy27 (by assumption) ?hr27
  case hi27 => (simp only [List.getElem?_toArray, List.getElem?_cons_succ, List.getElem?_cons_zero]; rfl)
  case hq27 => exact fun _ _ _ h => h
  case hy27 => exact Or.inl ⟨by rfl, by intro w hSw; (try dsimp only at hSw); go_simp; try with_reducible rfl⟩
  simp only [Act.put, List.setIfInBounds_toArray, List.set_cons_zero, List.set_cons_succ]
  refine wpAnyH_take (i := 27) (oi := ?o28) (v := ?hv28) ?hi28 (by kernel_rfl) (by kernel_rfl) (by kernel_rfl) ?hq28 ?hy28 (by assumption) ?hr28
  case hi28 => (simp only [List.getElem?_toArray, List.getElem?_cons_succ, List.getElem?_cons_zero]; rfl)
  case hq28 => exact fun _ _ _ h => h
  case hy28 => exact Or.inl ⟨by rfl, by intro w hSw; (try dsimp only at hSw); go_simp; try with_reducible rfl⟩
  simp only [Act.put, List.setIfInBounds_toArray, List.set_cons_zero, List.set_cons_succ]
  refine wpAnyH_take (i := 28) (oi := ?o29) (v := ?hv29) ?hi29 (by kernel_rfl) (by kernel_rfl) (by kernel_rfl) ?hq29 ?hy29 (by assumption) ?hr29
  case hi29 => (simp only [List.getElem?_toArray, List.getElem?_cons_succ, List.getElem?_cons_zero]; rfl)
  case hq29 => exact fun _ _ _ h => h
  case hy29 => exact Or.inl ⟨by rfl, by intro w hSw; (try dsimp only at hSw); go_simp; try with_reducible rfl⟩
  simp only [Act.put, List.setIfInBounds_toArray, List.set_cons_zero, List.set_cons_succ]
  refine wpAnyH_take (i := 29) (oi := ?o30) (v := ?hv30) ?hi30 (by kernel_rfl) (by kernel_rfl) (by kernel_rfl) ?hq30 ?hy30 (by assumption) ?hr30
  case hi30 => (simp only [List.getElem?_toArray, List.getElem?_cons_succ, List.getElem?_cons_zero]; rfl)
  case hq30 => exact fun _ _ _ h => h
  case hy30 => exact Or.inl ⟨by rfl, by intro w hSw; (try dsimp only at hSw); go_simp; try with_reducible rfl⟩
  simp only [Act.put, List.setIfInBounds_toArray, List.set_cons_zero, List.set_cons_succ]
  refine wpAnyH_take (i := 30) (oi := ?o31) (v := ?hv31) ?hi31 (by kernel_rfl) (by kernel_rfl) (by kernel_rfl) ?hq31 ?hy31 (by assumption) ?hr31
  case hi31 => (simp only [List.getElem?_toArray, List.getElem?_cons_succ, List.getElem?_cons_zero]; rfl)
  case hq31 => exact fun _ _ _ h => h
  case hy31 => exact Or.inl ⟨by rfl, by intro w hSw; (try dsimp only at hSw); go_simp; try with_reducible rfl⟩
  simp only [Act.put, List.setIfInBounds_toArray, List.set_cons_zero, List.set_cons_succ]
  refine wpAnyH_take (i := 31) (oi := ?o32) (v := ?hv32) ?hi32 (by kernel_rfl) (by kernel_rfl) (by kernel_rfl) ?hq32 ?hy32 (by assumption) ?hr32
  case hi32 => (simp only [List.getElem?_toArray, List.getElem?_cons_succ, List.getElem?_cons_zero]; rfl)
  case hq32 => exact fun _ _ _ h => h
  case hy32 => exact Or.inl ⟨by rfl, by intro w hSw; (try dsimp only at hSw); go_simp; try with_reducible rfl⟩
  simp only [Act.put, List.setIfInBounds_toArray, List.set_cons_zero, List.set_cons_succ]
  refine wpAnyH_take (i := 32) (oi := ?o33) (v := ?hv33) ?hi33 (by kernel_rfl) (by kernel_rfl) (by kernel_rfl) ?hq33 ?hy33 (by assumption) ?hr33
  case hi33 => (simp only [List.getElem?_toArray, List.getElem?_cons_succ, List.getElem?_cons_zero]; rfl)
  case hq33 => exact fun _ _ _ h => h
  case hy33 => exact Or.inl ⟨by rfl, by intro w hSw; (try dsimp only at hSw); go_simp; try with_reducible rfl⟩
  simp only [Act.put, List.setIfInBounds_toArray, List.set_cons_zero, List.set_cons_succ]
  refine wpAnyH_take (i := 33) (oi := ?o34) (v := ?hv34) ?hi34 (by kernel_rfl) (by kernel_rfl) (by kernel_rfl) ?hq34 ?hy34 (by assumption) ?hr34
  case hi34 => (simp only [List.getElem?_toArray, List.getElem?_cons_succ, List.getElem?_cons_zero]; rfl)
  case hq34 => exact fun _ _ _ h => h
  case hy34 => exact Or.inl ⟨by rfl, by intro w hSw; (try dsimp only at hSw); go_simp; try with_reducible rfl⟩
  simp only [Act.put, List.setIfInBounds_toArray, List.set_cons_zero, List.set_cons_succ]
  refine wpAnyH_take (i := 34) (oi := ?o35) (v := ?hv35) ?hi35 (by kernel_rfl) (by kernel_rfl) (by kernel_rfl) ?hq35 ?hy35 (by assumption) ?hr35
  case hi35 => (simp only [List.getElem?_toArray, List.getElem?_cons_succ, List.getElem?_cons_zero]; rfl)
  case hq35 => exact fun _ _ _ h => h
  case hy35 => exact Or.inl ⟨by rfl, by intro w hSw; (try dsimp only at hSw); go_simp; try with_reducible rfl⟩
  simp only [Act.put, List.setIfInBounds_toArray, List.set_cons_zero, List.set_cons_succ]
  refine wpAnyH_take (i := 35) (oi := ?o36) (v := ?hv36) ?hi36 (by kernel_rfl) (by kernel_rfl) (by kernel_rfl) ?hq36 ?hy36 (by assumption) ?hr36
  case hi36 => (simp only [List.getElem?_toArray, List.getElem?_cons_succ, List.getElem?_cons_zero]; rfl)
  case hq36 => exact fun _ _ _ h => h
  case hy36 => exact Or.inl ⟨by rfl, by intro w hSw; (try dsimp only at hSw); go_simp; try with_reducible rfl⟩
  simp only [Act.put, List.setIfInBounds_toArray, List.set_cons_zero, List.set_cons_succ]
  refine wpAnyH_take (i := 36) (oi := ?o37) (v := ?hv37) ?hi37 (by kernel_rfl) (by kernel_rfl) (by kernel_rfl) ?hq37 ?hy37 (by assumption) ?hr37
  case hi37 => (simp only [List.getElem?_toArray, List.getElem?_cons_succ, List.getElem?_cons_zero]; rfl)
  case hq37 => exact fun _ _ _ h => h
  case hy37 => exact Or.inl ⟨by rfl, by intro w hSw; (try dsimp only at hSw); go_simp; try with_reducible rfl⟩
  simp only [Act.put, List.setIfInBounds_toArray, List.set_cons_zero, List.set_cons_succ]
  refine wpAnyH_take (i := 37) (oi := ?o38) (v := ?hv38) ?hi38 (by kernel_rfl) (by kernel_rfl) (by kernel_rfl) ?hq38 ?hy38 (by assumption) ?hr38
  case hi38 => (simp only [List.getElem?_toArray, List.getElem?_cons_succ, List.getElem?_cons_zero]; rfl)
  case hq38 => exact fun _ _ _ h => h
  case hy38 => exact Or.inl ⟨by rfl, by intro w hSw; (try dsimp only at hSw); go_simp; try with_reducible rfl⟩
  simp only [Act.put, List.setIfInBounds_toArray, List.set_cons_zero, List.set_cons_succ]
  refine wpAnyH_take (i := 38) (oi := ?o39) (v := ?hv39) ?hi39 (by kernel_rfl) (by kernel_rfl) (by kernel_rfl) ?hq39 ?hy39 (by assumption) ?hr39
  case hi39 => (simp only [List.getElem?_toArray, List.getElem?_cons_succ, List.getElem?_cons_zero]; rfl)
  case hq39 => exact fun _ _ _ h => h
  case hy39 => exact Or.inl ⟨by rfl, by intro w hSw; (try dsimp only at hSw); go_simp; try with_reducible rfl⟩
  simp only [Act.put, List.setIfInBounds_toArray, List.set_cons_zero, List.set_cons_succ]
  refine wpAnyH_take (i := 39) (oi := ?o40) (v := ?hv40) ?hi40 (by kernel_rfl) (by kernel_rfl) (by kernel_rfl) ?hq40 ?hy40 (by assumption) ?hr40
  case hi40 => (simp only [List.getElem?_toArray, List.getElem?_cons_succ, List.getElem?_cons_zero]; rfl)
  case hq40 => exact fun _ _ _ h => h
  case hy40 => exact Or.inl ⟨by rfl, by intro w hSw; (try dsimp only at hSw); go_simp; try with_reducible rfl⟩
  simp only [Act.put, List.setIfInBounds_toArray, List.set_cons_zero, List.set_cons_succ]
  refine wpAnyH_take (i := 40) (oi := ?o41) (v := ?hv41) ?hi41 (by kernel_rfl) (by kernel_rfl) (by kernel_rfl) ?hq41 ?hy41 (by assumption) ?hr41
  case hi41 => (simp only [List.getElem?_toArray, List.getElem?_cons_succ, List.getElem?_cons_zero]; rfl)
  case hq41 => exact fun _ _ _ h => h
  case hy41 => exact Or.inl ⟨by rfl, by intro w hSw; (try dsimp only at hSw); go_simp; try with_reducible rfl⟩
  simp only [Act.put, List.setIfInBounds_toArray, List.set_cons_zero, List.set_cons_succ]
  refine wpAnyH_take (i := 41) (oi := ?o42) (v := ?hv42) ?hi42 (by kernel_rfl) (by kernel_rfl) (by kernel_rfl) ?hq42 ?hy42 (by assumption) ?hr42
  case hi42 => (simp only [List.getElem?_toArray, List.getElem?_cons_succ, List.getElem?_cons_zero]; rfl)
  case hq42 => exact fun _ _ _ h => h
  case hy42 => exact Or.inl ⟨by rfl, by intro w hSw; (try dsimp only at hSw); go_simp; try with_reducible rfl⟩
  simp only [Act.put, List.setIfInBounds_toArray, List.set_cons_zero, List.set_cons_succ]
  refine wpAnyH_ready (rs := [42]) (by kernel_rfl) (by simp) ?_
  refine AllReadyH.cons (o := ?o43) ?hi43 (fun K hK => ?hr43) AllReadyH.nil
  case hi43 => (simp only [List.getElem?_toArray, List.getElem?_cons_succ, List.getElem?_cons_zero]; rfl)
  go_simp
  refine (Equal_same A5 A n c5 c cs (by omega) _ _ _ (Lib.hid (hH6.out.below (Below.refl w6.heap.size w6).drew)) (Lib.hid (hC6.out.below (Below.refl w6.heap.size w6).drew))).mono ?_
  rintro e w7 ⟨rfl, m7, hm7⟩
  have hq7 : Below w6.heap.size w6 w7 := by subst hm7; exact below_drewN (Below.refl w6.heap.size w6).drew m7
  clear hm7
  go_wp2_with fail
  refine hK.out _ _ ?_ (fun hHeld => ?_)
  · (refine keepBack hB6 hX6 hE6 hI6 hZ6 (Nat.lt_of_succ_lt hs6.out) hs6.out hz6.out hy6.out hbm ?_; (repeat first | assumption | exact Below.refl _ _ | refine Below.drew ?_ | refine ba ?_ _))
  clear hK K
  try simp only [Act.put, List.setIfInBounds_toArray, List.set_cons_zero, List.set_cons_succ]
  refine wpAnyH_take (i := 43) (oi := ?o44) (v := ?hv44) ?hi44 (by kernel_rfl) (by kernel_rfl) (by kernel_rfl) ?hq44 ?hy44 (by assumption) ?hr44
  case hi44 => (simp only [List.getElem?_toArray, List.getElem?_cons_succ, List.getElem?_cons_zero]; rfl)
  case hq44 => exact fun _ _ _ h => h
  case hy44 => exact Or.inl ⟨by rfl, by intro w hSw; (try dsimp only at hSw); go_simp; try with_reducible rfl⟩
  simp only [Act.put, List.setIfInBounds_toArray, List.set_cons_zero, List.set_cons_succ]
  refine wpAnyH_take (i := 44) (oi := ?o45) (v := ?hv45) ?hi45 (by kernel_rfl) (by kernel_rfl) (by kernel_rfl) ?hq45 ?hy45 (by assumption) ?hr45
  case hi45 => (simp only [List.getElem?_toArray, List.getElem?_cons_succ, List.getElem?_cons_zero]; rfl)
  case hq45 => exact fun _ _ _ h => h
  case hy45 => exact Or.inl ⟨by rfl, by intro w hSw; (try dsimp only at hSw); go_simp; try with_reducible rfl⟩
  simp only [Act.put, List.setIfInBounds_toArray, List.set_cons_zero, List.set_cons_succ]
  refine wpAnyH_take (i := 45) (oi := ?o46) (v := ?hv46) ?hi46 (by kernel_rfl) (by kernel_rfl) (by kernel_rfl) ?hq46 ?hy46 (by assumption) ?hr46
  case hi46 => (simp only [List.getElem?_toArray, List.getElem?_cons_succ, List.getElem?_cons_zero]; rfl)
  case hq46 => exact fun _ _ _ h => h
  case hy46 => exact Or.inl ⟨by rfl, by intro w hSw; (try dsimp only at hSw); go_simp; try with_reducible rfl⟩
  simp only [Act.put, List.setIfInBounds_toArray, List.set_cons_zero, List.set_cons_succ]
  refine wpAnyH_take (i := 46) (oi := ?o47) (v := ?hv47) ?hi47 (by kernel_rfl) (by kernel_rfl) (by kernel_rfl) ?hq47 ?hy47 (by assumption) ?hr47
  case hi47 => (simp only [List.getElem?_toArray, List.getElem?_cons_succ, List.getElem?_cons_zero]; rfl)
  case hq47 => exact fun _ _ _ h => h
  case hy47 => exact Or.inl ⟨by rfl, by intro w hSw; (try dsimp only at hSw); go_simp; try with_reducible rfl⟩
  simp only [Act.put, List.setIfInBounds_toArray, List.set_cons_zero, List.set_cons_succ]
  refine wpAnyH_take (i := 47) (oi := ?o48) (v := ?hv48) ?hi48 (by kernel_rfl) (by kernel_rfl) (by kernel_rfl) ?hq48 ?hy48 (by assumption) ?hr48
  case hi48 => (simp only [List.getElem?_toArray, List.getElem?_cons_succ, List.getElem?_cons_zero]; rfl)
  case hq48 => exact fun _ _ _ h => h
  case hy48 => exact Or.inl ⟨by rfl, by intro w hSw; (try dsimp only at hSw); go_simp; try with_reducible rfl⟩
  simp only [Act.put, List.setIfInBounds_toArray, List.set_cons_zero, List.set_cons_succ]
  refine wpAnyH_take (i := 49) (oi := ?o49) (v := ?hv49) ?hi49 (by kernel_rfl) (by kernel_rfl) (by kernel_rfl) ?hq49 ?hy49 (by assumption) ?hr49
  case hi49 => (simp only [List.getElem?_toArray, List.getElem?_cons_succ, List.getElem?_cons_zero]; rfl)
  case hq49 => exact fun _ _ _ h => h
  case hy49 => exact Or.inl ⟨by rfl, by intro w hSw; (try dsimp only at hSw); go_simp; try with_reducible rfl⟩
  simp only [Act.put, List.setIfInBounds_toArray, List.set_cons_zero, List.set_cons_succ]
  refine wpAnyH_ready (rs := [48]) (by kernel_rfl) (by simp) ?_
  refine AllReadyH.cons (o := ?o50) ?hi50 (fun K hK => ?hr50) AllReadyH.nil
  case hi50 => (simp only [List.getElem?_toArray, List.getElem?_cons_succ, List.getElem?_cons_zero]; rfl)
  go_simp
  refine (At_any L O x.s A2 N c2 ds (by omega) hxs.out.2 _ ((hD6.out.below hq7).more hq7.size)).mono ?_
  rintro e w8 ⟨A8, c8, rfl, hC8, _, hb8⟩
  have hq8 : Below w6.heap.size w6 w8 := bstep hq7 hb8 (Nat.le_refl _)
  go_wp2_with fail
  refine hK.out _ _ ?_ (fun hHeld => ?_)
  · (refine keepBack hB6 hX6 hE6 hI6 hZ6 (Nat.lt_of_succ_lt hs6.out) hs6.out hz6.out hy6.out hbm ?_; (repeat first | assumption | exact Below.refl _ _ | refine Below.drew ?_ | refine ba ?_ _))
  clear hK K
  try simp only [Act.put, List.setIfInBounds_toArray, List.set_cons_zero, List.set_cons_succ]
  refine wpAnyH_ready (rs := [50]) (by kernel_rfl) (by simp) ?_
  refine AllReadyH.cons (o := ?o51) ?hi51 (fun K hK => ?hr51) AllReadyH.nil
  case hi51 => (simp only [List.getElem?_toArray, List.getElem?_cons_succ, List.getElem?_cons_zero]; rfl)
  go_simp
  refine (contains_any x A8 _ c8 (atR L O ds x.s) hatl.out true hcon _ hC8).mono ?_
  rintro e w9 ⟨rfl, hb9⟩
  have hq9 : Below w6.heap.size w6 w9 := bstep hq8 hb9 (Nat.le_refl _)
  go_wp2_with fail
  refine hK.out _ _ ?_ (fun hHeld => ?_)
  · (refine keepBack hB6 hX6 hE6 hI6 hZ6 (Nat.lt_of_succ_lt hs6.out) hs6.out hz6.out hy6.out hbm ?_; (repeat first | assumption | exact Below.refl _ _ | refine Below.drew ?_ | refine ba ?_ _))
  clear hK K
  try simp only [Act.put, List.setIfInBounds_toArray, List.set_cons_zero, List.set_cons_succ]
  refine wpAnyH_take (i := 51) (oi := ?o52) (v := ?hv52) ?hi52 (by kernel_rfl) (by kernel_rfl) (by kernel_rfl) ?hq52 ?hy52 (by assumption) ?hr52
  case hi52 => (simp only [List.getElem?_toArray, List.getElem?_cons_succ, List.getElem?_cons_zero]; rfl)
  case hq52 => exact fun _ _ _ h => h
  case hy52 => exact Or.inl ⟨by rfl, by intro w hSw; (try dsimp only at hSw); go_simp; try with_reducible rfl⟩
  simp only [Act.put, List.setIfInBounds_toArray, List.set_cons_zero, List.set_cons_succ]
  refine wpAnyH_take (i := 52) (oi := ?o53) (v := ?hv53) ?hi53 (by kernel_rfl) (by kernel_rfl) (by kernel_rfl) ?hq53 ?hy53 (by assumption) ?hr53
  case hi53 => (simp only [List.getElem?_toArray, List.getElem?_cons_succ, List.getElem?_cons_zero]; rfl)
  case hq53 => exact fun _ _ _ h => h
  case hy53 => exact Or.inl ⟨by rfl, by intro w hSw; (try dsimp only at hSw); go_simp; try with_reducible rfl⟩
  simp only [Act.put, List.setIfInBounds_toArray, List.set_cons_zero, List.set_cons_succ]
  refine wpAnyH_done (by kernel_rfl) ?_ _
  go_wp2_with fail
  go_ret
  exact ⟨rfl, bstep hw6 hq9 (Nat.le_refl _)⟩
end Go.Proofs.YtnddjcadkbjjhaaGreatDoor
