/-
  The law ScheduleEdits, walked: it returns true for every two schedules, slot and cell.
-/
import Derived.Test.YtnddjcadkbjjhaaGreatDoorK
import Derived.Test.YtnddjcadkbjjhaaGreatDoorRf
import Derived.Test.YtnddjcadkbjjhaaGreatDoorWBackJ
namespace Go.Proofs.YtnddjcadkbjjhaaGreatDoor
open Go.RowKit

abbrev E0 (w : World) (L O : Int) (V : Value) (L' O' : Int) (V' : Value) (x : C5) : World := ((w.alloc (N30 L O V)).alloc (N30 L' O' V')).alloc (N51 x)
theorem E0_all (w : World) (L O : Int) (V : Value) (L' O' : Int) (V' : Value) (x : C5) : Below w.heap.size w (E0 w L O V L' O' V' x) ∧ BoxS (E0 w L O V L' O' V' x) w.heap.size L O V ∧ BoxS (E0 w L O V L' O' V' x) (w.heap.size + 1) L' O' V' ∧ Box5 (E0 w L O V L' O' V' x) (w.heap.size + 1 + 1) x ∧ w.heap.size + 1 + 1 < (E0 w L O V L' O' V' x).heap.size := by
  have h := D0_below w L O V L' O' V'
  have hA := D0_a w L O V L' O' V'
  have hB := D0_b w L O V L' O' V'
  have hs : (D0 w L O V L' O' V').heap.size = w.heap.size + 1 + 1 := by simp
  have hX := Box5.new x 51 (D0 w L O V L' O' V')
  rw [hs] at hX
  have hal : Below (D0 w L O V L' O' V').heap.size (D0 w L O V L' O' V') (E0 w L O V L' O' V' x) := (Below.refl _ _).alloc (Nat.le_refl _) _
  exact ⟨bstep h hal (Nat.le_refl _), hA.below hal (by omega), hB.below hal (by omega), hX, by simp⟩
theorem Add_R (L O : Int) (A : Option Addr) (n c : Nat) (cs : List C5) (x : C5) (R : PRes) (hR : addR L O cs x = R) (hn : n ≤ 1000000) (w : World) (hcs : Cells w w.heap.size A n cs) :
    Calls Tryz.prog 28 #[.agg #[.int .i64 L, .int .i64 O, .slice A n c], .agg #[.int .i64 x.s, .int .i64 x.o, .int .i64 x.f, .int .i64 x.t, .int .i64 x.w]] w (SchedEnd w R) := by
  subst hR; exact Add_any L O A n c cs x hn w hcs
theorem rAdd_R (L O : Int) (A : Option Addr) (n c : Nat) (cs : List C5) (x : C5) (R : PRes) (hR : addR L O cs x = R) (hn : n ≤ 1000000) (w : World) (hcs : Cells w w.heap.size A n cs) :
    Calls Tryz.prog 29 #[.agg #[.int .i64 L, .int .i64 O, .slice A n c], .agg #[.int .i64 x.s, .int .i64 x.o, .int .i64 x.f, .int .i64 x.t, .int .i64 x.w]] w (SchedEnd w R) := by
  subst hR; exact rAdd_any L O A n c cs x hn w hcs
theorem Rem_R (L O : Int) (A : Option Addr) (n c : Nat) (cs : List C5) (x : C5) (R : PRes) (hR : remR L O cs x = R) (hn : n ≤ 1000000) (w : World) (hcs : Cells w w.heap.size A n cs) :
    Calls Tryz.prog 27 #[.agg #[.int .i64 L, .int .i64 O, .slice A n c], .agg #[.int .i64 x.s, .int .i64 x.o, .int .i64 x.f, .int .i64 x.t, .int .i64 x.w]] w (SchedEnd w R) := by
  subst hR; exact Rem_any L O A n c cs x hn w hcs
theorem rRem_R (L O : Int) (A : Option Addr) (n c : Nat) (cs : List C5) (x : C5) (R : PRes) (hR : remR L O cs x = R) (hn : n ≤ 1000000) (w : World) (hcs : Cells w w.heap.size A n cs) :
    Calls Tryz.prog 30 #[.agg #[.int .i64 L, .int .i64 O, .slice A n c], .agg #[.int .i64 x.s, .int .i64 x.o, .int .i64 x.f, .int .i64 x.t, .int .i64 x.w]] w (SchedEnd w R) := by
  subst hR; exact rRem_any L O A n c cs x hn w hcs
theorem At_R (L O slot : Int) (A : Option Addr) (n c : Nat) (cs T : List C5) (hT : atR L O cs slot = T) (hn : n ≤ 1000000) (hs : slot ≤ 9223372036854775807) (w : World) (hcs : Cells w w.heap.size A n cs) :
    Calls Tryz.prog 23 #[.agg #[.int .i64 L, .int .i64 O, .slice A n c], .int .i64 slot] w (CellsEnd w T) := by
  subst hT; exact At_any L O slot A n c cs hn hs w hcs
theorem rAt_R (L O slot : Int) (A : Option Addr) (n c : Nat) (cs T : List C5) (hT : atR L O cs slot = T) (hn : n ≤ 1000000) (hs : slot ≤ 9223372036854775807) (w : World) (hcs : Cells w w.heap.size A n cs) :
    Calls Tryz.prog 34 #[.agg #[.int .i64 L, .int .i64 O, .slice A n c], .int .i64 slot] w (CellsEnd w T) := by
  subst hT; exact rAt_any L O slot A n c cs hn hs w hcs
theorem sameL_self (cs : List C5) : sameL cs cs = true := by simp [sameL]
theorem sameS_self (L O : Int) (cs : List C5) : sameS L O cs L O cs = true := by simp [sameS, sameL]
set_option maxHeartbeats 16000000 in
set_option maxRecDepth 100000 in
theorem walk_Edits_s (L O L' O' slot : Int) (A A' : Option Addr) (n c n' c' : Nat) (cs ds : List C5) (x : C5) (hn : n ≤ 9223372036854775807) (hf1 : fewB n = false) (w : World) (ht : Hid (Tabs w)) (hcs : Hid (Cells w w.heap.size A n cs)) (hds : Hid (Cells w w.heap.size A' n' ds)) :
    Calls Tryz.prog 9 #[.agg #[.int .i64 L, .int .i64 O, .slice A n c], .agg #[.int .i64 L', .int .i64 O', .slice A' n' c'], .int .i64 slot, .agg #[.int .i64 x.s, .int .i64 x.o, .int .i64 x.f, .int .i64 x.t, .int .i64 x.w]] w fun e w' => e = .returned (.bool true) ∧ Below w.heap.size w w' := by
  obtain ⟨hw0, hB0', hT0', hX0', hXl0⟩ := E0_all w L O (.slice A n c) L' O' (.slice A' n' c') x
  have hTb0 := Lib.hid (ht.out.later hw0)
  have hC0 := Lib.hid ((hcs.out.below hw0).more hw0.size)
  have hD0 := Lib.hid ((hds.out.below hw0).more hw0.size)
  have hBl0 := Nat.lt_of_succ_lt (Nat.lt_of_succ_lt hXl0)
  have hTl0 := Nat.lt_of_succ_lt hXl0
  have hB0 := Lib.hid hB0'
  have hT0 := Lib.hid hT0'
  have hX0 := Lib.hid hX0'
  clear hcs hds ht hB0' hT0' hX0'
  unfold E0 at hw0 hB0 hT0 hX0 hXl0 hTb0 hC0 hD0 hBl0 hTl0
  go_enter Tryz.func9, Tryz.ntmps9
  go_wp2_with fail
  revert hw0 hB0 hT0 hX0 hXl0 hTb0 hC0 hD0 hBl0 hTl0
  generalize (((w.alloc (N30 L O (.slice A n c))).alloc (N30 L' O' (.slice A' n' c'))).alloc (N51 x)) = w0
  intro hw0 hXl0 hTb0 hC0 hD0 hBl0 hTl0 hB0 hT0 hX0
  refine (awake_any _ hTb0).mono ?_
  rintro e w1 ⟨rfl, hb1⟩
  have hB1 := Lib.hid (hB0.out.below hb1 hBl0)
  have hBl1 := Nat.lt_of_lt_of_le hBl0 hb1.size
  have hT1 := Lib.hid (hT0.out.below hb1 hTl0)
  have hTl1 := Nat.lt_of_lt_of_le hTl0 hb1.size
  have hX1 := Lib.hid (hX0.out.below hb1 hXl0)
  have hXl1 := Nat.lt_of_lt_of_le hXl0 hb1.size
  have hC1 := Lib.hid ((hC0.out.below hb1).more hb1.size)
  have hD1 := Lib.hid ((hD0.out.below hb1).more hb1.size)
  have hw1 := bstep hw0 hb1 (Nat.le_refl _)
  clear hB0 hT0 hX0 hC0 hD0 hw0 hBl0 hTl0 hXl0
  (try clear b0 b1 b2)
  (try clear t0 t1 t2)
  (try clear x0 x1 x2 x3 x4)
  obtain ⟨b0, b1, b2⟩ := id hB1.out
  go_wp2_with fail
  refine (Few_any L O A n c (by omega) false hf1 _).mono ?_
  rintro e w2 ⟨rfl, hb2⟩
  have hB2 := Lib.hid (hB1.out.below hb2 hBl1)
  have hBl2 := Nat.lt_of_lt_of_le hBl1 hb2.size
  have hT2 := Lib.hid (hT1.out.below hb2 hTl1)
  have hTl2 := Nat.lt_of_lt_of_le hTl1 hb2.size
  have hX2 := Lib.hid (hX1.out.below hb2 hXl1)
  have hXl2 := Nat.lt_of_lt_of_le hXl1 hb2.size
  have hC2 := Lib.hid ((hC1.out.below hb2).more hb2.size)
  have hD2 := Lib.hid ((hD1.out.below hb2).more hb2.size)
  have hw2 := bstep hw1 hb2 (Nat.le_refl _)
  clear hB1 hT1 hX1 hC1 hD1 hw1 hBl1 hTl1 hXl1
  (try clear b0 b1 b2)
  (try clear t0 t1 t2)
  (try clear x0 x1 x2 x3 x4)
  go_wp2_with fail
  go_ret
  exact ⟨rfl, hw2⟩
set_option maxHeartbeats 16000000 in
set_option maxRecDepth 100000 in
theorem walk_Edits_t (L O L' O' slot : Int) (A A' : Option Addr) (n c n' c' : Nat) (cs ds : List C5) (x : C5) (hn : n ≤ 513) (hn' : n' ≤ 9223372036854775807) (hf1 : fewB n = true) (hf2 : fewB n' = false) (w : World) (ht : Hid (Tabs w)) (hcs : Hid (Cells w w.heap.size A n cs)) (hds : Hid (Cells w w.heap.size A' n' ds)) :
    Calls Tryz.prog 9 #[.agg #[.int .i64 L, .int .i64 O, .slice A n c], .agg #[.int .i64 L', .int .i64 O', .slice A' n' c'], .int .i64 slot, .agg #[.int .i64 x.s, .int .i64 x.o, .int .i64 x.f, .int .i64 x.t, .int .i64 x.w]] w fun e w' => e = .returned (.bool true) ∧ Below w.heap.size w w' := by
  obtain ⟨hw0, hB0', hT0', hX0', hXl0⟩ := E0_all w L O (.slice A n c) L' O' (.slice A' n' c') x
  have hTb0 := Lib.hid (ht.out.later hw0)
  have hC0 := Lib.hid ((hcs.out.below hw0).more hw0.size)
  have hD0 := Lib.hid ((hds.out.below hw0).more hw0.size)
  have hBl0 := Nat.lt_of_succ_lt (Nat.lt_of_succ_lt hXl0)
  have hTl0 := Nat.lt_of_succ_lt hXl0
  have hB0 := Lib.hid hB0'
  have hT0 := Lib.hid hT0'
  have hX0 := Lib.hid hX0'
  clear hcs hds ht hB0' hT0' hX0'
  unfold E0 at hw0 hB0 hT0 hX0 hXl0 hTb0 hC0 hD0 hBl0 hTl0
  go_enter Tryz.func9, Tryz.ntmps9
  go_wp2_with fail
  revert hw0 hB0 hT0 hX0 hXl0 hTb0 hC0 hD0 hBl0 hTl0
  generalize (((w.alloc (N30 L O (.slice A n c))).alloc (N30 L' O' (.slice A' n' c'))).alloc (N51 x)) = w0
  intro hw0 hXl0 hTb0 hC0 hD0 hBl0 hTl0 hB0 hT0 hX0
  refine (awake_any _ hTb0).mono ?_
  rintro e w1 ⟨rfl, hb1⟩
  have hB1 := Lib.hid (hB0.out.below hb1 hBl0)
  have hBl1 := Nat.lt_of_lt_of_le hBl0 hb1.size
  have hT1 := Lib.hid (hT0.out.below hb1 hTl0)
  have hTl1 := Nat.lt_of_lt_of_le hTl0 hb1.size
  have hX1 := Lib.hid (hX0.out.below hb1 hXl0)
  have hXl1 := Nat.lt_of_lt_of_le hXl0 hb1.size
  have hC1 := Lib.hid ((hC0.out.below hb1).more hb1.size)
  have hD1 := Lib.hid ((hD0.out.below hb1).more hb1.size)
  have hw1 := bstep hw0 hb1 (Nat.le_refl _)
  clear hB0 hT0 hX0 hC0 hD0 hw0 hBl0 hTl0 hXl0
  (try clear b0 b1 b2)
  (try clear t0 t1 t2)
  (try clear x0 x1 x2 x3 x4)
  obtain ⟨b0, b1, b2⟩ := id hB1.out
  go_wp2_with fail
  refine (Few_any L O A n c (by omega) true hf1 _).mono ?_
  rintro e w2 ⟨rfl, hb2⟩
  have hB2 := Lib.hid (hB1.out.below hb2 hBl1)
  have hBl2 := Nat.lt_of_lt_of_le hBl1 hb2.size
  have hT2 := Lib.hid (hT1.out.below hb2 hTl1)
  have hTl2 := Nat.lt_of_lt_of_le hTl1 hb2.size
  have hX2 := Lib.hid (hX1.out.below hb2 hXl1)
  have hXl2 := Nat.lt_of_lt_of_le hXl1 hb2.size
  have hC2 := Lib.hid ((hC1.out.below hb2).more hb2.size)
  have hD2 := Lib.hid ((hD1.out.below hb2).more hb2.size)
  have hw2 := bstep hw1 hb2 (Nat.le_refl _)
  clear hB1 hT1 hX1 hC1 hD1 hw1 hBl1 hTl1 hXl1
  (try clear b0 b1 b2)
  (try clear t0 t1 t2)
  (try clear x0 x1 x2 x3 x4)
  obtain ⟨t0, t1, t2⟩ := id hT2.out
  go_wp2_with fail
  refine (Few_any L' O' A' n' c' (by omega) false hf2 _).mono ?_
  rintro e w3 ⟨rfl, hb3⟩
  have hB3 := Lib.hid (hB2.out.below hb3 hBl2)
  have hBl3 := Nat.lt_of_lt_of_le hBl2 hb3.size
  have hT3 := Lib.hid (hT2.out.below hb3 hTl2)
  have hTl3 := Nat.lt_of_lt_of_le hTl2 hb3.size
  have hX3 := Lib.hid (hX2.out.below hb3 hXl2)
  have hXl3 := Nat.lt_of_lt_of_le hXl2 hb3.size
  have hC3 := Lib.hid ((hC2.out.below hb3).more hb3.size)
  have hD3 := Lib.hid ((hD2.out.below hb3).more hb3.size)
  have hw3 := bstep hw2 hb3 (Nat.le_refl _)
  clear hB2 hT2 hX2 hC2 hD2 hw2 hBl2 hTl2 hXl2
  (try clear b0 b1 b2)
  (try clear t0 t1 t2)
  (try clear x0 x1 x2 x3 x4)
  go_wp2_with fail
  go_ret
  exact ⟨rfl, hw3⟩
set_option maxHeartbeats 16000000 in
set_option maxRecDepth 100000 in
theorem walk_Edits_good (L O L' O' slot : Int) (A A' : Option Addr) (n c n' c' : Nat) (cs ds : List C5) (x : C5) (hn : n ≤ 513) (hn' : n' ≤ 513) (hf1 : fewB n = true) (hf2 : fewB n' = true) (hslot : slot ≤ 9223372036854775807) (R1 R2 : PRes) (r1 r2 T : List C5) (z : Int) (hR1 : Hid (addR L O cs x = R1)) (hR2 : Hid (remR L O cs x = R2)) (hdif : Hid (difR L O cs L' O' ds = (r1, r2, z))) (hTT : Hid (atR L O cs slot = T)) (hl1 : R1.cs.length ≤ 1000000) (hl2 : R2.cs.length ≤ 1000000) (hl3 : r1.length ≤ 1000000) (hl4 : r2.length ≤ 1000000) (hl5 : T.length ≤ 1000000) (w : World) (ht : Hid (Tabs w)) (hcs : Hid (Cells w w.heap.size A n cs)) (hds : Hid (Cells w w.heap.size A' n' ds)) :
    Calls Tryz.prog 9 #[.agg #[.int .i64 L, .int .i64 O, .slice A n c], .agg #[.int .i64 L', .int .i64 O', .slice A' n' c'], .int .i64 slot, .agg #[.int .i64 x.s, .int .i64 x.o, .int .i64 x.f, .int .i64 x.t, .int .i64 x.w]] w fun e w' => e = .returned (.bool true) ∧ Below w.heap.size w w' := by
  obtain ⟨hw0, hB0', hT0', hX0', hXl0⟩ := E0_all w L O (.slice A n c) L' O' (.slice A' n' c') x
  have hTb0 := Lib.hid (ht.out.later hw0)
  have hC0 := Lib.hid ((hcs.out.below hw0).more hw0.size)
  have hD0 := Lib.hid ((hds.out.below hw0).more hw0.size)
  have hBl0 := Nat.lt_of_succ_lt (Nat.lt_of_succ_lt hXl0)
  have hTl0 := Nat.lt_of_succ_lt hXl0
  have hB0 := Lib.hid hB0'
  have hT0 := Lib.hid hT0'
  have hX0 := Lib.hid hX0'
  clear hcs hds ht hB0' hT0' hX0'
  unfold E0 at hw0 hB0 hT0 hX0 hXl0 hTb0 hC0 hD0 hBl0 hTl0
  go_enter Tryz.func9, Tryz.ntmps9
  go_wp2_with fail
  revert hw0 hB0 hT0 hX0 hXl0 hTb0 hC0 hD0 hBl0 hTl0
  generalize (((w.alloc (N30 L O (.slice A n c))).alloc (N30 L' O' (.slice A' n' c'))).alloc (N51 x)) = w0
  intro hw0 hXl0 hTb0 hC0 hD0 hBl0 hTl0 hB0 hT0 hX0
  refine (awake_any _ hTb0).mono ?_
  rintro e w1 ⟨rfl, hb1⟩
  have hB1 := Lib.hid (hB0.out.below hb1 hBl0)
  have hBl1 := Nat.lt_of_lt_of_le hBl0 hb1.size
  have hT1 := Lib.hid (hT0.out.below hb1 hTl0)
  have hTl1 := Nat.lt_of_lt_of_le hTl0 hb1.size
  have hX1 := Lib.hid (hX0.out.below hb1 hXl0)
  have hXl1 := Nat.lt_of_lt_of_le hXl0 hb1.size
  have hC1 := Lib.hid ((hC0.out.below hb1).more hb1.size)
  have hD1 := Lib.hid ((hD0.out.below hb1).more hb1.size)
  have hw1 := bstep hw0 hb1 (Nat.le_refl _)
  clear hB0 hT0 hX0 hC0 hD0 hw0 hBl0 hTl0 hXl0
  (try clear b0 b1 b2)
  (try clear t0 t1 t2)
  (try clear x0 x1 x2 x3 x4)
  obtain ⟨b0, b1, b2⟩ := id hB1.out
  go_wp2_with fail
  refine (Few_any L O A n c (by omega) true hf1 _).mono ?_
  rintro e w2 ⟨rfl, hb2⟩
  have hB2 := Lib.hid (hB1.out.below hb2 hBl1)
  have hBl2 := Nat.lt_of_lt_of_le hBl1 hb2.size
  have hT2 := Lib.hid (hT1.out.below hb2 hTl1)
  have hTl2 := Nat.lt_of_lt_of_le hTl1 hb2.size
  have hX2 := Lib.hid (hX1.out.below hb2 hXl1)
  have hXl2 := Nat.lt_of_lt_of_le hXl1 hb2.size
  have hC2 := Lib.hid ((hC1.out.below hb2).more hb2.size)
  have hD2 := Lib.hid ((hD1.out.below hb2).more hb2.size)
  have hw2 := bstep hw1 hb2 (Nat.le_refl _)
  clear hB1 hT1 hX1 hC1 hD1 hw1 hBl1 hTl1 hXl1
  (try clear b0 b1 b2)
  (try clear t0 t1 t2)
  (try clear x0 x1 x2 x3 x4)
  obtain ⟨t0, t1, t2⟩ := id hT2.out
  go_wp2_with fail
  refine (Few_any L' O' A' n' c' (by omega) true hf2 _).mono ?_
  rintro e w3 ⟨rfl, hb3⟩
  have hB3 := Lib.hid (hB2.out.below hb3 hBl2)
  have hBl3 := Nat.lt_of_lt_of_le hBl2 hb3.size
  have hT3 := Lib.hid (hT2.out.below hb3 hTl2)
  have hTl3 := Nat.lt_of_lt_of_le hTl2 hb3.size
  have hX3 := Lib.hid (hX2.out.below hb3 hXl2)
  have hXl3 := Nat.lt_of_lt_of_le hXl2 hb3.size
  have hC3 := Lib.hid ((hC2.out.below hb3).more hb3.size)
  have hD3 := Lib.hid ((hD2.out.below hb3).more hb3.size)
  have hw3 := bstep hw2 hb3 (Nat.le_refl _)
  clear hB2 hT2 hX2 hC2 hD2 hw2 hBl2 hTl2 hXl2
  (try clear b0 b1 b2)
  (try clear t0 t1 t2)
  (try clear x0 x1 x2 x3 x4)
  obtain ⟨b0, b1, b2⟩ := id hB3.out
  obtain ⟨x0, x1, x2, x3, x4⟩ := id hX3.out
  go_wp2_with fail
  refine (Add_R L O A n c cs x R1 hR1.out (by omega) _ hC3.out).mono ?_
  rintro e w4 ⟨Aa, ca, rfl, hCa, _, hb4⟩
  have hB4 := Lib.hid (hB3.out.below hb4 hBl3)
  have hBl4 := Nat.lt_of_lt_of_le hBl3 hb4.size
  have hT4 := Lib.hid (hT3.out.below hb4 hTl3)
  have hTl4 := Nat.lt_of_lt_of_le hTl3 hb4.size
  have hX4 := Lib.hid (hX3.out.below hb4 hXl3)
  have hXl4 := Nat.lt_of_lt_of_le hXl3 hb4.size
  have hC4 := Lib.hid ((hC3.out.below hb4).more hb4.size)
  have hD4 := Lib.hid ((hD3.out.below hb4).more hb4.size)
  have hw4 := bstep hw3 hb4 (Nat.le_refl _)
  clear hB3 hT3 hX3 hC3 hD3 hw3 hBl3 hTl3 hXl3
  have hCa4 := Lib.hid hCa
  clear hCa
  (try clear b0 b1 b2)
  (try clear t0 t1 t2)
  (try clear x0 x1 x2 x3 x4)
  obtain ⟨b0, b1, b2⟩ := id hB4.out
  obtain ⟨t0, t1, t2⟩ := id hT4.out
  obtain ⟨x0, x1, x2, x3, x4⟩ := id hX4.out
  go_wp2_with fail
  clear b0 b1 b2 t0 t1 t2 x0 x1 x2 x3 x4
  obtain ⟨w5, hw5e⟩ : ∃ W, W = w4.alloc (N30 R1.L R1.O (.slice Aa R1.cs.length ca)) := ⟨_, rfl⟩
  have hb5 : Below w4.heap.size w4 w5 := by rw [hw5e]; exact (Below.refl _ _).alloc (Nat.le_refl _) _
  have hRa5 : Hid (BoxS w5 w4.heap.size R1.L R1.O (.slice Aa R1.cs.length ca)) := Lib.hid (by rw [hw5e]; exact BoxS.new _ _ _ 30 w4)
  have hRal5 : w4.heap.size < w5.heap.size := by rw [hw5e]; simp
  rw [← hw5e]
  clear hw5e
  have hB5 := Lib.hid (hB4.out.below hb5 hBl4)
  have hBl5 := Nat.lt_of_lt_of_le hBl4 hb5.size
  have hT5 := Lib.hid (hT4.out.below hb5 hTl4)
  have hTl5 := Nat.lt_of_lt_of_le hTl4 hb5.size
  have hX5 := Lib.hid (hX4.out.below hb5 hXl4)
  have hXl5 := Nat.lt_of_lt_of_le hXl4 hb5.size
  have hC5 := Lib.hid ((hC4.out.below hb5).more hb5.size)
  have hD5 := Lib.hid ((hD4.out.below hb5).more hb5.size)
  have hCa5 := Lib.hid ((hCa4.out.below hb5).more hb5.size)
  have hw5 := bstep hw4 hb5 (Nat.le_refl _)
  clear hB4 hT4 hX4 hC4 hD4 hCa4 hw4 hBl4 hTl4 hXl4
  refine (rAdd_R L O A n c cs x R1 hR1.out (by omega) _ hC5.out).mono ?_
  rintro e w6 ⟨Ab, cb, rfl, hCb, _, hb6⟩
  have hB6 := Lib.hid (hB5.out.below hb6 hBl5)
  have hBl6 := Nat.lt_of_lt_of_le hBl5 hb6.size
  have hT6 := Lib.hid (hT5.out.below hb6 hTl5)
  have hTl6 := Nat.lt_of_lt_of_le hTl5 hb6.size
  have hX6 := Lib.hid (hX5.out.below hb6 hXl5)
  have hXl6 := Nat.lt_of_lt_of_le hXl5 hb6.size
  have hC6 := Lib.hid ((hC5.out.below hb6).more hb6.size)
  have hD6 := Lib.hid ((hD5.out.below hb6).more hb6.size)
  have hCa6 := Lib.hid ((hCa5.out.below hb6).more hb6.size)
  have hRa6 := Lib.hid (hRa5.out.below hb6 hRal5)
  have hRal6 := Nat.lt_of_lt_of_le hRal5 hb6.size
  have hw6 := bstep hw5 hb6 (Nat.le_refl _)
  clear hB5 hT5 hX5 hC5 hD5 hCa5 hRa5 hw5 hBl5 hTl5 hXl5 hRal5
  have hCb6 := Lib.hid hCb
  clear hCb
  (try clear b0 b1 b2)
  (try clear t0 t1 t2)
  (try clear x0 x1 x2 x3 x4)
  obtain ⟨b0, b1, b2⟩ := id hB6.out
  obtain ⟨t0, t1, t2⟩ := id hT6.out
  obtain ⟨x0, x1, x2, x3, x4⟩ := id hX6.out
  go_wp2_with fail
  clear b0 b1 b2 t0 t1 t2 x0 x1 x2 x3 x4
  obtain ⟨w7, hw7e⟩ : ∃ W, W = w6.alloc (N30 R1.L R1.O (.slice Ab R1.cs.length cb)) := ⟨_, rfl⟩
  have hb7 : Below w6.heap.size w6 w7 := by rw [hw7e]; exact (Below.refl _ _).alloc (Nat.le_refl _) _
  have hRb7 : Hid (BoxS w7 w6.heap.size R1.L R1.O (.slice Ab R1.cs.length cb)) := Lib.hid (by rw [hw7e]; exact BoxS.new _ _ _ 30 w6)
  have hRbl7 : w6.heap.size < w7.heap.size := by rw [hw7e]; simp
  rw [← hw7e]
  clear hw7e
  have hB7 := Lib.hid (hB6.out.below hb7 hBl6)
  have hBl7 := Nat.lt_of_lt_of_le hBl6 hb7.size
  have hT7 := Lib.hid (hT6.out.below hb7 hTl6)
  have hTl7 := Nat.lt_of_lt_of_le hTl6 hb7.size
  have hX7 := Lib.hid (hX6.out.below hb7 hXl6)
  have hXl7 := Nat.lt_of_lt_of_le hXl6 hb7.size
  have hC7 := Lib.hid ((hC6.out.below hb7).more hb7.size)
  have hD7 := Lib.hid ((hD6.out.below hb7).more hb7.size)
  have hCa7 := Lib.hid ((hCa6.out.below hb7).more hb7.size)
  have hRa7 := Lib.hid (hRa6.out.below hb7 hRal6)
  have hRal7 := Nat.lt_of_lt_of_le hRal6 hb7.size
  have hCb7 := Lib.hid ((hCb6.out.below hb7).more hb7.size)
  have hw7 := bstep hw6 hb7 (Nat.le_refl _)
  clear hB6 hT6 hX6 hC6 hD6 hCa6 hRa6 hCb6 hw6 hBl6 hTl6 hXl6 hRal6
  refine (Rem_R L O A n c cs x R2 hR2.out (by omega) _ hC7.out).mono ?_
  rintro e w8 ⟨Ad, cd, rfl, hCd, _, hb8⟩
  have hB8 := Lib.hid (hB7.out.below hb8 hBl7)
  have hBl8 := Nat.lt_of_lt_of_le hBl7 hb8.size
  have hT8 := Lib.hid (hT7.out.below hb8 hTl7)
  have hTl8 := Nat.lt_of_lt_of_le hTl7 hb8.size
  have hX8 := Lib.hid (hX7.out.below hb8 hXl7)
  have hXl8 := Nat.lt_of_lt_of_le hXl7 hb8.size
  have hC8 := Lib.hid ((hC7.out.below hb8).more hb8.size)
  have hD8 := Lib.hid ((hD7.out.below hb8).more hb8.size)
  have hCa8 := Lib.hid ((hCa7.out.below hb8).more hb8.size)
  have hRa8 := Lib.hid (hRa7.out.below hb8 hRal7)
  have hRal8 := Nat.lt_of_lt_of_le hRal7 hb8.size
  have hCb8 := Lib.hid ((hCb7.out.below hb8).more hb8.size)
  have hRb8 := Lib.hid (hRb7.out.below hb8 hRbl7)
  have hRbl8 := Nat.lt_of_lt_of_le hRbl7 hb8.size
  have hw8 := bstep hw7 hb8 (Nat.le_refl _)
  clear hB7 hT7 hX7 hC7 hD7 hCa7 hRa7 hCb7 hRb7 hw7 hBl7 hTl7 hXl7 hRal7 hRbl7
  have hCd8 := Lib.hid hCd
  clear hCd
  (try clear b0 b1 b2)
  (try clear t0 t1 t2)
  (try clear x0 x1 x2 x3 x4)
  obtain ⟨b0, b1, b2⟩ := id hB8.out
  obtain ⟨t0, t1, t2⟩ := id hT8.out
  obtain ⟨x0, x1, x2, x3, x4⟩ := id hX8.out
  go_wp2_with fail
  clear b0 b1 b2 t0 t1 t2 x0 x1 x2 x3 x4
  obtain ⟨w9, hw9e⟩ : ∃ W, W = w8.alloc (N30 R2.L R2.O (.slice Ad R2.cs.length cd)) := ⟨_, rfl⟩
  have hb9 : Below w8.heap.size w8 w9 := by rw [hw9e]; exact (Below.refl _ _).alloc (Nat.le_refl _) _
  have hRd9 : Hid (BoxS w9 w8.heap.size R2.L R2.O (.slice Ad R2.cs.length cd)) := Lib.hid (by rw [hw9e]; exact BoxS.new _ _ _ 30 w8)
  have hRdl9 : w8.heap.size < w9.heap.size := by rw [hw9e]; simp
  rw [← hw9e]
  clear hw9e
  have hB9 := Lib.hid (hB8.out.below hb9 hBl8)
  have hBl9 := Nat.lt_of_lt_of_le hBl8 hb9.size
  have hT9 := Lib.hid (hT8.out.below hb9 hTl8)
  have hTl9 := Nat.lt_of_lt_of_le hTl8 hb9.size
  have hX9 := Lib.hid (hX8.out.below hb9 hXl8)
  have hXl9 := Nat.lt_of_lt_of_le hXl8 hb9.size
  have hC9 := Lib.hid ((hC8.out.below hb9).more hb9.size)
  have hD9 := Lib.hid ((hD8.out.below hb9).more hb9.size)
  have hCa9 := Lib.hid ((hCa8.out.below hb9).more hb9.size)
  have hRa9 := Lib.hid (hRa8.out.below hb9 hRal8)
  have hRal9 := Nat.lt_of_lt_of_le hRal8 hb9.size
  have hCb9 := Lib.hid ((hCb8.out.below hb9).more hb9.size)
  have hRb9 := Lib.hid (hRb8.out.below hb9 hRbl8)
  have hRbl9 := Nat.lt_of_lt_of_le hRbl8 hb9.size
  have hCd9 := Lib.hid ((hCd8.out.below hb9).more hb9.size)
  have hw9 := bstep hw8 hb9 (Nat.le_refl _)
  clear hB8 hT8 hX8 hC8 hD8 hCa8 hRa8 hCb8 hRb8 hCd8 hw8 hBl8 hTl8 hXl8 hRal8 hRbl8
  refine (rRem_R L O A n c cs x R2 hR2.out (by omega) _ hC9.out).mono ?_
  rintro e w10 ⟨Ah, ch, rfl, hCh, _, hb10⟩
  have hB10 := Lib.hid (hB9.out.below hb10 hBl9)
  have hBl10 := Nat.lt_of_lt_of_le hBl9 hb10.size
  have hT10 := Lib.hid (hT9.out.below hb10 hTl9)
  have hTl10 := Nat.lt_of_lt_of_le hTl9 hb10.size
  have hX10 := Lib.hid (hX9.out.below hb10 hXl9)
  have hXl10 := Nat.lt_of_lt_of_le hXl9 hb10.size
  have hC10 := Lib.hid ((hC9.out.below hb10).more hb10.size)
  have hD10 := Lib.hid ((hD9.out.below hb10).more hb10.size)
  have hCa10 := Lib.hid ((hCa9.out.below hb10).more hb10.size)
  have hRa10 := Lib.hid (hRa9.out.below hb10 hRal9)
  have hRal10 := Nat.lt_of_lt_of_le hRal9 hb10.size
  have hCb10 := Lib.hid ((hCb9.out.below hb10).more hb10.size)
  have hRb10 := Lib.hid (hRb9.out.below hb10 hRbl9)
  have hRbl10 := Nat.lt_of_lt_of_le hRbl9 hb10.size
  have hCd10 := Lib.hid ((hCd9.out.below hb10).more hb10.size)
  have hRd10 := Lib.hid (hRd9.out.below hb10 hRdl9)
  have hRdl10 := Nat.lt_of_lt_of_le hRdl9 hb10.size
  have hw10 := bstep hw9 hb10 (Nat.le_refl _)
  clear hB9 hT9 hX9 hC9 hD9 hCa9 hRa9 hCb9 hRb9 hCd9 hRd9 hw9 hBl9 hTl9 hXl9 hRal9 hRbl9 hRdl9
  have hCh10 := Lib.hid hCh
  clear hCh
  (try clear b0 b1 b2)
  (try clear t0 t1 t2)
  (try clear x0 x1 x2 x3 x4)
  obtain ⟨b0, b1, b2⟩ := id hB10.out
  obtain ⟨t0, t1, t2⟩ := id hT10.out
  obtain ⟨x0, x1, x2, x3, x4⟩ := id hX10.out
  go_wp2_with fail
  clear b0 b1 b2 t0 t1 t2 x0 x1 x2 x3 x4
  obtain ⟨w11, hw11e⟩ : ∃ W, W = w10.alloc (N30 R2.L R2.O (.slice Ah R2.cs.length ch)) := ⟨_, rfl⟩
  have hb11 : Below w10.heap.size w10 w11 := by rw [hw11e]; exact (Below.refl _ _).alloc (Nat.le_refl _) _
  have hRh11 : Hid (BoxS w11 w10.heap.size R2.L R2.O (.slice Ah R2.cs.length ch)) := Lib.hid (by rw [hw11e]; exact BoxS.new _ _ _ 30 w10)
  have hRhl11 : w10.heap.size < w11.heap.size := by rw [hw11e]; simp
  rw [← hw11e]
  clear hw11e
  have hB11 := Lib.hid (hB10.out.below hb11 hBl10)
  have hBl11 := Nat.lt_of_lt_of_le hBl10 hb11.size
  have hT11 := Lib.hid (hT10.out.below hb11 hTl10)
  have hTl11 := Nat.lt_of_lt_of_le hTl10 hb11.size
  have hX11 := Lib.hid (hX10.out.below hb11 hXl10)
  have hXl11 := Nat.lt_of_lt_of_le hXl10 hb11.size
  have hC11 := Lib.hid ((hC10.out.below hb11).more hb11.size)
  have hD11 := Lib.hid ((hD10.out.below hb11).more hb11.size)
  have hCa11 := Lib.hid ((hCa10.out.below hb11).more hb11.size)
  have hRa11 := Lib.hid (hRa10.out.below hb11 hRal10)
  have hRal11 := Nat.lt_of_lt_of_le hRal10 hb11.size
  have hCb11 := Lib.hid ((hCb10.out.below hb11).more hb11.size)
  have hRb11 := Lib.hid (hRb10.out.below hb11 hRbl10)
  have hRbl11 := Nat.lt_of_lt_of_le hRbl10 hb11.size
  have hCd11 := Lib.hid ((hCd10.out.below hb11).more hb11.size)
  have hRd11 := Lib.hid (hRd10.out.below hb11 hRdl10)
  have hRdl11 := Nat.lt_of_lt_of_le hRdl10 hb11.size
  have hCh11 := Lib.hid ((hCh10.out.below hb11).more hb11.size)
  have hw11 := bstep hw10 hb11 (Nat.le_refl _)
  clear hB10 hT10 hX10 hC10 hD10 hCa10 hRa10 hCb10 hRb10 hCd10 hRd10 hCh10 hw10 hBl10 hTl10 hXl10 hRal10 hRbl10 hRdl10
  refine (Dif_any L O L' O' A A' n c n' c' cs ds (by omega) (by omega) r1 r2 z hdif.out _ hC11.out hD11.out).mono ?_
  rintro e w12 ⟨Ap, cp, Ap2, cp2, rfl, hCp, hCp2, hb12⟩
  have hB12 := Lib.hid (hB11.out.below hb12 hBl11)
  have hBl12 := Nat.lt_of_lt_of_le hBl11 hb12.size
  have hT12 := Lib.hid (hT11.out.below hb12 hTl11)
  have hTl12 := Nat.lt_of_lt_of_le hTl11 hb12.size
  have hX12 := Lib.hid (hX11.out.below hb12 hXl11)
  have hXl12 := Nat.lt_of_lt_of_le hXl11 hb12.size
  have hC12 := Lib.hid ((hC11.out.below hb12).more hb12.size)
  have hD12 := Lib.hid ((hD11.out.below hb12).more hb12.size)
  have hCa12 := Lib.hid ((hCa11.out.below hb12).more hb12.size)
  have hRa12 := Lib.hid (hRa11.out.below hb12 hRal11)
  have hRal12 := Nat.lt_of_lt_of_le hRal11 hb12.size
  have hCb12 := Lib.hid ((hCb11.out.below hb12).more hb12.size)
  have hRb12 := Lib.hid (hRb11.out.below hb12 hRbl11)
  have hRbl12 := Nat.lt_of_lt_of_le hRbl11 hb12.size
  have hCd12 := Lib.hid ((hCd11.out.below hb12).more hb12.size)
  have hRd12 := Lib.hid (hRd11.out.below hb12 hRdl11)
  have hRdl12 := Nat.lt_of_lt_of_le hRdl11 hb12.size
  have hCh12 := Lib.hid ((hCh11.out.below hb12).more hb12.size)
  have hRh12 := Lib.hid (hRh11.out.below hb12 hRhl11)
  have hRhl12 := Nat.lt_of_lt_of_le hRhl11 hb12.size
  have hw12 := bstep hw11 hb12 (Nat.le_refl _)
  clear hB11 hT11 hX11 hC11 hD11 hCa11 hRa11 hCb11 hRb11 hCd11 hRd11 hCh11 hRh11 hw11 hBl11 hTl11 hXl11 hRal11 hRbl11 hRdl11 hRhl11
  have hCp12 := Lib.hid hCp
  have hCp212 := Lib.hid hCp2
  clear hCp hCp2
  (try clear b0 b1 b2)
  (try clear t0 t1 t2)
  (try clear x0 x1 x2 x3 x4)
  obtain ⟨b0, b1, b2⟩ := id hB12.out
  obtain ⟨t0, t1, t2⟩ := id hT12.out
  go_wp2_with fail
  refine (rDif_any L O L' O' A A' n c n' c' cs ds (by omega) (by omega) r1 r2 z hdif.out _ hC12.out hD12.out).mono ?_
  rintro e w13 ⟨Aq, cq, Aq2, cq2, rfl, hCq, hCq2, hb13⟩
  have hB13 := Lib.hid (hB12.out.below hb13 hBl12)
  have hBl13 := Nat.lt_of_lt_of_le hBl12 hb13.size
  have hT13 := Lib.hid (hT12.out.below hb13 hTl12)
  have hTl13 := Nat.lt_of_lt_of_le hTl12 hb13.size
  have hX13 := Lib.hid (hX12.out.below hb13 hXl12)
  have hXl13 := Nat.lt_of_lt_of_le hXl12 hb13.size
  have hC13 := Lib.hid ((hC12.out.below hb13).more hb13.size)
  have hD13 := Lib.hid ((hD12.out.below hb13).more hb13.size)
  have hCa13 := Lib.hid ((hCa12.out.below hb13).more hb13.size)
  have hRa13 := Lib.hid (hRa12.out.below hb13 hRal12)
  have hRal13 := Nat.lt_of_lt_of_le hRal12 hb13.size
  have hCb13 := Lib.hid ((hCb12.out.below hb13).more hb13.size)
  have hRb13 := Lib.hid (hRb12.out.below hb13 hRbl12)
  have hRbl13 := Nat.lt_of_lt_of_le hRbl12 hb13.size
  have hCd13 := Lib.hid ((hCd12.out.below hb13).more hb13.size)
  have hRd13 := Lib.hid (hRd12.out.below hb13 hRdl12)
  have hRdl13 := Nat.lt_of_lt_of_le hRdl12 hb13.size
  have hCh13 := Lib.hid ((hCh12.out.below hb13).more hb13.size)
  have hRh13 := Lib.hid (hRh12.out.below hb13 hRhl12)
  have hRhl13 := Nat.lt_of_lt_of_le hRhl12 hb13.size
  have hCp13 := Lib.hid ((hCp12.out.below hb13).more hb13.size)
  have hCp213 := Lib.hid ((hCp212.out.below hb13).more hb13.size)
  have hw13 := bstep hw12 hb13 (Nat.le_refl _)
  clear hB12 hT12 hX12 hC12 hD12 hCa12 hRa12 hCb12 hRb12 hCd12 hRd12 hCh12 hRh12 hCp12 hCp212 hw12 hBl12 hTl12 hXl12 hRal12 hRbl12 hRdl12 hRhl12
  have hCq13 := Lib.hid hCq
  have hCq213 := Lib.hid hCq2
  clear hCq hCq2
  (try clear b0 b1 b2)
  (try clear t0 t1 t2)
  (try clear x0 x1 x2 x3 x4)
  obtain ⟨b0, b1, b2⟩ := id hB13.out
  go_wp2_with fail
  have hkS : ∀ W, Below w13.heap.size w13 W → (fun W => W.cell? ⟨w.heap.size, 0, none⟩ = some (.int .i64 L) ∧ W.cell? ⟨w.heap.size, 1, none⟩ = some (.int .i64 O) ∧ W.cell? ⟨w.heap.size, 2, none⟩ = some (.slice A n c) ∧ W.cell? ⟨w4.heap.size, 0, none⟩ = some (.int .i64 R1.L) ∧ W.cell? ⟨w4.heap.size, 1, none⟩ = some (.int .i64 R1.O) ∧ W.cell? ⟨w4.heap.size, 2, none⟩ = some (.slice Aa R1.cs.length ca) ∧ W.cell? ⟨w6.heap.size, 0, none⟩ = some (.int .i64 R1.L) ∧ W.cell? ⟨w6.heap.size, 1, none⟩ = some (.int .i64 R1.O) ∧ W.cell? ⟨w6.heap.size, 2, none⟩ = some (.slice Ab R1.cs.length cb) ∧ W.cell? ⟨w8.heap.size, 0, none⟩ = some (.int .i64 R2.L) ∧ W.cell? ⟨w8.heap.size, 1, none⟩ = some (.int .i64 R2.O) ∧ W.cell? ⟨w8.heap.size, 2, none⟩ = some (.slice Ad R2.cs.length cd) ∧ W.cell? ⟨w10.heap.size, 0, none⟩ = some (.int .i64 R2.L) ∧ W.cell? ⟨w10.heap.size, 1, none⟩ = some (.int .i64 R2.O) ∧ W.cell? ⟨w10.heap.size, 2, none⟩ = some (.slice Ah R2.cs.length ch)) W := fun W h => by
    obtain ⟨i00, i01, i02⟩ := hB13.out.below h hBl13
    obtain ⟨i10, i11, i12⟩ := hRa13.out.below h hRal13
    obtain ⟨i20, i21, i22⟩ := hRb13.out.below h hRbl13
    obtain ⟨i30, i31, i32⟩ := hRd13.out.below h hRdl13
    obtain ⟨i40, i41, i42⟩ := hRh13.out.below h hRhl13
    exact ⟨i00, i01, i02, i10, i11, i12, i20, i21, i22, i30, i31, i32, i40, i41, i42⟩
  have hkS := Lib.hid hkS
  clear b0 b1 b2
  refine wp_region_held_drew (S := (fun W => W.cell? ⟨w.heap.size, 0, none⟩ = some (.int .i64 L) ∧ W.cell? ⟨w.heap.size, 1, none⟩ = some (.int .i64 O) ∧ W.cell? ⟨w.heap.size, 2, none⟩ = some (.slice A n c) ∧ W.cell? ⟨w4.heap.size, 0, none⟩ = some (.int .i64 R1.L) ∧ W.cell? ⟨w4.heap.size, 1, none⟩ = some (.int .i64 R1.O) ∧ W.cell? ⟨w4.heap.size, 2, none⟩ = some (.slice Aa R1.cs.length ca) ∧ W.cell? ⟨w6.heap.size, 0, none⟩ = some (.int .i64 R1.L) ∧ W.cell? ⟨w6.heap.size, 1, none⟩ = some (.int .i64 R1.O) ∧ W.cell? ⟨w6.heap.size, 2, none⟩ = some (.slice Ab R1.cs.length cb) ∧ W.cell? ⟨w8.heap.size, 0, none⟩ = some (.int .i64 R2.L) ∧ W.cell? ⟨w8.heap.size, 1, none⟩ = some (.int .i64 R2.O) ∧ W.cell? ⟨w8.heap.size, 2, none⟩ = some (.slice Ad R2.cs.length cd) ∧ W.cell? ⟨w10.heap.size, 0, none⟩ = some (.int .i64 R2.L) ∧ W.cell? ⟨w10.heap.size, 1, none⟩ = some (.int .i64 R2.O) ∧ W.cell? ⟨w10.heap.size, 2, none⟩ = some (.slice Ah R2.cs.length ch))) (by kernel_rfl) (hkS.out _ (Below.refl _ w13).drew) (fun hHeld => ?_)
  refine wpAnyH_take (i := 0) (oi := ?o1) (v := ?hv1) ?hi1 (by kernel_rfl) (by kernel_rfl) (by kernel_rfl) ?hq1 ?hy1 (by assumption) ?hr1
  case hi1 => (simp only [List.getElem?_toArray, List.getElem?_cons_zero]; rfl)
  case hq1 => exact fun _ _ _ h => h
  case hy1 => exact Or.inl ⟨by rfl, by intro w hSw; (try dsimp only at hSw); go_simp; try with_reducible rfl⟩
  simp only [Act.put, List.setIfInBounds_toArray, List.set_cons_zero, List.set_cons_succ]
  refine wpAnyH_take (i := 1) (oi := ?o2) (v := ?hv2) ?hi2 (by kernel_rfl) (by kernel_rfl) (by kernel_rfl) ?hq2 ?hy2 (by assumption) ?hr2
  case hi2 => (simp only [List.getElem?_toArray, List.getElem?_cons_succ, List.getElem?_cons_zero]; rfl)
  case hq2 => exact fun _ _ _ h => h
  case hy2 => exact Or.inl ⟨by rfl, by intro w hSw; (try dsimp only at hSw); go_simp; try with_reducible rfl⟩
  simp only [Act.put, List.setIfInBounds_toArray, List.set_cons_zero, List.set_cons_succ]
  refine wpAnyH_take (i := 3) (oi := ?o3) (v := ?hv3) ?hi3 (by kernel_rfl) (by kernel_rfl) (by kernel_rfl) ?hq3 ?hy3 (by assumption) ?hr3
  case hi3 => (simp only [List.getElem?_toArray, List.getElem?_cons_succ, List.getElem?_cons_zero]; rfl)
  case hq3 => exact fun _ _ _ h => h
  case hy3 => exact Or.inl ⟨by rfl, by intro w hSw; (try dsimp only at hSw); go_simp; try with_reducible rfl⟩
  simp only [Act.put, List.setIfInBounds_toArray, List.set_cons_zero, List.set_cons_succ]
  refine wpAnyH_take (i := 4) (oi := ?o4) (v := ?hv4) ?hi4 (by kernel_rfl) (by kernel_rfl) (by kernel_rfl) ?hq4 ?hy4 (by assumption) ?hr4
  case hi4 => (simp only [List.getElem?_toArray, List.getElem?_cons_succ, List.getElem?_cons_zero]; rfl)
  case hq4 => exact fun _ _ _ h => h
  case hy4 => exact Or.inl ⟨by rfl, by intro w hSw; (try dsimp only at hSw); go_simp; try with_reducible rfl⟩
  simp only [Act.put, List.setIfInBounds_toArray, List.set_cons_zero, List.set_cons_succ]
  refine wpAnyH_ready (rs := [2]) (by kernel_rfl) (by simp) ?_
  refine (AllReadyH.cons (o := ?o43) ?hi43 (fun K hK => ?hr43) AllReadyH.nil)
  case hi43 => (simp only [List.getElem?_toArray, List.getElem?_cons_succ, List.getElem?_cons_zero]; rfl)
  case hr43 =>
    go_simp
    refine (At_R L O slot A n c cs T hTT.out (by omega) hslot _ ((hC13.out.below ((Below.refl w13.heap.size w13).drew)).more ((Below.refl w13.heap.size w13).drew).size)).mono ?_
    rintro e w15 ⟨Aat, cat, rfl, hCat, _, hbw15⟩
    have hqw15 : Below w13.heap.size w13 w15 := bstep ((Below.refl w13.heap.size w13).drew) hbw15 (Nat.le_refl _)
    go_wp2_with fail
    refine hK.out _ _ ?_ (fun hHeld => ?_)
    · exact hkS.out _ hqw15
    clear hK K
    try simp only [Act.put, List.setIfInBounds_toArray, List.set_cons_zero, List.set_cons_succ]
    refine wpAnyH_ready (rs := [5]) (by kernel_rfl) (by simp) ?_
    refine (AllReadyH.cons (o := ?o42) ?hi42 (fun K hK => ?hr42) AllReadyH.nil)
    case hi42 => (simp only [List.getElem?_toArray, List.getElem?_cons_succ, List.getElem?_cons_zero]; rfl)
    case hr42 =>
      go_simp
      refine (rAt_R L O slot A n c cs T hTT.out (by omega) hslot _ ((hC13.out.below hqw15).more hqw15.size)).mono ?_
      rintro e w16 ⟨Art, crt, rfl, hCrt, _, hbw16⟩
      have hqw16 : Below w13.heap.size w13 w16 := bstep hqw15 hbw16 (Nat.le_refl _)
      go_wp2_with fail
      refine hK.out _ _ ?_ (fun hHeld => ?_)
      · exact hkS.out _ hqw16
      clear hK K
      try simp only [Act.put, List.setIfInBounds_toArray, List.set_cons_zero, List.set_cons_succ]
      refine wpAnyH_ready (rs := [6]) (by kernel_rfl) (by simp) ?_
      refine (AllReadyH.cons (o := ?o41) ?hi41 (fun K hK => ?hr41) AllReadyH.nil)
      case hi41 => (simp only [List.getElem?_toArray, List.getElem?_cons_succ, List.getElem?_cons_zero]; rfl)
      case hr41 =>
        go_simp
        refine (SameCells_any Aat Art T.length T.length cat crt T T (by omega) _ _ _ ((hCat.below hbw16).more hbw16.size) hCrt true (sameL_self _)).mono ?_
        rintro e w21 ⟨rfl, hbw21⟩
        have hqw21 : Below w13.heap.size w13 w21 := bstep hqw16 hbw21 (Nat.le_refl _)
        go_wp2_with fail
        refine hK.out _ _ ?_ (fun hHeld => ?_)
        · exact hkS.out _ hqw21
        clear hK K
        try simp only [Act.put, List.setIfInBounds_toArray, List.set_cons_zero, List.set_cons_succ]
        refine wpAnyH_take (i := 7) (oi := ?o37) (v := ?hv37) ?hi37 (by kernel_rfl) (by kernel_rfl) (by kernel_rfl) ?hq37 ?hy37 (by assumption) ?hr37
        case hi37 => (simp only [List.getElem?_toArray, List.getElem?_cons_succ, List.getElem?_cons_zero]; rfl)
        case hq37 => exact fun _ _ _ h => h
        case hy37 => exact Or.inl ⟨by rfl, by intro w hSw; (try dsimp only at hSw); go_simp; try with_reducible rfl⟩
        simp only [Act.put, List.setIfInBounds_toArray, List.set_cons_zero, List.set_cons_succ]
        refine wpAnyH_take (i := 8) (oi := ?o38) (v := ?hv38) ?hi38 (by kernel_rfl) (by kernel_rfl) (by kernel_rfl) ?hq38 ?hy38 (by assumption) ?hr38
        case hi38 => (simp only [List.getElem?_toArray, List.getElem?_cons_succ, List.getElem?_cons_zero]; rfl)
        case hq38 => exact fun _ _ _ h => h
        case hy38 => exact Or.inl ⟨by rfl, by intro w hSw; (try dsimp only at hSw); go_simp; try with_reducible rfl⟩
        simp only [Act.put, List.setIfInBounds_toArray, List.set_cons_zero, List.set_cons_succ]
        refine wpAnyH_take (i := 9) (oi := ?o39) (v := ?hv39) ?hi39 (by kernel_rfl) (by kernel_rfl) (by kernel_rfl) ?hq39 ?hy39 (by assumption) ?hr39
        case hi39 => (simp only [List.getElem?_toArray, List.getElem?_cons_succ, List.getElem?_cons_zero]; rfl)
        case hq39 => exact fun _ _ _ h => h
        case hy39 => exact Or.inl ⟨by rfl, by intro w hSw; (try dsimp only at hSw); go_simp; try with_reducible rfl⟩
        simp only [Act.put, List.setIfInBounds_toArray, List.set_cons_zero, List.set_cons_succ]
        refine wpAnyH_ready (rs := [10]) (by kernel_rfl) (by simp) ?_
        refine (AllReadyH.cons (o := ?o40) ?hi40 (fun K hK => ?hr40) AllReadyH.nil)
        case hi40 => (simp only [List.getElem?_toArray, List.getElem?_cons_succ, List.getElem?_cons_zero]; rfl)
        case hr40 =>
          go_simp
          refine (Same_any R1.L R1.O R1.L R1.O Aa Ab R1.cs.length R1.cs.length ca cb R1.cs R1.cs (by omega) _ ((hCa13.out.below hqw21).more hqw21.size) ((hCb13.out.below hqw21).more hqw21.size) true (sameS_self _ _ _)).mono ?_
          rintro e w22 ⟨rfl, hbw22⟩
          have hqw22 : Below w13.heap.size w13 w22 := bstep hqw21 hbw22 (Nat.le_refl _)
          go_wp2_with fail
          refine hK.out _ _ ?_ (fun hHeld => ?_)
          · exact hkS.out _ hqw22
          clear hK K
          try simp only [Act.put, List.setIfInBounds_toArray, List.set_cons_zero, List.set_cons_succ]
          refine wpAnyH_take (i := 11) (oi := ?o27) (v := ?hv27) ?hi27 (by kernel_rfl) (by kernel_rfl) (by kernel_rfl) ?hq27 ?hy27 (by assumption) ?hr27
          case hi27 => (simp only [List.getElem?_toArray, List.getElem?_cons_succ, List.getElem?_cons_zero]; rfl)
          case hq27 => exact fun _ _ _ h => h
          case hy27 => exact Or.inl ⟨by rfl, by intro w hSw; (try dsimp only at hSw); go_simp; try with_reducible rfl⟩
          simp only [Act.put, List.setIfInBounds_toArray, List.set_cons_zero, List.set_cons_succ]
          refine wpAnyH_take (i := 12) (oi := ?o28) (v := ?hv28) ?hi28 (by kernel_rfl) (by kernel_rfl) (by kernel_rfl) ?hq28 ?hy28 (by assumption) ?hr28
          case hi28 => (simp only [List.getElem?_toArray, List.getElem?_cons_succ, List.getElem?_cons_zero]; rfl)
          case hq28 => exact fun _ _ _ h => h
          case hy28 => exact Or.inl ⟨by rfl, by intro w hSw; (try dsimp only at hSw); go_simp; try with_reducible rfl⟩
          simp only [Act.put, List.setIfInBounds_toArray, List.set_cons_zero, List.set_cons_succ]
          refine wpAnyH_take (i := 13) (oi := ?o29) (v := ?hv29) ?hi29 (by kernel_rfl) (by kernel_rfl) (by kernel_rfl) ?hq29 ?hy29 (by assumption) ?hr29
          case hi29 => (simp only [List.getElem?_toArray, List.getElem?_cons_succ, List.getElem?_cons_zero]; rfl)
          case hq29 => exact fun _ _ _ h => h
          case hy29 => exact Or.inl ⟨by rfl, by intro w hSw; (try dsimp only at hSw); go_simp; try with_reducible rfl⟩
          simp only [Act.put, List.setIfInBounds_toArray, List.set_cons_zero, List.set_cons_succ]
          refine wpAnyH_take (i := 14) (oi := ?o30) (v := ?hv30) ?hi30 (by kernel_rfl) (by kernel_rfl) (by kernel_rfl) ?hq30 ?hy30 (by assumption) ?hr30
          case hi30 => (simp only [List.getElem?_toArray, List.getElem?_cons_succ, List.getElem?_cons_zero]; rfl)
          case hq30 => exact fun _ _ _ h => h
          case hy30 => exact Or.inl ⟨by rfl, by intro w hSw; (try dsimp only at hSw); go_simp; try with_reducible rfl⟩
          simp only [Act.put, List.setIfInBounds_toArray, List.set_cons_zero, List.set_cons_succ]
          refine wpAnyH_take (i := 15) (oi := ?o31) (v := ?hv31) ?hi31 (by kernel_rfl) (by kernel_rfl) (by kernel_rfl) ?hq31 ?hy31 (by assumption) ?hr31
          case hi31 => (simp only [List.getElem?_toArray, List.getElem?_cons_succ, List.getElem?_cons_zero]; rfl)
          case hq31 => exact fun _ _ _ h => h
          case hy31 => exact Or.inl ⟨by rfl, by intro w hSw; (try dsimp only at hSw); go_simp; try with_reducible rfl⟩
          simp only [Act.put, List.setIfInBounds_toArray, List.set_cons_zero, List.set_cons_succ]
          refine wpAnyH_take (i := 16) (oi := ?o32) (v := ?hv32) ?hi32 (by kernel_rfl) (by kernel_rfl) (by kernel_rfl) ?hq32 ?hy32 (by assumption) ?hr32
          case hi32 => (simp only [List.getElem?_toArray, List.getElem?_cons_succ, List.getElem?_cons_zero]; rfl)
          case hq32 => exact fun _ _ _ h => h
          case hy32 => exact Or.inl ⟨by rfl, by intro w hSw; (try dsimp only at hSw); go_simp; try with_reducible rfl⟩
          simp only [Act.put, List.setIfInBounds_toArray, List.set_cons_zero, List.set_cons_succ]
          refine wpAnyH_take (i := 17) (oi := ?o33) (v := ?hv33) ?hi33 (by kernel_rfl) (by kernel_rfl) (by kernel_rfl) ?hq33 ?hy33 (by assumption) ?hr33
          case hi33 => (simp only [List.getElem?_toArray, List.getElem?_cons_succ, List.getElem?_cons_zero]; rfl)
          case hq33 => exact fun _ _ _ h => h
          case hy33 => exact Or.inl ⟨by rfl, by intro w hSw; (try dsimp only at hSw); go_simp; try with_reducible rfl⟩
          simp only [Act.put, List.setIfInBounds_toArray, List.set_cons_zero, List.set_cons_succ]
          refine wpAnyH_take (i := 18) (oi := ?o34) (v := ?hv34) ?hi34 (by kernel_rfl) (by kernel_rfl) (by kernel_rfl) ?hq34 ?hy34 (by assumption) ?hr34
          case hi34 => (simp only [List.getElem?_toArray, List.getElem?_cons_succ, List.getElem?_cons_zero]; rfl)
          case hq34 => exact fun _ _ _ h => h
          case hy34 => exact Or.inl ⟨by rfl, by intro w hSw; (try dsimp only at hSw); go_simp; try with_reducible rfl⟩
          simp only [Act.put, List.setIfInBounds_toArray, List.set_cons_zero, List.set_cons_succ]
          refine wpAnyH_take (i := 19) (oi := ?o35) (v := ?hv35) ?hi35 (by kernel_rfl) (by kernel_rfl) (by kernel_rfl) ?hq35 ?hy35 (by assumption) ?hr35
          case hi35 => (simp only [List.getElem?_toArray, List.getElem?_cons_succ, List.getElem?_cons_zero]; rfl)
          case hq35 => exact fun _ _ _ h => h
          case hy35 => exact Or.inl ⟨by rfl, by intro w hSw; (try dsimp only at hSw); go_simp; try with_reducible rfl⟩
          simp only [Act.put, List.setIfInBounds_toArray, List.set_cons_zero, List.set_cons_succ]
          refine wpAnyH_ready (rs := [20]) (by kernel_rfl) (by simp) ?_
          refine (AllReadyH.cons (o := ?o36) ?hi36 (fun K hK => ?hr36) AllReadyH.nil)
          case hi36 => (simp only [List.getElem?_toArray, List.getElem?_cons_succ, List.getElem?_cons_zero]; rfl)
          case hr36 =>
            go_simp
            refine (Same_any R2.L R2.O R2.L R2.O Ad Ah R2.cs.length R2.cs.length cd ch R2.cs R2.cs (by omega) _ ((hCd13.out.below hqw22).more hqw22.size) ((hCh13.out.below hqw22).more hqw22.size) true (sameS_self _ _ _)).mono ?_
            rintro e w23 ⟨rfl, hbw23⟩
            have hqw23 : Below w13.heap.size w13 w23 := bstep hqw22 hbw23 (Nat.le_refl _)
            go_wp2_with fail
            refine hK.out _ _ ?_ (fun hHeld => ?_)
            · exact hkS.out _ hqw23
            clear hK K
            try simp only [Act.put, List.setIfInBounds_toArray, List.set_cons_zero, List.set_cons_succ]
            refine wpAnyH_take (i := 21) (oi := ?o17) (v := ?hv17) ?hi17 (by kernel_rfl) (by kernel_rfl) (by kernel_rfl) ?hq17 ?hy17 (by assumption) ?hr17
            case hi17 => (simp only [List.getElem?_toArray, List.getElem?_cons_succ, List.getElem?_cons_zero]; rfl)
            case hq17 => exact fun _ _ _ h => h
            case hy17 => exact Or.inl ⟨by rfl, by intro w hSw; (try dsimp only at hSw); go_simp; try with_reducible rfl⟩
            simp only [Act.put, List.setIfInBounds_toArray, List.set_cons_zero, List.set_cons_succ]
            refine wpAnyH_take (i := 22) (oi := ?o18) (v := ?hv18) ?hi18 (by kernel_rfl) (by kernel_rfl) (by kernel_rfl) ?hq18 ?hy18 (by assumption) ?hr18
            case hi18 => (simp only [List.getElem?_toArray, List.getElem?_cons_succ, List.getElem?_cons_zero]; rfl)
            case hq18 => exact fun _ _ _ h => h
            case hy18 => exact Or.inl ⟨by rfl, by intro w hSw; (try dsimp only at hSw); go_simp; try with_reducible rfl⟩
            simp only [Act.put, List.setIfInBounds_toArray, List.set_cons_zero, List.set_cons_succ]
            refine wpAnyH_take (i := 23) (oi := ?o19) (v := ?hv19) ?hi19 (by kernel_rfl) (by kernel_rfl) (by kernel_rfl) ?hq19 ?hy19 (by assumption) ?hr19
            case hi19 => (simp only [List.getElem?_toArray, List.getElem?_cons_succ, List.getElem?_cons_zero]; rfl)
            case hq19 => exact fun _ _ _ h => h
            case hy19 => exact Or.inl ⟨by rfl, by intro w hSw; (try dsimp only at hSw); go_simp; try with_reducible rfl⟩
            simp only [Act.put, List.setIfInBounds_toArray, List.set_cons_zero, List.set_cons_succ]
            refine wpAnyH_take (i := 24) (oi := ?o20) (v := ?hv20) ?hi20 (by kernel_rfl) (by kernel_rfl) (by kernel_rfl) ?hq20 ?hy20 (by assumption) ?hr20
            case hi20 => (simp only [List.getElem?_toArray, List.getElem?_cons_succ, List.getElem?_cons_zero]; rfl)
            case hq20 => exact fun _ _ _ h => h
            case hy20 => exact Or.inl ⟨by rfl, by intro w hSw; (try dsimp only at hSw); go_simp; try with_reducible rfl⟩
            simp only [Act.put, List.setIfInBounds_toArray, List.set_cons_zero, List.set_cons_succ]
            refine wpAnyH_take (i := 25) (oi := ?o21) (v := ?hv21) ?hi21 (by kernel_rfl) (by kernel_rfl) (by kernel_rfl) ?hq21 ?hy21 (by assumption) ?hr21
            case hi21 => (simp only [List.getElem?_toArray, List.getElem?_cons_succ, List.getElem?_cons_zero]; rfl)
            case hq21 => exact fun _ _ _ h => h
            case hy21 => exact Or.inl ⟨by rfl, by intro w hSw; (try dsimp only at hSw); go_simp; try with_reducible rfl⟩
            simp only [Act.put, List.setIfInBounds_toArray, List.set_cons_zero, List.set_cons_succ]
            refine wpAnyH_take (i := 26) (oi := ?o22) (v := ?hv22) ?hi22 (by kernel_rfl) (by kernel_rfl) (by kernel_rfl) ?hq22 ?hy22 (by assumption) ?hr22
            case hi22 => (simp only [List.getElem?_toArray, List.getElem?_cons_succ, List.getElem?_cons_zero]; rfl)
            case hq22 => exact fun _ _ _ h => h
            case hy22 => exact Or.inl ⟨by rfl, by intro w hSw; (try dsimp only at hSw); go_simp; try with_reducible rfl⟩
            simp only [Act.put, List.setIfInBounds_toArray, List.set_cons_zero, List.set_cons_succ]
            refine wpAnyH_take (i := 27) (oi := ?o23) (v := ?hv23) ?hi23 (by kernel_rfl) (by kernel_rfl) (by kernel_rfl) ?hq23 ?hy23 (by assumption) ?hr23
            case hi23 => (simp only [List.getElem?_toArray, List.getElem?_cons_succ, List.getElem?_cons_zero]; rfl)
            case hq23 => exact fun _ _ _ h => h
            case hy23 => exact Or.inl ⟨by rfl, by intro w hSw; (try dsimp only at hSw); go_simp; try with_reducible rfl⟩
            simp only [Act.put, List.setIfInBounds_toArray, List.set_cons_zero, List.set_cons_succ]
            refine wpAnyH_take (i := 28) (oi := ?o24) (v := ?hv24) ?hi24 (by kernel_rfl) (by kernel_rfl) (by kernel_rfl) ?hq24 ?hy24 (by assumption) ?hr24
            case hi24 => (simp only [List.getElem?_toArray, List.getElem?_cons_succ, List.getElem?_cons_zero]; rfl)
            case hq24 => exact fun _ _ _ h => h
            case hy24 => exact Or.inl ⟨by rfl, by intro w hSw; (try dsimp only at hSw); go_simp; try with_reducible rfl⟩
            simp only [Act.put, List.setIfInBounds_toArray, List.set_cons_zero, List.set_cons_succ]
            refine wpAnyH_take (i := 29) (oi := ?o25) (v := ?hv25) ?hi25 (by kernel_rfl) (by kernel_rfl) (by kernel_rfl) ?hq25 ?hy25 (by assumption) ?hr25
            case hi25 => (simp only [List.getElem?_toArray, List.getElem?_cons_succ, List.getElem?_cons_zero]; rfl)
            case hq25 => exact fun _ _ _ h => h
            case hy25 => exact Or.inl ⟨by rfl, by intro w hSw; (try dsimp only at hSw); go_simp; try with_reducible rfl⟩
            simp only [Act.put, List.setIfInBounds_toArray, List.set_cons_zero, List.set_cons_succ]
            refine wpAnyH_ready (rs := [30]) (by kernel_rfl) (by simp) ?_
            refine (AllReadyH.cons (o := ?o26) ?hi26 (fun K hK => ?hr26) AllReadyH.nil)
            case hi26 => (simp only [List.getElem?_toArray, List.getElem?_cons_succ, List.getElem?_cons_zero]; rfl)
            case hr26 =>
              go_simp
              refine (SameCells_any Ap Aq r1.length r1.length cp cq r1 r1 (by omega) _ _ _ ((hCp13.out.below hqw23).more hqw23.size) ((hCq13.out.below hqw23).more hqw23.size) true (sameL_self _)).mono ?_
              rintro e w24 ⟨rfl, hbw24⟩
              have hqw24 : Below w13.heap.size w13 w24 := bstep hqw23 hbw24 (Nat.le_refl _)
              go_wp2_with fail
              refine hK.out _ _ ?_ (fun hHeld => ?_)
              · exact hkS.out _ hqw24
              clear hK K
              try simp only [Act.put, List.setIfInBounds_toArray, List.set_cons_zero, List.set_cons_succ]
              refine wpAnyH_take (i := 31) (oi := ?o12) (v := ?hv12) ?hi12 (by kernel_rfl) (by kernel_rfl) (by kernel_rfl) ?hq12 ?hy12 (by assumption) ?hr12
              case hi12 => (simp only [List.getElem?_toArray, List.getElem?_cons_succ, List.getElem?_cons_zero]; rfl)
              case hq12 => exact fun _ _ _ h => h
              case hy12 => exact Or.inl ⟨by rfl, by intro w hSw; (try dsimp only at hSw); go_simp; try with_reducible rfl⟩
              simp only [Act.put, List.setIfInBounds_toArray, List.set_cons_zero, List.set_cons_succ]
              refine wpAnyH_take (i := 32) (oi := ?o13) (v := ?hv13) ?hi13 (by kernel_rfl) (by kernel_rfl) (by kernel_rfl) ?hq13 ?hy13 (by assumption) ?hr13
              case hi13 => (simp only [List.getElem?_toArray, List.getElem?_cons_succ, List.getElem?_cons_zero]; rfl)
              case hq13 => exact fun _ _ _ h => h
              case hy13 => exact Or.inl ⟨by rfl, by intro w hSw; (try dsimp only at hSw); go_simp; try with_reducible rfl⟩
              simp only [Act.put, List.setIfInBounds_toArray, List.set_cons_zero, List.set_cons_succ]
              refine wpAnyH_take (i := 33) (oi := ?o14) (v := ?hv14) ?hi14 (by kernel_rfl) (by kernel_rfl) (by kernel_rfl) ?hq14 ?hy14 (by assumption) ?hr14
              case hi14 => (simp only [List.getElem?_toArray, List.getElem?_cons_succ, List.getElem?_cons_zero]; rfl)
              case hq14 => exact fun _ _ _ h => h
              case hy14 => exact Or.inl ⟨by rfl, by intro w hSw; (try dsimp only at hSw); go_simp; try with_reducible rfl⟩
              simp only [Act.put, List.setIfInBounds_toArray, List.set_cons_zero, List.set_cons_succ]
              refine wpAnyH_take (i := 34) (oi := ?o15) (v := ?hv15) ?hi15 (by kernel_rfl) (by kernel_rfl) (by kernel_rfl) ?hq15 ?hy15 (by assumption) ?hr15
              case hi15 => (simp only [List.getElem?_toArray, List.getElem?_cons_succ, List.getElem?_cons_zero]; rfl)
              case hq15 => exact fun _ _ _ h => h
              case hy15 => exact Or.inl ⟨by rfl, by intro w hSw; (try dsimp only at hSw); go_simp; try with_reducible rfl⟩
              simp only [Act.put, List.setIfInBounds_toArray, List.set_cons_zero, List.set_cons_succ]
              refine wpAnyH_ready (rs := [35]) (by kernel_rfl) (by simp) ?_
              refine (AllReadyH.cons (o := ?o16) ?hi16 (fun K hK => ?hr16) AllReadyH.nil)
              case hi16 => (simp only [List.getElem?_toArray, List.getElem?_cons_succ, List.getElem?_cons_zero]; rfl)
              case hr16 =>
                go_simp
                refine (SameCells_any Ap2 Aq2 r2.length r2.length cp2 cq2 r2 r2 (by omega) _ _ _ ((hCp213.out.below hqw24).more hqw24.size) ((hCq213.out.below hqw24).more hqw24.size) true (sameL_self _)).mono ?_
                rintro e w25 ⟨rfl, hbw25⟩
                have hqw25 : Below w13.heap.size w13 w25 := bstep hqw24 hbw25 (Nat.le_refl _)
                go_wp2_with fail
                refine hK.out _ _ ?_ (fun hHeld => ?_)
                · exact hkS.out _ hqw25
                clear hK K
                try simp only [Act.put, List.setIfInBounds_toArray, List.set_cons_zero, List.set_cons_succ]
                refine wpAnyH_take (i := 36) (oi := ?o5) (v := ?hv5) ?hi5 (by kernel_rfl) (by kernel_rfl) (by kernel_rfl) ?hq5 ?hy5 (by assumption) ?hr5
                case hi5 => (simp only [List.getElem?_toArray, List.getElem?_cons_succ, List.getElem?_cons_zero]; rfl)
                case hq5 => exact fun _ _ _ h => h
                case hy5 => exact Or.inl ⟨by rfl, by intro w hSw; (try dsimp only at hSw); go_simp; try with_reducible rfl⟩
                simp only [Act.put, List.setIfInBounds_toArray, List.set_cons_zero, List.set_cons_succ]
                refine wpAnyH_take (i := 37) (oi := ?o6) (v := ?hv6) ?hi6 (by kernel_rfl) (by kernel_rfl) (by kernel_rfl) ?hq6 ?hy6 (by assumption) ?hr6
                case hi6 => (simp only [List.getElem?_toArray, List.getElem?_cons_succ, List.getElem?_cons_zero]; rfl)
                case hq6 => exact fun _ _ _ h => h
                case hy6 => exact Or.inl ⟨by rfl, by intro w hSw; (try dsimp only at hSw); go_simp; try with_reducible rfl⟩
                simp only [Act.put, List.setIfInBounds_toArray, List.set_cons_zero, List.set_cons_succ]
                refine wpAnyH_take (i := 38) (oi := ?o7) (v := ?hv7) ?hi7 (by kernel_rfl) (by kernel_rfl) (by kernel_rfl) ?hq7 ?hy7 (by assumption) ?hr7
                case hi7 => (simp only [List.getElem?_toArray, List.getElem?_cons_succ, List.getElem?_cons_zero]; rfl)
                case hq7 => exact fun _ _ _ h => h
                case hy7 => exact Or.inl ⟨by rfl, by intro w hSw; (try dsimp only at hSw); go_simp; try with_reducible rfl⟩
                simp only [Act.put, List.setIfInBounds_toArray, List.set_cons_zero, List.set_cons_succ]
                refine wpAnyH_take (i := 39) (oi := ?o8) (v := ?hv8) ?hi8 (by kernel_rfl) (by kernel_rfl) (by kernel_rfl) ?hq8 ?hy8 (by assumption) ?hr8
                case hi8 => (simp only [List.getElem?_toArray, List.getElem?_cons_succ, List.getElem?_cons_zero]; rfl)
                case hq8 => exact fun _ _ _ h => h
                case hy8 => exact Or.inl ⟨by rfl, by intro w hSw; (try dsimp only at hSw); go_simp; try with_reducible rfl⟩
                simp only [Act.put, List.setIfInBounds_toArray, List.set_cons_zero, List.set_cons_succ]
                refine wpAnyH_take (i := 40) (oi := ?o9) (v := ?hv9) ?hi9 (by kernel_rfl) (by kernel_rfl) (by kernel_rfl) ?hq9 ?hy9 (by assumption) ?hr9
                case hi9 => (simp only [List.getElem?_toArray, List.getElem?_cons_succ, List.getElem?_cons_zero]; rfl)
                case hq9 => exact fun _ _ _ h => h
                case hy9 => exact Or.inl ⟨by rfl, by intro w hSw; (try dsimp only at hSw); go_simp; try with_reducible rfl⟩
                simp only [Act.put, List.setIfInBounds_toArray, List.set_cons_zero, List.set_cons_succ]
                refine wpAnyH_take (i := 41) (oi := ?o10) (v := ?hv10) ?hi10 (by kernel_rfl) (by kernel_rfl) (by kernel_rfl) ?hq10 ?hy10 (by assumption) ?hr10
                case hi10 => (simp only [List.getElem?_toArray, List.getElem?_cons_succ, List.getElem?_cons_zero]; rfl)
                case hq10 => exact fun _ _ _ h => h
                case hy10 => exact Or.inl ⟨by rfl, by intro w hSw; (try dsimp only at hSw); go_simp; try with_reducible rfl⟩
                simp only [Act.put, List.setIfInBounds_toArray, List.set_cons_zero, List.set_cons_succ]
                refine wpAnyH_take (i := 42) (oi := ?o11) (v := ?hv11) ?hi11 (by kernel_rfl) (by kernel_rfl) (by kernel_rfl) ?hq11 ?hy11 (by assumption) ?hr11
                case hi11 => (simp only [List.getElem?_toArray, List.getElem?_cons_succ, List.getElem?_cons_zero]; rfl)
                case hq11 => exact fun _ _ _ h => h
                case hy11 => exact Or.inl ⟨by rfl, by intro w hSw; (try dsimp only at hSw); go_simp; try with_reducible rfl⟩
                simp only [Act.put, List.setIfInBounds_toArray, List.set_cons_zero, List.set_cons_succ]
                refine wpAnyH_done (by kernel_rfl) ?_ _
                go_wp2_with fail
                go_ret
                exact ⟨rfl, bstep hw13 hqw25 (Nat.le_refl _)⟩
theorem few_le {n : Nat} (h : fewB n = true) : n ≤ 513 := by unfold fewB at h; simp at h; omega
theorem addR_len (L O : Int) (cs : List C5) (x : C5) (h : cs.length ≤ 513) : (addR L O cs x).cs.length ≤ 1000000 := by
  rcases addR_cases L O cs x with ⟨e, _, hR⟩ | ⟨_, _, _, _, hR⟩ <;> rw [hR]
  · simp
  · have := insL_length cs (posL x cs) x (posL_le x cs)
    show (insL cs (posL x cs) x).length ≤ _
    omega
theorem remR_len (L O : Int) (cs : List C5) (x : C5) (h : cs.length ≤ 513) : (remR L O cs x).cs.length ≤ 1000000 := by
  unfold remR
  split
  · simp
  · split
    · show (delL cs (posL x cs)).length ≤ _
      unfold delL
      simp
      omega
    · simp
theorem difR_len (L O : Int) (cs : List C5) (L' O' : Int) (ds : List C5) (h : cs.length ≤ 513) (h' : ds.length ≤ 513) : (difR L O cs L' O' ds).1.length ≤ 1000000 ∧ (difR L O cs L' O' ds).2.1.length ≤ 1000000 := by
  have h1 : (keepL ds cs).length ≤ cs.length := List.length_filter_le _ _
  have h2 : (keepL cs ds).length ≤ ds.length := List.length_filter_le _ _
  unfold difR
  (repeat' split) <;> constructor <;> simp <;> omega
theorem atR_len (L O : Int) (cs : List C5) (slot : Int) (h : cs.length ≤ 513) : (atR L O cs slot).length ≤ 1000000 := by
  have h1 : (slotC (slot % L) cs).length ≤ cs.length := List.length_filter_le _ _
  unfold atR
  split
  · omega
  · simp
theorem walk_Edits (L O L' O' slot : Int) (A A' : Option Addr) (n c n' c' : Nat) (cs ds : List C5) (x : C5) (hn : n ≤ 9223372036854775807) (hn' : n' ≤ 9223372036854775807) (hslot : slot ≤ 9223372036854775807) (w : World) (ht : Tabs w) (hcs : Cells w w.heap.size A n cs) (hds : Cells w w.heap.size A' n' ds) :
    Calls Tryz.prog 9 #[.agg #[.int .i64 L, .int .i64 O, .slice A n c], .agg #[.int .i64 L', .int .i64 O', .slice A' n' c'], .int .i64 slot, .agg #[.int .i64 x.s, .int .i64 x.o, .int .i64 x.f, .int .i64 x.t, .int .i64 x.w]] w fun e w' => e = .returned (.bool true) ∧ Below w.heap.size w w' := by
  cases hf1 : fewB n
  · exact walk_Edits_s L O L' O' slot A A' n c n' c' cs ds x hn hf1 w (Lib.hid ht) (Lib.hid hcs) (Lib.hid hds)
  have h1 := few_le hf1
  cases hf2 : fewB n'
  · exact walk_Edits_t L O L' O' slot A A' n c n' c' cs ds x h1 hn' hf1 hf2 w (Lib.hid ht) (Lib.hid hcs) (Lib.hid hds)
  have h2 := few_le hf2
  have hl1 := hcs.1
  have hl2 := hds.1
  have hd := difR_len L O cs L' O' ds (by omega) (by omega)
  exact walk_Edits_good L O L' O' slot A A' n c n' c' cs ds x h1 h2 hf1 hf2 hslot _ _ _ _ _ _ (Lib.hid rfl) (Lib.hid rfl) (Lib.hid rfl) (Lib.hid rfl) (addR_len L O cs x (by omega)) (remR_len L O cs x (by omega)) hd.1 hd.2 (atR_len L O cs slot (by omega)) w (Lib.hid ht) (Lib.hid hcs) (Lib.hid hds)
end Go.Proofs.YtnddjcadkbjjhaaGreatDoor
