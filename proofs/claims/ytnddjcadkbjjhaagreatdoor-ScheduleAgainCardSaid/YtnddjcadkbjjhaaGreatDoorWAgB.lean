/-
  The law ScheduleAgain, walked.
-/
import Derived.Test.YtnddjcadkbjjhaaGreatDoorWAgA
namespace Go.Proofs.YtnddjcadkbjjhaaGreatDoor
open Go.RowKit

set_option maxHeartbeats 8000000 in
set_option maxRecDepth 100000 in
theorem again_good (N : NT) (A' : Option Addr) (n' c' : Nat) (fs : List F6) (hn' : n' ≤ 9223372036854775807) (L O : Int) (A : Option Addr) (n c : Nat) (cs : List C5) (hn : n ≤ 9223372036854775807) (times slot : Int) (hfew : fewN N = true) (hl20 : n' ≤ 20) (hn40 : n ≤ 40) (ht0 : 0 ≤ times) (ht1 : times ≤ 255) (hs0 : 0 ≤ slot) (hs1 : slot ≤ 65535) (R : PRes) (hR : Hid (repR L O cs (1 + times % 4) = R)) (hRe : R.e = 0) (T : List C5) (hT : Hid (atR L O cs slot = T)) (d : Int) (hT' : Hid (atR R.L R.O R.cs slot = T.map (shiftC d))) (hTl : T.length ≤ 40) (hRl : R.cs.length ≤ 512) (E1 E2 : Int × Int) (hr1 : Hid (checkR N fs L O cs = E1)) (hr2 : Hid (checkR N fs R.L R.O R.cs = E2)) (heq : Hid (E1.2 = 11 ∨ E1.2 = E2.2)) (w : World) (ht : Hid (Tabs w)) (hNM : Hid (NetO w w.heap.size N)) (hFM : Hid (Flows w w.heap.size A' n' fs)) (hcs : Hid (Cells w w.heap.size A n cs)) :
    Calls Tryz.prog 7 #[NV N, .slice A' n' c', .agg #[.int .i64 L, .int .i64 O, .slice A n c], .int .u8 times, .int .u16 slot] w fun e w' => e = .returned (.bool true) ∧ Below w.heap.size w w' := by
  obtain ⟨hw0, hN0p, hS0p, hSl0⟩ := boxNS w N L O (.slice A n c)
  have hNl0 := Nat.lt_of_succ_lt hSl0
  have hN0 := Lib.hid hN0p
  have hS0 := Lib.hid hS0p
  have hTb0 := Lib.hid (ht.out.later hw0)
  have hM0 := Lib.hid ((hNM.out.below hw0).more hw0.size)
  have hF0 := Lib.hid ((hFM.out.below hw0).more hw0.size)
  have hC0 := Lib.hid ((hcs.out.below hw0).more hw0.size)
  have hl := hcs.out.1
  clear hN0p hS0p hNM hFM hcs ht
  go_enter Tryz.func7, Tryz.ntmps7
  go_upto_region 1 with fail
  revert hw0 hSl0 hNl0 hN0 hS0 hTb0 hM0 hF0 hC0
  generalize (w.alloc (ONT N)).alloc (N30 L O (.slice A n c)) = w0
  intro hw0 hSl0 hNl0 hN0 hS0 hTb0 hM0 hF0 hC0
  obtain ⟨n0, n1, n2, n3, n4, n5⟩ := id hN0.out
  obtain ⟨s0, s1, s2⟩ := id hS0.out
  go_wp2_with fail
  refine (awake_any _ hTb0).mono ?_
  rintro e w1 ⟨rfl, hb1⟩
  clear hTb0
  have hN1 := Lib.hid (hN0.out.below hb1 hNl0)
  have hNl1 := Nat.lt_of_lt_of_le hNl0 hb1.size
  have hS1 := Lib.hid (hS0.out.below hb1 hSl0)
  have hSl1 := Nat.lt_of_lt_of_le hSl0 hb1.size
  have hM1 := Lib.hid ((hM0.out.below hb1).more hb1.size)
  have hF1 := Lib.hid ((hF0.out.below hb1).more hb1.size)
  have hC1 := Lib.hid ((hC0.out.below hb1).more hb1.size)
  have hw1 := bstep hw0 hb1 (Nat.le_refl _)
  clear hN0 hS0 hM0 hF0 hC0 hw0 hNl0 hSl0
  (try clear n0 n1 n2 n3 n4 n5)
  (try clear s0 s1 s2)
  (try clear r0 r1 r2)
  obtain ⟨n0, n1, n2, n3, n4, n5⟩ := id hN1.out
  obtain ⟨s0, s1, s2⟩ := id hS1.out
  go_wp2_with fail
  refine (FewN_any N true hfew _ hM1.out).mono ?_
  rintro e w2 ⟨rfl, hb2⟩
  have hN2 := Lib.hid (hN1.out.below hb2 hNl1)
  have hNl2 := Nat.lt_of_lt_of_le hNl1 hb2.size
  have hS2 := Lib.hid (hS1.out.below hb2 hSl1)
  have hSl2 := Nat.lt_of_lt_of_le hSl1 hb2.size
  have hM2 := Lib.hid ((hM1.out.below hb2).more hb2.size)
  have hF2 := Lib.hid ((hF1.out.below hb2).more hb2.size)
  have hC2 := Lib.hid ((hC1.out.below hb2).more hb2.size)
  have hw2 := bstep hw1 hb2 (Nat.le_refl _)
  clear hN1 hS1 hM1 hF1 hC1 hw1 hNl1 hSl1
  (try clear n0 n1 n2 n3 n4 n5)
  (try clear s0 s1 s2)
  (try clear r0 r1 r2)
  obtain ⟨n0, n1, n2, n3, n4, n5⟩ := id hN2.out
  obtain ⟨s0, s1, s2⟩ := id hS2.out
  go_wp2_with fail
  refine (rep_R L O (1 + times % 4) A n c cs R hR.out (by omega) _ hC2.out).mono ?_
  rintro e w3 ⟨AR, cR, rfl, hCRp, _, hb3⟩
  have hCR3 := Lib.hid hCRp
  clear hCRp
  have hN3 := Lib.hid (hN2.out.below hb3 hNl2)
  have hNl3 := Nat.lt_of_lt_of_le hNl2 hb3.size
  have hS3 := Lib.hid (hS2.out.below hb3 hSl2)
  have hSl3 := Nat.lt_of_lt_of_le hSl2 hb3.size
  have hM3 := Lib.hid ((hM2.out.below hb3).more hb3.size)
  have hF3 := Lib.hid ((hF2.out.below hb3).more hb3.size)
  have hC3 := Lib.hid ((hC2.out.below hb3).more hb3.size)
  have hw3 := bstep hw2 hb3 (Nat.le_refl _)
  clear hN2 hS2 hM2 hF2 hC2 hw2 hNl2 hSl2
  (try clear n0 n1 n2 n3 n4 n5)
  (try clear s0 s1 s2)
  (try clear r0 r1 r2)
  obtain ⟨n0, n1, n2, n3, n4, n5⟩ := id hN3.out
  obtain ⟨s0, s1, s2⟩ := id hS3.out
  go_upto_region 6 with fail
  clear n0 n1 n2 n3 n4 n5 s0 s1 s2
  obtain ⟨w4, hw4e⟩ : ∃ W, W = w3.alloc (N30 R.L R.O (.slice AR R.cs.length cR)) := ⟨_, rfl⟩
  have hb4 : Below w3.heap.size w3 w4 := by rw [hw4e]; exact (Below.refl _ _).alloc (Nat.le_refl _) _
  have hR4 : Hid (BoxS w4 w3.heap.size R.L R.O (.slice AR R.cs.length cR)) := Lib.hid (by rw [hw4e]; exact BoxS.new _ _ _ 30 w3)
  have hRl4 : w3.heap.size < w4.heap.size := by rw [hw4e]; simp
  rw [← hw4e]
  clear hw4e
  have hN4 := Lib.hid (hN3.out.below hb4 hNl3)
  have hNl4 := Nat.lt_of_lt_of_le hNl3 hb4.size
  have hS4 := Lib.hid (hS3.out.below hb4 hSl3)
  have hSl4 := Nat.lt_of_lt_of_le hSl3 hb4.size
  have hM4 := Lib.hid ((hM3.out.below hb4).more hb4.size)
  have hF4 := Lib.hid ((hF3.out.below hb4).more hb4.size)
  have hC4 := Lib.hid ((hC3.out.below hb4).more hb4.size)
  have hCR4 := Lib.hid ((hCR3.out.below hb4).more hb4.size)
  have hw4 := bstep hw3 hb4 (Nat.le_refl _)
  clear hN3 hS3 hM3 hF3 hC3 hCR3 hw3 hNl3 hSl3
  (try clear n0 n1 n2 n3 n4 n5)
  (try clear s0 s1 s2)
  (try clear r0 r1 r2)
  obtain ⟨n0, n1, n2, n3, n4, n5⟩ := id hN4.out
  obtain ⟨s0, s1, s2⟩ := id hS4.out
  obtain ⟨r0, r1, r2⟩ := id hR4.out
  have hws : IntKind.i64.wrap slot = slot := IntWalk.i64_in _ (by omega)
  go_upto_region 8 with fail
  clear n0 n1 n2 n3 n4 n5 s0 s1 s2 r0 r1 r2
  have hkS : ∀ W, Below w4.heap.size w4 W → (fun W => W.cell? ⟨(w.heap.size + 1), 0, none⟩ = some (.int .i64 L) ∧ W.cell? ⟨(w.heap.size + 1), 1, none⟩ = some (.int .i64 O) ∧ W.cell? ⟨(w.heap.size + 1), 2, none⟩ = some (.slice A n c) ∧ W.cell? ⟨w3.heap.size, 0, none⟩ = some (.int .i64 R.L) ∧ W.cell? ⟨w3.heap.size, 1, none⟩ = some (.int .i64 R.O) ∧ W.cell? ⟨w3.heap.size, 2, none⟩ = some (.slice AR R.cs.length cR)) W := fun W h => by
    obtain ⟨i00, i01, i02⟩ := hS4.out.below h hSl4
    obtain ⟨i10, i11, i12⟩ := hR4.out.below h hRl4
    exact ⟨i00, i01, i02, i10, i11, i12⟩
  have hkS := Lib.hid hkS
  refine wp_region_held_drew (S := (fun W => W.cell? ⟨(w.heap.size + 1), 0, none⟩ = some (.int .i64 L) ∧ W.cell? ⟨(w.heap.size + 1), 1, none⟩ = some (.int .i64 O) ∧ W.cell? ⟨(w.heap.size + 1), 2, none⟩ = some (.slice A n c) ∧ W.cell? ⟨w3.heap.size, 0, none⟩ = some (.int .i64 R.L) ∧ W.cell? ⟨w3.heap.size, 1, none⟩ = some (.int .i64 R.O) ∧ W.cell? ⟨w3.heap.size, 2, none⟩ = some (.slice AR R.cs.length cR))) (by kernel_rfl) (hkS.out _ (Below.refl _ w4).drew) (fun hHeld => ?_)
  refine wpAnyH_take (i := 0) (oi := ?o1) (v := ?hv1) ?hi1 (by kernel_rfl) (by kernel_rfl) (by kernel_rfl) ?hq1 ?hy1 (by assumption) ?hr1
  case hi1 => (simp only [List.getElem?_toArray, List.getElem?_cons_zero]; rfl)
  case hq1 => exact fun _ _ _ h => h
  case hy1 => exact Or.inl ⟨by rfl, by intro w hSw; (try dsimp only at hSw); go_simp; try with_reducible rfl⟩
  simp only [Act.put, List.setIfInBounds_toArray, List.set_cons_zero, List.set_cons_succ]
  refine wpAnyH_take (i := 1) (oi := ?o2) (v := ?hv2) ?hi2 (by kernel_rfl) (by kernel_rfl) (by kernel_rfl) ?hq2 ?hy2 (by assumption) ?hr2
  case hi2 => (simp only [List.getElem?_toArray, List.getElem?_cons_succ, List.getElem?_cons_zero]; rfl)
  case hq2 => exact fun _ _ _ h => h
  case hy2 => exact Or.inl ⟨by rfl, by intro w hSw; (try dsimp only at hSw); go_simp; try with_reducible rfl⟩
  simp only [Act.put, List.setIfInBounds_toArray, List.set_cons_zero, List.set_cons_succ]
  refine wpAnyH_take (i := 2) (oi := ?o3) (v := .int .i64 slot) ?hi3 (by kernel_rfl) (by kernel_rfl) (by kernel_rfl) ?hq3 ?hy3 (by assumption) ?hr3
  case hi3 => (simp only [List.getElem?_toArray, List.getElem?_cons_succ, List.getElem?_cons_zero]; rfl)
  case hq3 => exact fun _ _ _ h => h
  case hy3 => exact Or.inl ⟨by rfl, by intro w hSw; (try dsimp only at hSw); go_simp; (try simp only [hws]); try with_reducible rfl⟩
  simp only [Act.put, List.setIfInBounds_toArray, List.set_cons_zero, List.set_cons_succ]
  refine wpAnyH_take (i := 4) (oi := ?o4) (v := ?hv4) ?hi4 (by kernel_rfl) (by kernel_rfl) (by kernel_rfl) ?hq4 ?hy4 (by assumption) ?hr4
  case hi4 => (simp only [List.getElem?_toArray, List.getElem?_cons_succ, List.getElem?_cons_zero]; rfl)
  case hq4 => exact fun _ _ _ h => h
  case hy4 => exact Or.inl ⟨by rfl, by intro w hSw; (try dsimp only at hSw); go_simp; try with_reducible rfl⟩
  simp only [Act.put, List.setIfInBounds_toArray, List.set_cons_zero, List.set_cons_succ]
  refine wpAnyH_take (i := 5) (oi := ?o5) (v := ?hv5) ?hi5 (by kernel_rfl) (by kernel_rfl) (by kernel_rfl) ?hq5 ?hy5 (by assumption) ?hr5
  case hi5 => (simp only [List.getElem?_toArray, List.getElem?_cons_succ, List.getElem?_cons_zero]; rfl)
  case hq5 => exact fun _ _ _ h => h
  case hy5 => exact Or.inl ⟨by rfl, by intro w hSw; (try dsimp only at hSw); go_simp; try with_reducible rfl⟩
  simp only [Act.put, List.setIfInBounds_toArray, List.set_cons_zero, List.set_cons_succ]
  refine wpAnyH_take (i := 6) (oi := ?o6) (v := .int .i64 slot) ?hi6 (by kernel_rfl) (by kernel_rfl) (by kernel_rfl) ?hq6 ?hy6 (by assumption) ?hr6
  case hi6 => (simp only [List.getElem?_toArray, List.getElem?_cons_succ, List.getElem?_cons_zero]; rfl)
  case hq6 => exact fun _ _ _ h => h
  case hy6 => exact Or.inl ⟨by rfl, by intro w hSw; (try dsimp only at hSw); go_simp; (try simp only [hws]); try with_reducible rfl⟩
  simp only [Act.put, List.setIfInBounds_toArray, List.set_cons_zero, List.set_cons_succ]
  refine wpAnyH_ready (rs := [3]) (by kernel_rfl) (by simp) ?_
  refine (AllReadyH.cons (o := ?o10) ?hi10 (fun K hK => ?hr10) AllReadyH.nil)
  case hi10 => (simp only [List.getElem?_toArray, List.getElem?_cons_succ, List.getElem?_cons_zero]; rfl)
  go_simp
  refine (At_T L O slot A n c cs T hT.out (by omega) (by omega) _ ((hC4.out.below ((Below.refl w4.heap.size w4).drew)).more ((Below.refl w4.heap.size w4).drew).size)).mono ?_
  rintro e w5 ⟨A1, c1, rfl, hC1, _, hbw5⟩
  have hqw5 : Below w4.heap.size w4 w5 := bstep ((Below.refl w4.heap.size w4).drew) hbw5 (Nat.le_refl _)
  go_wp2_with fail
  refine hK.out _ _ ?_ (fun hHeld => ?_)
  · exact hkS.out _ hqw5
  clear hK K
  try simp only [Act.put, List.setIfInBounds_toArray, List.set_cons_zero, List.set_cons_succ]
  refine wpAnyH_ready (rs := [7]) (by kernel_rfl) (by simp) ?_
  refine (AllReadyH.cons (o := ?o9) ?hi9 (fun K hK => ?hr9) AllReadyH.nil)
  case hi9 => (simp only [List.getElem?_toArray, List.getElem?_cons_succ, List.getElem?_cons_zero]; rfl)
  go_simp
  refine (At_T R.L R.O slot AR R.cs.length cR R.cs _ hT'.out (by omega) (by omega) _ ((hCR4.out.below hqw5).more hqw5.size)).mono ?_
  rintro e w6 ⟨A2, c2, rfl, hC2p, _, hbw6⟩
  have hqw6 : Below w4.heap.size w4 w6 := bstep hqw5 hbw6 (Nat.le_refl _)
  go_wp2_with fail
  refine hK.out _ _ ?_ (fun hHeld => ?_)
  · exact hkS.out _ hqw6
  clear hK K
  try simp only [Act.put, List.setIfInBounds_toArray, List.set_cons_zero, List.set_cons_succ]
  refine wpAnyH_take (i := 8) (oi := ?o7) (v := ?hv7) ?hi7 (by kernel_rfl) (by kernel_rfl) (by kernel_rfl) ?hq7 ?hy7 (by assumption) ?hr7
  case hi7 => (simp only [List.getElem?_toArray, List.getElem?_cons_succ, List.getElem?_cons_zero]; rfl)
  case hq7 => exact fun _ _ _ h => h
  case hy7 => exact Or.inl ⟨by rfl, by intro w hSw; (try dsimp only at hSw); go_simp; try with_reducible rfl⟩
  simp only [Act.put, List.setIfInBounds_toArray, List.set_cons_zero, List.set_cons_succ]
  refine wpAnyH_take (i := 9) (oi := ?o8) (v := ?hv8) ?hi8 (by kernel_rfl) (by kernel_rfl) (by kernel_rfl) ?hq8 ?hy8 (by assumption) ?hr8
  case hi8 => (simp only [List.getElem?_toArray, List.getElem?_cons_succ, List.getElem?_cons_zero]; rfl)
  case hq8 => exact fun _ _ _ h => h
  case hy8 => exact Or.inl ⟨by rfl, by intro w hSw; (try dsimp only at hSw); go_simp; try with_reducible rfl⟩
  simp only [Act.put, List.setIfInBounds_toArray, List.set_cons_zero, List.set_cons_succ]
  refine wpAnyH_done (by kernel_rfl) ?_ _
  have hb6w := hqw6
  rw [List.length_map] at hC2p
  have hC16 := Lib.hid ((hC1.below hbw6).more hbw6.size)
  have hC26 := Lib.hid hC2p
  clear hC1 hC2p hkS hqw5 hbw5 hbw6
  have hN6 := Lib.hid (hN4.out.below hb6w hNl4)
  have hNl6 := Nat.lt_of_lt_of_le hNl4 hb6w.size
  have hS6 := Lib.hid (hS4.out.below hb6w hSl4)
  have hSl6 := Nat.lt_of_lt_of_le hSl4 hb6w.size
  have hM6 := Lib.hid ((hM4.out.below hb6w).more hb6w.size)
  have hF6 := Lib.hid ((hF4.out.below hb6w).more hb6w.size)
  have hC6 := Lib.hid ((hC4.out.below hb6w).more hb6w.size)
  have hCR6 := Lib.hid ((hCR4.out.below hb6w).more hb6w.size)
  have hR6 := Lib.hid (hR4.out.below hb6w hRl4)
  have hRl6 := Nat.lt_of_lt_of_le hRl4 hb6w.size
  have hw6 := bstep hw4 hb6w (Nat.le_refl _)
  clear hN4 hS4 hM4 hF4 hC4 hCR4 hR4 hw4 hNl4 hSl4 hRl4
  (try clear n0 n1 n2 n3 n4 n5)
  (try clear s0 s1 s2)
  (try clear r0 r1 r2)
  obtain ⟨n0, n1, n2, n3, n4, n5⟩ := id hN6.out
  obtain ⟨s0, s1, s2⟩ := id hS6.out
  obtain ⟨r0, r1, r2⟩ := id hR6.out
  try simp only [List.length_map]
  go_wp2_with fail
  refine (EqualFunc_again A1 A2 T.length c1 c2 T d (by omega) _ hC16 hC26).mono ?_
  rintro e w7 ⟨rfl, hb7⟩
  have hN7 := Lib.hid (hN6.out.below hb7 hNl6)
  have hNl7 := Nat.lt_of_lt_of_le hNl6 hb7.size
  have hS7 := Lib.hid (hS6.out.below hb7 hSl6)
  have hSl7 := Nat.lt_of_lt_of_le hSl6 hb7.size
  have hM7 := Lib.hid ((hM6.out.below hb7).more hb7.size)
  have hF7 := Lib.hid ((hF6.out.below hb7).more hb7.size)
  have hC7 := Lib.hid ((hC6.out.below hb7).more hb7.size)
  have hCR7 := Lib.hid ((hCR6.out.below hb7).more hb7.size)
  have hR7 := Lib.hid (hR6.out.below hb7 hRl6)
  have hRl7 := Nat.lt_of_lt_of_le hRl6 hb7.size
  have hC17 := Lib.hid ((hC16.out.below hb7).more hb7.size)
  have hC27 := Lib.hid ((hC26.out.below hb7).more hb7.size)
  have hw7 := bstep hw6 hb7 (Nat.le_refl _)
  clear hN6 hS6 hM6 hF6 hC6 hCR6 hR6 hC16 hC26 hw6 hNl6 hSl6 hRl6
  (try clear n0 n1 n2 n3 n4 n5)
  (try clear s0 s1 s2)
  (try clear r0 r1 r2)
  obtain ⟨n0, n1, n2, n3, n4, n5⟩ := id hN7.out
  obtain ⟨s0, s1, s2⟩ := id hS7.out
  obtain ⟨r0, r1, r2⟩ := id hR7.out
  go_wp2_with fail
  refine (check_any N (fewN_small hfew) A' n' c' fs (by omega) L O A n c cs (by omega) E1 hr1.out _ (hM7.out.net hfew) hF7.out hC7.out).mono ?_
  rintro e w8 ⟨rfl, hb8⟩
  have hN8 := Lib.hid (hN7.out.below hb8 hNl7)
  have hNl8 := Nat.lt_of_lt_of_le hNl7 hb8.size
  have hS8 := Lib.hid (hS7.out.below hb8 hSl7)
  have hSl8 := Nat.lt_of_lt_of_le hSl7 hb8.size
  have hM8 := Lib.hid ((hM7.out.below hb8).more hb8.size)
  have hF8 := Lib.hid ((hF7.out.below hb8).more hb8.size)
  have hC8 := Lib.hid ((hC7.out.below hb8).more hb8.size)
  have hCR8 := Lib.hid ((hCR7.out.below hb8).more hb8.size)
  have hR8 := Lib.hid (hR7.out.below hb8 hRl7)
  have hRl8 := Nat.lt_of_lt_of_le hRl7 hb8.size
  have hC18 := Lib.hid ((hC17.out.below hb8).more hb8.size)
  have hC28 := Lib.hid ((hC27.out.below hb8).more hb8.size)
  have hw8 := bstep hw7 hb8 (Nat.le_refl _)
  clear hN7 hS7 hM7 hF7 hC7 hCR7 hR7 hC17 hC27 hw7 hNl7 hSl7 hRl7
  (try clear n0 n1 n2 n3 n4 n5)
  (try clear s0 s1 s2)
  (try clear r0 r1 r2)
  obtain ⟨n0, n1, n2, n3, n4, n5⟩ := id hN8.out
  obtain ⟨s0, s1, s2⟩ := id hS8.out
  obtain ⟨r0, r1, r2⟩ := id hR8.out
  go_wp2_with fail
  refine (check_any N (fewN_small hfew) A' n' c' fs (by omega) R.L R.O AR R.cs.length cR R.cs (by omega) E2 hr2.out _ (hM8.out.net hfew) hF8.out hCR8.out).mono ?_
  rintro e w9 ⟨rfl, hb9⟩
  have hN9 := Lib.hid (hN8.out.below hb9 hNl8)
  have hNl9 := Nat.lt_of_lt_of_le hNl8 hb9.size
  have hS9 := Lib.hid (hS8.out.below hb9 hSl8)
  have hSl9 := Nat.lt_of_lt_of_le hSl8 hb9.size
  have hM9 := Lib.hid ((hM8.out.below hb9).more hb9.size)
  have hF9 := Lib.hid ((hF8.out.below hb9).more hb9.size)
  have hC9 := Lib.hid ((hC8.out.below hb9).more hb9.size)
  have hCR9 := Lib.hid ((hCR8.out.below hb9).more hb9.size)
  have hR9 := Lib.hid (hR8.out.below hb9 hRl8)
  have hRl9 := Nat.lt_of_lt_of_le hRl8 hb9.size
  have hC19 := Lib.hid ((hC18.out.below hb9).more hb9.size)
  have hC29 := Lib.hid ((hC28.out.below hb9).more hb9.size)
  have hw9 := bstep hw8 hb9 (Nat.le_refl _)
  clear hN8 hS8 hM8 hF8 hC8 hCR8 hR8 hC18 hC28 hw8 hNl8 hSl8 hRl8
  (try clear n0 n1 n2 n3 n4 n5)
  (try clear s0 s1 s2)
  (try clear r0 r1 r2)
  obtain ⟨n0, n1, n2, n3, n4, n5⟩ := id hN9.out
  obtain ⟨s0, s1, s2⟩ := id hS9.out
  obtain ⟨r0, r1, r2⟩ := id hR9.out
  by_cases h11 : E1.2 = 11
  · go_wp2_with fail
    go_ret
    exact ⟨ret_bool (by simp), hw9⟩
  · have he : E1.2 = E2.2 := heq.out.resolve_left h11
    go_wp2_with fail
    go_ret
    exact ⟨ret_bool (by simp), hw9⟩
theorem walk_Again (N : NT) (A' : Option Addr) (n' c' : Nat) (fs : List F6) (hn' : n' ≤ 9223372036854775807) (L O : Int) (A : Option Addr) (n c : Nat) (cs : List C5) (hn : n ≤ 9223372036854775807) (times slot : Int) (ht0 : 0 ≤ times) (ht1 : times ≤ 255) (hs0 : 0 ≤ slot) (hs1 : slot ≤ 65535) (w : World) (ht : Tabs w) (hNM : NetO w w.heap.size N) (hFM : Flows w w.heap.size A' n' fs) (hcs : Cells w w.heap.size A n cs) :
    Calls Tryz.prog 7 #[NV N, .slice A' n' c', .agg #[.int .i64 L, .int .i64 O, .slice A n c], .int .u8 times, .int .u16 slot] w fun e w' => e = .returned (.bool true) ∧ Below w.heap.size w w' := by
  cases hfew : fewN N
  · exact again_few N A' n' c' fs hn' L O A n c cs hn times slot hfew w (Lib.hid ht) (Lib.hid hNM) (Lib.hid hFM) (Lib.hid hcs)
  by_cases hl20 : n' ≤ 20
  case neg => exact again_l N A' n' c' fs hn' L O A n c cs hn times slot hfew (by omega) w (Lib.hid ht) (Lib.hid hNM) (Lib.hid hFM) (Lib.hid hcs)
  by_cases hn40 : n ≤ 40
  case neg => exact again_n N A' n' c' fs hn' L O A n c cs hn times slot hfew hl20 (by omega) w (Lib.hid ht) (Lib.hid hNM) (Lib.hid hFM) (Lib.hid hcs)
  by_cases he : (repR L O cs (1 + times % 4)).e = 0
  case neg => exact again_bad N A' n' c' fs hn' L O A n c cs hn times slot hfew hl20 hn40 ht0 ht1 hs0 hs1 _ (Lib.hid rfl) (by simpa using he) (Lib.hid (repR_bad he)) w (Lib.hid ht) (Lib.hid hNM) (Lib.hid hFM) (Lib.hid hcs)
  obtain ⟨k, hk, hf, hk1, hL, hck, hR⟩ := repR_good he
  obtain ⟨d, hd⟩ := rep_at hf hk1 hL hck hs0
  have hl := hcs.1
  have hA := atR_len2 L O cs slot
  have hch := rep_check N fs hf hk1 hL hck
  refine again_good N A' n' c' fs hn' L O A n c cs hn times slot hfew hl20 hn40 ht0 ht1 hs0 hs1 _ (Lib.hid rfl) he _ (Lib.hid rfl) d (Lib.hid (by rw [hR]; exact hd)) (by omega) (by rw [hR]; show (repC L cs k).length ≤ 512; rw [repC_length]; exact hck) _ _ (Lib.hid rfl) (Lib.hid rfl) (Lib.hid (by rw [hR]; exact hch)) w (Lib.hid ht) (Lib.hid hNM) (Lib.hid hFM) (Lib.hid hcs)
end Go.Proofs.YtnddjcadkbjjhaaGreatDoor
