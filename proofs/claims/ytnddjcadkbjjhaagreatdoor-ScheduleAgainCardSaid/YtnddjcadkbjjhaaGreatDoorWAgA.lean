/-
  The law ScheduleAgain, walked: it returns true for every network, flows, schedule, number and slot.
-/
import Derived.Test.YtnddjcadkbjjhaaGreatDoorK
import Derived.Test.YtnddjcadkbjjhaaGreatDoorOa
import Derived.Test.YtnddjcadkbjjhaaGreatDoorOb
namespace Go.Proofs.YtnddjcadkbjjhaaGreatDoor
open Go.RowKit

theorem repR_bad {L O : Int} {cs : List C5} {t : Int} (h : (repR L O cs t).e ≠ 0) : (repR L O cs t).cs.length = 0 := by
  unfold repR at h ⊢
  (repeat' split) <;> first | rfl | simp_all
theorem repR_good {L O : Int} {cs : List C5} {t : Int} (h : (repR L O cs t).e = 0) : ∃ k : Nat, t = k ∧ formB L O cs = true ∧ 1 ≤ k ∧ L * k ≤ 512 ∧ cs.length * k ≤ 512 ∧ repR L O cs t = ⟨L * k, O, repC L cs k, 0, 0⟩ := by
  unfold repR at h ⊢
  by_cases h1 : formB L O cs = false
  · rw [if_pos h1] at h; cases h
  rw [if_neg h1] at h ⊢
  by_cases h2 : t < 1 ∨ 512 / L < t
  · rw [if_pos h2] at h; cases h
  rw [if_neg h2] at h ⊢
  by_cases h3 : 512 < (cs.length : Int) * t
  · rw [if_pos h3] at h; cases h
  rw [if_neg h3]
  obtain ⟨k, rfl⟩ : ∃ k : Nat, t = k := ⟨t.toNat, by omega⟩
  have hf : formB L O cs = true := by simpa using h1
  have hL := (form_sized hf).1
  refine ⟨k, rfl, hf, by omega, ?_, ?_, by rw [Int.toNat_natCast]⟩
  · have h4 : (k : Int) ≤ 512 / L := by omega
    have h5 := Int.mul_le_of_le_ediv (by omega) h4
    rw [Int.mul_comm]; exact h5
  · have : ((cs.length * k : Nat) : Int) ≤ 512 := by rw [Int.natCast_mul]; omega
    omega
theorem atR_len2 (L O : Int) (cs : List C5) (slot : Int) : (atR L O cs slot).length ≤ cs.length := by
  unfold atR
  split
  · exact List.length_filter_le _ _
  · simp
theorem At_T (L O slot : Int) (A : Option Addr) (n c : Nat) (cs T : List C5) (hT : atR L O cs slot = T) (hn : n ≤ 1000000) (hs : slot ≤ 9223372036854775807) (w : World) (hcs : Cells w w.heap.size A n cs) :
    Calls Tryz.prog 23 #[.agg #[.int .i64 L, .int .i64 O, .slice A n c], .int .i64 slot] w (CellsEnd w T) := by
  subst hT; exact At_any L O slot A n c cs hn hs w hcs
theorem rep_R (L O t : Int) (A : Option Addr) (n c : Nat) (cs : List C5) (R : PRes) (hR : repR L O cs t = R) (hn : n ≤ 1000000) (w : World) (hcs : Cells w w.heap.size A n cs) :
    Calls Tryz.prog 21 #[.agg #[.int .i64 L, .int .i64 O, .slice A n c], .int .i64 t] w (SchedEnd w R) := by
  subst hR; exact Repeat_any L O t A n c cs hn w hcs
theorem NetO.below {w w' : World} {B : Nat} {N : NT} (h : NetO w B N) (hb : Below B w w') : NetO w' B N := ⟨h.1.below hb, h.2.1.below hb, h.2.2.1.below hb, h.2.2.2⟩
theorem NetO.more {w : World} {B B' : Nat} {N : NT} (h : NetO w B N) (hB : B ≤ B') : NetO w B' N := ⟨h.1.more hB, h.2.1.more hB, h.2.2.1.more hB, h.2.2.2⟩
set_option maxHeartbeats 8000000 in
set_option maxRecDepth 100000 in
theorem again_few (N : NT) (A' : Option Addr) (n' c' : Nat) (fs : List F6) (_hn' : n' ≤ 9223372036854775807) (L O : Int) (A : Option Addr) (n c : Nat) (cs : List C5) (_hn : n ≤ 9223372036854775807) (times slot : Int) (hfew : fewN N = false) (w : World) (ht : Hid (Tabs w)) (hNM : Hid (NetO w w.heap.size N)) (hFM : Hid (Flows w w.heap.size A' n' fs)) (hcs : Hid (Cells w w.heap.size A n cs)) :
    Calls Tryz.prog 7 #[NV N, .slice A' n' c', .agg #[.int .i64 L, .int .i64 O, .slice A n c], .int .u8 times, .int .u16 slot] w fun e w' => e = .returned (.bool true) ∧ Below w.heap.size w w' := by
  obtain ⟨hw0, hN0p, hS0p, hSl0⟩ := boxNS w N L O (.slice A n c)
  have hNl0 := Nat.lt_of_succ_lt hSl0
  have hN0 := Lib.hid hN0p
  have hS0 := Lib.hid hS0p
  have hTb0 := Lib.hid (ht.out.later hw0)
  have hM0 := Lib.hid ((hNM.out.below hw0).more hw0.size)
  have hF0 := Lib.hid ((hFM.out.below hw0).more hw0.size)
  have hC0 := Lib.hid ((hcs.out.below hw0).more hw0.size)
  have hl := hcs.out.1
  clear hN0p hS0p hNM hFM hcs ht
  go_enter Tryz.func7, Tryz.ntmps7
  go_upto_region 1 with fail
  revert hw0 hSl0 hNl0 hN0 hS0 hTb0 hM0 hF0 hC0
  generalize (w.alloc (ONT N)).alloc (N30 L O (.slice A n c)) = w0
  intro hw0 hSl0 hNl0 hN0 hS0 hTb0 hM0 hF0 hC0
  obtain ⟨n0, n1, n2, n3, n4, n5⟩ := id hN0.out
  obtain ⟨s0, s1, s2⟩ := id hS0.out
  go_wp2_with fail
  refine (awake_any _ hTb0).mono ?_
  rintro e w1 ⟨rfl, hb1⟩
  clear hTb0
  have hN1 := Lib.hid (hN0.out.below hb1 hNl0)
  have hNl1 := Nat.lt_of_lt_of_le hNl0 hb1.size
  have hS1 := Lib.hid (hS0.out.below hb1 hSl0)
  have hSl1 := Nat.lt_of_lt_of_le hSl0 hb1.size
  have hM1 := Lib.hid ((hM0.out.below hb1).more hb1.size)
  have hF1 := Lib.hid ((hF0.out.below hb1).more hb1.size)
  have hC1 := Lib.hid ((hC0.out.below hb1).more hb1.size)
  have hw1 := bstep hw0 hb1 (Nat.le_refl _)
  clear hN0 hS0 hM0 hF0 hC0 hw0 hNl0 hSl0
  (try clear n0 n1 n2 n3 n4 n5)
  (try clear s0 s1 s2)
  (try clear r0 r1 r2)
  obtain ⟨n0, n1, n2, n3, n4, n5⟩ := id hN1.out
  obtain ⟨s0, s1, s2⟩ := id hS1.out
  go_wp2_with fail
  refine (FewN_any N false hfew _ hM1.out).mono ?_
  rintro e w2 ⟨rfl, hb2⟩
  have hN2 := Lib.hid (hN1.out.below hb2 hNl1)
  have hNl2 := Nat.lt_of_lt_of_le hNl1 hb2.size
  have hS2 := Lib.hid (hS1.out.below hb2 hSl1)
  have hSl2 := Nat.lt_of_lt_of_le hSl1 hb2.size
  have hM2 := Lib.hid ((hM1.out.below hb2).more hb2.size)
  have hF2 := Lib.hid ((hF1.out.below hb2).more hb2.size)
  have hC2 := Lib.hid ((hC1.out.below hb2).more hb2.size)
  have hw2 := bstep hw1 hb2 (Nat.le_refl _)
  clear hN1 hS1 hM1 hF1 hC1 hw1 hNl1 hSl1
  (try clear n0 n1 n2 n3 n4 n5)
  (try clear s0 s1 s2)
  (try clear r0 r1 r2)
  obtain ⟨n0, n1, n2, n3, n4, n5⟩ := id hN2.out
  obtain ⟨s0, s1, s2⟩ := id hS2.out
  go_wp2_with fail
  go_ret
  exact ⟨rfl, hw2⟩
set_option maxHeartbeats 8000000 in
set_option maxRecDepth 100000 in
theorem again_l (N : NT) (A' : Option Addr) (n' c' : Nat) (fs : List F6) (hn' : n' ≤ 9223372036854775807) (L O : Int) (A : Option Addr) (n c : Nat) (cs : List C5) (_hn : n ≤ 9223372036854775807) (times slot : Int) (hfew : fewN N = true) (hl20 : 20 < n') (w : World) (ht : Hid (Tabs w)) (hNM : Hid (NetO w w.heap.size N)) (hFM : Hid (Flows w w.heap.size A' n' fs)) (hcs : Hid (Cells w w.heap.size A n cs)) :
    Calls Tryz.prog 7 #[NV N, .slice A' n' c', .agg #[.int .i64 L, .int .i64 O, .slice A n c], .int .u8 times, .int .u16 slot] w fun e w' => e = .returned (.bool true) ∧ Below w.heap.size w w' := by
  obtain ⟨hw0, hN0p, hS0p, hSl0⟩ := boxNS w N L O (.slice A n c)
  have hNl0 := Nat.lt_of_succ_lt hSl0
  have hN0 := Lib.hid hN0p
  have hS0 := Lib.hid hS0p
  have hTb0 := Lib.hid (ht.out.later hw0)
  have hM0 := Lib.hid ((hNM.out.below hw0).more hw0.size)
  have hF0 := Lib.hid ((hFM.out.below hw0).more hw0.size)
  have hC0 := Lib.hid ((hcs.out.below hw0).more hw0.size)
  have hl := hcs.out.1
  clear hN0p hS0p hNM hFM hcs ht
  go_enter Tryz.func7, Tryz.ntmps7
  go_upto_region 1 with fail
  revert hw0 hSl0 hNl0 hN0 hS0 hTb0 hM0 hF0 hC0
  generalize (w.alloc (ONT N)).alloc (N30 L O (.slice A n c)) = w0
  intro hw0 hSl0 hNl0 hN0 hS0 hTb0 hM0 hF0 hC0
  obtain ⟨n0, n1, n2, n3, n4, n5⟩ := id hN0.out
  obtain ⟨s0, s1, s2⟩ := id hS0.out
  go_wp2_with fail
  refine (awake_any _ hTb0).mono ?_
  rintro e w1 ⟨rfl, hb1⟩
  clear hTb0
  have hN1 := Lib.hid (hN0.out.below hb1 hNl0)
  have hNl1 := Nat.lt_of_lt_of_le hNl0 hb1.size
  have hS1 := Lib.hid (hS0.out.below hb1 hSl0)
  have hSl1 := Nat.lt_of_lt_of_le hSl0 hb1.size
  have hM1 := Lib.hid ((hM0.out.below hb1).more hb1.size)
  have hF1 := Lib.hid ((hF0.out.below hb1).more hb1.size)
  have hC1 := Lib.hid ((hC0.out.below hb1).more hb1.size)
  have hw1 := bstep hw0 hb1 (Nat.le_refl _)
  clear hN0 hS0 hM0 hF0 hC0 hw0 hNl0 hSl0
  (try clear n0 n1 n2 n3 n4 n5)
  (try clear s0 s1 s2)
  (try clear r0 r1 r2)
  obtain ⟨n0, n1, n2, n3, n4, n5⟩ := id hN1.out
  obtain ⟨s0, s1, s2⟩ := id hS1.out
  go_wp2_with fail
  refine (FewN_any N true hfew _ hM1.out).mono ?_
  rintro e w2 ⟨rfl, hb2⟩
  have hN2 := Lib.hid (hN1.out.below hb2 hNl1)
  have hNl2 := Nat.lt_of_lt_of_le hNl1 hb2.size
  have hS2 := Lib.hid (hS1.out.below hb2 hSl1)
  have hSl2 := Nat.lt_of_lt_of_le hSl1 hb2.size
  have hM2 := Lib.hid ((hM1.out.below hb2).more hb2.size)
  have hF2 := Lib.hid ((hF1.out.below hb2).more hb2.size)
  have hC2 := Lib.hid ((hC1.out.below hb2).more hb2.size)
  have hw2 := bstep hw1 hb2 (Nat.le_refl _)
  clear hN1 hS1 hM1 hF1 hC1 hw1 hNl1 hSl1
  (try clear n0 n1 n2 n3 n4 n5)
  (try clear s0 s1 s2)
  (try clear r0 r1 r2)
  obtain ⟨n0, n1, n2, n3, n4, n5⟩ := id hN2.out
  obtain ⟨s0, s1, s2⟩ := id hS2.out
  go_wp2_with fail
  go_ret
  exact ⟨rfl, hw2⟩
set_option maxHeartbeats 8000000 in
set_option maxRecDepth 100000 in
theorem again_n (N : NT) (A' : Option Addr) (n' c' : Nat) (fs : List F6) (hn' : n' ≤ 9223372036854775807) (L O : Int) (A : Option Addr) (n c : Nat) (cs : List C5) (hn : n ≤ 9223372036854775807) (times slot : Int) (hfew : fewN N = true) (hl20 : n' ≤ 20) (hn40 : 40 < n) (w : World) (ht : Hid (Tabs w)) (hNM : Hid (NetO w w.heap.size N)) (hFM : Hid (Flows w w.heap.size A' n' fs)) (hcs : Hid (Cells w w.heap.size A n cs)) :
    Calls Tryz.prog 7 #[NV N, .slice A' n' c', .agg #[.int .i64 L, .int .i64 O, .slice A n c], .int .u8 times, .int .u16 slot] w fun e w' => e = .returned (.bool true) ∧ Below w.heap.size w w' := by
  obtain ⟨hw0, hN0p, hS0p, hSl0⟩ := boxNS w N L O (.slice A n c)
  have hNl0 := Nat.lt_of_succ_lt hSl0
  have hN0 := Lib.hid hN0p
  have hS0 := Lib.hid hS0p
  have hTb0 := Lib.hid (ht.out.later hw0)
  have hM0 := Lib.hid ((hNM.out.below hw0).more hw0.size)
  have hF0 := Lib.hid ((hFM.out.below hw0).more hw0.size)
  have hC0 := Lib.hid ((hcs.out.below hw0).more hw0.size)
  have hl := hcs.out.1
  clear hN0p hS0p hNM hFM hcs ht
  go_enter Tryz.func7, Tryz.ntmps7
  go_upto_region 1 with fail
  revert hw0 hSl0 hNl0 hN0 hS0 hTb0 hM0 hF0 hC0
  generalize (w.alloc (ONT N)).alloc (N30 L O (.slice A n c)) = w0
  intro hw0 hSl0 hNl0 hN0 hS0 hTb0 hM0 hF0 hC0
  obtain ⟨n0, n1, n2, n3, n4, n5⟩ := id hN0.out
  obtain ⟨s0, s1, s2⟩ := id hS0.out
  go_wp2_with fail
  refine (awake_any _ hTb0).mono ?_
  rintro e w1 ⟨rfl, hb1⟩
  clear hTb0
  have hN1 := Lib.hid (hN0.out.below hb1 hNl0)
  have hNl1 := Nat.lt_of_lt_of_le hNl0 hb1.size
  have hS1 := Lib.hid (hS0.out.below hb1 hSl0)
  have hSl1 := Nat.lt_of_lt_of_le hSl0 hb1.size
  have hM1 := Lib.hid ((hM0.out.below hb1).more hb1.size)
  have hF1 := Lib.hid ((hF0.out.below hb1).more hb1.size)
  have hC1 := Lib.hid ((hC0.out.below hb1).more hb1.size)
  have hw1 := bstep hw0 hb1 (Nat.le_refl _)
  clear hN0 hS0 hM0 hF0 hC0 hw0 hNl0 hSl0
  (try clear n0 n1 n2 n3 n4 n5)
  (try clear s0 s1 s2)
  (try clear r0 r1 r2)
  obtain ⟨n0, n1, n2, n3, n4, n5⟩ := id hN1.out
  obtain ⟨s0, s1, s2⟩ := id hS1.out
  go_wp2_with fail
  refine (FewN_any N true hfew _ hM1.out).mono ?_
  rintro e w2 ⟨rfl, hb2⟩
  have hN2 := Lib.hid (hN1.out.below hb2 hNl1)
  have hNl2 := Nat.lt_of_lt_of_le hNl1 hb2.size
  have hS2 := Lib.hid (hS1.out.below hb2 hSl1)
  have hSl2 := Nat.lt_of_lt_of_le hSl1 hb2.size
  have hM2 := Lib.hid ((hM1.out.below hb2).more hb2.size)
  have hF2 := Lib.hid ((hF1.out.below hb2).more hb2.size)
  have hC2 := Lib.hid ((hC1.out.below hb2).more hb2.size)
  have hw2 := bstep hw1 hb2 (Nat.le_refl _)
  clear hN1 hS1 hM1 hF1 hC1 hw1 hNl1 hSl1
  (try clear n0 n1 n2 n3 n4 n5)
  (try clear s0 s1 s2)
  (try clear r0 r1 r2)
  obtain ⟨n0, n1, n2, n3, n4, n5⟩ := id hN2.out
  obtain ⟨s0, s1, s2⟩ := id hS2.out
  go_wp2_with fail
  go_ret
  exact ⟨rfl, hw2⟩
set_option maxHeartbeats 8000000 in
set_option maxRecDepth 100000 in
theorem again_bad (N : NT) (A' : Option Addr) (n' c' : Nat) (fs : List F6) (hn' : n' ≤ 9223372036854775807) (L O : Int) (A : Option Addr) (n c : Nat) (cs : List C5) (hn : n ≤ 9223372036854775807) (times slot : Int) (hfew : fewN N = true) (hl20 : n' ≤ 20) (hn40 : n ≤ 40) (ht0 : 0 ≤ times) (ht1 : times ≤ 255) (_hs0 : 0 ≤ slot) (_hs1 : slot ≤ 65535) (R : PRes) (hR : Hid (repR L O cs (1 + times % 4) = R)) (hRe : (R.e != 0) = true) (hRc : Hid (R.cs.length = 0)) (w : World) (ht : Hid (Tabs w)) (hNM : Hid (NetO w w.heap.size N)) (hFM : Hid (Flows w w.heap.size A' n' fs)) (hcs : Hid (Cells w w.heap.size A n cs)) :
    Calls Tryz.prog 7 #[NV N, .slice A' n' c', .agg #[.int .i64 L, .int .i64 O, .slice A n c], .int .u8 times, .int .u16 slot] w fun e w' => e = .returned (.bool true) ∧ Below w.heap.size w w' := by
  obtain ⟨hw0, hN0p, hS0p, hSl0⟩ := boxNS w N L O (.slice A n c)
  have hNl0 := Nat.lt_of_succ_lt hSl0
  have hN0 := Lib.hid hN0p
  have hS0 := Lib.hid hS0p
  have hTb0 := Lib.hid (ht.out.later hw0)
  have hM0 := Lib.hid ((hNM.out.below hw0).more hw0.size)
  have hF0 := Lib.hid ((hFM.out.below hw0).more hw0.size)
  have hC0 := Lib.hid ((hcs.out.below hw0).more hw0.size)
  have hl := hcs.out.1
  clear hN0p hS0p hNM hFM hcs ht
  go_enter Tryz.func7, Tryz.ntmps7
  go_upto_region 1 with fail
  revert hw0 hSl0 hNl0 hN0 hS0 hTb0 hM0 hF0 hC0
  generalize (w.alloc (ONT N)).alloc (N30 L O (.slice A n c)) = w0
  intro hw0 hSl0 hNl0 hN0 hS0 hTb0 hM0 hF0 hC0
  obtain ⟨n0, n1, n2, n3, n4, n5⟩ := id hN0.out
  obtain ⟨s0, s1, s2⟩ := id hS0.out
  go_wp2_with fail
  refine (awake_any _ hTb0).mono ?_
  rintro e w1 ⟨rfl, hb1⟩
  clear hTb0
  have hN1 := Lib.hid (hN0.out.below hb1 hNl0)
  have hNl1 := Nat.lt_of_lt_of_le hNl0 hb1.size
  have hS1 := Lib.hid (hS0.out.below hb1 hSl0)
  have hSl1 := Nat.lt_of_lt_of_le hSl0 hb1.size
  have hM1 := Lib.hid ((hM0.out.below hb1).more hb1.size)
  have hF1 := Lib.hid ((hF0.out.below hb1).more hb1.size)
  have hC1 := Lib.hid ((hC0.out.below hb1).more hb1.size)
  have hw1 := bstep hw0 hb1 (Nat.le_refl _)
  clear hN0 hS0 hM0 hF0 hC0 hw0 hNl0 hSl0
  (try clear n0 n1 n2 n3 n4 n5)
  (try clear s0 s1 s2)
  (try clear r0 r1 r2)
  obtain ⟨n0, n1, n2, n3, n4, n5⟩ := id hN1.out
  obtain ⟨s0, s1, s2⟩ := id hS1.out
  go_wp2_with fail
  refine (FewN_any N true hfew _ hM1.out).mono ?_
  rintro e w2 ⟨rfl, hb2⟩
  have hN2 := Lib.hid (hN1.out.below hb2 hNl1)
  have hNl2 := Nat.lt_of_lt_of_le hNl1 hb2.size
  have hS2 := Lib.hid (hS1.out.below hb2 hSl1)
  have hSl2 := Nat.lt_of_lt_of_le hSl1 hb2.size
  have hM2 := Lib.hid ((hM1.out.below hb2).more hb2.size)
  have hF2 := Lib.hid ((hF1.out.below hb2).more hb2.size)
  have hC2 := Lib.hid ((hC1.out.below hb2).more hb2.size)
  have hw2 := bstep hw1 hb2 (Nat.le_refl _)
  clear hN1 hS1 hM1 hF1 hC1 hw1 hNl1 hSl1
  (try clear n0 n1 n2 n3 n4 n5)
  (try clear s0 s1 s2)
  (try clear r0 r1 r2)
  obtain ⟨n0, n1, n2, n3, n4, n5⟩ := id hN2.out
  obtain ⟨s0, s1, s2⟩ := id hS2.out
  go_wp2_with fail
  refine (rep_R L O (1 + times % 4) A n c cs R hR.out (by omega) _ hC2.out).mono ?_
  rintro e w3 ⟨AR, cR, rfl, hCRp, _, hb3⟩
  have hCR3 := Lib.hid hCRp
  clear hCRp
  have hN3 := Lib.hid (hN2.out.below hb3 hNl2)
  have hNl3 := Nat.lt_of_lt_of_le hNl2 hb3.size
  have hS3 := Lib.hid (hS2.out.below hb3 hSl2)
  have hSl3 := Nat.lt_of_lt_of_le hSl2 hb3.size
  have hM3 := Lib.hid ((hM2.out.below hb3).more hb3.size)
  have hF3 := Lib.hid ((hF2.out.below hb3).more hb3.size)
  have hC3 := Lib.hid ((hC2.out.below hb3).more hb3.size)
  have hw3 := bstep hw2 hb3 (Nat.le_refl _)
  clear hN2 hS2 hM2 hF2 hC2 hw2 hNl2 hSl2
  (try clear n0 n1 n2 n3 n4 n5)
  (try clear s0 s1 s2)
  (try clear r0 r1 r2)
  obtain ⟨n0, n1, n2, n3, n4, n5⟩ := id hN3.out
  obtain ⟨s0, s1, s2⟩ := id hS3.out
  go_upto_region 6 with fail
  clear n0 n1 n2 n3 n4 n5 s0 s1 s2
  obtain ⟨w4, hw4e⟩ : ∃ W, W = w3.alloc (N30 R.L R.O (.slice AR R.cs.length cR)) := ⟨_, rfl⟩
  have hb4 : Below w3.heap.size w3 w4 := by rw [hw4e]; exact (Below.refl _ _).alloc (Nat.le_refl _) _
  have hR4 : Hid (BoxS w4 w3.heap.size R.L R.O (.slice AR R.cs.length cR)) := Lib.hid (by rw [hw4e]; exact BoxS.new _ _ _ 30 w3)
  have hRl4 : w3.heap.size < w4.heap.size := by rw [hw4e]; simp
  rw [← hw4e]
  clear hw4e
  have hN4 := Lib.hid (hN3.out.below hb4 hNl3)
  have hNl4 := Nat.lt_of_lt_of_le hNl3 hb4.size
  have hS4 := Lib.hid (hS3.out.below hb4 hSl3)
  have hSl4 := Nat.lt_of_lt_of_le hSl3 hb4.size
  have hM4 := Lib.hid ((hM3.out.below hb4).more hb4.size)
  have hF4 := Lib.hid ((hF3.out.below hb4).more hb4.size)
  have hC4 := Lib.hid ((hC3.out.below hb4).more hb4.size)
  have hCR4 := Lib.hid ((hCR3.out.below hb4).more hb4.size)
  have hw4 := bstep hw3 hb4 (Nat.le_refl _)
  clear hN3 hS3 hM3 hF3 hC3 hCR3 hw3 hNl3 hSl3
  (try clear n0 n1 n2 n3 n4 n5)
  (try clear s0 s1 s2)
  (try clear r0 r1 r2)
  obtain ⟨n0, n1, n2, n3, n4, n5⟩ := id hN4.out
  obtain ⟨s0, s1, s2⟩ := id hS4.out
  obtain ⟨r0, r1, r2⟩ := id hR4.out
  go_wp2_with fail
  go_ret
  exact ⟨ret_bool (by simp [hRc.out]), hw4⟩
end Go.Proofs.YtnddjcadkbjjhaaGreatDoor
