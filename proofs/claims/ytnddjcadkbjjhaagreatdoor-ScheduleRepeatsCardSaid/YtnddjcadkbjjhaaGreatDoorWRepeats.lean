/-
  The law ScheduleRepeats, walked: it returns true for every schedule and number.
-/
import Derived.Test.YtnddjcadkbjjhaaGreatDoorK
import Derived.Test.YtnddjcadkbjjhaaGreatDoorQBRepeats
import Derived.Test.YtnddjcadkbjjhaaGreatDoorQRRepeats
namespace Go.Proofs.YtnddjcadkbjjhaaGreatDoor
open Go.RowKit

theorem rRepeat_any (L O t : Int) (A : Option Addr) (n c : Nat) (cs : List C5) (hn : n ≤ 1000000) (hle : n ≤ c) (w : World) (hcs : Cells w w.heap.size A n cs) :
    Calls Tryz.prog 22 #[.agg #[.int .i64 L, .int .i64 O, .slice A n c], .int .i64 t] w (SchedEnd w (repR L O cs t)) := by
  have hl := hcs.1
  obtain ⟨k, hk⟩ := PScheduleRepeats.repeat_eq L O t cs (by omega)
  have h := PScheduleRepeats.hopmeshref35_Repeat.calls k L O A c (cs.map PScheduleRepeats.ofC) t _ _ _ _ w (PScheduleRepeats.cells_C hcs hn) (by rw [List.length_map, hl]; exact hle) hk
  rw [List.length_map, hl] at h
  exact h.mono fun e w' ⟨v, he, hR, hb⟩ => by
    obtain ⟨A', c', rfl, hle', hC'⟩ := PScheduleRepeats.R_cells hR
    exact ⟨A', c', he, hC', hle', hb⟩
theorem repR_len (L O t : Int) (cs : List C5) : (repR L O cs t).cs.length ≤ 1000000 := by
  unfold repR
  split
  · exact Nat.zero_le _
  · split
    · exact Nat.zero_le _
    · split
      · exact Nat.zero_le _
      · rename_i h1 h2 h3
        show (repC L cs t.toNat).length ≤ 1000000
        rw [repC_length]
        obtain ⟨k, rfl⟩ : ∃ k : Nat, t = k := ⟨t.toNat, by omega⟩
        rw [Int.toNat_natCast]
        have : ((cs.length * k : Nat) : Int) ≤ 512 := by rw [Int.natCast_mul]; omega
        omega
theorem sameS_self (L O : Int) (cs : List C5) : sameS L O cs L O cs = true := by unfold sameS sameL; simp
set_option maxHeartbeats 1600000 in
set_option maxRecDepth 100000 in
theorem walk_Repeats_big (L O t : Int) (A : Option Addr) (n c : Nat) (hn : n ≤ 9223372036854775807) (hf : Hid (fewB n = false)) (w : World) (ht : Hid (Tabs w)) :
    Calls Tryz.prog 6 #[.agg #[.int .i64 L, .int .i64 O, .slice A n c], .int .i64 t] w fun e w' => e = .returned (.bool true) ∧ Below w.heap.size w w' := by
  have hb0 : Below w.heap.size w (w.alloc (N30 L O (.slice A n c))) := (Below.refl _ _).alloc (Nat.le_refl _) _
  have hT0 := Lib.hid (ht.out.later hb0)
  have hB0 := Lib.hid (BoxS.new L O (.slice A n c) 30 w)
  go_enter Tryz.func6, Tryz.ntmps6
  go_wp2_with fail
  refine (awake_any _ hT0).mono ?_
  rintro e w1 ⟨rfl, hb1⟩
  obtain ⟨b0, b1, b2⟩ := hB0.out.below hb1 (by simp)
  have hbw := bstep hb0 hb1 (Nat.le_refl _)
  go_wp2_with fail
  refine (carry (Few_any L O A n c hn false hf.out _) hbw).mono ?_
  rintro e w2 ⟨rfl, hb2⟩
  go_wp2_with fail
  go_ret
  exact ⟨rfl, hb2⟩
set_option maxHeartbeats 4000000 in
set_option maxRecDepth 100000 in
theorem walk_Repeats_few (L O t : Int) (A : Option Addr) (n c : Nat) (cs : List C5) (hn : n ≤ 1000000) (hle : n ≤ c) (hf : Hid (fewB n = true)) (w : World) (ht : Hid (Tabs w)) (hcs : Hid (Cells w w.heap.size A n cs)) :
    Calls Tryz.prog 6 #[.agg #[.int .i64 L, .int .i64 O, .slice A n c], .int .i64 t] w fun e w' => e = .returned (.bool true) ∧ Below w.heap.size w w' := by
  have hb0 : Below w.heap.size w (w.alloc (N30 L O (.slice A n c))) := (Below.refl _ _).alloc (Nat.le_refl _) _
  have hT0 := Lib.hid (ht.out.later hb0)
  have hB0 := Lib.hid (BoxS.new L O (.slice A n c) 30 w)
  obtain ⟨R, hR'⟩ : ∃ R, repR L O cs t = R := ⟨_, rfl⟩
  have hR := Lib.hid hR'
  clear hR'
  go_enter Tryz.func6, Tryz.ntmps6
  go_wp2_with fail
  refine (awake_any _ hT0).mono ?_
  rintro e w1 ⟨rfl, hb1⟩
  have hB1 := Lib.hid (hB0.out.below hb1 (by simp))
  have hbw1 := bstep hb0 hb1 (Nat.le_refl _)
  have hz1 : w.heap.size < w1.heap.size := by have := hb1.size; simp at this; omega
  clear hB0 hb1 hb0 hT0
  obtain ⟨b0, b1, b2⟩ := id hB1.out
  go_wp2_with fail
  refine (Few_any L O A n c (by omega) true hf.out _).mono ?_
  rintro e w2 ⟨rfl, hb2⟩
  clear b0 b1 b2
  have hB2 := Lib.hid (hB1.out.below hb2 hz1)
  have hbw2 := bstep hbw1 hb2 (Nat.le_refl _)
  have hz2 := Nat.lt_of_lt_of_le hz1 hb2.size
  have hC2 := Lib.hid ((hcs.out.below hbw2).more hbw2.size)
  clear hB1 hbw1 hz1 hb2 hcs
  obtain ⟨b0, b1, b2⟩ := id hB2.out
  go_wp2_with fail
  have h21 := Repeat_any L O t A n c cs hn _ hC2.out
  rw [hR.out] at h21
  refine h21.mono ?_
  clear h21
  rintro e w3 ⟨A3, c3, rfl, hC3, hle3, hb3⟩
  clear b0 b1 b2
  have hB3 := Lib.hid (hB2.out.below hb3 hz2)
  have hbw3 := bstep hbw2 hb3 (Nat.le_refl _)
  have hz3 := Nat.lt_of_lt_of_le hz2 hb3.size
  have hS3 := Lib.hid ((hC2.out.below hb3).more hb3.size)
  have hC3 := Lib.hid hC3
  have hle3 := Lib.hid hle3
  clear hB2 hbw2 hz2 hb3 hC2
  -- the box of what the program gave
  have hb4 : Below w3.heap.size w3 (w3.alloc (N30 R.L R.O (.slice A3 R.cs.length c3))) := (Below.refl _ _).alloc (Nat.le_refl _) _
  have hD4 := Lib.hid (BoxS.new R.L R.O (.slice A3 R.cs.length c3) 30 w3)
  have hB4 := Lib.hid (hB3.out.below hb4 hz3)
  have hS4 := Lib.hid ((hS3.out.below hb4).more hb4.size)
  have hC4 := Lib.hid ((hC3.out.below hb4).more hb4.size)
  have hbw4 := bstep hbw3 hb4 (Nat.le_refl _)
  have hz4 := Nat.lt_of_lt_of_le hz3 hb4.size
  have hd4 : w3.heap.size < (w3.alloc (N30 R.L R.O (.slice A3 R.cs.length c3))).heap.size := by simp
  obtain ⟨b0, b1, b2⟩ := id hB3.out
  clear hB3 hbw3 hb4 hC3 hS3
  go_wp2_with fail
  clear b0 b1 b2
  revert hD4 hB4 hS4 hC4 hbw4 hz4 hd4
  generalize w3.alloc (N30 R.L R.O (.slice A3 R.cs.length c3)) = w4
  intro hD4 hB4 hS4 hC4 hbw4 hz4 hd4
  have h22 := rRepeat_any L O t A n c cs hn hle _ hS4.out
  rw [hR.out] at h22
  refine h22.mono ?_
  clear h22
  rintro e w5 ⟨A5, c5, rfl, hC5, -, hb5⟩
  have hD5 := Lib.hid (hD4.out.below hb5 hd4)
  have hA5 := Lib.hid ((hC4.out.below hb5).more hb5.size)
  have hC5 := Lib.hid hC5
  have hbw5 := bstep hbw4 hb5 (Nat.le_refl _)
  have hd5 := Nat.lt_of_lt_of_le hd4 hb5.size
  clear hD4 hB4 hS4 hC4 hbw4 hz4 hd4 hz3 hb5
  have hb6 : Below w5.heap.size w5 (w5.alloc (N30 R.L R.O (.slice A5 R.cs.length c5))) := (Below.refl _ _).alloc (Nat.le_refl _) _
  have hD6 := Lib.hid (hD5.out.below hb6 hd5)
  have hA6 := Lib.hid ((hA5.out.below hb6).more hb6.size)
  have hC6 := Lib.hid ((hC5.out.below hb6).more hb6.size)
  have hbw6 := bstep hbw5 hb6 (Nat.le_refl _)
  obtain ⟨b0, b1, b2⟩ := id hD5.out
  have hlen : R.cs.length ≤ 1000000 := by rw [← hR.out]; exact repR_len L O t cs
  clear hD5 hA5 hC5 hbw5 hb6
  go_wp2_with fail
  refine (carry (Same_any R.L R.O R.L R.O _ _ _ _ _ _ R.cs R.cs hlen _ hA6.out hC6.out true (sameS_self _ _ _)) hbw6).mono ?_
  rintro e w7 ⟨rfl, hb7⟩
  go_wp2_with fail
  go_ret
  exact ⟨rfl, hb7⟩
theorem walk_Repeats (L O t : Int) (A : Option Addr) (n c : Nat) (cs : List C5) (hn : n ≤ 9223372036854775807) (hle : n ≤ c) (w : World) (ht : Tabs w) (hcs : Cells w w.heap.size A n cs) :
    Calls Tryz.prog 6 #[.agg #[.int .i64 L, .int .i64 O, .slice A n c], .int .i64 t] w fun e w' => e = .returned (.bool true) ∧ Below w.heap.size w w' := by
  cases hf : fewB n
  · exact walk_Repeats_big L O t A n c hn (Lib.hid hf) w (Lib.hid ht)
  · have h1 : n ≤ 1000000 := by unfold fewB at hf; simp at hf; omega
    exact walk_Repeats_few L O t A n c cs h1 hle (Lib.hid hf) w (Lib.hid ht) (Lib.hid hcs)
end Go.Proofs.YtnddjcadkbjjhaaGreatDoor
