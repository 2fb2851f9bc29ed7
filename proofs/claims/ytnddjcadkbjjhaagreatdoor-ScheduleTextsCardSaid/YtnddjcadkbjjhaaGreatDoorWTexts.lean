/-
  The law ScheduleTexts, walked: it returns true for every schedule and text.
-/
import Derived.Test.YtnddjcadkbjjhaaGreatDoorK
import Derived.Test.YtnddjcadkbjjhaaGreatDoorQTexts
namespace Go.Proofs.YtnddjcadkbjjhaaGreatDoor
open Go.RowKit

theorem rPrint_any (L O : Int) (A : Option Addr) (n c : Nat) (cs : List C5) (hn : n ≤ 1000000) (hle : n ≤ c) (S : ByteArray) (E : Int) (hS : (if formB L O cs = true then bytesOf (printL L O cs) else ⟨#[]⟩) = S) (hE : (if formB L O cs = true then 0 else 1) = E) (w : World) (hcs : Cells w w.heap.size A n cs) :
    Calls Tryz.prog 17 #[.agg #[.int .i64 L, .int .i64 O, .slice A n c]] w fun e w' => e = .returned (.tuple #[.string S, .int .i64 E]) ∧ Below w.heap.size w w' := by
  subst hS hE
  have hl := hcs.1
  obtain ⟨k, hk⟩ := PScheduleTexts.print_eq L O cs (by omega)
  have h := PScheduleTexts.hopmeshref35_Print.calls k L O A c (cs.map PScheduleTexts.ofC) _ _ w (PScheduleTexts.cells_C hcs hn) (by rw [List.length_map, hl]; exact hle) hk
  rw [List.length_map, hl] at h
  exact h
theorem rParse_any (s : ByteArray) (R : PRes) (N : Nat) (hN : R.cs.length = N) (hR : parseR s.data.toList = R) (hs : s.size ≤ 10000) (w : World) :
    Calls Tryz.prog 19 #[.string s] w fun e w' => ∃ A c, e = .returned (.tuple #[.agg #[.int .i64 R.L, .int .i64 R.O, .slice A N c], .int .i64 R.i, .int .i64 R.e]) ∧ Cells w' w'.heap.size A N R.cs ∧ Below w.heap.size w w' := by
  subst hN hR
  obtain ⟨k, hk⟩ := PScheduleTexts.parse_eq s hs
  refine (PScheduleTexts.hopmeshref35_Parse.calls k s _ _ _ _ _ w hk).mono fun e w' ⟨v, he, hR, hb⟩ => ?_
  obtain ⟨A, c, rfl, _, hC⟩ := PScheduleTexts.R_cells hR
  exact ⟨A, c, he, hC, hb⟩
theorem iParse_any (s : ByteArray) (R : PRes) (N : Nat) (hN : R.cs.length = N) (hR : parseR s.data.toList = R) (hs : s.size ≤ 100000) (w : World) (ht : Tabs w) :
    Calls Tryz.prog 18 #[.string s] w fun e w' => ∃ A c, e = .returned (.tuple #[.agg #[.int .i64 R.L, .int .i64 R.O, .slice A N c], .int .i64 R.i, .int .i64 R.e]) ∧ Cells w' w'.heap.size A N R.cs ∧ Below w.heap.size w w' := by
  subst hN
  exact (Parse_lit s _ hR hs w ht).mono fun _ _ ⟨A, c, h1, h2, _, h4⟩ => ⟨A, c, h1, h2, h4⟩
theorem parseR_len (t : List UInt8) : (parseR t).cs.length ≤ 512 := by
  by_cases h : (parseR t).e = 0
  · exact (form_sized (print_parse t h).1).2.2.2.2
  · rw [(parse_bad t h).1]; simp
theorem sameS_own (L O : Int) (cs : List C5) : sameS L O cs L O cs = true := by unfold sameS sameL; simp
set_option maxHeartbeats 4000000 in
set_option maxRecDepth 100000 in
theorem walk_Texts_big (L O : Int) (A : Option Addr) (n c : Nat) (hn : n ≤ 9223372036854775807) (s : ByteArray) (hf : Hid (fewB n = false)) (w : World) (ht : Hid (Tabs w)) :
    Calls Tryz.prog 4 #[.agg #[.int .i64 L, .int .i64 O, .slice A n c], .string s] w fun e w' => e = .returned (.bool true) ∧ Below w.heap.size w w' := by
  have hb0 : Below w.heap.size w (w.alloc (N30 L O (.slice A n c))) := (Below.refl _ _).alloc (Nat.le_refl _) _
  have hT0 := Lib.hid (ht.out.later hb0)
  have hB0 := Lib.hid (BoxS.new L O (.slice A n c) 30 w)
  go_enter Tryz.func4, Tryz.ntmps4
  go_wp2_with fail
  refine (awake_any _ hT0).mono ?_
  rintro e w1 ⟨rfl, hb1⟩
  have hB1 := Lib.hid (hB0.out.below hb1 (by simp))
  have hbw1 := bstep hb0 hb1 (Nat.le_refl _)
  have hz1 : w.heap.size < w1.heap.size := by have := hb1.size; simp at this; omega
  clear hB0 hb1 hb0 hT0
  obtain ⟨b0, b1, b2⟩ := id hB1.out
  go_wp2_with fail
  refine (carry (Few_any L O A n c hn false hf.out _) hbw1).mono ?_
  rintro e w2 ⟨rfl, hb2⟩
  go_wp2_with fail
  go_ret
  exact ⟨rfl, hb2⟩
set_option maxHeartbeats 4000000 in
set_option maxRecDepth 100000 in
theorem walk_Texts_long (L O : Int) (A : Option Addr) (n c : Nat) (hn : n ≤ 9223372036854775807) (s : ByteArray) (hm : s.size ≤ 9223372036854775807) (hs : 2000 < s.size) (hf : Hid (fewB n = true)) (w : World) (ht : Hid (Tabs w)) :
    Calls Tryz.prog 4 #[.agg #[.int .i64 L, .int .i64 O, .slice A n c], .string s] w fun e w' => e = .returned (.bool true) ∧ Below w.heap.size w w' := by
  have hb0 : Below w.heap.size w (w.alloc (N30 L O (.slice A n c))) := (Below.refl _ _).alloc (Nat.le_refl _) _
  have hT0 := Lib.hid (ht.out.later hb0)
  have hB0 := Lib.hid (BoxS.new L O (.slice A n c) 30 w)
  go_enter Tryz.func4, Tryz.ntmps4
  go_wp2_with fail
  refine (awake_any _ hT0).mono ?_
  rintro e w1 ⟨rfl, hb1⟩
  have hB1 := Lib.hid (hB0.out.below hb1 (by simp))
  have hbw1 := bstep hb0 hb1 (Nat.le_refl _)
  have hz1 : w.heap.size < w1.heap.size := by have := hb1.size; simp at this; omega
  clear hB0 hb1 hb0 hT0
  obtain ⟨b0, b1, b2⟩ := id hB1.out
  go_wp2_with fail
  refine (carry (Few_any L O A n c hn true hf.out _) hbw1).mono ?_
  rintro e w2 ⟨rfl, hb2⟩
  go_wp2_with fail
  go_ret
  exact ⟨rfl, hb2⟩
set_option maxHeartbeats 4000000 in
set_option maxRecDepth 100000 in
theorem walk_Texts_few (L O : Int) (A : Option Addr) (n c : Nat) (cs : List C5) (hn : n ≤ 1000000) (hle : n ≤ c) (s : ByteArray) (hs : s.size ≤ 2000) (hf : Hid (fewB n = true)) (S : ByteArray) (E : Int) (hS : Hid ((if formB L O cs = true then bytesOf (printL L O cs) else ⟨#[]⟩) = S)) (hE : Hid ((if formB L O cs = true then 0 else 1) = E)) (M Q I E2 : Int) (ds : List C5) (N : Nat) (hN : Hid (ds.length = N)) (hN2 : N ≤ 512) (hR : Hid (parseR s.data.toList = ⟨M, Q, ds, I, E2⟩)) (w : World) (ht : Hid (Tabs w)) (hcs : Hid (Cells w w.heap.size A n cs)) :
    Calls Tryz.prog 4 #[.agg #[.int .i64 L, .int .i64 O, .slice A n c], .string s] w fun e w' => e = .returned (.bool true) ∧ Below w.heap.size w w' := by
  have hb0 : Below w.heap.size w (w.alloc (N30 L O (.slice A n c))) := (Below.refl _ _).alloc (Nat.le_refl _) _
  have hT0 := Lib.hid (ht.out.later hb0)
  have hB0 := Lib.hid (BoxS.new L O (.slice A n c) 30 w)
  go_enter Tryz.func4, Tryz.ntmps4
  go_wp2_with fail
  refine (awake_any _ hT0).mono ?_
  rintro e w1 ⟨rfl, hb1⟩
  have hB1 := Lib.hid (hB0.out.below hb1 (by simp))
  have hbw1 := bstep hb0 hb1 (Nat.le_refl _)
  have hz1 : w.heap.size < w1.heap.size := by have := hb1.size; simp at this; omega
  clear hB0 hb1 hb0 hT0
  obtain ⟨b0, b1, b2⟩ := id hB1.out
  go_wp2_with fail
  refine (Few_any L O A n c (by omega) true hf.out _).mono ?_
  rintro e w2 ⟨rfl, hb2⟩
  clear b0 b1 b2
  have hB2 := Lib.hid (hB1.out.below hb2 hz1)
  have hbw2 := bstep hbw1 hb2 (Nat.le_refl _)
  have hz2 := Nat.lt_of_lt_of_le hz1 hb2.size
  have hC2 := Lib.hid ((hcs.out.below hbw2).more hbw2.size)
  clear hB1 hbw1 hz1 hb2 hcs
  obtain ⟨b0, b1, b2⟩ := id hB2.out
  go_wp2_with fail
  refine (Print_any L O A n c cs hn S E hS.out hE.out _ hC2.out (ht.out.later hbw2)).mono ?_
  rintro e w3 ⟨rfl, hb3⟩
  clear b0 b1 b2
  have hB3 := Lib.hid (hB2.out.below hb3 hz2)
  have hbw3 := bstep hbw2 hb3 (Nat.le_refl _)
  have hz3 := Nat.lt_of_lt_of_le hz2 hb3.size
  have hC3 := Lib.hid ((hC2.out.below hb3).more hb3.size)
  clear hB2 hbw2 hz2 hb3 hC2
  obtain ⟨b0, b1, b2⟩ := id hB3.out
  go_wp2_with fail
  refine (rPrint_any L O A n c cs hn hle S E hS.out hE.out _ hC3.out).mono ?_
  rintro e w4 ⟨rfl, hb4⟩
  clear b0 b1 b2
  have hbw4 := bstep hbw3 hb4 (Nat.le_refl _)
  clear hB3 hbw3 hz3 hb4 hC3
  go_wp2_with fail
  refine (iParse_any s _ N hN.out hR.out (by omega) _ (ht.out.later hbw4)).mono ?_
  rintro e w5 ⟨A5, c5, rfl, hC5, hb5⟩
  dsimp only at hC5 ⊢
  have hbw5 := bstep hbw4 hb5 (Nat.le_refl _)
  have hC5 := Lib.hid hC5
  clear hbw4 hb5
  have hb6 : Below w5.heap.size w5 (w5.alloc (N30 M Q (.slice A5 N c5))) := (Below.refl _ _).alloc (Nat.le_refl _) _
  have hD6 := Lib.hid (BoxS.new M Q (.slice A5 N c5) 30 w5)
  have hC6 := Lib.hid ((hC5.out.below hb6).more hb6.size)
  have hbw6 := bstep hbw5 hb6 (Nat.le_refl _)
  have hd6 : w5.heap.size < (w5.alloc (N30 M Q (.slice A5 N c5))).heap.size := by simp
  clear hb6 hbw5 hC5
  go_wp2_with fail
  revert hD6 hC6 hbw6 hd6
  generalize w5.alloc (N30 M Q (.slice A5 N c5)) = w6
  intro hD6 hC6 hbw6 hd6
  refine (rParse_any s _ N hN.out hR.out (by omega) _).mono ?_
  rintro e w7 ⟨A7, c7, rfl, hC7, hb7⟩
  dsimp only at hC7 ⊢
  have hbw7 := bstep hbw6 hb7 (Nat.le_refl _)
  have hD7 := Lib.hid (hD6.out.below hb7 hd6)
  have hd7 := Nat.lt_of_lt_of_le hd6 hb7.size
  have hE7 := Lib.hid ((hC6.out.below hb7).more hb7.size)
  clear hD6 hC6 hbw6 hd6 hb7
  have hb8 : Below w7.heap.size w7 (w7.alloc (N30 M Q (.slice A7 N c7))) := (Below.refl _ _).alloc (Nat.le_refl _) _
  have hE8 := Lib.hid ((hE7.out.below hb8).more hb8.size)
  have hC8 := Lib.hid ((hC7.below hb8).more hb8.size)
  have hbw8 := bstep hbw7 hb8 (Nat.le_refl _)
  obtain ⟨b0, b1, b2⟩ := id hD7.out
  clear hC7 hE7 hbw7 hD7
  go_wp2_with fail
  refine (carry (Same_any M Q M Q _ _ _ _ _ _ ds ds (by omega) _ hE8.out hC8.out true (sameS_own _ _ _)) hbw8).mono ?_
  rintro e w9 ⟨rfl, hb9⟩
  go_wp2_with fail
  go_ret
  exact ⟨rfl, hb9⟩
theorem walk_Texts (L O : Int) (A : Option Addr) (n c : Nat) (cs : List C5) (hn : n ≤ 9223372036854775807) (hle : n ≤ c) (s : ByteArray) (hm : s.size ≤ 9223372036854775807) (w : World) (ht : Tabs w) (hcs : Cells w w.heap.size A n cs) :
    Calls Tryz.prog 4 #[.agg #[.int .i64 L, .int .i64 O, .slice A n c], .string s] w fun e w' => e = .returned (.bool true) ∧ Below w.heap.size w w' := by
  cases hf : fewB n
  · exact walk_Texts_big L O A n c hn s (Lib.hid hf) w (Lib.hid ht)
  · by_cases hs : 2000 < s.size
    · exact walk_Texts_long L O A n c hn s hm hs (Lib.hid hf) w (Lib.hid ht)
    · have h1 : n ≤ 1000000 := by unfold fewB at hf; simp at hf; omega
      have hlen := parseR_len s.data.toList
      rcases hr : parseR s.data.toList with ⟨M, Q, ds, i, e0⟩
      rw [hr] at hlen
      exact walk_Texts_few L O A n c cs h1 hle s (by omega) (Lib.hid hf) _ _ (Lib.hid rfl) (Lib.hid rfl) M Q i e0 ds _ (Lib.hid rfl) hlen (Lib.hid hr) w (Lib.hid ht) (Lib.hid hcs)
end Go.Proofs.YtnddjcadkbjjhaaGreatDoor
