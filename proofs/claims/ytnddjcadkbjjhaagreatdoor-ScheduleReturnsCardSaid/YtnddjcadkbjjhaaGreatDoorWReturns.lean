/-
  The law ScheduleReturns, walked: it returns true for every schedule and text.
-/
import Derived.Test.YtnddjcadkbjjhaaGreatDoorK
import Derived.Test.YtnddjcadkbjjhaaGreatDoorU
namespace Go.Proofs.YtnddjcadkbjjhaaGreatDoor
open Go.RowKit

theorem sameS_refl (L O : Int) (cs : List C5) : sameS L O cs L O cs = true := by unfold sameS sameL; simp
theorem printL_le {L O : Int} {cs : List C5} (h : formB L O cs = true) (hn : cs.length ≤ 60) : (printL L O cs).length ≤ 100000 := by
  obtain ⟨h1, h2, h3, h4, _⟩ := form_sized h
  have hl := lineL_le schedL [L, O] (by intro x hx; simp at hx; omega)
  have hc := cellsL_le cs (form_ints h)
  have h5 : schedL.length = 8 := rfl
  unfold printL
  rw [List.length_append]
  simp only [List.length_cons, List.length_nil] at hl
  omega
/-- Parse of a text that is one schedule. -/
theorem Parse_fine (s : ByteArray) (L O : Int) (cs : List C5) (N : Nat) (hN : cs.length = N) (hR : parseR s.data.toList = ⟨L, O, cs, -1, 0⟩) (hs : s.size ≤ 100000) (w : World) (ht : Tabs w) :
    Calls Tryz.prog 18 #[.string s] w fun e w' => ∃ A c, e = .returned (.tuple #[.agg #[.int .i64 L, .int .i64 O, .slice A N c], .int .i64 (-1), .int .i64 0]) ∧ Cells w' w'.heap.size A N cs ∧ Below w.heap.size w w' := by
  subst hN
  exact (Parse_lit s _ hR hs w ht).mono fun _ _ ⟨A, c, h1, h2, _, h4⟩ => ⟨A, c, h1, h2, h4⟩
/-- Parse of a text that is none. -/
theorem Parse_none (s : ByteArray) (O i e0 : Int) (hR : parseR s.data.toList = ⟨0, O, [], i, e0⟩) (hs : s.size ≤ 100000) (w : World) (ht : Tabs w) :
    Calls Tryz.prog 18 #[.string s] w fun e w' => ∃ A c, e = .returned (.tuple #[.agg #[.int .i64 0, .int .i64 O, .slice A 0 c], .int .i64 i, .int .i64 e0]) ∧ Below w.heap.size w w' :=
  (Parse_lit s _ hR hs w ht).mono fun _ _ ⟨A, c, h1, _, _, h4⟩ => ⟨A, c, h1, h4⟩
set_option maxHeartbeats 1600000 in
set_option maxRecDepth 100000 in
theorem walk_Returns_big (L O : Int) (A : Option Addr) (n c : Nat) (hn : n ≤ 9223372036854775807) (s : ByteArray) (hm : s.size ≤ 9223372036854775807) (hf : 60 < n ∨ 2000 < s.size) (w : World) (ht : Hid (Tabs w)) :
    Calls Tryz.prog 5 #[.agg #[.int .i64 L, .int .i64 O, .slice A n c], .string s] w fun e w' => e = .returned (.bool true) ∧ Below w.heap.size w w' := by
  have hb0 : Below w.heap.size w (w.alloc (N30 L O (.slice A n c))) := (Below.refl _ _).alloc (Nat.le_refl _) _
  have hT0 := Lib.hid (ht.out.later hb0)
  have hB0 := Lib.hid (BoxS.new L O (.slice A n c) 30 w)
  go_enter Tryz.func5, Tryz.ntmps5
  go_wp2_with fail
  refine (awake_any _ hT0).mono ?_
  rintro e w1 ⟨rfl, hb1⟩
  obtain ⟨b0, b1, b2⟩ := hB0.out.below hb1 (by simp)
  have hbw := bstep hb0 hb1 (Nat.le_refl _)
  by_cases h60 : 60 < n
  · go_wp2_with fail
    go_ret
    exact ⟨rfl, hbw⟩
  · have h2000 : 2000 < s.size := by omega
    clear hf
    go_wp2_with fail
    go_ret
    exact ⟨rfl, hbw⟩
set_option maxHeartbeats 4000000 in
set_option maxRecDepth 100000 in
theorem walk_Returns_nf (L O : Int) (A : Option Addr) (n c : Nat) (cs : List C5) (s : ByteArray) (hn : n ≤ 60) (hsz : s.size ≤ 2000) (hf : Hid (formB L O cs = false)) (M Q : Int) (ds : List C5) (N : Nat) (hdl : Hid (ds.length = N)) (hN : N ≤ 512) (hR : Hid (parseR s.data.toList = ⟨M, Q, ds, -1, 0⟩)) (hg : Hid (formB M Q ds = true)) (hS : Hid (bytesOf (printL M Q ds) = s)) (w : World) (ht : Hid (Tabs w)) (hcs : Hid (Cells w w.heap.size A n cs)) :
    Calls Tryz.prog 5 #[.agg #[.int .i64 L, .int .i64 O, .slice A n c], .string s] w fun e w' => e = .returned (.bool true) ∧ Below w.heap.size w w' := by
  have hb0 : Below w.heap.size w (w.alloc (N30 L O (.slice A n c))) := (Below.refl _ _).alloc (Nat.le_refl _) _
  have hT0 := Lib.hid (ht.out.later hb0)
  have hB0 := Lib.hid (BoxS.new L O (.slice A n c) 30 w)
  have hss : (s.toList == s.toList) = true := by simp
  go_enter Tryz.func5, Tryz.ntmps5
  go_wp2_with fail
  refine (awake_any _ hT0).mono ?_
  rintro e w1 ⟨rfl, hb1⟩
  have hB1 := Lib.hid (hB0.out.below hb1 (by simp))
  have hbw1 := bstep hb0 hb1 (Nat.le_refl _)
  have hz1 : w.heap.size < w1.heap.size := by have := hb1.size; simp at this; omega
  have hC1 := Lib.hid ((hcs.out.below hbw1).more hbw1.size)
  clear hB0 hb1 hb0 hT0 hcs
  obtain ⟨b0, b1, b2⟩ := id hB1.out
  go_wp2_with fail
  refine (Print_any L O A n c cs (by omega) ⟨#[]⟩ 1 (by rw [hf.out]; rfl) (by rw [hf.out]; rfl) _ hC1.out (ht.out.later hbw1)).mono ?_
  rintro e w5 ⟨rfl, hb2⟩
  clear b0 b1 b2
  have hbw5 := bstep hbw1 hb2 (Nat.le_refl _)
  clear hB1 hbw1 hz1 hb2 hC1
  go_wp2_with fail
  refine (Parse_fine s M Q ds N hdl.out hR.out (by omega) _ (ht.out.later hbw5)).mono ?_
  rintro e w6 ⟨A6, c6, rfl, hD6, hb6⟩
  have hbw6 := bstep hbw5 hb6 (Nat.le_refl _)
  clear hbw5 hb6
  have hb7 : Below w6.heap.size w6 (w6.alloc (N30 M Q (.slice A6 N c6))) := (Below.refl _ _).alloc (Nat.le_refl _) _
  have hbw7 := bstep hbw6 hb7 (Nat.le_refl _)
  have hD7 := Lib.hid ((hD6.below hb7).more hb7.size)
  clear hD6 hbw6 hb7
  go_wp2_with fail
  refine (carry (Print_any M Q A6 N c6 ds (by omega) s 0 (by rw [hg.out]; exact hS.out) (by rw [hg.out]; rfl) _ hD7.out (ht.out.later hbw7)) hbw7).mono ?_
  rintro e w8 ⟨rfl, hb8⟩
  go_wp2_with fail
  go_ret
  exact ⟨rfl, hb8⟩
set_option maxHeartbeats 4000000 in
set_option maxRecDepth 100000 in
theorem walk_Returns_nn (L O : Int) (A : Option Addr) (n c : Nat) (cs : List C5) (s : ByteArray) (hn : n ≤ 60) (hsz : s.size ≤ 2000) (hf : Hid (formB L O cs = false)) (Q i e0 : Int) (he0 : e0 ≠ 0) (hR : Hid (parseR s.data.toList = ⟨0, Q, [], i, e0⟩)) (w : World) (ht : Hid (Tabs w)) (hcs : Hid (Cells w w.heap.size A n cs)) :
    Calls Tryz.prog 5 #[.agg #[.int .i64 L, .int .i64 O, .slice A n c], .string s] w fun e w' => e = .returned (.bool true) ∧ Below w.heap.size w w' := by
  have hb0 : Below w.heap.size w (w.alloc (N30 L O (.slice A n c))) := (Below.refl _ _).alloc (Nat.le_refl _) _
  have hT0 := Lib.hid (ht.out.later hb0)
  have hB0 := Lib.hid (BoxS.new L O (.slice A n c) 30 w)
  have hss : (s.toList == s.toList) = true := by simp
  go_enter Tryz.func5, Tryz.ntmps5
  go_wp2_with fail
  refine (awake_any _ hT0).mono ?_
  rintro e w1 ⟨rfl, hb1⟩
  have hB1 := Lib.hid (hB0.out.below hb1 (by simp))
  have hbw1 := bstep hb0 hb1 (Nat.le_refl _)
  have hz1 : w.heap.size < w1.heap.size := by have := hb1.size; simp at this; omega
  have hC1 := Lib.hid ((hcs.out.below hbw1).more hbw1.size)
  clear hB0 hb1 hb0 hT0 hcs
  obtain ⟨b0, b1, b2⟩ := id hB1.out
  go_wp2_with fail
  refine (Print_any L O A n c cs (by omega) ⟨#[]⟩ 1 (by rw [hf.out]; rfl) (by rw [hf.out]; rfl) _ hC1.out (ht.out.later hbw1)).mono ?_
  rintro e w5 ⟨rfl, hb2⟩
  clear b0 b1 b2
  have hbw5 := bstep hbw1 hb2 (Nat.le_refl _)
  clear hB1 hbw1 hz1 hb2 hC1
  go_wp2_with fail
  refine (Parse_none s Q i e0 hR.out (by omega) _ (ht.out.later hbw5)).mono ?_
  rintro e w6 ⟨A6, c6, rfl, hb6⟩
  have hbw6 := bstep hbw5 hb6 (Nat.le_refl _)
  clear hbw5 hb6
  have hb7 : Below w6.heap.size w6 (w6.alloc (N30 0 Q (.slice A6 0 c6))) := (Below.refl _ _).alloc (Nat.le_refl _) _
  have hbw7 := bstep hbw6 hb7 (Nat.le_refl _)
  go_wp2_with fail
  go_ret
  exact ⟨rfl, hbw7⟩
set_option maxHeartbeats 4000000 in
set_option maxRecDepth 100000 in
theorem walk_Returns_yf (L O : Int) (A : Option Addr) (n c : Nat) (cs : List C5) (s : ByteArray) (hn : n ≤ 60) (hsz : s.size ≤ 2000) (hf : Hid (formB L O cs = true)) (hcl : Hid (cs.length = n)) (P : ByteArray) (hP : Hid (bytesOf (printL L O cs) = P)) (hPp : Hid (parseR P.data.toList = ⟨L, O, cs, -1, 0⟩)) (hPs : P.size ≤ 100000) (M Q : Int) (ds : List C5) (N : Nat) (hdl : Hid (ds.length = N)) (hN : N ≤ 512) (hR : Hid (parseR s.data.toList = ⟨M, Q, ds, -1, 0⟩)) (hg : Hid (formB M Q ds = true)) (hS : Hid (bytesOf (printL M Q ds) = s)) (w : World) (ht : Hid (Tabs w)) (hcs : Hid (Cells w w.heap.size A n cs)) :
    Calls Tryz.prog 5 #[.agg #[.int .i64 L, .int .i64 O, .slice A n c], .string s] w fun e w' => e = .returned (.bool true) ∧ Below w.heap.size w w' := by
  have hb0 : Below w.heap.size w (w.alloc (N30 L O (.slice A n c))) := (Below.refl _ _).alloc (Nat.le_refl _) _
  have hT0 := Lib.hid (ht.out.later hb0)
  have hB0 := Lib.hid (BoxS.new L O (.slice A n c) 30 w)
  have hss : (s.toList == s.toList) = true := by simp
  go_enter Tryz.func5, Tryz.ntmps5
  go_wp2_with fail
  refine (awake_any _ hT0).mono ?_
  rintro e w1 ⟨rfl, hb1⟩
  have hB1 := Lib.hid (hB0.out.below hb1 (by simp))
  have hbw1 := bstep hb0 hb1 (Nat.le_refl _)
  have hz1 : w.heap.size < w1.heap.size := by have := hb1.size; simp at this; omega
  have hC1 := Lib.hid ((hcs.out.below hbw1).more hbw1.size)
  clear hB0 hb1 hb0 hT0 hcs
  obtain ⟨b0, b1, b2⟩ := id hB1.out
  go_wp2_with fail
  refine (Print_any L O A n c cs (by omega) P 0 (by rw [hf.out]; exact hP.out) (by rw [hf.out]; rfl) _ hC1.out (ht.out.later hbw1)).mono ?_
  rintro e w2 ⟨rfl, hb2⟩
  clear b0 b1 b2
  have hbw2 := bstep hbw1 hb2 (Nat.le_refl _)
  have hz2 := Nat.lt_of_lt_of_le hz1 hb2.size
  have hB2 := Lib.hid (hB1.out.below hb2 hz1)
  have hC2 := Lib.hid ((hC1.out.below hb2).more hb2.size)
  clear hB1 hbw1 hz1 hb2 hC1
  go_wp2_with fail
  refine (Parse_fine P L O cs n hcl.out hPp.out hPs _ (ht.out.later hbw2)).mono ?_
  rintro e w3 ⟨A3, c3, rfl, hD3, hb3⟩
  have hbw3 := bstep hbw2 hb3 (Nat.le_refl _)
  have hz3 := Nat.lt_of_lt_of_le hz2 hb3.size
  have hB3 := Lib.hid (hB2.out.below hb3 hz2)
  have hC3 := Lib.hid ((hC2.out.below hb3).more hb3.size)
  clear hB2 hbw2 hz2 hb3 hC2
  have hb4 : Below w3.heap.size w3 (w3.alloc (N30 L O (.slice A3 n c3))) := (Below.refl _ _).alloc (Nat.le_refl _) _
  have hbw4 := bstep hbw3 hb4 (Nat.le_refl _)
  have hC4 := Lib.hid ((hC3.out.below hb4).more hb4.size)
  have hD4 := Lib.hid ((hD3.below hb4).more hb4.size)
  obtain ⟨b0, b1, b2⟩ := id hB3.out
  clear hB3 hbw3 hC3 hD3
  go_wp2_with fail
  refine (Same_any L O L O _ _ _ _ _ _ cs cs (by omega) _ hC4.out hD4.out true (sameS_refl _ _ _)).mono ?_
  rintro e w5 ⟨rfl, hb5⟩
  clear b0 b1 b2
  have hbw5 := bstep hbw4 hb5 (Nat.le_refl _)
  clear hbw4 hC4 hD4 hb4 hb5 hz3
  go_wp2_with fail
  refine (Parse_fine s M Q ds N hdl.out hR.out (by omega) _ (ht.out.later hbw5)).mono ?_
  rintro e w6 ⟨A6, c6, rfl, hD6, hb6⟩
  have hbw6 := bstep hbw5 hb6 (Nat.le_refl _)
  clear hbw5 hb6
  have hb7 : Below w6.heap.size w6 (w6.alloc (N30 M Q (.slice A6 N c6))) := (Below.refl _ _).alloc (Nat.le_refl _) _
  have hbw7 := bstep hbw6 hb7 (Nat.le_refl _)
  have hD7 := Lib.hid ((hD6.below hb7).more hb7.size)
  clear hD6 hbw6 hb7
  go_wp2_with fail
  refine (carry (Print_any M Q A6 N c6 ds (by omega) s 0 (by rw [hg.out]; exact hS.out) (by rw [hg.out]; rfl) _ hD7.out (ht.out.later hbw7)) hbw7).mono ?_
  rintro e w8 ⟨rfl, hb8⟩
  go_wp2_with fail
  go_ret
  exact ⟨rfl, hb8⟩
set_option maxHeartbeats 4000000 in
set_option maxRecDepth 100000 in
theorem walk_Returns_yn (L O : Int) (A : Option Addr) (n c : Nat) (cs : List C5) (s : ByteArray) (hn : n ≤ 60) (hsz : s.size ≤ 2000) (hf : Hid (formB L O cs = true)) (hcl : Hid (cs.length = n)) (P : ByteArray) (hP : Hid (bytesOf (printL L O cs) = P)) (hPp : Hid (parseR P.data.toList = ⟨L, O, cs, -1, 0⟩)) (hPs : P.size ≤ 100000) (Q i e0 : Int) (he0 : e0 ≠ 0) (hR : Hid (parseR s.data.toList = ⟨0, Q, [], i, e0⟩)) (w : World) (ht : Hid (Tabs w)) (hcs : Hid (Cells w w.heap.size A n cs)) :
    Calls Tryz.prog 5 #[.agg #[.int .i64 L, .int .i64 O, .slice A n c], .string s] w fun e w' => e = .returned (.bool true) ∧ Below w.heap.size w w' := by
  have hb0 : Below w.heap.size w (w.alloc (N30 L O (.slice A n c))) := (Below.refl _ _).alloc (Nat.le_refl _) _
  have hT0 := Lib.hid (ht.out.later hb0)
  have hB0 := Lib.hid (BoxS.new L O (.slice A n c) 30 w)
  have hss : (s.toList == s.toList) = true := by simp
  go_enter Tryz.func5, Tryz.ntmps5
  go_wp2_with fail
  refine (awake_any _ hT0).mono ?_
  rintro e w1 ⟨rfl, hb1⟩
  have hB1 := Lib.hid (hB0.out.below hb1 (by simp))
  have hbw1 := bstep hb0 hb1 (Nat.le_refl _)
  have hz1 : w.heap.size < w1.heap.size := by have := hb1.size; simp at this; omega
  have hC1 := Lib.hid ((hcs.out.below hbw1).more hbw1.size)
  clear hB0 hb1 hb0 hT0 hcs
  obtain ⟨b0, b1, b2⟩ := id hB1.out
  go_wp2_with fail
  refine (Print_any L O A n c cs (by omega) P 0 (by rw [hf.out]; exact hP.out) (by rw [hf.out]; rfl) _ hC1.out (ht.out.later hbw1)).mono ?_
  rintro e w2 ⟨rfl, hb2⟩
  clear b0 b1 b2
  have hbw2 := bstep hbw1 hb2 (Nat.le_refl _)
  have hz2 := Nat.lt_of_lt_of_le hz1 hb2.size
  have hB2 := Lib.hid (hB1.out.below hb2 hz1)
  have hC2 := Lib.hid ((hC1.out.below hb2).more hb2.size)
  clear hB1 hbw1 hz1 hb2 hC1
  go_wp2_with fail
  refine (Parse_fine P L O cs n hcl.out hPp.out hPs _ (ht.out.later hbw2)).mono ?_
  rintro e w3 ⟨A3, c3, rfl, hD3, hb3⟩
  have hbw3 := bstep hbw2 hb3 (Nat.le_refl _)
  have hz3 := Nat.lt_of_lt_of_le hz2 hb3.size
  have hB3 := Lib.hid (hB2.out.below hb3 hz2)
  have hC3 := Lib.hid ((hC2.out.below hb3).more hb3.size)
  clear hB2 hbw2 hz2 hb3 hC2
  have hb4 : Below w3.heap.size w3 (w3.alloc (N30 L O (.slice A3 n c3))) := (Below.refl _ _).alloc (Nat.le_refl _) _
  have hbw4 := bstep hbw3 hb4 (Nat.le_refl _)
  have hC4 := Lib.hid ((hC3.out.below hb4).more hb4.size)
  have hD4 := Lib.hid ((hD3.below hb4).more hb4.size)
  obtain ⟨b0, b1, b2⟩ := id hB3.out
  clear hB3 hbw3 hC3 hD3
  go_wp2_with fail
  refine (Same_any L O L O _ _ _ _ _ _ cs cs (by omega) _ hC4.out hD4.out true (sameS_refl _ _ _)).mono ?_
  rintro e w5 ⟨rfl, hb5⟩
  clear b0 b1 b2
  have hbw5 := bstep hbw4 hb5 (Nat.le_refl _)
  clear hbw4 hC4 hD4 hb4 hb5 hz3
  go_wp2_with fail
  refine (Parse_none s Q i e0 hR.out (by omega) _ (ht.out.later hbw5)).mono ?_
  rintro e w6 ⟨A6, c6, rfl, hb6⟩
  have hbw6 := bstep hbw5 hb6 (Nat.le_refl _)
  clear hbw5 hb6
  have hb7 : Below w6.heap.size w6 (w6.alloc (N30 0 Q (.slice A6 0 c6))) := (Below.refl _ _).alloc (Nat.le_refl _) _
  have hbw7 := bstep hbw6 hb7 (Nat.le_refl _)
  go_wp2_with fail
  go_ret
  exact ⟨rfl, hbw7⟩
theorem walk_Returns (L O : Int) (A : Option Addr) (n c : Nat) (cs : List C5) (hn : n ≤ 9223372036854775807) (s : ByteArray) (hm : s.size ≤ 9223372036854775807) (w : World) (ht : Tabs w) (hcs : Cells w w.heap.size A n cs) :
    Calls Tryz.prog 5 #[.agg #[.int .i64 L, .int .i64 O, .slice A n c], .string s] w fun e w' => e = .returned (.bool true) ∧ Below w.heap.size w w' := by
  by_cases hbig : 60 < n ∨ 2000 < s.size
  · exact walk_Returns_big L O A n c hn s hm hbig w (Lib.hid ht)
  have h1 : n ≤ 60 := by omega
  have h2 : s.size ≤ 2000 := by omega
  have hcl := hcs.1
  rcases hr : parseR s.data.toList with ⟨M, Q, ds, i, e0⟩
  have hpp := print_parse s.data.toList
  have hpb := parse_bad s.data.toList
  rw [hr] at hpp hpb
  dsimp only at hpp hpb
  have hparse : formB L O cs = true → parseR (bytesOf (printL L O cs)).data.toList = ⟨L, O, cs, -1, 0⟩ := fun h => by rw [bytesOf_list]; exact parse_print L O cs h
  have hle : formB L O cs = true → (bytesOf (printL L O cs)).size ≤ 100000 := fun h => by rw [bytesOf_size]; exact printL_le h (by omega)
  by_cases he : e0 = 0
  · subst he
    obtain ⟨hg, hp⟩ := hpp rfl
    have hS : bytesOf (printL M Q ds) = s := by rw [hp]; unfold bytesOf; simp
    have hN := (form_sized hg).2.2.2.2
    have hR : parseR s.data.toList = ⟨M, Q, ds, -1, 0⟩ := by rw [← hS]; rw [bytesOf_list]; exact parse_print M Q ds hg
    cases hf : formB L O cs
    · exact walk_Returns_nf L O A n c cs s h1 h2 (Lib.hid hf) M Q ds _ (Lib.hid rfl) hN (Lib.hid hR) (Lib.hid hg) (Lib.hid hS) w (Lib.hid ht) (Lib.hid hcs)
    · exact walk_Returns_yf L O A n c cs s h1 h2 (Lib.hid hf) (Lib.hid hcl) _ (Lib.hid rfl) (Lib.hid (hparse hf)) (hle hf) M Q ds _ (Lib.hid rfl) hN (Lib.hid hR) (Lib.hid hg) (Lib.hid hS) w (Lib.hid ht) (Lib.hid hcs)
  · obtain ⟨rfl, rfl⟩ := hpb he
    cases hf : formB L O cs
    · exact walk_Returns_nn L O A n c cs s h1 h2 (Lib.hid hf) Q i e0 he (Lib.hid hr) w (Lib.hid ht) (Lib.hid hcs)
    · exact walk_Returns_yn L O A n c cs s h1 h2 (Lib.hid hf) (Lib.hid hcl) _ (Lib.hid rfl) (Lib.hid (hparse hf)) (hle hf) Q i e0 he (Lib.hid hr) w (Lib.hid ht) (Lib.hid hcs)
end Go.Proofs.YtnddjcadkbjjhaaGreatDoor
