/-
  CHAPTER 35: Add and Remove, where they give an error.
-/
import Derived.Test.YtnddjcadkbjjhaaGreatDoorL
import Derived.Test.YtnddjcadkbjjhaaGreatDoorM
import Derived.Test.YtnddjcadkbjjhaaGreatDoorX
import Derived.Test.YtnddjcadkbjjhaaGreatDoorY
namespace Go.Proofs.YtnddjcadkbjjhaaGreatDoor
open Go.RowKit

def addR (L O : Int) (cs : List C5) (x : C5) : PRes :=
  if formB L O cs = false then ⟨0, 0, [], 0, 1⟩
  else if formedB L O x = false then ⟨0, 0, [], 0, 2⟩
  else if x ∈ cs then ⟨0, 0, [], 0, 6⟩
  else if cs.length = 512 then ⟨0, 0, [], 0, 8⟩
  else ⟨L, O, insL cs (posL x cs) x, 0, 0⟩
def remR (L O : Int) (cs : List C5) (x : C5) : PRes :=
  if formB L O cs = false then ⟨0, 0, [], 0, 1⟩
  else if x ∈ cs then ⟨L, O, delL cs (posL x cs), 0, 0⟩
  else ⟨0, 0, [], 0, 7⟩
/-- The world behind the first steps of Add and Remove. -/
abbrev A0 (w : World) (L O : Int) (A : Option Addr) (n c : Nat) (x : C5) : World := ((w.alloc (N30 L O (.slice A n c))).alloc (N51 x)).alloc (.cells Z3 30)
theorem A0_blk (w : World) (L O : Int) (A : Option Addr) (n c : Nat) (x : C5) : Blk (A0 w L O A n c x) (w.heap.size + 1 + 1) 30 Z3 := by
  have := Blk.new ((w.alloc (N30 L O (.slice A n c))).alloc (N51 x)) 30 Z3
  rwa [World.size_alloc, World.size_alloc] at this
theorem A0_below (w : World) (L O : Int) (A : Option Addr) (n c : Nat) (x : C5) : Below w.heap.size w (A0 w L O A n c x) := (((Below.refl _ _).alloc (Nat.le_refl _) _).alloc (by simp) _).alloc (by simp; omega) _
theorem A0_box (w : World) (L O : Int) (A : Option Addr) (n c : Nat) (x : C5) : BoxS (A0 w L O A n c x) w.heap.size L O (.slice A n c) :=
  ((BoxS.new L O (.slice A n c) 30 w).below ((Below.refl _ _).alloc (Nat.le_refl _) _) (by simp)).below ((Below.refl _ _).alloc (Nat.le_refl _) _) (by simp; omega)
theorem A0_x (w : World) (L O : Int) (A : Option Addr) (n c : Nat) (x : C5) : Box5 (A0 w L O A n c x) (w.heap.size + 1) x := by
  have := (Box5.new x 51 (w.alloc (N30 L O (.slice A n c)))).below ((Below.refl _ _).alloc (Nat.le_refl _) (.cells Z3 30)) (by simp)
  rwa [World.size_alloc] at this
theorem A0_size (w : World) (L O : Int) (A : Option Addr) (n c : Nat) (x : C5) : w.heap.size + 1 + 1 < (A0 w L O A n c x).heap.size := by simp
set_option maxHeartbeats 4000000 in
set_option maxRecDepth 100000 in
theorem Add_form (L O : Int) (A : Option Addr) (n c : Nat) (cs : List C5) (x : C5) (hn : n ≤ 1000000) (hr : Hid (formB L O cs = false)) (w : World) (hcs : Hid (Cells w w.heap.size A n cs)) :
    Calls Tryz.prog 28 #[.agg #[.int .i64 L, .int .i64 O, .slice A n c], .agg #[.int .i64 x.s, .int .i64 x.o, .int .i64 x.f, .int .i64 x.t, .int .i64 x.w]] w (SchedEnd w ⟨0, 0, [], 0, 1⟩) := by
  have hw0 := A0_below w L O A n c x
  have hC0 := Lib.hid ((hcs.out.below hw0).more hw0.size)
  have hZ0 := Lib.hid (A0_blk w L O A n c x)
  have hB0 := Lib.hid (A0_box w L O A n c x)
  have hX0 := Lib.hid (A0_x w L O A n c x)
  have hs0 := A0_size w L O A n c x
  have hs0 := Lib.hid hs0
  have hl := hcs.out.1
  clear hcs
  go_enter Tryz.func28, Tryz.ntmps28
  go_wp2_with (go_at_call 53; refine (form_lit L O A n c cs hn false hr.out _ hC0.out).mono ?_; rintro e w1 ⟨rfl, hb1⟩; have hZ1 := Lib.hid (hZ0.out.below hb1 hs0.out); have hB1 := Lib.hid (hB0.out.below hb1 (Nat.lt_of_succ_lt (Nat.lt_of_succ_lt hs0.out))); have hX1 := Lib.hid (hX0.out.below hb1 (Nat.lt_of_succ_lt hs0.out)); have hw1 := bstep hw0 hb1 (Nat.le_refl _); have hC1 := Lib.hid ((hC0.out.below hb1).more hb1.size); have hs1 := Lib.hid (Nat.lt_of_lt_of_le hs0.out hb1.size); clear hZ0 hB0 hX0 hC0 hs0 hw0 hb1; (try clear z0 z1 z2 f0 f1 f2 b0 b1 b2 x0 x1 x2 x3 x4); obtain ⟨z0, z1, z2, f0, f1, f2⟩ := hZ1.out.three; obtain ⟨b0, b1, b2⟩ := id hB1.out; obtain ⟨x0, x1, x2, x3, x4⟩ := id hX1.out)
  refine bodyPost_ret (v := .tuple #[.agg #[.int .i64 0, .int .i64 0, .slice none 0 0], .int .i64 1]) (by simp [results, Tryz.results28, go_sem, z0, z1, z2]) rfl ?_
  exact sched_bad 1 0 hw1 _ (by omega)
set_option maxHeartbeats 4000000 in
set_option maxRecDepth 100000 in
theorem Rem_form (L O : Int) (A : Option Addr) (n c : Nat) (cs : List C5) (x : C5) (hn : n ≤ 1000000) (hr : Hid (formB L O cs = false)) (w : World) (hcs : Hid (Cells w w.heap.size A n cs)) :
    Calls Tryz.prog 27 #[.agg #[.int .i64 L, .int .i64 O, .slice A n c], .agg #[.int .i64 x.s, .int .i64 x.o, .int .i64 x.f, .int .i64 x.t, .int .i64 x.w]] w (SchedEnd w ⟨0, 0, [], 0, 1⟩) := by
  have hw0 := A0_below w L O A n c x
  have hC0 := Lib.hid ((hcs.out.below hw0).more hw0.size)
  have hZ0 := Lib.hid (A0_blk w L O A n c x)
  have hB0 := Lib.hid (A0_box w L O A n c x)
  have hX0 := Lib.hid (A0_x w L O A n c x)
  have hs0 := A0_size w L O A n c x
  have hs0 := Lib.hid hs0
  have hl := hcs.out.1
  clear hcs
  go_enter Tryz.func27, Tryz.ntmps27
  go_wp2_with (go_at_call 53; refine (form_lit L O A n c cs hn false hr.out _ hC0.out).mono ?_; rintro e w1 ⟨rfl, hb1⟩; have hZ1 := Lib.hid (hZ0.out.below hb1 hs0.out); have hB1 := Lib.hid (hB0.out.below hb1 (Nat.lt_of_succ_lt (Nat.lt_of_succ_lt hs0.out))); have hX1 := Lib.hid (hX0.out.below hb1 (Nat.lt_of_succ_lt hs0.out)); have hw1 := bstep hw0 hb1 (Nat.le_refl _); have hC1 := Lib.hid ((hC0.out.below hb1).more hb1.size); have hs1 := Lib.hid (Nat.lt_of_lt_of_le hs0.out hb1.size); clear hZ0 hB0 hX0 hC0 hs0 hw0 hb1; (try clear z0 z1 z2 f0 f1 f2 b0 b1 b2 x0 x1 x2 x3 x4); obtain ⟨z0, z1, z2, f0, f1, f2⟩ := hZ1.out.three; obtain ⟨b0, b1, b2⟩ := id hB1.out; obtain ⟨x0, x1, x2, x3, x4⟩ := id hX1.out)
  refine bodyPost_ret (v := .tuple #[.agg #[.int .i64 0, .int .i64 0, .slice none 0 0], .int .i64 1]) (by simp [results, Tryz.results27, go_sem, z0, z1, z2]) rfl ?_
  exact sched_bad 1 0 hw1 _ (by omega)
set_option maxHeartbeats 4000000 in
set_option maxRecDepth 100000 in
theorem Add_range (L O : Int) (A : Option Addr) (n c : Nat) (cs : List C5) (x : C5) (hn : n ≤ 1000000) (hr : Hid (formB L O cs = true)) (hf : Hid (formedB L O x = false)) (w : World) (hcs : Hid (Cells w w.heap.size A n cs)) :
    Calls Tryz.prog 28 #[.agg #[.int .i64 L, .int .i64 O, .slice A n c], .agg #[.int .i64 x.s, .int .i64 x.o, .int .i64 x.f, .int .i64 x.t, .int .i64 x.w]] w (SchedEnd w ⟨0, 0, [], 0, 2⟩) := by
  have hw0 := A0_below w L O A n c x
  have hC0 := Lib.hid ((hcs.out.below hw0).more hw0.size)
  have hZ0 := Lib.hid (A0_blk w L O A n c x)
  have hB0 := Lib.hid (A0_box w L O A n c x)
  have hX0 := Lib.hid (A0_x w L O A n c x)
  have hs0 := A0_size w L O A n c x
  have hs0 := Lib.hid hs0
  have hl := hcs.out.1
  clear hcs
  go_enter Tryz.func28, Tryz.ntmps28
  go_wp2_with (go_at_call 53; refine (form_lit L O A n c cs hn true hr.out _ hC0.out).mono ?_; rintro e w1 ⟨rfl, hb1⟩; have hZ1 := Lib.hid (hZ0.out.below hb1 hs0.out); have hB1 := Lib.hid (hB0.out.below hb1 (Nat.lt_of_succ_lt (Nat.lt_of_succ_lt hs0.out))); have hX1 := Lib.hid (hX0.out.below hb1 (Nat.lt_of_succ_lt hs0.out)); have hw1 := bstep hw0 hb1 (Nat.le_refl _); have hC1 := Lib.hid ((hC0.out.below hb1).more hb1.size); have hs1 := Lib.hid (Nat.lt_of_lt_of_le hs0.out hb1.size); clear hZ0 hB0 hX0 hC0 hs0 hw0 hb1; (try clear z0 z1 z2 f0 f1 f2 b0 b1 b2 x0 x1 x2 x3 x4); obtain ⟨z0, z1, z2, f0, f1, f2⟩ := hZ1.out.three; obtain ⟨b0, b1, b2⟩ := id hB1.out; obtain ⟨x0, x1, x2, x3, x4⟩ := id hX1.out)
  go_wp2_with (go_at_call 71; refine (formed_lit L O _ x false hf.out _).mono ?_; rintro e w2 ⟨rfl, hb2⟩; have hZ2 := Lib.hid (hZ1.out.below hb2 hs1.out); have hB2 := Lib.hid (hB1.out.below hb2 (Nat.lt_of_succ_lt (Nat.lt_of_succ_lt hs1.out))); have hX2 := Lib.hid (hX1.out.below hb2 (Nat.lt_of_succ_lt hs1.out)); have hw2 := bstep hw1 hb2 (Nat.le_refl _); have hC2 := Lib.hid ((hC1.out.below hb2).more hb2.size); have hs2 := Lib.hid (Nat.lt_of_lt_of_le hs1.out hb2.size); clear hZ1 hB1 hX1 hC1 hs1 hw1 hb2; (try clear z0 z1 z2 f0 f1 f2 b0 b1 b2 x0 x1 x2 x3 x4); obtain ⟨z0, z1, z2, f0, f1, f2⟩ := hZ2.out.three; obtain ⟨b0, b1, b2⟩ := id hB2.out; obtain ⟨x0, x1, x2, x3, x4⟩ := id hX2.out)
  refine bodyPost_ret (v := .tuple #[.agg #[.int .i64 0, .int .i64 0, .slice none 0 0], .int .i64 2]) (by simp [results, Tryz.results28, go_sem, z0, z1, z2]) rfl ?_
  exact sched_bad 2 0 hw2 _ (by omega)
set_option maxHeartbeats 4000000 in
set_option maxRecDepth 100000 in
theorem Add_twice (L O : Int) (A : Option Addr) (n c : Nat) (cs : List C5) (x : C5) (hn : n ≤ 1000000) (hr : Hid (formB L O cs = true)) (hf : Hid (formedB L O x = true)) (hin : x ∈ cs) (w : World) (hcs : Hid (Cells w w.heap.size A n cs)) :
    Calls Tryz.prog 28 #[.agg #[.int .i64 L, .int .i64 O, .slice A n c], .agg #[.int .i64 x.s, .int .i64 x.o, .int .i64 x.f, .int .i64 x.t, .int .i64 x.w]] w (SchedEnd w ⟨0, 0, [], 0, 6⟩) := by
  have hw0 := A0_below w L O A n c x
  have hC0 := Lib.hid ((hcs.out.below hw0).more hw0.size)
  have hZ0 := Lib.hid (A0_blk w L O A n c x)
  have hB0 := Lib.hid (A0_box w L O A n c x)
  have hX0 := Lib.hid (A0_x w L O A n c x)
  have hs0 := A0_size w L O A n c x
  have hs0 := Lib.hid hs0
  have hl := hcs.out.1
  clear hcs
  have hsr := form_srt hr.out
  have hlo := Lib.hid (posL_lo x cs)
  have hhi := Lib.hid (posL_hi x cs hsr)
  have hfd : Hid ((match cs[posL x cs]? with | some z => decide (cmpC z x = 0) | none => false) = true) := Lib.hid ((posL_has x cs hsr).trans (by simpa using hin))
  clear hin hsr
  go_enter Tryz.func28, Tryz.ntmps28
  go_wp2_with (go_at_call 53; refine (form_lit L O A n c cs hn true hr.out _ hC0.out).mono ?_; rintro e w1 ⟨rfl, hb1⟩; have hZ1 := Lib.hid (hZ0.out.below hb1 hs0.out); have hB1 := Lib.hid (hB0.out.below hb1 (Nat.lt_of_succ_lt (Nat.lt_of_succ_lt hs0.out))); have hX1 := Lib.hid (hX0.out.below hb1 (Nat.lt_of_succ_lt hs0.out)); have hw1 := bstep hw0 hb1 (Nat.le_refl _); have hC1 := Lib.hid ((hC0.out.below hb1).more hb1.size); have hs1 := Lib.hid (Nat.lt_of_lt_of_le hs0.out hb1.size); clear hZ0 hB0 hX0 hC0 hs0 hw0 hb1; (try clear z0 z1 z2 f0 f1 f2 b0 b1 b2 x0 x1 x2 x3 x4); obtain ⟨z0, z1, z2, f0, f1, f2⟩ := hZ1.out.three; obtain ⟨b0, b1, b2⟩ := id hB1.out; obtain ⟨x0, x1, x2, x3, x4⟩ := id hX1.out)
  go_wp2_with (go_at_call 71; refine (formed_lit L O _ x true hf.out _).mono ?_; rintro e w2 ⟨rfl, hb2⟩; have hZ2 := Lib.hid (hZ1.out.below hb2 hs1.out); have hB2 := Lib.hid (hB1.out.below hb2 (Nat.lt_of_succ_lt (Nat.lt_of_succ_lt hs1.out))); have hX2 := Lib.hid (hX1.out.below hb2 (Nat.lt_of_succ_lt hs1.out)); have hw2 := bstep hw1 hb2 (Nat.le_refl _); have hC2 := Lib.hid ((hC1.out.below hb2).more hb2.size); have hs2 := Lib.hid (Nat.lt_of_lt_of_le hs1.out hb2.size); clear hZ1 hB1 hX1 hC1 hs1 hw1 hb2; (try clear z0 z1 z2 f0 f1 f2 b0 b1 b2 x0 x1 x2 x3 x4); obtain ⟨z0, z1, z2, f0, f1, f2⟩ := hZ2.out.three; obtain ⟨b0, b1, b2⟩ := id hB2.out; obtain ⟨x0, x1, x2, x3, x4⟩ := id hX2.out)
  go_wp2_with (go_at_call 67; refine (search_any x A n c cs (posL x cs) hn (by have := posL_le x cs; omega) hlo hhi true hfd _ hC2).mono ?_; rintro e w3 ⟨rfl, hb3⟩; have hZ3 := Lib.hid (hZ2.out.below hb3 hs2.out); have hB3 := Lib.hid (hB2.out.below hb3 (Nat.lt_of_succ_lt (Nat.lt_of_succ_lt hs2.out))); have hX3 := Lib.hid (hX2.out.below hb3 (Nat.lt_of_succ_lt hs2.out)); have hw3 := bstep hw2 hb3 (Nat.le_refl _); have hC3 := Lib.hid ((hC2.out.below hb3).more hb3.size); have hs3 := Lib.hid (Nat.lt_of_lt_of_le hs2.out hb3.size); clear hZ2 hB2 hX2 hC2 hs2 hw2 hb3; (try clear z0 z1 z2 f0 f1 f2 b0 b1 b2 x0 x1 x2 x3 x4); obtain ⟨z0, z1, z2, f0, f1, f2⟩ := hZ3.out.three; obtain ⟨b0, b1, b2⟩ := id hB3.out; obtain ⟨x0, x1, x2, x3, x4⟩ := id hX3.out)
  refine bodyPost_ret (v := .tuple #[.agg #[.int .i64 0, .int .i64 0, .slice none 0 0], .int .i64 6]) (by simp [results, Tryz.results28, go_sem, z0, z1, z2]) rfl ?_
  exact sched_bad 6 0 hw3 _ (by omega)
set_option maxHeartbeats 4000000 in
set_option maxRecDepth 100000 in
theorem Add_large (L O : Int) (A : Option Addr) (n c : Nat) (cs : List C5) (x : C5) (hn : n ≤ 1000000) (hr : Hid (formB L O cs = true)) (hf : Hid (formedB L O x = true)) (hin : ¬ x ∈ cs) (h512 : Hid (n = 512)) (w : World) (hcs : Hid (Cells w w.heap.size A n cs)) :
    Calls Tryz.prog 28 #[.agg #[.int .i64 L, .int .i64 O, .slice A n c], .agg #[.int .i64 x.s, .int .i64 x.o, .int .i64 x.f, .int .i64 x.t, .int .i64 x.w]] w (SchedEnd w ⟨0, 0, [], 0, 8⟩) := by
  have hw0 := A0_below w L O A n c x
  have hC0 := Lib.hid ((hcs.out.below hw0).more hw0.size)
  have hZ0 := Lib.hid (A0_blk w L O A n c x)
  have hB0 := Lib.hid (A0_box w L O A n c x)
  have hX0 := Lib.hid (A0_x w L O A n c x)
  have hs0 := A0_size w L O A n c x
  have hs0 := Lib.hid hs0
  have hl := hcs.out.1
  clear hcs
  have hsr := form_srt hr.out
  have hlo := Lib.hid (posL_lo x cs)
  have hhi := Lib.hid (posL_hi x cs hsr)
  have hfd : Hid ((match cs[posL x cs]? with | some z => decide (cmpC z x = 0) | none => false) = false) := Lib.hid ((posL_has x cs hsr).trans (by simpa using hin))
  clear hin hsr
  have h5 : ((n : Int) == 512) = true := by rw [h512.out]; rfl
  go_enter Tryz.func28, Tryz.ntmps28
  go_wp2_with (go_at_call 53; refine (form_lit L O A n c cs hn true hr.out _ hC0.out).mono ?_; rintro e w1 ⟨rfl, hb1⟩; have hZ1 := Lib.hid (hZ0.out.below hb1 hs0.out); have hB1 := Lib.hid (hB0.out.below hb1 (Nat.lt_of_succ_lt (Nat.lt_of_succ_lt hs0.out))); have hX1 := Lib.hid (hX0.out.below hb1 (Nat.lt_of_succ_lt hs0.out)); have hw1 := bstep hw0 hb1 (Nat.le_refl _); have hC1 := Lib.hid ((hC0.out.below hb1).more hb1.size); have hs1 := Lib.hid (Nat.lt_of_lt_of_le hs0.out hb1.size); clear hZ0 hB0 hX0 hC0 hs0 hw0 hb1; (try clear z0 z1 z2 f0 f1 f2 b0 b1 b2 x0 x1 x2 x3 x4); obtain ⟨z0, z1, z2, f0, f1, f2⟩ := hZ1.out.three; obtain ⟨b0, b1, b2⟩ := id hB1.out; obtain ⟨x0, x1, x2, x3, x4⟩ := id hX1.out)
  go_wp2_with (go_at_call 71; refine (formed_lit L O _ x true hf.out _).mono ?_; rintro e w2 ⟨rfl, hb2⟩; have hZ2 := Lib.hid (hZ1.out.below hb2 hs1.out); have hB2 := Lib.hid (hB1.out.below hb2 (Nat.lt_of_succ_lt (Nat.lt_of_succ_lt hs1.out))); have hX2 := Lib.hid (hX1.out.below hb2 (Nat.lt_of_succ_lt hs1.out)); have hw2 := bstep hw1 hb2 (Nat.le_refl _); have hC2 := Lib.hid ((hC1.out.below hb2).more hb2.size); have hs2 := Lib.hid (Nat.lt_of_lt_of_le hs1.out hb2.size); clear hZ1 hB1 hX1 hC1 hs1 hw1 hb2; (try clear z0 z1 z2 f0 f1 f2 b0 b1 b2 x0 x1 x2 x3 x4); obtain ⟨z0, z1, z2, f0, f1, f2⟩ := hZ2.out.three; obtain ⟨b0, b1, b2⟩ := id hB2.out; obtain ⟨x0, x1, x2, x3, x4⟩ := id hX2.out)
  go_wp2_with (go_at_call 67; refine (search_any x A n c cs (posL x cs) hn (by have := posL_le x cs; omega) hlo hhi false hfd _ hC2).mono ?_; rintro e w3 ⟨rfl, hb3⟩; have hZ3 := Lib.hid (hZ2.out.below hb3 hs2.out); have hB3 := Lib.hid (hB2.out.below hb3 (Nat.lt_of_succ_lt (Nat.lt_of_succ_lt hs2.out))); have hX3 := Lib.hid (hX2.out.below hb3 (Nat.lt_of_succ_lt hs2.out)); have hw3 := bstep hw2 hb3 (Nat.le_refl _); have hC3 := Lib.hid ((hC2.out.below hb3).more hb3.size); have hs3 := Lib.hid (Nat.lt_of_lt_of_le hs2.out hb3.size); clear hZ2 hB2 hX2 hC2 hs2 hw2 hb3; (try clear z0 z1 z2 f0 f1 f2 b0 b1 b2 x0 x1 x2 x3 x4); obtain ⟨z0, z1, z2, f0, f1, f2⟩ := hZ3.out.three; obtain ⟨b0, b1, b2⟩ := id hB3.out; obtain ⟨x0, x1, x2, x3, x4⟩ := id hX3.out)
  refine bodyPost_ret (v := .tuple #[.agg #[.int .i64 0, .int .i64 0, .slice none 0 0], .int .i64 8]) (by simp [results, Tryz.results28, go_sem, z0, z1, z2]) rfl ?_
  exact sched_bad 8 0 hw3 _ (by omega)
set_option maxHeartbeats 4000000 in
set_option maxRecDepth 100000 in
theorem Rem_none (L O : Int) (A : Option Addr) (n c : Nat) (cs : List C5) (x : C5) (hn : n ≤ 1000000) (hr : Hid (formB L O cs = true)) (hin : ¬ x ∈ cs) (w : World) (hcs : Hid (Cells w w.heap.size A n cs)) :
    Calls Tryz.prog 27 #[.agg #[.int .i64 L, .int .i64 O, .slice A n c], .agg #[.int .i64 x.s, .int .i64 x.o, .int .i64 x.f, .int .i64 x.t, .int .i64 x.w]] w (SchedEnd w ⟨0, 0, [], 0, 7⟩) := by
  have hw0 := A0_below w L O A n c x
  have hC0 := Lib.hid ((hcs.out.below hw0).more hw0.size)
  have hZ0 := Lib.hid (A0_blk w L O A n c x)
  have hB0 := Lib.hid (A0_box w L O A n c x)
  have hX0 := Lib.hid (A0_x w L O A n c x)
  have hs0 := A0_size w L O A n c x
  have hs0 := Lib.hid hs0
  have hl := hcs.out.1
  clear hcs
  have hsr := form_srt hr.out
  have hlo := Lib.hid (posL_lo x cs)
  have hhi := Lib.hid (posL_hi x cs hsr)
  have hfd : Hid ((match cs[posL x cs]? with | some z => decide (cmpC z x = 0) | none => false) = false) := Lib.hid ((posL_has x cs hsr).trans (by simpa using hin))
  clear hin hsr
  go_enter Tryz.func27, Tryz.ntmps27
  go_wp2_with (go_at_call 53; refine (form_lit L O A n c cs hn true hr.out _ hC0.out).mono ?_; rintro e w1 ⟨rfl, hb1⟩; have hZ1 := Lib.hid (hZ0.out.below hb1 hs0.out); have hB1 := Lib.hid (hB0.out.below hb1 (Nat.lt_of_succ_lt (Nat.lt_of_succ_lt hs0.out))); have hX1 := Lib.hid (hX0.out.below hb1 (Nat.lt_of_succ_lt hs0.out)); have hw1 := bstep hw0 hb1 (Nat.le_refl _); have hC1 := Lib.hid ((hC0.out.below hb1).more hb1.size); have hs1 := Lib.hid (Nat.lt_of_lt_of_le hs0.out hb1.size); clear hZ0 hB0 hX0 hC0 hs0 hw0 hb1; (try clear z0 z1 z2 f0 f1 f2 b0 b1 b2 x0 x1 x2 x3 x4); obtain ⟨z0, z1, z2, f0, f1, f2⟩ := hZ1.out.three; obtain ⟨b0, b1, b2⟩ := id hB1.out; obtain ⟨x0, x1, x2, x3, x4⟩ := id hX1.out)
  go_wp2_with (go_at_call 67; refine (search_any x A n c cs (posL x cs) hn (by have := posL_le x cs; omega) hlo hhi false hfd _ hC1).mono ?_; rintro e w2 ⟨rfl, hb2⟩; have hZ2 := Lib.hid (hZ1.out.below hb2 hs1.out); have hB2 := Lib.hid (hB1.out.below hb2 (Nat.lt_of_succ_lt (Nat.lt_of_succ_lt hs1.out))); have hX2 := Lib.hid (hX1.out.below hb2 (Nat.lt_of_succ_lt hs1.out)); have hw2 := bstep hw1 hb2 (Nat.le_refl _); have hC2 := Lib.hid ((hC1.out.below hb2).more hb2.size); have hs2 := Lib.hid (Nat.lt_of_lt_of_le hs1.out hb2.size); clear hZ1 hB1 hX1 hC1 hs1 hw1 hb2; (try clear z0 z1 z2 f0 f1 f2 b0 b1 b2 x0 x1 x2 x3 x4); obtain ⟨z0, z1, z2, f0, f1, f2⟩ := hZ2.out.three; obtain ⟨b0, b1, b2⟩ := id hB2.out; obtain ⟨x0, x1, x2, x3, x4⟩ := id hX2.out)
  refine bodyPost_ret (v := .tuple #[.agg #[.int .i64 0, .int .i64 0, .slice none 0 0], .int .i64 7]) (by simp [results, Tryz.results27, go_sem, z0, z1, z2]) rfl ?_
  exact sched_bad 7 0 hw2 _ (by omega)
end Go.Proofs.YtnddjcadkbjjhaaGreatDoor
