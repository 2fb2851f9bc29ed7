/-
  CHAPTER 35, THE REFERENCE: Add, Remove, Differ.
-/
import Derived.Test.YtnddjcadkbjjhaaGreatDoorRe
import Derived.Test.YtnddjcadkbjjhaaGreatDoorBk
namespace Go.Proofs.YtnddjcadkbjjhaaGreatDoor
open Go.RowKit

theorem with_ins (x : C5) : ∀ cs : List C5, ¬ x ∈ cs → withL x cs = insL cs (posL x cs) x
  | [], _ => rfl
  | c :: l, h => by
    rw [insP_cons]
    unfold withL lessB
    by_cases hc : cmpC c x < 0
    · have h2 : ¬ cmpC x c < 0 := fun h3 => by
        have := cmpC_trans hc h3
        have h4 := (cmpC_zero c c).2 rfl
        omega
      rw [if_pos hc, if_neg (by simpa using h2), with_ins x l (fun h3 => h (List.mem_cons_of_mem _ h3))]
    · have h2 := cmpC_tot hc (fun e => h (by rw [e]; exact List.mem_cons_self))
      rw [if_neg hc, if_pos (by simpa using h2)]
theorem less1_del (x : C5) : ∀ cs : List C5, Srt cs → x ∈ cs → cs.filter (neC x) = delL cs (posL x cs)
  | [], _, h => by cases h
  | c :: l, hs, h => by
    obtain ⟨h1, h2⟩ := List.pairwise_cons.1 hs
    by_cases hc : cmpC c x < 0
    · have hne : c ≠ x := fun e => by subst e; have := (cmpC_zero c c).2 rfl; omega
      have hx : x ∈ l := (List.mem_cons.1 h).resolve_left (fun e => hne e.symm)
      have ih := less1_del x l h2 hx
      rw [List.filter_cons, if_pos (by unfold neC; simpa using hne), ih]
      simp [posL, hc, delL]
    · have hx : ¬ x ∈ l := fun hl => hc (h1 x hl)
      have e : x = c := (List.mem_cons.1 h).resolve_right hx
      subst e
      have hall : ∀ z ∈ l, neC x z = true := fun z hz => by
        have : z ≠ x := fun e => hx (by rw [← e]; exact hz)
        unfold neC; simpa using this
      rw [List.filter_cons, if_neg (by simp [neC]), List.filter_eq_self.2 hall]
      simp [posL, hc, delL]
set_option maxHeartbeats 4000000 in
set_option maxRecDepth 100000 in
theorem rAdd_form (L O : Int) (A : Option Addr) (n c : Nat) (cs : List C5) (x : C5) (hn : n ≤ 1000000) (hr : Hid (formB L O cs = false)) (w : World) (hcs : Hid (Cells w w.heap.size A n cs)) :
    Calls Tryz.prog 29 #[.agg #[.int .i64 L, .int .i64 O, .slice A n c], .agg #[.int .i64 x.s, .int .i64 x.o, .int .i64 x.f, .int .i64 x.t, .int .i64 x.w]] w (SchedEnd w ⟨0, 0, [], 0, 1⟩) := by
  have hw0 := A0_below w L O A n c x
  have hC0 := Lib.hid ((hcs.out.below hw0).more hw0.size)
  have hZ0 := Lib.hid (A0_blk w L O A n c x)
  have hB0 := Lib.hid (A0_box w L O A n c x)
  have hX0 := Lib.hid (A0_x w L O A n c x)
  have hs0 := A0_size w L O A n c x
  have hs0 := Lib.hid hs0
  have hl := hcs.out.1
  clear hcs
  go_enter Tryz.func29, Tryz.ntmps29
  go_wp2_with (go_at_call 58; refine (Formed_lit L O A n c cs hn false hr.out _ hC0.out).mono ?_; rintro e w1 ⟨rfl, hb1⟩; have hZ1 := Lib.hid (hZ0.out.below hb1 hs0.out); have hB1 := Lib.hid (hB0.out.below hb1 (Nat.lt_of_succ_lt (Nat.lt_of_succ_lt hs0.out))); have hX1 := Lib.hid (hX0.out.below hb1 (Nat.lt_of_succ_lt hs0.out)); have hw1 := bstep hw0 hb1 (Nat.le_refl _); have hC1 := Lib.hid ((hC0.out.below hb1).more hb1.size); have hs1 := Lib.hid (Nat.lt_of_lt_of_le hs0.out hb1.size); clear hZ0 hB0 hX0 hC0 hs0 hw0 hb1; (try clear z0 z1 z2 f0 f1 f2 b0 b1 b2 x0 x1 x2 x3 x4); obtain ⟨z0, z1, z2, f0, f1, f2⟩ := hZ1.out.three; obtain ⟨b0, b1, b2⟩ := id hB1.out; obtain ⟨x0, x1, x2, x3, x4⟩ := id hX1.out)
  refine bodyPost_ret (v := .tuple #[.agg #[.int .i64 0, .int .i64 0, .slice none 0 0], .int .i64 1]) (by simp [results, Tryz.results29, go_sem, z0, z1, z2]) rfl ?_
  exact sched_bad 1 0 hw1 _ (by omega)
set_option maxHeartbeats 4000000 in
set_option maxRecDepth 100000 in
theorem rRem_form (L O : Int) (A : Option Addr) (n c : Nat) (cs : List C5) (x : C5) (hn : n ≤ 1000000) (hr : Hid (formB L O cs = false)) (w : World) (hcs : Hid (Cells w w.heap.size A n cs)) :
    Calls Tryz.prog 30 #[.agg #[.int .i64 L, .int .i64 O, .slice A n c], .agg #[.int .i64 x.s, .int .i64 x.o, .int .i64 x.f, .int .i64 x.t, .int .i64 x.w]] w (SchedEnd w ⟨0, 0, [], 0, 1⟩) := by
  have hw0 := A0_below w L O A n c x
  have hC0 := Lib.hid ((hcs.out.below hw0).more hw0.size)
  have hZ0 := Lib.hid (A0_blk w L O A n c x)
  have hB0 := Lib.hid (A0_box w L O A n c x)
  have hX0 := Lib.hid (A0_x w L O A n c x)
  have hs0 := A0_size w L O A n c x
  have hs0 := Lib.hid hs0
  have hl := hcs.out.1
  clear hcs
  go_enter Tryz.func30, Tryz.ntmps30
  go_wp2_with (go_at_call 58; refine (Formed_lit L O A n c cs hn false hr.out _ hC0.out).mono ?_; rintro e w1 ⟨rfl, hb1⟩; have hZ1 := Lib.hid (hZ0.out.below hb1 hs0.out); have hB1 := Lib.hid (hB0.out.below hb1 (Nat.lt_of_succ_lt (Nat.lt_of_succ_lt hs0.out))); have hX1 := Lib.hid (hX0.out.below hb1 (Nat.lt_of_succ_lt hs0.out)); have hw1 := bstep hw0 hb1 (Nat.le_refl _); have hC1 := Lib.hid ((hC0.out.below hb1).more hb1.size); have hs1 := Lib.hid (Nat.lt_of_lt_of_le hs0.out hb1.size); clear hZ0 hB0 hX0 hC0 hs0 hw0 hb1; (try clear z0 z1 z2 f0 f1 f2 b0 b1 b2 x0 x1 x2 x3 x4); obtain ⟨z0, z1, z2, f0, f1, f2⟩ := hZ1.out.three; obtain ⟨b0, b1, b2⟩ := id hB1.out; obtain ⟨x0, x1, x2, x3, x4⟩ := id hX1.out)
  refine bodyPost_ret (v := .tuple #[.agg #[.int .i64 0, .int .i64 0, .slice none 0 0], .int .i64 1]) (by simp [results, Tryz.results30, go_sem, z0, z1, z2]) rfl ?_
  exact sched_bad 1 0 hw1 _ (by omega)
set_option maxHeartbeats 4000000 in
set_option maxRecDepth 100000 in
theorem rAdd_range (L O : Int) (A : Option Addr) (n c : Nat) (cs : List C5) (x : C5) (hn : n ≤ 1000000) (hr : Hid (formB L O cs = true)) (hf : Hid (formedB L O x = false)) (w : World) (hcs : Hid (Cells w w.heap.size A n cs)) :
    Calls Tryz.prog 29 #[.agg #[.int .i64 L, .int .i64 O, .slice A n c], .agg #[.int .i64 x.s, .int .i64 x.o, .int .i64 x.f, .int .i64 x.t, .int .i64 x.w]] w (SchedEnd w ⟨0, 0, [], 0, 2⟩) := by
  have hw0 := A0_below w L O A n c x
  have hC0 := Lib.hid ((hcs.out.below hw0).more hw0.size)
  have hZ0 := Lib.hid (A0_blk w L O A n c x)
  have hB0 := Lib.hid (A0_box w L O A n c x)
  have hX0 := Lib.hid (A0_x w L O A n c x)
  have hs0 := A0_size w L O A n c x
  have hs0 := Lib.hid hs0
  have hl := hcs.out.1
  clear hcs
  have hfs := form_sized hr.out
  have hL1 := hfs.1
  have hL2 := hfs.2.1
  have hO1 := hfs.2.2.1
  have hO2 := hfs.2.2.2.1
  clear hfs
  go_enter Tryz.func29, Tryz.ntmps29
  go_wp2_with (go_at_call 58; refine (Formed_lit L O A n c cs hn true hr.out _ hC0.out).mono ?_; rintro e w1 ⟨rfl, hb1⟩; have hZ1 := Lib.hid (hZ0.out.below hb1 hs0.out); have hB1 := Lib.hid (hB0.out.below hb1 (Nat.lt_of_succ_lt (Nat.lt_of_succ_lt hs0.out))); have hX1 := Lib.hid (hX0.out.below hb1 (Nat.lt_of_succ_lt hs0.out)); have hw1 := bstep hw0 hb1 (Nat.le_refl _); have hC1 := Lib.hid ((hC0.out.below hb1).more hb1.size); have hs1 := Lib.hid (Nat.lt_of_lt_of_le hs0.out hb1.size); clear hZ0 hB0 hX0 hC0 hs0 hw0 hb1; (try clear z0 z1 z2 f0 f1 f2 b0 b1 b2 x0 x1 x2 x3 x4); obtain ⟨z0, z1, z2, f0, f1, f2⟩ := hZ1.out.three; obtain ⟨b0, b1, b2⟩ := id hB1.out; obtain ⟨x0, x1, x2, x3, x4⟩ := id hX1.out)
  go_wp2_with (go_at_call 73; refine (right_lit L O _ x false hL1 hL2 hO1 hO2 hf.out _).mono ?_; rintro e w2 ⟨rfl, hb2⟩; have hZ2 := Lib.hid (hZ1.out.below hb2 hs1.out); have hB2 := Lib.hid (hB1.out.below hb2 (Nat.lt_of_succ_lt (Nat.lt_of_succ_lt hs1.out))); have hX2 := Lib.hid (hX1.out.below hb2 (Nat.lt_of_succ_lt hs1.out)); have hw2 := bstep hw1 hb2 (Nat.le_refl _); have hC2 := Lib.hid ((hC1.out.below hb2).more hb2.size); have hs2 := Lib.hid (Nat.lt_of_lt_of_le hs1.out hb2.size); clear hZ1 hB1 hX1 hC1 hs1 hw1 hb2; (try clear z0 z1 z2 f0 f1 f2 b0 b1 b2 x0 x1 x2 x3 x4); obtain ⟨z0, z1, z2, f0, f1, f2⟩ := hZ2.out.three; obtain ⟨b0, b1, b2⟩ := id hB2.out; obtain ⟨x0, x1, x2, x3, x4⟩ := id hX2.out)
  refine bodyPost_ret (v := .tuple #[.agg #[.int .i64 0, .int .i64 0, .slice none 0 0], .int .i64 2]) (by simp [results, Tryz.results29, go_sem, z0, z1, z2]) rfl ?_
  exact sched_bad 2 0 hw2 _ (by omega)
set_option maxHeartbeats 4000000 in
set_option maxRecDepth 100000 in
theorem rAdd_twice (L O : Int) (A : Option Addr) (n c : Nat) (cs : List C5) (x : C5) (hn : n ≤ 1000000) (hr : Hid (formB L O cs = true)) (hf : Hid (formedB L O x = true)) (hin : Hid (decide (x ∈ cs) = true)) (w : World) (hcs : Hid (Cells w w.heap.size A n cs)) :
    Calls Tryz.prog 29 #[.agg #[.int .i64 L, .int .i64 O, .slice A n c], .agg #[.int .i64 x.s, .int .i64 x.o, .int .i64 x.f, .int .i64 x.t, .int .i64 x.w]] w (SchedEnd w ⟨0, 0, [], 0, 6⟩) := by
  have hw0 := A0_below w L O A n c x
  have hC0 := Lib.hid ((hcs.out.below hw0).more hw0.size)
  have hZ0 := Lib.hid (A0_blk w L O A n c x)
  have hB0 := Lib.hid (A0_box w L O A n c x)
  have hX0 := Lib.hid (A0_x w L O A n c x)
  have hs0 := A0_size w L O A n c x
  have hs0 := Lib.hid hs0
  have hl := hcs.out.1
  clear hcs
  have hfs := form_sized hr.out
  have hL1 := hfs.1
  have hL2 := hfs.2.1
  have hO1 := hfs.2.2.1
  have hO2 := hfs.2.2.2.1
  clear hfs
  go_enter Tryz.func29, Tryz.ntmps29
  go_wp2_with (go_at_call 58; refine (Formed_lit L O A n c cs hn true hr.out _ hC0.out).mono ?_; rintro e w1 ⟨rfl, hb1⟩; have hZ1 := Lib.hid (hZ0.out.below hb1 hs0.out); have hB1 := Lib.hid (hB0.out.below hb1 (Nat.lt_of_succ_lt (Nat.lt_of_succ_lt hs0.out))); have hX1 := Lib.hid (hX0.out.below hb1 (Nat.lt_of_succ_lt hs0.out)); have hw1 := bstep hw0 hb1 (Nat.le_refl _); have hC1 := Lib.hid ((hC0.out.below hb1).more hb1.size); have hs1 := Lib.hid (Nat.lt_of_lt_of_le hs0.out hb1.size); clear hZ0 hB0 hX0 hC0 hs0 hw0 hb1; (try clear z0 z1 z2 f0 f1 f2 b0 b1 b2 x0 x1 x2 x3 x4); obtain ⟨z0, z1, z2, f0, f1, f2⟩ := hZ1.out.three; obtain ⟨b0, b1, b2⟩ := id hB1.out; obtain ⟨x0, x1, x2, x3, x4⟩ := id hX1.out)
  go_wp2_with (go_at_call 73; refine (right_lit L O _ x true hL1 hL2 hO1 hO2 hf.out _).mono ?_; rintro e w2 ⟨rfl, hb2⟩; have hZ2 := Lib.hid (hZ1.out.below hb2 hs1.out); have hB2 := Lib.hid (hB1.out.below hb2 (Nat.lt_of_succ_lt (Nat.lt_of_succ_lt hs1.out))); have hX2 := Lib.hid (hX1.out.below hb2 (Nat.lt_of_succ_lt hs1.out)); have hw2 := bstep hw1 hb2 (Nat.le_refl _); have hC2 := Lib.hid ((hC1.out.below hb2).more hb2.size); have hs2 := Lib.hid (Nat.lt_of_lt_of_le hs1.out hb2.size); clear hZ1 hB1 hX1 hC1 hs1 hw1 hb2; (try clear z0 z1 z2 f0 f1 f2 b0 b1 b2 x0 x1 x2 x3 x4); obtain ⟨z0, z1, z2, f0, f1, f2⟩ := hZ2.out.three; obtain ⟨b0, b1, b2⟩ := id hB2.out; obtain ⟨x0, x1, x2, x3, x4⟩ := id hX2.out)
  go_wp2_with (go_at_call 74; refine (Has_any L O x A n c cs hn true hin _ hC2).mono ?_; rintro e w3 ⟨rfl, hb3⟩; have hZ3 := Lib.hid (hZ2.out.below hb3 hs2.out); have hB3 := Lib.hid (hB2.out.below hb3 (Nat.lt_of_succ_lt (Nat.lt_of_succ_lt hs2.out))); have hX3 := Lib.hid (hX2.out.below hb3 (Nat.lt_of_succ_lt hs2.out)); have hw3 := bstep hw2 hb3 (Nat.le_refl _); have hC3 := Lib.hid ((hC2.out.below hb3).more hb3.size); have hs3 := Lib.hid (Nat.lt_of_lt_of_le hs2.out hb3.size); clear hZ2 hB2 hX2 hC2 hs2 hw2 hb3; (try clear z0 z1 z2 f0 f1 f2 b0 b1 b2 x0 x1 x2 x3 x4); obtain ⟨z0, z1, z2, f0, f1, f2⟩ := hZ3.out.three; obtain ⟨b0, b1, b2⟩ := id hB3.out; obtain ⟨x0, x1, x2, x3, x4⟩ := id hX3.out)
  refine bodyPost_ret (v := .tuple #[.agg #[.int .i64 0, .int .i64 0, .slice none 0 0], .int .i64 6]) (by simp [results, Tryz.results29, go_sem, z0, z1, z2]) rfl ?_
  exact sched_bad 6 0 hw3 _ (by omega)
set_option maxHeartbeats 4000000 in
set_option maxRecDepth 100000 in
theorem rAdd_large (L O : Int) (A : Option Addr) (n c : Nat) (cs : List C5) (x : C5) (hn : n ≤ 1000000) (hr : Hid (formB L O cs = true)) (hf : Hid (formedB L O x = true)) (hin : Hid (decide (x ∈ cs) = false)) (h512 : Hid (n = 512)) (w : World) (hcs : Hid (Cells w w.heap.size A n cs)) :
    Calls Tryz.prog 29 #[.agg #[.int .i64 L, .int .i64 O, .slice A n c], .agg #[.int .i64 x.s, .int .i64 x.o, .int .i64 x.f, .int .i64 x.t, .int .i64 x.w]] w (SchedEnd w ⟨0, 0, [], 0, 8⟩) := by
  have hw0 := A0_below w L O A n c x
  have hC0 := Lib.hid ((hcs.out.below hw0).more hw0.size)
  have hZ0 := Lib.hid (A0_blk w L O A n c x)
  have hB0 := Lib.hid (A0_box w L O A n c x)
  have hX0 := Lib.hid (A0_x w L O A n c x)
  have hs0 := A0_size w L O A n c x
  have hs0 := Lib.hid hs0
  have hl := hcs.out.1
  clear hcs
  have hfs := form_sized hr.out
  have hL1 := hfs.1
  have hL2 := hfs.2.1
  have hO1 := hfs.2.2.1
  have hO2 := hfs.2.2.2.1
  clear hfs
  have h5 : ((n : Int) == 512) = true := by rw [h512.out]; rfl
  go_enter Tryz.func29, Tryz.ntmps29
  go_wp2_with (go_at_call 58; refine (Formed_lit L O A n c cs hn true hr.out _ hC0.out).mono ?_; rintro e w1 ⟨rfl, hb1⟩; have hZ1 := Lib.hid (hZ0.out.below hb1 hs0.out); have hB1 := Lib.hid (hB0.out.below hb1 (Nat.lt_of_succ_lt (Nat.lt_of_succ_lt hs0.out))); have hX1 := Lib.hid (hX0.out.below hb1 (Nat.lt_of_succ_lt hs0.out)); have hw1 := bstep hw0 hb1 (Nat.le_refl _); have hC1 := Lib.hid ((hC0.out.below hb1).more hb1.size); have hs1 := Lib.hid (Nat.lt_of_lt_of_le hs0.out hb1.size); clear hZ0 hB0 hX0 hC0 hs0 hw0 hb1; (try clear z0 z1 z2 f0 f1 f2 b0 b1 b2 x0 x1 x2 x3 x4); obtain ⟨z0, z1, z2, f0, f1, f2⟩ := hZ1.out.three; obtain ⟨b0, b1, b2⟩ := id hB1.out; obtain ⟨x0, x1, x2, x3, x4⟩ := id hX1.out)
  go_wp2_with (go_at_call 73; refine (right_lit L O _ x true hL1 hL2 hO1 hO2 hf.out _).mono ?_; rintro e w2 ⟨rfl, hb2⟩; have hZ2 := Lib.hid (hZ1.out.below hb2 hs1.out); have hB2 := Lib.hid (hB1.out.below hb2 (Nat.lt_of_succ_lt (Nat.lt_of_succ_lt hs1.out))); have hX2 := Lib.hid (hX1.out.below hb2 (Nat.lt_of_succ_lt hs1.out)); have hw2 := bstep hw1 hb2 (Nat.le_refl _); have hC2 := Lib.hid ((hC1.out.below hb2).more hb2.size); have hs2 := Lib.hid (Nat.lt_of_lt_of_le hs1.out hb2.size); clear hZ1 hB1 hX1 hC1 hs1 hw1 hb2; (try clear z0 z1 z2 f0 f1 f2 b0 b1 b2 x0 x1 x2 x3 x4); obtain ⟨z0, z1, z2, f0, f1, f2⟩ := hZ2.out.three; obtain ⟨b0, b1, b2⟩ := id hB2.out; obtain ⟨x0, x1, x2, x3, x4⟩ := id hX2.out)
  go_wp2_with (go_at_call 74; refine (Has_any L O x A n c cs hn false hin _ hC2).mono ?_; rintro e w3 ⟨rfl, hb3⟩; have hZ3 := Lib.hid (hZ2.out.below hb3 hs2.out); have hB3 := Lib.hid (hB2.out.below hb3 (Nat.lt_of_succ_lt (Nat.lt_of_succ_lt hs2.out))); have hX3 := Lib.hid (hX2.out.below hb3 (Nat.lt_of_succ_lt hs2.out)); have hw3 := bstep hw2 hb3 (Nat.le_refl _); have hC3 := Lib.hid ((hC2.out.below hb3).more hb3.size); have hs3 := Lib.hid (Nat.lt_of_lt_of_le hs2.out hb3.size); clear hZ2 hB2 hX2 hC2 hs2 hw2 hb3; (try clear z0 z1 z2 f0 f1 f2 b0 b1 b2 x0 x1 x2 x3 x4); obtain ⟨z0, z1, z2, f0, f1, f2⟩ := hZ3.out.three; obtain ⟨b0, b1, b2⟩ := id hB3.out; obtain ⟨x0, x1, x2, x3, x4⟩ := id hX3.out)
  refine bodyPost_ret (v := .tuple #[.agg #[.int .i64 0, .int .i64 0, .slice none 0 0], .int .i64 8]) (by simp [results, Tryz.results29, go_sem, z0, z1, z2]) rfl ?_
  exact sched_bad 8 0 hw3 _ (by omega)
set_option maxHeartbeats 4000000 in
set_option maxRecDepth 100000 in
theorem rRem_none (L O : Int) (A : Option Addr) (n c : Nat) (cs : List C5) (x : C5) (hn : n ≤ 1000000) (hr : Hid (formB L O cs = true)) (hin : Hid (decide (x ∈ cs) = false)) (w : World) (hcs : Hid (Cells w w.heap.size A n cs)) :
    Calls Tryz.prog 30 #[.agg #[.int .i64 L, .int .i64 O, .slice A n c], .agg #[.int .i64 x.s, .int .i64 x.o, .int .i64 x.f, .int .i64 x.t, .int .i64 x.w]] w (SchedEnd w ⟨0, 0, [], 0, 7⟩) := by
  have hw0 := A0_below w L O A n c x
  have hC0 := Lib.hid ((hcs.out.below hw0).more hw0.size)
  have hZ0 := Lib.hid (A0_blk w L O A n c x)
  have hB0 := Lib.hid (A0_box w L O A n c x)
  have hX0 := Lib.hid (A0_x w L O A n c x)
  have hs0 := A0_size w L O A n c x
  have hs0 := Lib.hid hs0
  have hl := hcs.out.1
  clear hcs
  go_enter Tryz.func30, Tryz.ntmps30
  go_wp2_with (go_at_call 58; refine (Formed_lit L O A n c cs hn true hr.out _ hC0.out).mono ?_; rintro e w1 ⟨rfl, hb1⟩; have hZ1 := Lib.hid (hZ0.out.below hb1 hs0.out); have hB1 := Lib.hid (hB0.out.below hb1 (Nat.lt_of_succ_lt (Nat.lt_of_succ_lt hs0.out))); have hX1 := Lib.hid (hX0.out.below hb1 (Nat.lt_of_succ_lt hs0.out)); have hw1 := bstep hw0 hb1 (Nat.le_refl _); have hC1 := Lib.hid ((hC0.out.below hb1).more hb1.size); have hs1 := Lib.hid (Nat.lt_of_lt_of_le hs0.out hb1.size); clear hZ0 hB0 hX0 hC0 hs0 hw0 hb1; (try clear z0 z1 z2 f0 f1 f2 b0 b1 b2 x0 x1 x2 x3 x4); obtain ⟨z0, z1, z2, f0, f1, f2⟩ := hZ1.out.three; obtain ⟨b0, b1, b2⟩ := id hB1.out; obtain ⟨x0, x1, x2, x3, x4⟩ := id hX1.out)
  go_wp2_with (go_at_call 74; refine (Has_any L O x A n c cs hn false hin _ hC1).mono ?_; rintro e w2 ⟨rfl, hb2⟩; have hZ2 := Lib.hid (hZ1.out.below hb2 hs1.out); have hB2 := Lib.hid (hB1.out.below hb2 (Nat.lt_of_succ_lt (Nat.lt_of_succ_lt hs1.out))); have hX2 := Lib.hid (hX1.out.below hb2 (Nat.lt_of_succ_lt hs1.out)); have hw2 := bstep hw1 hb2 (Nat.le_refl _); have hC2 := Lib.hid ((hC1.out.below hb2).more hb2.size); have hs2 := Lib.hid (Nat.lt_of_lt_of_le hs1.out hb2.size); clear hZ1 hB1 hX1 hC1 hs1 hw1 hb2; (try clear z0 z1 z2 f0 f1 f2 b0 b1 b2 x0 x1 x2 x3 x4); obtain ⟨z0, z1, z2, f0, f1, f2⟩ := hZ2.out.three; obtain ⟨b0, b1, b2⟩ := id hB2.out; obtain ⟨x0, x1, x2, x3, x4⟩ := id hX2.out)
  refine bodyPost_ret (v := .tuple #[.agg #[.int .i64 0, .int .i64 0, .slice none 0 0], .int .i64 7]) (by simp [results, Tryz.results30, go_sem, z0, z1, z2]) rfl ?_
  exact sched_bad 7 0 hw2 _ (by omega)
set_option maxHeartbeats 4000000 in
set_option maxRecDepth 100000 in
theorem rAdd_yes (L O : Int) (A : Option Addr) (n c : Nat) (cs : List C5) (x : C5) (hn : n ≤ 1000000) (hr : Hid (formB L O cs = true)) (hf : Hid (formedB L O x = true)) (hin : Hid (decide (x ∈ cs) = false)) (h512 : Hid (n ≠ 512)) (w : World) (hcs : Hid (Cells w w.heap.size A n cs)) :
    Calls Tryz.prog 29 #[.agg #[.int .i64 L, .int .i64 O, .slice A n c], .agg #[.int .i64 x.s, .int .i64 x.o, .int .i64 x.f, .int .i64 x.t, .int .i64 x.w]] w (SchedEnd w ⟨L, O, withL x cs, 0, 0⟩) := by
  have hw0 := A0_below w L O A n c x
  have hC0 := Lib.hid ((hcs.out.below hw0).more hw0.size)
  have hZ0 := Lib.hid (A0_blk w L O A n c x)
  have hB0 := Lib.hid (A0_box w L O A n c x)
  have hX0 := Lib.hid (A0_x w L O A n c x)
  have hs0 := A0_size w L O A n c x
  have hs0 := Lib.hid hs0
  have hl := hcs.out.1
  clear hcs
  have hfs := form_sized hr.out
  have hL1 := hfs.1
  have hL2 := hfs.2.1
  have hO1 := hfs.2.2.1
  have hO2 := hfs.2.2.2.1
  clear hfs
  have h5 : ((n : Int) == 512) = false := by have := h512.out; simp; omega
  go_enter Tryz.func29, Tryz.ntmps29
  go_wp2_with (go_at_call 58; refine (Formed_lit L O A n c cs hn true hr.out _ hC0.out).mono ?_; rintro e w1 ⟨rfl, hb1⟩; have hZ1 := Lib.hid (hZ0.out.below hb1 hs0.out); have hB1 := Lib.hid (hB0.out.below hb1 (Nat.lt_of_succ_lt (Nat.lt_of_succ_lt hs0.out))); have hX1 := Lib.hid (hX0.out.below hb1 (Nat.lt_of_succ_lt hs0.out)); have hw1 := bstep hw0 hb1 (Nat.le_refl _); have hC1 := Lib.hid ((hC0.out.below hb1).more hb1.size); have hs1 := Lib.hid (Nat.lt_of_lt_of_le hs0.out hb1.size); clear hZ0 hB0 hX0 hC0 hs0 hw0 hb1; (try clear z0 z1 z2 f0 f1 f2 b0 b1 b2 x0 x1 x2 x3 x4); obtain ⟨z0, z1, z2, f0, f1, f2⟩ := hZ1.out.three; obtain ⟨b0, b1, b2⟩ := id hB1.out; obtain ⟨x0, x1, x2, x3, x4⟩ := id hX1.out)
  go_wp2_with (go_at_call 73; refine (right_lit L O _ x true hL1 hL2 hO1 hO2 hf.out _).mono ?_; rintro e w2 ⟨rfl, hb2⟩; have hZ2 := Lib.hid (hZ1.out.below hb2 hs1.out); have hB2 := Lib.hid (hB1.out.below hb2 (Nat.lt_of_succ_lt (Nat.lt_of_succ_lt hs1.out))); have hX2 := Lib.hid (hX1.out.below hb2 (Nat.lt_of_succ_lt hs1.out)); have hw2 := bstep hw1 hb2 (Nat.le_refl _); have hC2 := Lib.hid ((hC1.out.below hb2).more hb2.size); have hs2 := Lib.hid (Nat.lt_of_lt_of_le hs1.out hb2.size); clear hZ1 hB1 hX1 hC1 hs1 hw1 hb2; (try clear z0 z1 z2 f0 f1 f2 b0 b1 b2 x0 x1 x2 x3 x4); obtain ⟨z0, z1, z2, f0, f1, f2⟩ := hZ2.out.three; obtain ⟨b0, b1, b2⟩ := id hB2.out; obtain ⟨x0, x1, x2, x3, x4⟩ := id hX2.out)
  go_wp2_with (go_at_call 74; refine (Has_any L O x A n c cs hn false hin _ hC2).mono ?_; rintro e w3 ⟨rfl, hb3⟩; have hZ3 := Lib.hid (hZ2.out.below hb3 hs2.out); have hB3 := Lib.hid (hB2.out.below hb3 (Nat.lt_of_succ_lt (Nat.lt_of_succ_lt hs2.out))); have hX3 := Lib.hid (hX2.out.below hb3 (Nat.lt_of_succ_lt hs2.out)); have hw3 := bstep hw2 hb3 (Nat.le_refl _); have hC3 := Lib.hid ((hC2.out.below hb3).more hb3.size); have hs3 := Lib.hid (Nat.lt_of_lt_of_le hs2.out hb3.size); clear hZ2 hB2 hX2 hC2 hs2 hw2 hb3; (try clear z0 z1 z2 f0 f1 f2 b0 b1 b2 x0 x1 x2 x3 x4); obtain ⟨z0, z1, z2, f0, f1, f2⟩ := hZ3.out.three; obtain ⟨b0, b1, b2⟩ := id hB3.out; obtain ⟨x0, x1, x2, x3, x4⟩ := id hX3.out)
  go_wp2_with fail
  refine (With_any L O x A n c cs hn _ hC3).mono ?_
  rintro e w4 ⟨A4, c4, rfl, hD4, hle4, hfar4, hb4⟩
  have hZ4 := hZ3.out.below hb4 hs3.out
  have hw4 := bstep hw3 hb4 (Nat.le_refl _)
  have hs4 := hs3.out
  (try clear z0 z1 z2 f0 f1 f2 b0 b1 b2 x0 x1 x2 x3 x4)
  obtain ⟨z0, z1, z2, f0, f1, f2⟩ := hZ4.three
  have hD4 := Lib.hid hD4
  have hle4 := Lib.hid hle4
  have hfar4 := Lib.hid hfar4
  go_wp2_with fail
  refine bodyPost_ret (v := .tuple #[.agg #[.int .i64 L, .int .i64 O, .slice A4 (withL x cs).length c4], .int .i64 0]) (by simp [results, Tryz.results29, go_sem, z0, z1, z2]) rfl ?_
  exact sched_good L O 0 0 (withL x cs) (w.heap.size + 1 + 1) (by omega) hle4.out hD4.out hw4 (fun b off h => by have := hfar4.out b off h; omega)
set_option maxHeartbeats 4000000 in
set_option maxRecDepth 100000 in
theorem rRem_yes (L O : Int) (A : Option Addr) (n c : Nat) (cs : List C5) (x : C5) (hn : n ≤ 1000000) (hr : Hid (formB L O cs = true)) (hin : Hid (decide (x ∈ cs) = true)) (w : World) (hcs : Hid (Cells w w.heap.size A n cs)) :
    Calls Tryz.prog 30 #[.agg #[.int .i64 L, .int .i64 O, .slice A n c], .agg #[.int .i64 x.s, .int .i64 x.o, .int .i64 x.f, .int .i64 x.t, .int .i64 x.w]] w (SchedEnd w ⟨L, O, cs.filter (neC x), 0, 0⟩) := by
  have hw0 := A0_below w L O A n c x
  have hC0 := Lib.hid ((hcs.out.below hw0).more hw0.size)
  have hZ0 := Lib.hid (A0_blk w L O A n c x)
  have hB0 := Lib.hid (A0_box w L O A n c x)
  have hX0 := Lib.hid (A0_x w L O A n c x)
  have hs0 := A0_size w L O A n c x
  have hs0 := Lib.hid hs0
  have hl := hcs.out.1
  clear hcs
  go_enter Tryz.func30, Tryz.ntmps30
  go_wp2_with (go_at_call 58; refine (Formed_lit L O A n c cs hn true hr.out _ hC0.out).mono ?_; rintro e w1 ⟨rfl, hb1⟩; have hZ1 := Lib.hid (hZ0.out.below hb1 hs0.out); have hB1 := Lib.hid (hB0.out.below hb1 (Nat.lt_of_succ_lt (Nat.lt_of_succ_lt hs0.out))); have hX1 := Lib.hid (hX0.out.below hb1 (Nat.lt_of_succ_lt hs0.out)); have hw1 := bstep hw0 hb1 (Nat.le_refl _); have hC1 := Lib.hid ((hC0.out.below hb1).more hb1.size); have hs1 := Lib.hid (Nat.lt_of_lt_of_le hs0.out hb1.size); clear hZ0 hB0 hX0 hC0 hs0 hw0 hb1; (try clear z0 z1 z2 f0 f1 f2 b0 b1 b2 x0 x1 x2 x3 x4); obtain ⟨z0, z1, z2, f0, f1, f2⟩ := hZ1.out.three; obtain ⟨b0, b1, b2⟩ := id hB1.out; obtain ⟨x0, x1, x2, x3, x4⟩ := id hX1.out)
  go_wp2_with (go_at_call 74; refine (Has_any L O x A n c cs hn true hin _ hC1).mono ?_; rintro e w2 ⟨rfl, hb2⟩; have hZ2 := Lib.hid (hZ1.out.below hb2 hs1.out); have hB2 := Lib.hid (hB1.out.below hb2 (Nat.lt_of_succ_lt (Nat.lt_of_succ_lt hs1.out))); have hX2 := Lib.hid (hX1.out.below hb2 (Nat.lt_of_succ_lt hs1.out)); have hw2 := bstep hw1 hb2 (Nat.le_refl _); have hC2 := Lib.hid ((hC1.out.below hb2).more hb2.size); have hs2 := Lib.hid (Nat.lt_of_lt_of_le hs1.out hb2.size); clear hZ1 hB1 hX1 hC1 hs1 hw1 hb2; (try clear z0 z1 z2 f0 f1 f2 b0 b1 b2 x0 x1 x2 x3 x4); obtain ⟨z0, z1, z2, f0, f1, f2⟩ := hZ2.out.three; obtain ⟨b0, b1, b2⟩ := id hB2.out; obtain ⟨x0, x1, x2, x3, x4⟩ := id hX2.out)
  go_wp2_with fail
  refine (Less1_any L O x A n c cs hn _ hC2).mono ?_
  rintro e w3 ⟨A3, c3, rfl, hD3, hle3, hfar3, hb3⟩
  have hZ3 := hZ2.out.below hb3 hs2.out
  have hw3 := bstep hw2 hb3 (Nat.le_refl _)
  have hs3 := hs2.out
  (try clear z0 z1 z2 f0 f1 f2 b0 b1 b2 x0 x1 x2 x3 x4)
  obtain ⟨z0, z1, z2, f0, f1, f2⟩ := hZ3.three
  have hD3 := Lib.hid hD3
  have hle3 := Lib.hid hle3
  have hfar3 := Lib.hid hfar3
  go_wp2_with fail
  refine bodyPost_ret (v := .tuple #[.agg #[.int .i64 L, .int .i64 O, .slice A3 (cs.filter (neC x)).length c3], .int .i64 0]) (by simp [results, Tryz.results30, go_sem, z0, z1, z2]) rfl ?_
  exact sched_good L O 0 0 (cs.filter (neC x)) (w.heap.size + 1 + 1) (by omega) hle3.out hD3.out hw3 (fun b off h => by have := hfar3.out b off h; omega)
theorem rAdd_any (L O : Int) (A : Option Addr) (n c : Nat) (cs : List C5) (x : C5) (hn : n ≤ 1000000) (w : World) (hcs : Cells w w.heap.size A n cs) :
    Calls Tryz.prog 29 #[.agg #[.int .i64 L, .int .i64 O, .slice A n c], .agg #[.int .i64 x.s, .int .i64 x.o, .int .i64 x.f, .int .i64 x.t, .int .i64 x.w]] w (SchedEnd w (addR L O cs x)) := by
  have hl := hcs.1
  unfold addR
  cases hr : formB L O cs
  · rw [if_pos rfl]
    exact rAdd_form L O A n c cs x hn (Lib.hid hr) w (Lib.hid hcs)
  · rw [if_neg (by simp)]
    cases hf : formedB L O x
    · rw [if_pos rfl]
      exact rAdd_range L O A n c cs x hn (Lib.hid hr) (Lib.hid hf) w (Lib.hid hcs)
    · rw [if_neg (by simp)]
      by_cases hin : x ∈ cs
      · rw [if_pos hin]
        exact rAdd_twice L O A n c cs x hn (Lib.hid hr) (Lib.hid hf) (Lib.hid (by simpa using hin)) w (Lib.hid hcs)
      · rw [if_neg hin]
        by_cases h5 : cs.length = 512
        · rw [if_pos h5]
          exact rAdd_large L O A n c cs x hn (Lib.hid hr) (Lib.hid hf) (Lib.hid (by simpa using hin)) (Lib.hid (by omega)) w (Lib.hid hcs)
        · rw [if_neg h5, ← with_ins x cs hin]
          exact rAdd_yes L O A n c cs x hn (Lib.hid hr) (Lib.hid hf) (Lib.hid (by simpa using hin)) (Lib.hid (by omega)) w (Lib.hid hcs)
theorem rRem_any (L O : Int) (A : Option Addr) (n c : Nat) (cs : List C5) (x : C5) (hn : n ≤ 1000000) (w : World) (hcs : Cells w w.heap.size A n cs) :
    Calls Tryz.prog 30 #[.agg #[.int .i64 L, .int .i64 O, .slice A n c], .agg #[.int .i64 x.s, .int .i64 x.o, .int .i64 x.f, .int .i64 x.t, .int .i64 x.w]] w (SchedEnd w (remR L O cs x)) := by
  unfold remR
  cases hr : formB L O cs
  · rw [if_pos rfl]
    exact rRem_form L O A n c cs x hn (Lib.hid hr) w (Lib.hid hcs)
  · rw [if_neg (by simp)]
    by_cases hin : x ∈ cs
    · rw [if_pos hin, ← less1_del x cs (form_srt hr) hin]
      exact rRem_yes L O A n c cs x hn (Lib.hid hr) (Lib.hid (by simpa using hin)) w (Lib.hid hcs)
    · rw [if_neg hin]
      exact rRem_none L O A n c cs x hn (Lib.hid hr) (Lib.hid (by simpa using hin)) w (Lib.hid hcs)
set_option maxHeartbeats 4000000 in
set_option maxRecDepth 100000 in
theorem rDif_a (L O L' O' : Int) (A A' : Option Addr) (n c n' c' : Nat) (cs ds : List C5) (hn : n ≤ 1000000) (_hn' : n' ≤ 1000000) (hr : Hid (formB L O cs = false)) (w : World) (hcs : Hid (Cells w w.heap.size A n cs)) (hds : Hid (Cells w w.heap.size A' n' ds)) :
    Calls Tryz.prog 32 #[.agg #[.int .i64 L, .int .i64 O, .slice A n c], .agg #[.int .i64 L', .int .i64 O', .slice A' n' c']] w (DiffEnd w [] [] 1) := by
  have hw0 := D0_below w L O (.slice A n c) L' O' (.slice A' n' c')
  have hC0 := Lib.hid ((hcs.out.below hw0).more hw0.size)
  have hD0 := Lib.hid ((hds.out.below hw0).more hw0.size)
  have hA0 := Lib.hid (D0_a w L O (.slice A n c) L' O' (.slice A' n' c'))
  have hB0 := Lib.hid (D0_b w L O (.slice A n c) L' O' (.slice A' n' c'))
  have hs0 := Lib.hid (D0_size w L O (.slice A n c) L' O' (.slice A' n' c'))
  clear hcs hds
  go_enter Tryz.func32, Tryz.ntmps32
  go_wp2_with fail
  refine (Formed_lit L O A n c cs hn false hr.out _ hC0.out).mono ?_
  rintro e w1 ⟨rfl, hb1⟩
  have hA1 := Lib.hid (hA0.out.below hb1 (Nat.lt_of_succ_lt hs0.out))
  have hB1 := Lib.hid (hB0.out.below hb1 hs0.out)
  have hw1 := bstep hw0 hb1 (Nat.le_refl _)
  have hC1 := Lib.hid ((hC0.out.below hb1).more hb1.size)
  have hD1 := Lib.hid ((hD0.out.below hb1).more hb1.size)
  have hs1 := Lib.hid (Nat.lt_of_lt_of_le hs0.out hb1.size)
  clear hA0 hB0 hC0 hD0 hs0 hw0 hb1
  (try clear a0 a1 a2 b0 b1 b2)
  obtain ⟨a0, a1, a2⟩ := id hA1.out
  obtain ⟨b0, b1, b2⟩ := id hB1.out
  go_wp2_with fail
  refine bodyPost_ret (v := .tuple #[.slice none 0 0, .slice none 0 0, .int .i64 1]) (by simp [results, Tryz.results32, go_sem]) rfl ?_
  exact DiffEnd.bad 1 hw1
set_option maxHeartbeats 4000000 in
set_option maxRecDepth 100000 in
theorem rDif_b (L O L' O' : Int) (A A' : Option Addr) (n c n' c' : Nat) (cs ds : List C5) (hn : n ≤ 1000000) (hn' : n' ≤ 1000000) (hr : Hid (formB L O cs = true)) (hr' : Hid (formB L' O' ds = false)) (w : World) (hcs : Hid (Cells w w.heap.size A n cs)) (hds : Hid (Cells w w.heap.size A' n' ds)) :
    Calls Tryz.prog 32 #[.agg #[.int .i64 L, .int .i64 O, .slice A n c], .agg #[.int .i64 L', .int .i64 O', .slice A' n' c']] w (DiffEnd w [] [] 1) := by
  have hw0 := D0_below w L O (.slice A n c) L' O' (.slice A' n' c')
  have hC0 := Lib.hid ((hcs.out.below hw0).more hw0.size)
  have hD0 := Lib.hid ((hds.out.below hw0).more hw0.size)
  have hA0 := Lib.hid (D0_a w L O (.slice A n c) L' O' (.slice A' n' c'))
  have hB0 := Lib.hid (D0_b w L O (.slice A n c) L' O' (.slice A' n' c'))
  have hs0 := Lib.hid (D0_size w L O (.slice A n c) L' O' (.slice A' n' c'))
  clear hcs hds
  go_enter Tryz.func32, Tryz.ntmps32
  go_wp2_with fail
  refine (Formed_lit L O A n c cs hn true hr.out _ hC0.out).mono ?_
  rintro e w1 ⟨rfl, hb1⟩
  have hA1 := Lib.hid (hA0.out.below hb1 (Nat.lt_of_succ_lt hs0.out))
  have hB1 := Lib.hid (hB0.out.below hb1 hs0.out)
  have hw1 := bstep hw0 hb1 (Nat.le_refl _)
  have hC1 := Lib.hid ((hC0.out.below hb1).more hb1.size)
  have hD1 := Lib.hid ((hD0.out.below hb1).more hb1.size)
  have hs1 := Lib.hid (Nat.lt_of_lt_of_le hs0.out hb1.size)
  clear hA0 hB0 hC0 hD0 hs0 hw0 hb1
  (try clear a0 a1 a2 b0 b1 b2)
  obtain ⟨a0, a1, a2⟩ := id hA1.out
  obtain ⟨b0, b1, b2⟩ := id hB1.out
  go_wp2_with fail
  refine (Formed_lit L' O' A' n' c' ds hn' false hr'.out _ hD1.out).mono ?_
  rintro e w2 ⟨rfl, hb2⟩
  have hA2 := Lib.hid (hA1.out.below hb2 (Nat.lt_of_succ_lt hs1.out))
  have hB2 := Lib.hid (hB1.out.below hb2 hs1.out)
  have hw2 := bstep hw1 hb2 (Nat.le_refl _)
  have hC2 := Lib.hid ((hC1.out.below hb2).more hb2.size)
  have hD2 := Lib.hid ((hD1.out.below hb2).more hb2.size)
  have hs2 := Lib.hid (Nat.lt_of_lt_of_le hs1.out hb2.size)
  clear hA1 hB1 hC1 hD1 hs1 hw1 hb2
  (try clear a0 a1 a2 b0 b1 b2)
  obtain ⟨a0, a1, a2⟩ := id hA2.out
  obtain ⟨b0, b1, b2⟩ := id hB2.out
  go_wp2_with fail
  refine bodyPost_ret (v := .tuple #[.slice none 0 0, .slice none 0 0, .int .i64 1]) (by simp [results, Tryz.results32, go_sem]) rfl ?_
  exact DiffEnd.bad 1 hw2
set_option maxHeartbeats 4000000 in
set_option maxRecDepth 100000 in
theorem rDif_L (L O L' O' : Int) (A A' : Option Addr) (n c n' c' : Nat) (cs ds : List C5) (hn : n ≤ 1000000) (hn' : n' ≤ 1000000) (hr : Hid (formB L O cs = true)) (hr' : Hid (formB L' O' ds = true)) (hne : (L == L') = false) (w : World) (hcs : Hid (Cells w w.heap.size A n cs)) (hds : Hid (Cells w w.heap.size A' n' ds)) :
    Calls Tryz.prog 32 #[.agg #[.int .i64 L, .int .i64 O, .slice A n c], .agg #[.int .i64 L', .int .i64 O', .slice A' n' c']] w (DiffEnd w [] [] 11) := by
  have hw0 := D0_below w L O (.slice A n c) L' O' (.slice A' n' c')
  have hC0 := Lib.hid ((hcs.out.below hw0).more hw0.size)
  have hD0 := Lib.hid ((hds.out.below hw0).more hw0.size)
  have hA0 := Lib.hid (D0_a w L O (.slice A n c) L' O' (.slice A' n' c'))
  have hB0 := Lib.hid (D0_b w L O (.slice A n c) L' O' (.slice A' n' c'))
  have hs0 := Lib.hid (D0_size w L O (.slice A n c) L' O' (.slice A' n' c'))
  clear hcs hds
  go_enter Tryz.func32, Tryz.ntmps32
  have hne2 : (L != L') = true := by rw [bne, hne]; rfl
  go_wp2_with fail
  refine (Formed_lit L O A n c cs hn true hr.out _ hC0.out).mono ?_
  rintro e w1 ⟨rfl, hb1⟩
  have hA1 := Lib.hid (hA0.out.below hb1 (Nat.lt_of_succ_lt hs0.out))
  have hB1 := Lib.hid (hB0.out.below hb1 hs0.out)
  have hw1 := bstep hw0 hb1 (Nat.le_refl _)
  have hC1 := Lib.hid ((hC0.out.below hb1).more hb1.size)
  have hD1 := Lib.hid ((hD0.out.below hb1).more hb1.size)
  have hs1 := Lib.hid (Nat.lt_of_lt_of_le hs0.out hb1.size)
  clear hA0 hB0 hC0 hD0 hs0 hw0 hb1
  (try clear a0 a1 a2 b0 b1 b2)
  obtain ⟨a0, a1, a2⟩ := id hA1.out
  obtain ⟨b0, b1, b2⟩ := id hB1.out
  go_wp2_with fail
  refine (Formed_lit L' O' A' n' c' ds hn' true hr'.out _ hD1.out).mono ?_
  rintro e w2 ⟨rfl, hb2⟩
  have hA2 := Lib.hid (hA1.out.below hb2 (Nat.lt_of_succ_lt hs1.out))
  have hB2 := Lib.hid (hB1.out.below hb2 hs1.out)
  have hw2 := bstep hw1 hb2 (Nat.le_refl _)
  have hC2 := Lib.hid ((hC1.out.below hb2).more hb2.size)
  have hD2 := Lib.hid ((hD1.out.below hb2).more hb2.size)
  have hs2 := Lib.hid (Nat.lt_of_lt_of_le hs1.out hb2.size)
  clear hA1 hB1 hC1 hD1 hs1 hw1 hb2
  (try clear a0 a1 a2 b0 b1 b2)
  obtain ⟨a0, a1, a2⟩ := id hA2.out
  obtain ⟨b0, b1, b2⟩ := id hB2.out
  go_wp2_with fail
  refine bodyPost_ret (v := .tuple #[.slice none 0 0, .slice none 0 0, .int .i64 11]) (by simp [results, Tryz.results32, go_sem]) rfl ?_
  exact DiffEnd.bad 11 hw2
set_option maxHeartbeats 4000000 in
set_option maxRecDepth 100000 in
theorem rDif_O (L O L' O' : Int) (A A' : Option Addr) (n c n' c' : Nat) (cs ds : List C5) (hn : n ≤ 1000000) (hn' : n' ≤ 1000000) (hr : Hid (formB L O cs = true)) (hr' : Hid (formB L' O' ds = true)) (he : (L == L') = true) (hne : (O == O') = false) (w : World) (hcs : Hid (Cells w w.heap.size A n cs)) (hds : Hid (Cells w w.heap.size A' n' ds)) :
    Calls Tryz.prog 32 #[.agg #[.int .i64 L, .int .i64 O, .slice A n c], .agg #[.int .i64 L', .int .i64 O', .slice A' n' c']] w (DiffEnd w [] [] 11) := by
  have hw0 := D0_below w L O (.slice A n c) L' O' (.slice A' n' c')
  have hC0 := Lib.hid ((hcs.out.below hw0).more hw0.size)
  have hD0 := Lib.hid ((hds.out.below hw0).more hw0.size)
  have hA0 := Lib.hid (D0_a w L O (.slice A n c) L' O' (.slice A' n' c'))
  have hB0 := Lib.hid (D0_b w L O (.slice A n c) L' O' (.slice A' n' c'))
  have hs0 := Lib.hid (D0_size w L O (.slice A n c) L' O' (.slice A' n' c'))
  clear hcs hds
  go_enter Tryz.func32, Tryz.ntmps32
  have he2 : (L != L') = false := by rw [bne, he]; rfl
  have hne2 : (O != O') = true := by rw [bne, hne]; rfl
  go_wp2_with fail
  refine (Formed_lit L O A n c cs hn true hr.out _ hC0.out).mono ?_
  rintro e w1 ⟨rfl, hb1⟩
  have hA1 := Lib.hid (hA0.out.below hb1 (Nat.lt_of_succ_lt hs0.out))
  have hB1 := Lib.hid (hB0.out.below hb1 hs0.out)
  have hw1 := bstep hw0 hb1 (Nat.le_refl _)
  have hC1 := Lib.hid ((hC0.out.below hb1).more hb1.size)
  have hD1 := Lib.hid ((hD0.out.below hb1).more hb1.size)
  have hs1 := Lib.hid (Nat.lt_of_lt_of_le hs0.out hb1.size)
  clear hA0 hB0 hC0 hD0 hs0 hw0 hb1
  (try clear a0 a1 a2 b0 b1 b2)
  obtain ⟨a0, a1, a2⟩ := id hA1.out
  obtain ⟨b0, b1, b2⟩ := id hB1.out
  go_wp2_with fail
  refine (Formed_lit L' O' A' n' c' ds hn' true hr'.out _ hD1.out).mono ?_
  rintro e w2 ⟨rfl, hb2⟩
  have hA2 := Lib.hid (hA1.out.below hb2 (Nat.lt_of_succ_lt hs1.out))
  have hB2 := Lib.hid (hB1.out.below hb2 hs1.out)
  have hw2 := bstep hw1 hb2 (Nat.le_refl _)
  have hC2 := Lib.hid ((hC1.out.below hb2).more hb2.size)
  have hD2 := Lib.hid ((hD1.out.below hb2).more hb2.size)
  have hs2 := Lib.hid (Nat.lt_of_lt_of_le hs1.out hb2.size)
  clear hA1 hB1 hC1 hD1 hs1 hw1 hb2
  (try clear a0 a1 a2 b0 b1 b2)
  obtain ⟨a0, a1, a2⟩ := id hA2.out
  obtain ⟨b0, b1, b2⟩ := id hB2.out
  go_wp2_with fail
  refine bodyPost_ret (v := .tuple #[.slice none 0 0, .slice none 0 0, .int .i64 11]) (by simp [results, Tryz.results32, go_sem]) rfl ?_
  exact DiffEnd.bad 11 hw2
set_option maxHeartbeats 4000000 in
set_option maxRecDepth 100000 in
theorem rDif_yes (L O L' O' : Int) (A A' : Option Addr) (n c n' c' : Nat) (cs ds : List C5) (hn : n ≤ 1000000) (hn' : n' ≤ 1000000) (hr : Hid (formB L O cs = true)) (hr' : Hid (formB L' O' ds = true)) (he : (L == L') = true) (he' : (O == O') = true) (w : World) (hcs : Hid (Cells w w.heap.size A n cs)) (hds : Hid (Cells w w.heap.size A' n' ds)) :
    Calls Tryz.prog 32 #[.agg #[.int .i64 L, .int .i64 O, .slice A n c], .agg #[.int .i64 L', .int .i64 O', .slice A' n' c']] w (DiffEnd w (keepL ds cs) (keepL cs ds) 0) := by
  have hw0 := D0_below w L O (.slice A n c) L' O' (.slice A' n' c')
  have hC0 := Lib.hid ((hcs.out.below hw0).more hw0.size)
  have hD0 := Lib.hid ((hds.out.below hw0).more hw0.size)
  have hA0 := Lib.hid (D0_a w L O (.slice A n c) L' O' (.slice A' n' c'))
  have hB0 := Lib.hid (D0_b w L O (.slice A n c) L' O' (.slice A' n' c'))
  have hs0 := Lib.hid (D0_size w L O (.slice A n c) L' O' (.slice A' n' c'))
  clear hcs hds
  go_enter Tryz.func32, Tryz.ntmps32
  have he2 : (L != L') = false := by rw [bne, he]; rfl
  have he3 : (O != O') = false := by rw [bne, he']; rfl
  go_wp2_with fail
  refine (Formed_lit L O A n c cs hn true hr.out _ hC0.out).mono ?_
  rintro e w1 ⟨rfl, hb1⟩
  have hA1 := Lib.hid (hA0.out.below hb1 (Nat.lt_of_succ_lt hs0.out))
  have hB1 := Lib.hid (hB0.out.below hb1 hs0.out)
  have hw1 := bstep hw0 hb1 (Nat.le_refl _)
  have hC1 := Lib.hid ((hC0.out.below hb1).more hb1.size)
  have hD1 := Lib.hid ((hD0.out.below hb1).more hb1.size)
  have hs1 := Lib.hid (Nat.lt_of_lt_of_le hs0.out hb1.size)
  clear hA0 hB0 hC0 hD0 hs0 hw0 hb1
  (try clear a0 a1 a2 b0 b1 b2)
  obtain ⟨a0, a1, a2⟩ := id hA1.out
  obtain ⟨b0, b1, b2⟩ := id hB1.out
  go_wp2_with fail
  refine (Formed_lit L' O' A' n' c' ds hn' true hr'.out _ hD1.out).mono ?_
  rintro e w2 ⟨rfl, hb2⟩
  have hA2 := Lib.hid (hA1.out.below hb2 (Nat.lt_of_succ_lt hs1.out))
  have hB2 := Lib.hid (hB1.out.below hb2 hs1.out)
  have hw2 := bstep hw1 hb2 (Nat.le_refl _)
  have hC2 := Lib.hid ((hC1.out.below hb2).more hb2.size)
  have hD2 := Lib.hid ((hD1.out.below hb2).more hb2.size)
  have hs2 := Lib.hid (Nat.lt_of_lt_of_le hs1.out hb2.size)
  clear hA1 hB1 hC1 hD1 hs1 hw1 hb2
  (try clear a0 a1 a2 b0 b1 b2)
  obtain ⟨a0, a1, a2⟩ := id hA2.out
  obtain ⟨b0, b1, b2⟩ := id hB2.out
  go_upto_region 9 with fail
  refine wp_region_held_drew (S := (fun w' => w'.cell? ⟨w.heap.size, 0, none⟩ = some (.int .i64 L) ∧ w'.cell? ⟨w.heap.size, 1, none⟩ = some (.int .i64 O) ∧ w'.cell? ⟨w.heap.size, 2, none⟩ = some (.slice A n c) ∧ w'.cell? ⟨w.heap.size + 1, 0, none⟩ = some (.int .i64 L') ∧ w'.cell? ⟨w.heap.size + 1, 1, none⟩ = some (.int .i64 O') ∧ w'.cell? ⟨w.heap.size + 1, 2, none⟩ = some (.slice A' n' c'))) (by kernel_rfl) (keepAB hA2 hB2 (Nat.lt_of_succ_lt hs2.out) hs2.out ((Below.refl _ w2).drew)) (fun hHeld => ?_)
  refine wpAnyH_take (i := 0) (oi := ?o1) (v := ?hv1) ?hi1 (by kernel_rfl) (by kernel_rfl) (by kernel_rfl) ?hq1 ?hy1 (by assumption) ?hr1
  case hi1 => (simp only [List.getElem?_toArray, List.getElem?_cons_zero]; rfl)
  case hq1 => exact fun _ _ _ h => h
  case hy1 => exact Or.inl ⟨by rfl, by intro w hSw; (try dsimp only at hSw); go_simp; try with_reducible rfl⟩
  simp only [Act.put, List.setIfInBounds_toArray, List.set_cons_zero, List.set_cons_succ]
  refine wpAnyH_take (i := 1) (oi := ?o2) (v := ?hv2) ?hi2 (by kernel_rfl) (by kernel_rfl) (by kernel_rfl) ?hq2 ?hy2 (by assumption) ?hr2
  case hi2 => (simp only [List.getElem?_toArray, List.getElem?_cons_succ, List.getElem?_cons_zero]; rfl)
  case hq2 => exact fun _ _ _ h => h
  case hy2 => exact Or.inl ⟨by rfl, by intro w hSw; (try dsimp only at hSw); go_simp; try with_reducible rfl⟩
  simp only [Act.put, List.setIfInBounds_toArray, List.set_cons_zero, List.set_cons_succ]
  refine wpAnyH_take (i := 3) (oi := ?o3) (v := ?hv3) ?hi3 (by kernel_rfl) (by kernel_rfl) (by kernel_rfl) ?hq3 ?hy3 (by assumption) ?hr3
  case hi3 => (simp only [List.getElem?_toArray, List.getElem?_cons_succ, List.getElem?_cons_zero]; rfl)
  case hq3 => exact fun _ _ _ h => h
  case hy3 => exact Or.inl ⟨by rfl, by intro w hSw; (try dsimp only at hSw); go_simp; try with_reducible rfl⟩
  simp only [Act.put, List.setIfInBounds_toArray, List.set_cons_zero, List.set_cons_succ]
  refine wpAnyH_take (i := 4) (oi := ?o4) (v := ?hv4) ?hi4 (by kernel_rfl) (by kernel_rfl) (by kernel_rfl) ?hq4 ?hy4 (by assumption) ?hr4
  case hi4 => (simp only [List.getElem?_toArray, List.getElem?_cons_succ, List.getElem?_cons_zero]; rfl)
  case hq4 => exact fun _ _ _ h => h
  case hy4 => exact Or.inl ⟨by rfl, by intro w hSw; (try dsimp only at hSw); go_simp; try with_reducible rfl⟩
  simp only [Act.put, List.setIfInBounds_toArray, List.set_cons_zero, List.set_cons_succ]
  refine wpAnyH_ready (rs := [2]) (by kernel_rfl) (by simp) ?_
  refine (AllReadyH.cons (o := ?o9) ?hi9 (fun K hK => ?hr9) AllReadyH.nil)
  case hi9 => (simp only [List.getElem?_toArray, List.getElem?_cons_succ, List.getElem?_cons_zero]; rfl)
  case hr9 =>
    go_simp
    refine (ronly_any L O L' O' A A' n c n' c' cs ds hn hn' _ (Lib.hid ((hC2.out.below ((Below.refl w2.heap.size w2).drew)).more (((Below.refl w2.heap.size w2).drew)).size)) (Lib.hid ((hD2.out.below ((Below.refl w2.heap.size w2).drew)).more (((Below.refl w2.heap.size w2).drew)).size))).mono ?_
    rintro e w3 ⟨Aw3, cw3, rfl, hCw3, _, hbw3⟩
    have hqw3 : Below w2.heap.size w2 w3 := bstep ((Below.refl w2.heap.size w2).drew) hbw3 (Nat.le_refl _)
    go_wp2_with fail
    refine hK.out _ _ ?_ (fun hHeld => ?_)
    · exact (keepAB hA2 hB2 (Nat.lt_of_succ_lt hs2.out) hs2.out (hqw3))
    clear hK K
    try simp only [Act.put, List.setIfInBounds_toArray, List.set_cons_zero, List.set_cons_succ]
    refine wpAnyH_ready (rs := [5]) (by kernel_rfl) (by simp) ?_
    refine (AllReadyH.cons (o := ?o8) ?hi8 (fun K hK => ?hr8) AllReadyH.nil)
    case hi8 => (simp only [List.getElem?_toArray, List.getElem?_cons_succ, List.getElem?_cons_zero]; rfl)
    case hr8 =>
      go_simp
      refine (ronly_any L' O' L O A' A n' c' n c ds cs hn' hn _ (Lib.hid ((hD2.out.below hqw3).more (hqw3).size)) (Lib.hid ((hC2.out.below hqw3).more (hqw3).size))).mono ?_
      rintro e w4 ⟨Aw4, cw4, rfl, hCw4, _, hbw4⟩
      have hqw4 : Below w2.heap.size w2 w4 := bstep hqw3 hbw4 (Nat.le_refl _)
      go_wp2_with fail
      refine hK.out _ _ ?_ (fun hHeld => ?_)
      · exact (keepAB hA2 hB2 (Nat.lt_of_succ_lt hs2.out) hs2.out (hqw4))
      clear hK K
      try simp only [Act.put, List.setIfInBounds_toArray, List.set_cons_zero, List.set_cons_succ]
      refine wpAnyH_take (i := 6) (oi := ?o5) (v := ?hv5) ?hi5 (by kernel_rfl) (by kernel_rfl) (by kernel_rfl) ?hq5 ?hy5 (by assumption) ?hr5
      case hi5 => (simp only [List.getElem?_toArray, List.getElem?_cons_succ, List.getElem?_cons_zero]; rfl)
      case hq5 => exact fun _ _ _ h => h
      case hy5 => exact Or.inl ⟨by rfl, by intro w hSw; (try dsimp only at hSw); go_simp; try with_reducible rfl⟩
      simp only [Act.put, List.setIfInBounds_toArray, List.set_cons_zero, List.set_cons_succ]
      refine wpAnyH_take (i := 7) (oi := ?o6) (v := ?hv6) ?hi6 (by kernel_rfl) (by kernel_rfl) (by kernel_rfl) ?hq6 ?hy6 (by assumption) ?hr6
      case hi6 => (simp only [List.getElem?_toArray, List.getElem?_cons_succ, List.getElem?_cons_zero]; rfl)
      case hq6 => exact fun _ _ _ h => h
      case hy6 => exact Or.inl ⟨by rfl, by intro w hSw; (try dsimp only at hSw); go_simp; try with_reducible rfl⟩
      simp only [Act.put, List.setIfInBounds_toArray, List.set_cons_zero, List.set_cons_succ]
      refine wpAnyH_take (i := 8) (oi := ?o7) (v := ?hv7) ?hi7 (by kernel_rfl) (by kernel_rfl) (by kernel_rfl) ?hq7 ?hy7 (by assumption) ?hr7
      case hi7 => (simp only [List.getElem?_toArray, List.getElem?_cons_succ, List.getElem?_cons_zero]; rfl)
      case hq7 => exact fun _ _ _ h => h
      case hy7 => exact Or.inl ⟨by rfl, by intro w hSw; (try dsimp only at hSw); go_simp; try with_reducible rfl⟩
      simp only [Act.put, List.setIfInBounds_toArray, List.set_cons_zero, List.set_cons_succ]
      refine wpAnyH_done (by kernel_rfl) ?_ _
      go_wp2_with fail
      refine bodyPost_ret (v := .tuple #[.slice Aw3 (keepL ds cs).length cw3, .slice Aw4 (keepL cs ds).length cw4, .int .i64 0]) (by simp [results, Tryz.results32, go_sem]) rfl ?_
      exact ⟨Aw3, cw3, Aw4, cw4, rfl, (hCw3.below hbw4).more hbw4.size, hCw4, bstep hw2 hqw4 (Nat.le_refl _)⟩
theorem rDif_any (L O L' O' : Int) (A A' : Option Addr) (n c n' c' : Nat) (cs ds : List C5) (hn : n ≤ 1000000) (hn' : n' ≤ 1000000) (r1 r2 : List C5) (x : Int) (h : difR L O cs L' O' ds = (r1, r2, x)) (w : World) (hcs : Cells w w.heap.size A n cs) (hds : Cells w w.heap.size A' n' ds) :
    Calls Tryz.prog 32 #[.agg #[.int .i64 L, .int .i64 O, .slice A n c], .agg #[.int .i64 L', .int .i64 O', .slice A' n' c']] w (DiffEnd w r1 r2 x) := by
  unfold difR at h
  cases hr : formB L O cs
  · rw [if_pos hr] at h
    cases h
    exact rDif_a L O L' O' A A' n c n' c' cs ds hn hn' (Lib.hid hr) w (Lib.hid hcs) (Lib.hid hds)
  · rw [if_neg (by simp [hr])] at h
    cases hr' : formB L' O' ds
    · rw [if_pos hr'] at h
      cases h
      exact rDif_b L O L' O' A A' n c n' c' cs ds hn hn' (Lib.hid hr) (Lib.hid hr') w (Lib.hid hcs) (Lib.hid hds)
    · rw [if_neg (by simp [hr'])] at h
      cases he : (L == L')
      · rw [if_pos he] at h
        cases h
        exact rDif_L L O L' O' A A' n c n' c' cs ds hn hn' (Lib.hid hr) (Lib.hid hr') he w (Lib.hid hcs) (Lib.hid hds)
      · rw [if_neg (by rw [he]; simp)] at h
        cases he' : (O == O')
        · rw [if_pos he'] at h
          cases h
          exact rDif_O L O L' O' A A' n c n' c' cs ds hn hn' (Lib.hid hr) (Lib.hid hr') he he' w (Lib.hid hcs) (Lib.hid hds)
        · rw [if_neg (by rw [he']; simp)] at h
          cases h
          exact rDif_yes L O L' O' A A' n c n' c' cs ds hn hn' (Lib.hid hr) (Lib.hid hr') he he' w (Lib.hid hcs) (Lib.hid hds)
end Go.Proofs.YtnddjcadkbjjhaaGreatDoor
