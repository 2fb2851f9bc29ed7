/-
  CHAPTER 35: Add and Remove.
-/
import Derived.Test.YtnddjcadkbjjhaaGreatDoorAddA
namespace Go.Proofs.YtnddjcadkbjjhaaGreatDoor
open Go.RowKit

theorem A0_sbox (w : World) (L O : Int) (A : Option Addr) (n c : Nat) (x : C5) : Blk (A0 w L O A n c x) w.heap.size 30 #[.int .i64 L, .int .i64 O, .slice A n c] :=
  ((Blk.new w 30 #[.int .i64 L, .int .i64 O, .slice A n c]).alloc (N51 x)).alloc (.cells Z3 30)
theorem Cells.far {w : World} {B n : Nat} {A : Option Addr} {cs : List C5} (h : Cells w B A n cs) (q : Addr) (u : Value) (hq : ∀ b off, A = some ⟨b, off, none⟩ → b ≠ q.block) : Cells (w.setCell q u) B A n cs := by
  refine ⟨h.1, fun hn => ?_⟩
  obtain ⟨b, off, e, hb, hc⟩ := h.2 hn
  have hne : ∀ o, q ≠ ⟨b, o, none⟩ := fun o e' => hq b off e (by rw [e'])
  refine ⟨b, off, e, hb, fun j z hz => ?_⟩
  obtain ⟨c0, c1, c2, c3, c4⟩ := hc j z hz
  exact ⟨(World.cell?_setCell_other _ _ _ _ (hne _)).trans c0, (World.cell?_setCell_other _ _ _ _ (hne _)).trans c1, (World.cell?_setCell_other _ _ _ _ (hne _)).trans c2, (World.cell?_setCell_other _ _ _ _ (hne _)).trans c3, (World.cell?_setCell_other _ _ _ _ (hne _)).trans c4⟩
theorem delL_length (cs : List C5) (i D : Nat) (h : cs.length = i + 1 + D) : (delL cs i).length = i + D := by
  unfold delL; rw [List.length_append, List.length_take, List.length_drop]; omega
theorem delete_n (base : Nat) (cs : List C5) (g c i D n : Nat) (cur : Array Value) (hl : cs.length = n) (hn : n ≤ 1000000) (hD : n = i + 1 + D) (hnc : n ≤ c) (hc63 : c ≤ 9223372036854775807) (hcur : cur.size = c * 5) (hbase : base ≤ g) (w : World)
    (hG : Blk w g 51 cur) (hF : cur.toList.take (n * 5) = cs.flatMap C5.cells) :
    Calls Tryz.prog 69 #[.slice (some ⟨g, 0, none⟩) n c, .int .i64 i, .int .i64 ((i : Int) + 1)] w fun e w' =>
      e = .returned (.slice (some ⟨g, 0, none⟩) (i + D) c) ∧ Cells w' w'.heap.size (some ⟨g, 0, none⟩) (i + D) (delL cs i) ∧ Below base w w' := by
  subst hl
  exact delete_one base cs g c i D cur hn hD hnc hc63 hcur hbase w (Lib.hid hG) (Lib.hid hF)
set_option maxHeartbeats 4000000 in
set_option maxRecDepth 100000 in
theorem Rem_yes (L O : Int) (A : Option Addr) (n c : Nat) (cs : List C5) (x : C5) (hn : n ≤ 1000000) (hr : Hid (formB L O cs = true)) (hin : x ∈ cs) (w : World) (hcs : Hid (Cells w w.heap.size A n cs)) :
    Calls Tryz.prog 27 #[.agg #[.int .i64 L, .int .i64 O, .slice A n c], .agg #[.int .i64 x.s, .int .i64 x.o, .int .i64 x.f, .int .i64 x.t, .int .i64 x.w]] w (SchedEnd w ⟨L, O, delL cs (posL x cs), 0, 0⟩) := by
  have hw0 := A0_below w L O A n c x
  have hC0 := Lib.hid ((hcs.out.below hw0).more hw0.size)
  have hZ0 := Lib.hid (A0_blk w L O A n c x)
  have hB0 := Lib.hid (A0_sbox w L O A n c x)
  have hX0 := Lib.hid (A0_x w L O A n c x)
  have hs0 := A0_size w L O A n c x
  have hs0 := Lib.hid hs0
  have hl := hcs.out.1
  clear hcs
  have hsr := form_srt hr.out
  obtain ⟨i, hi'⟩ : ∃ i, i = posL x cs := ⟨_, rfl⟩
  have hlo := Lib.hid (posL_lo x cs)
  have hhi := Lib.hid (posL_hi x cs hsr)
  have hfd : Hid ((match cs[posL x cs]? with | some z => decide (cmpC z x = 0) | none => false) = true) := Lib.hid ((posL_has x cs hsr).trans (by simpa using hin))
  have hile := posL_le x cs
  have hil := (posL_at hsr hin).2
  rw [← hi'] at hlo hhi hfd hile hil ⊢
  have hi := Lib.hid hi'
  clear hsr hin hi'
  go_enter Tryz.func27, Tryz.ntmps27
  go_wp2_with (go_at_call 53; refine (form_lit L O A n c cs hn true hr.out _ hC0.out).mono ?_; rintro e w1 ⟨rfl, hb1⟩; have hZ1 := Lib.hid (hZ0.out.below hb1 hs0.out); have hB1 := Lib.hid (hB0.out.below hb1 (Nat.lt_of_succ_lt (Nat.lt_of_succ_lt hs0.out))); have hX1 := Lib.hid (hX0.out.below hb1 (Nat.lt_of_succ_lt hs0.out)); have hw1 := bstep hw0 hb1 (Nat.le_refl _); have hC1 := Lib.hid ((hC0.out.below hb1).more hb1.size); have hs1 := Lib.hid (Nat.lt_of_lt_of_le hs0.out hb1.size); clear hZ0 hB0 hX0 hC0 hs0 hw0 hb1; (try clear z0 z1 z2 f0 f1 f2 b0 b1 b2 g0 g1 g2 x0 x1 x2 x3 x4); obtain ⟨z0, z1, z2, f0, f1, f2⟩ := hZ1.out.three; obtain ⟨b0, b1, b2, g0, g1, g2⟩ := hB1.out.three; obtain ⟨x0, x1, x2, x3, x4⟩ := id hX1.out)
  go_wp2_with (go_at_call 67; refine (search_any x A n c cs i hn (by omega) hlo hhi true hfd _ hC1).mono ?_; rintro e w2 ⟨rfl, hb2⟩; have hZ2 := Lib.hid (hZ1.out.below hb2 hs1.out); have hB2 := Lib.hid (hB1.out.below hb2 (Nat.lt_of_succ_lt (Nat.lt_of_succ_lt hs1.out))); have hX2 := Lib.hid (hX1.out.below hb2 (Nat.lt_of_succ_lt hs1.out)); have hw2 := bstep hw1 hb2 (Nat.le_refl _); have hC2 := Lib.hid ((hC1.out.below hb2).more hb2.size); have hs2 := Lib.hid (Nat.lt_of_lt_of_le hs1.out hb2.size); clear hZ1 hB1 hX1 hC1 hs1 hw1 hb2; (try clear z0 z1 z2 f0 f1 f2 b0 b1 b2 g0 g1 g2 x0 x1 x2 x3 x4); obtain ⟨z0, z1, z2, f0, f1, f2⟩ := hZ2.out.three; obtain ⟨b0, b1, b2, g0, g1, g2⟩ := hB2.out.three; obtain ⟨x0, x1, x2, x3, x4⟩ := id hX2.out)
  refine (clone_any A n c cs hn _ hC2.out).mono ?_
  rintro e w3 ⟨v3, rfl, hown, hb3⟩
  rcases hown.2 with ⟨_, h0⟩ | ⟨g, cap, cur, rfl, hbg, hg, hle, hm, hsz, htk⟩
  · omega
  obtain ⟨D, hD'⟩ : ∃ D, n = i + 1 + D := ⟨n - (i + 1), by omega⟩
  have hDD := Lib.hid (delL_length cs i D (by omega))
  have hD := Lib.hid hD'
  clear hD'
  have hm63 : cap ≤ 9223372036854775807 := by unfold maxLen at hm; exact hm
  go_wp2_with fail
  refine (delete_n _ cs g cap i D n cur hl hn hD.out hle hm63 hsz hbg _ hg htk).mono ?_
  rintro e w4 ⟨rfl, hC4, hb4⟩
  have hb24 := hb3.trans hb4
  have hw4 := bstep hw2 hb24 (Nat.le_refl _)
  have hle2 := hw2.size
  have hlt2 := hs2.out
  obtain ⟨z0, z1, z2, f0, f1, f2⟩ := (hZ2.out.below hb24 hs2.out).three
  obtain ⟨b0, b1, b2, g0, g1, g2⟩ := (hB2.out.below hb24 (by omega)).three
  have hC4 := Lib.hid hC4
  clear hZ2 hB2 hX2 hC2 x0 x1 x2 x3 x4 hown hb3 hb4 hg htk
  go_wp2_with fail
  refine bodyPost_ret (v := .tuple #[.agg #[.int .i64 L, .int .i64 O, .slice (some ⟨g, 0, none⟩) (i + D) cap], .int .i64 0]) (by simp [results, Tryz.results27, go_sem, z0, z1, z2]) rfl ?_
  have hCx := hC4.out
  have hle4 : i + D ≤ cap := by have := hD.out; omega
  rw [← hDD.out] at hCx hle4 ⊢
  have hfar : ∀ b off, some (⟨g, 0, none⟩ : Addr) = some ⟨b, off, none⟩ → b ≠ w.heap.size := fun b off h => by cases h; omega
  exact sched_good L O 0 0 (delL cs i) (w.heap.size + 1 + 1) (by omega) hle4 (by have h := hCx.far ⟨w.heap.size, 2, none⟩ (.slice (some ⟨g, 0, none⟩) (delL cs i).length cap) hfar; simpa [World.setCell] using h) (hw4.setCell (p := ⟨w.heap.size, 2, none⟩) (Nat.le_refl _) _) (fun b off h => by cases h; omega)
end Go.Proofs.YtnddjcadkbjjhaaGreatDoor
