/-
  CHAPTER 35: slices.Contains at cells.
-/
import Derived.Test.YtnddjcadkbjjhaaGreatDoorJ
namespace Go.Proofs.YtnddjcadkbjjhaaGreatDoor
open Go.RowKit

set_option maxHeartbeats 1600000 in
set_option maxRecDepth 100000 in
theorem index_any (x : C5) (A : Option Addr) (n c : Nat) (cs : List C5) (hn : n ≤ 1000000) (w : World) (hcs : Hid (Cells w w.heap.size A n cs)) :
    Calls Tryz.prog 79 #[.slice A n c, .agg #[.int .i64 x.s, .int .i64 x.o, .int .i64 x.f, .int .i64 x.t, .int .i64 x.w]] w fun e w' => ∃ r : Int, e = .returned (.int .i64 r) ∧ Hid (decide (0 ≤ r) = decide (x ∈ cs)) ∧ Below w.heap.size w w' := by
  have hm51 := hm51
  have hb0 : Below w.heap.size w (w.alloc (N51 x)) := (Below.refl _ _).alloc (Nat.le_refl _) _
  have hX := Box5.new x 51 w
  have hC := Lib.hid (hcs.out.below hb0)
  have hl := hcs.out.1
  clear hcs
  go_enter Tryz.func79, Tryz.ntmps79
  go_upto_region 1 with fail
  revert hb0 hX hC
  generalize w.alloc (N51 x) = w1
  intro hb0 hX hC
  obtain ⟨q0, q1, q2, q3, q4⟩ := id hX
  go_wp2
  go_loopw [8] (fun i wx => ∃ k m : Nat, k ≤ n ∧ i = .int .i64 k ∧ wx = w1.drewN m ∧ Hid (∀ t z, cs[t]? = some z → t < k → x ≠ z)) (fun i _ => n - (intOf i).toNat)
  case atStart => exact ⟨0, 0, Nat.zero_le _, rfl, rfl, Lib.hid (fun t z _ h => absurd h (Nat.not_lt_zero _))⟩
  case round =>
    obtain ⟨k, m, hk, rfl, rfl, H⟩ := hrel
    by_cases hlt : k < n
    · obtain ⟨b, off, y, rfl, hb, ey, y0, y1, y2, y3, y4⟩ := hC.out.at_ hlt
      have heq := equal51 x y
      have hk0 : (0 : Int) ≤ (k : Int) := by omega
      have hk1 : (k : Int) < (n : Int) := by omega
      have ey := Lib.hid ey
      cases hxy : eqC x y
      · rw [hxy] at heq
        have hxy := Lib.hid hxy
        go_wp2
        go_quiet (fail)
        go_wp2
        go_roundw
        case rel =>
          refine ⟨k + 1, m + nq, by omega, by go_num, by simp, Lib.hid fun t z hz ht e => ?_⟩
          rcases Nat.lt_or_ge t k with h | h
          · exact H.out t z hz h e
          · have : t = k := by omega
            subst this
            have h2 := hxy.out
            rw [ey.out] at hz
            have := Option.some.inj hz
            subst this e
            rw [(eqC_iff x x).2 rfl] at h2
            cases h2
        case measure => simp [intOf]; omega
      · rw [hxy] at heq
        have hxy := Lib.hid hxy
        go_wp2
        go_quiet (fail)
        go_wp2
        go_ret
        refine ⟨k, rfl, Lib.hid ?_, below_drewN (below_drewN hb0 _) _⟩
        have hm : x ∈ cs := by
          rw [(eqC_iff x y).1 hxy.out]
          exact List.mem_of_getElem? ey.out
        simp [hm]
    · go_wp2
      go_ret
      refine ⟨-1, rfl, Lib.hid ?_, below_drewN hb0 _⟩
      have hm : ¬ x ∈ cs := fun hx => by
        obtain ⟨t, ht, e⟩ := List.getElem_of_mem hx
        exact H.out t _ (List.getElem?_eq_getElem ht) (by omega) e.symm
      simp [hm]
/-- slices.Contains. -/
theorem contains_any (x : C5) (A : Option Addr) (n c : Nat) (cs : List C5) (hn : n ≤ 1000000) (r : Bool) (hr : Hid (decide (x ∈ cs) = r)) (w : World) (hcs : Cells w w.heap.size A n cs) :
    Calls Tryz.prog 36 #[.slice A n c, .agg #[.int .i64 x.s, .int .i64 x.o, .int .i64 x.f, .int .i64 x.t, .int .i64 x.w]] w fun e w' => e = .returned (.bool r) ∧ Below w.heap.size w w' := by
  have hb0 : Below w.heap.size w (w.alloc (N51 x)) := (Below.refl _ _).alloc (Nat.le_refl _) _
  have hX := Box5.new x 51 w
  have hC := Lib.hid ((hcs.below hb0).more hb0.size)
  clear hcs
  go_enter Tryz.func36, Tryz.ntmps36
  go_upto_region 4 with fail
  revert hb0 hX hC
  generalize w.alloc (N51 x) = w1
  intro hb0 hX hC
  obtain ⟨q0, q1, q2, q3, q4⟩ := id hX
  go_wp2_with fail
  refine (index_any x A n c cs hn _ hC).mono ?_
  rintro e w2 ⟨i, rfl, hi, hb2⟩
  have hb := bstep hb0 hb2 (Nat.le_refl _)
  go_wp2_with fail
  go_ret
  exact ⟨ret_bool (by rw [← hr.out, ← hi.out]), hb⟩
end Go.Proofs.YtnddjcadkbjjhaaGreatDoor
