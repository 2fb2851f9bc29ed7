/-
  CHAPTER 35: the test of only, slices.IndexFunc with it.
-/
import Derived.Test.YtnddjcadkbjjhaaGreatDoorO
import Derived.Test.YtnddjcadkbjjhaaGreatDoorL
namespace Go.Proofs.YtnddjcadkbjjhaaGreatDoor
open Go.RowKit

set_option maxHeartbeats 1600000 in
set_option maxRecDepth 100000 in
/-- only's test: is the cell among those of the schedule that the closure holds. -/
theorem test_any (x : C5) (B : Nat) (L O : Int) (A : Option Addr) (n c : Nat) (ds : List C5) (hn : n ≤ 1000000) (r : Bool) (hr : Hid (decide (x ∈ ds) = r)) (w : World) (hB : Hid (BoxS w B L O (.slice A n c))) (hBl : B < w.heap.size) (hds : Hid (Cells w w.heap.size A n ds)) :
    Calls Tryz.prog 109 #[.agg #[.int .i64 x.s, .int .i64 x.o, .int .i64 x.f, .int .i64 x.t, .int .i64 x.w], .pointer (some ⟨B, 0, none⟩)] w fun e w' => e = .returned (.bool r) ∧ Below w.heap.size w w' := by
  have hb0 : Below w.heap.size w (w.alloc (N51 x)) := (Below.refl _ _).alloc (Nat.le_refl _) _
  have hC := Lib.hid ((hds.out.below hb0).more hb0.size)
  obtain ⟨b0, b1, b2⟩ := id hB.out
  clear hds hB
  go_enter Tryz.func109, Tryz.ntmps109
  go_wp2_with fail
  refine (carry (contains_any x A n c ds hn r hr _ hC.out) hb0).mono ?_
  rintro e w2 ⟨rfl, hb2⟩
  go_wp2_with fail
  go_ret
  exact ⟨rfl, hb2⟩
set_option maxHeartbeats 1600000 in
set_option maxRecDepth 100000 in
theorem indexf_any (A' : Option Addr) (n' c' : Nat) (cs : List C5) (hn' : n' ≤ 1000000) (B : Nat) (L O : Int) (A : Option Addr) (n c : Nat) (ds : List C5) (hn : n ≤ 1000000) (w : World) (hB : Hid (BoxS w B L O (.slice A n c))) (hBl : B < w.heap.size) (hds : Hid (Cells w w.heap.size A n ds)) (hcs : Hid (Cells w w.heap.size A' n' cs)) :
    Calls Tryz.prog 143 #[.slice A' n' c', .func (.func 109) #[] #[.pointer (some ⟨B, 0, none⟩)]] w fun e w' => ∃ (r : Int) (k : Nat), e = .returned (.int .i64 r) ∧ Hid (k ≤ n' ∧ (∀ t z, cs[t]? = some z → t < k → ¬ z ∈ ds) ∧ ((k = n' ∧ r = -1) ∨ (∃ z, cs[k]? = some z ∧ z ∈ ds ∧ r = k))) ∧ Below w.heap.size w w' := by
  go_enter Tryz.func143, Tryz.ntmps143
  go_wp2
  go_loopw [8] (fun i wx => ∃ k : Nat, k ≤ n' ∧ i = .int .i64 k ∧ Below w.heap.size w wx ∧ Hid (∀ t z, cs[t]? = some z → t < k → ¬ z ∈ ds)) (fun i _ => n' - (intOf i).toNat)
  case atStart => exact ⟨0, Nat.zero_le _, rfl, Below.refl _ _, Lib.hid (fun t z _ h => absurd h (Nat.not_lt_zero _))⟩
  case round =>
    obtain ⟨k, hk, rfl, hwx, H⟩ := hrel
    by_cases hlt : k < n'
    · have hBr := Lib.hid (hB.out.below hwx hBl)
      have hDr := Lib.hid ((hds.out.below hwx).more hwx.size)
      have hsz := hwx.size
      have hBlr : B < wr.heap.size := by omega
      obtain ⟨b, off, y, rfl, hb, ey, y0, y1, y2, y3, y4⟩ := (hcs.out.below hwx).at_ hlt
      have hk0 : (0 : Int) ≤ (k : Int) := by omega
      have hk1 : (k : Int) < (n' : Int) := by omega
      have ey := Lib.hid ey
      by_cases hin : y ∈ ds
      · have hin := Lib.hid hin
        have hrr : Hid (decide (y ∈ ds) = true) := Lib.hid (by simpa using hin.out)
        go_wp2_with fail
        refine (test_any y B L O A n c ds hn true hrr _ hBr hBlr hDr).mono ?_
        rintro e w2 ⟨rfl, hb2⟩
        go_wp2_with fail
        go_ret
        exact ⟨k, k, rfl, Lib.hid ⟨hk, H.out, Or.inr ⟨y, ey.out, hin.out, rfl⟩⟩, bstep hwx hb2 (Nat.le_refl _)⟩
      · have hin := Lib.hid hin
        have hrr : Hid (decide (y ∈ ds) = false) := Lib.hid (by simpa using hin.out)
        go_wp2_with fail
        refine (test_any y B L O A n c ds hn false hrr _ hBr hBlr hDr).mono ?_
        rintro e w2 ⟨rfl, hb2⟩
        go_wp2_with fail
        go_roundw
        case rel =>
          refine ⟨k + 1, by omega, by go_num, bstep hwx hb2 (Nat.le_refl _), Lib.hid fun t z hz ht => ?_⟩
          rcases Nat.lt_or_ge t k with h | h
          · exact H.out t z hz h
          · have : t = k := by omega
            subst this
            rw [ey.out] at hz
            cases hz
            exact hin.out
        case measure => simp [intOf]; omega
    · go_wp2
      go_ret
      exact ⟨-1, k, rfl, Lib.hid ⟨hk, H.out, Or.inl ⟨by omega, rfl⟩⟩, hwx⟩
end Go.Proofs.YtnddjcadkbjjhaaGreatDoor
