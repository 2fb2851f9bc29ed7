/-
  CHAPTER 35: slices.Equal at two slices of the same cells; a cell that came in.
-/
import Derived.Test.YtnddjcadkbjjhaaGreatDoorJ
namespace Go.Proofs.YtnddjcadkbjjhaaGreatDoor
open Go.RowKit

set_option maxHeartbeats 1600000 in
set_option maxRecDepth 100000 in
theorem Equal_same (A A' : Option Addr) (n c c' : Nat) (cs : List C5) (hn : n ≤ 1000000) (B B' : Nat) (w : World) (hc : Hid (Cells w B A n cs)) (hd : Hid (Cells w B' A' n cs)) :
    Calls Tryz.prog 35 #[.slice A n c, .slice A' n c'] w fun e w' => e = .returned (.bool true) ∧ ∃ m, w' = w.drewN m := by
  have hm51 := hm51
  go_enter Tryz.func35, Tryz.ntmps35
  go_wp2
  go_loopw [13] (fun i wx => ∃ k m : Nat, k ≤ n ∧ i = .int .i64 k ∧ wx = w.drewN m) (fun i _ => n - (intOf i).toNat)
  case atStart => exact ⟨0, 0, Nat.zero_le _, rfl, rfl⟩
  case round =>
    obtain ⟨k, m, hk, rfl, rfl⟩ := hrel
    by_cases hlt : k < n
    · obtain ⟨b, off, x, rfl, hb, ex, x0, x1, x2, x3, x4⟩ := hc.out.at_ hlt
      obtain ⟨b', off', y, rfl, hb', ey, y0, y1, y2, y3, y4⟩ := hd.out.at_ hlt
      obtain rfl : x = y := Option.some.inj (ex.symm.trans ey)
      have heq := equal51 x x
      rw [(eqC_iff x x).2 rfl] at heq
      clear ex ey
      have hk0 : (0 : Int) ≤ (k : Int) := by omega
      have hk1 : (k : Int) < (n : Int) := by omega
      go_wp2
      go_quiet (fail)
      go_wp2
      go_roundw
      case rel => exact ⟨k + 1, m + nq, by omega, by go_num, by simp⟩
      case measure => simp [intOf]; omega
    · go_wp2
      go_ret
      exact ⟨rfl, m, rfl⟩
end Go.Proofs.YtnddjcadkbjjhaaGreatDoor
