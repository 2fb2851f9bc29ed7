/-
  THE WALK OF PowerOrder: it returns true, whatever the arguments; what lay in memory stays.
-/
import Derived.Test.YticgdbokflbjaaaDoorAwake
namespace Go.Proofs.YticgdbokflbjaaaDoor
open Go.RowKit

theorem Level_succ (k : Nat) (h : k < 108) (w : World) :
    Calls Tryd.prog 12 #[.int .i64 ((k : Int) + 1)] w fun e w' => e = .returned (.tuple #[.int .i64 (Pm.lev (k + 1)), .int .i64 0]) ∧ w = w' := Level_ok (k + 1) (by omega) w
theorem Level_108 (w : World) : Calls Tryd.prog 12 #[.int .i64 108] w fun e w' => e = .returned (.tuple #[.int .i64 63100000000, .int .i64 0]) ∧ w = w' := by
  have h := Level_ok 108 (by omega) w
  rw [Pm.lev_last] at h; exact h
theorem Level_109 (w : World) : Calls Tryd.prog 12 #[.int .i64 109] w fun e w' => e = .returned (.tuple #[.int .i64 0, .int .i64 2]) ∧ w = w' := Level_bad 109 (by omega) w
theorem Decibels_bad (u : Int) (h : u < 1 ∨ 68719476736 < u) (w : World) :
    Calls Tryd.prog 13 #[.int .i64 u] w fun e w' => e = .returned (.tuple #[.int .i64 0, .int .i64 2]) ∧ Below w.heap.size w w' := by
  have hh := Decibels_any u w
  unfold Pm.decV Pm.decE at hh
  rw [if_neg (by omega), if_neg (by omega)] at hh; exact hh
theorem Decibels_at (u : Int) (d : Nat) (h0 : 1 ≤ u) (h1 : u ≤ 68719476736) (hd : Pm.dec u = d) (w : World) :
    Calls Tryd.prog 13 #[.int .i64 u] w fun e w' => e = .returned (.tuple #[.int .i64 d, .int .i64 0]) ∧ Below w.heap.size w w' := by
  subst hd; exact Decibels_ok u h0 h1 w

set_option maxHeartbeats 1600000 in
set_option maxRecDepth 100000 in
theorem walk_Order_A_A1 (n : Int) (hn : Hid (n < 0 ∨ 108 < n)) (u : Int) (hu : u < 1) (w : World) :
    Calls Tryd.prog 3 #[.int .i64 n, .int .i64 u] w fun e w' => e = .returned (.bool true) ∧ Below w.heap.size w w' := by
  have hb := Below.refl w.heap.size w
  go_enter Tryd.func3, Tryd.ntmps3
  go_wp2_with (go_at_call 11; refine (carry (awake_any _) hb).mono ?_; rintro e w' ⟨rfl, hb⟩)
  refine (Level_bad _ hn.out _).mono ?_
  rintro e w' ⟨rfl, rfl⟩
  go_wp2_with fail
  refine (Level_any _ _).mono ?_
  rintro e w' ⟨rfl, rfl⟩
  go_wp2_with fail
  refine (carry (Decibels_bad u (by omega) _) hb).mono ?_
  rintro e w' ⟨rfl, hb⟩
  go_wp2_with fail
  go_ret
  exact ⟨rfl, hb⟩
set_option maxHeartbeats 1600000 in
set_option maxRecDepth 100000 in
theorem walk_Order_A_A2 (n : Int) (hn : Hid (n < 0 ∨ 108 < n)) (u : Int) (hu : 68719476736 < u) (w : World) :
    Calls Tryd.prog 3 #[.int .i64 n, .int .i64 u] w fun e w' => e = .returned (.bool true) ∧ Below w.heap.size w w' := by
  have hb := Below.refl w.heap.size w
  go_enter Tryd.func3, Tryd.ntmps3
  go_wp2_with (go_at_call 11; refine (carry (awake_any _) hb).mono ?_; rintro e w' ⟨rfl, hb⟩)
  refine (Level_bad _ hn.out _).mono ?_
  rintro e w' ⟨rfl, rfl⟩
  go_wp2_with fail
  refine (Level_any _ _).mono ?_
  rintro e w' ⟨rfl, rfl⟩
  go_wp2_with fail
  refine (carry (Decibels_bad u (by omega) _) hb).mono ?_
  rintro e w' ⟨rfl, hb⟩
  go_wp2_with fail
  go_ret
  exact ⟨rfl, hb⟩
set_option maxHeartbeats 1600000 in
set_option maxRecDepth 100000 in
theorem walk_Order_A_B1 (n : Int) (hn : Hid (n < 0 ∨ 108 < n)) (u : Int) (h0 : 1 ≤ u) (h1 : u ≤ 68719476736) (hd : Hid (Pm.dec u = 108)) (hl : 63100000000 ≤ u) (w : World) :
    Calls Tryd.prog 3 #[.int .i64 n, .int .i64 u] w fun e w' => e = .returned (.bool true) ∧ Below w.heap.size w w' := by
  have hb := Below.refl w.heap.size w
  go_enter Tryd.func3, Tryd.ntmps3
  go_wp2_with (go_at_call 11; refine (carry (awake_any _) hb).mono ?_; rintro e w' ⟨rfl, hb⟩)
  refine (Level_bad _ hn.out _).mono ?_
  rintro e w' ⟨rfl, rfl⟩
  go_wp2_with fail
  refine (Level_any _ _).mono ?_
  rintro e w' ⟨rfl, rfl⟩
  go_wp2_with fail
  refine (carry (Decibels_at u 108 (by omega) (by omega) hd.out _) hb).mono ?_
  rintro e w' ⟨rfl, hb⟩
  go_wp2_with fail
  refine (Level_108 _).mono ?_
  rintro e w' ⟨rfl, rfl⟩
  go_wp2_with fail
  refine (Level_109 _).mono ?_
  rintro e w' ⟨rfl, rfl⟩
  go_wp2_with fail
  go_ret
  exact ⟨rfl, hb⟩
set_option maxHeartbeats 1600000 in
set_option maxRecDepth 100000 in
theorem walk_Order_A_B2 (n : Int) (hn : Hid (n < 0 ∨ 108 < n)) (u : Int) (d : Nat) (h0 : 1 ≤ u) (h1 : u ≤ 68719476736) (hd : Hid (Pm.dec u = d)) (hd8 : (d : Int) < 108) (hl : Pm.lev d ≤ u) (hg : u < Pm.lev (d + 1)) (w : World) :
    Calls Tryd.prog 3 #[.int .i64 n, .int .i64 u] w fun e w' => e = .returned (.bool true) ∧ Below w.heap.size w w' := by
  have hb := Below.refl w.heap.size w
  go_enter Tryd.func3, Tryd.ntmps3
  go_wp2_with (go_at_call 11; refine (carry (awake_any _) hb).mono ?_; rintro e w' ⟨rfl, hb⟩)
  refine (Level_bad _ hn.out _).mono ?_
  rintro e w' ⟨rfl, rfl⟩
  go_wp2_with fail
  refine (Level_any _ _).mono ?_
  rintro e w' ⟨rfl, rfl⟩
  go_wp2_with fail
  refine (carry (Decibels_at u d (by omega) (by omega) hd.out _) hb).mono ?_
  rintro e w' ⟨rfl, hb⟩
  go_wp2_with fail
  refine (Level_ok d (by omega) _).mono ?_
  rintro e w' ⟨rfl, rfl⟩
  go_wp2_with fail
  refine (Level_succ d (by omega) _).mono ?_
  rintro e w' ⟨rfl, rfl⟩
  go_wp2_with fail
  go_ret
  exact ⟨rfl, hb⟩
set_option maxHeartbeats 1600000 in
set_option maxRecDepth 100000 in
theorem walk_Order_B1_A1 (m : Nat) (h6 : (m : Int) < 6) (h8 : (m : Int) < 108) (hm : Pm.lev m ≤ Pm.lev (m + 1)) (u : Int) (hu : u < 1) (w : World) :
    Calls Tryd.prog 3 #[.int .i64 m, .int .i64 u] w fun e w' => e = .returned (.bool true) ∧ Below w.heap.size w w' := by
  have hb := Below.refl w.heap.size w
  go_enter Tryd.func3, Tryd.ntmps3
  go_wp2_with (go_at_call 11; refine (carry (awake_any _) hb).mono ?_; rintro e w' ⟨rfl, hb⟩)
  refine (Level_ok m (by omega) _).mono ?_
  rintro e w' ⟨rfl, rfl⟩
  go_wp2_with fail
  refine (Level_succ m (by omega) _).mono ?_
  rintro e w' ⟨rfl, rfl⟩
  go_wp2_with fail
  refine (carry (Decibels_bad u (by omega) _) hb).mono ?_
  rintro e w' ⟨rfl, hb⟩
  go_wp2_with fail
  go_ret
  exact ⟨rfl, hb⟩
set_option maxHeartbeats 1600000 in
set_option maxRecDepth 100000 in
theorem walk_Order_B1_A2 (m : Nat) (h6 : (m : Int) < 6) (h8 : (m : Int) < 108) (hm : Pm.lev m ≤ Pm.lev (m + 1)) (u : Int) (hu : 68719476736 < u) (w : World) :
    Calls Tryd.prog 3 #[.int .i64 m, .int .i64 u] w fun e w' => e = .returned (.bool true) ∧ Below w.heap.size w w' := by
  have hb := Below.refl w.heap.size w
  go_enter Tryd.func3, Tryd.ntmps3
  go_wp2_with (go_at_call 11; refine (carry (awake_any _) hb).mono ?_; rintro e w' ⟨rfl, hb⟩)
  refine (Level_ok m (by omega) _).mono ?_
  rintro e w' ⟨rfl, rfl⟩
  go_wp2_with fail
  refine (Level_succ m (by omega) _).mono ?_
  rintro e w' ⟨rfl, rfl⟩
  go_wp2_with fail
  refine (carry (Decibels_bad u (by omega) _) hb).mono ?_
  rintro e w' ⟨rfl, hb⟩
  go_wp2_with fail
  go_ret
  exact ⟨rfl, hb⟩
set_option maxHeartbeats 1600000 in
set_option maxRecDepth 100000 in
theorem walk_Order_B1_B1 (m : Nat) (h6 : (m : Int) < 6) (h8 : (m : Int) < 108) (hm : Pm.lev m ≤ Pm.lev (m + 1)) (u : Int) (h0 : 1 ≤ u) (h1 : u ≤ 68719476736) (hd : Hid (Pm.dec u = 108)) (hl : 63100000000 ≤ u) (w : World) :
    Calls Tryd.prog 3 #[.int .i64 m, .int .i64 u] w fun e w' => e = .returned (.bool true) ∧ Below w.heap.size w w' := by
  have hb := Below.refl w.heap.size w
  go_enter Tryd.func3, Tryd.ntmps3
  go_wp2_with (go_at_call 11; refine (carry (awake_any _) hb).mono ?_; rintro e w' ⟨rfl, hb⟩)
  refine (Level_ok m (by omega) _).mono ?_
  rintro e w' ⟨rfl, rfl⟩
  go_wp2_with fail
  refine (Level_succ m (by omega) _).mono ?_
  rintro e w' ⟨rfl, rfl⟩
  go_wp2_with fail
  refine (carry (Decibels_at u 108 (by omega) (by omega) hd.out _) hb).mono ?_
  rintro e w' ⟨rfl, hb⟩
  go_wp2_with fail
  refine (Level_108 _).mono ?_
  rintro e w' ⟨rfl, rfl⟩
  go_wp2_with fail
  refine (Level_109 _).mono ?_
  rintro e w' ⟨rfl, rfl⟩
  go_wp2_with fail
  go_ret
  exact ⟨rfl, hb⟩
set_option maxHeartbeats 1600000 in
set_option maxRecDepth 100000 in
theorem walk_Order_B1_B2 (m : Nat) (h6 : (m : Int) < 6) (h8 : (m : Int) < 108) (hm : Pm.lev m ≤ Pm.lev (m + 1)) (u : Int) (d : Nat) (h0 : 1 ≤ u) (h1 : u ≤ 68719476736) (hd : Hid (Pm.dec u = d)) (hd8 : (d : Int) < 108) (hl : Pm.lev d ≤ u) (hg : u < Pm.lev (d + 1)) (w : World) :
    Calls Tryd.prog 3 #[.int .i64 m, .int .i64 u] w fun e w' => e = .returned (.bool true) ∧ Below w.heap.size w w' := by
  have hb := Below.refl w.heap.size w
  go_enter Tryd.func3, Tryd.ntmps3
  go_wp2_with (go_at_call 11; refine (carry (awake_any _) hb).mono ?_; rintro e w' ⟨rfl, hb⟩)
  refine (Level_ok m (by omega) _).mono ?_
  rintro e w' ⟨rfl, rfl⟩
  go_wp2_with fail
  refine (Level_succ m (by omega) _).mono ?_
  rintro e w' ⟨rfl, rfl⟩
  go_wp2_with fail
  refine (carry (Decibels_at u d (by omega) (by omega) hd.out _) hb).mono ?_
  rintro e w' ⟨rfl, hb⟩
  go_wp2_with fail
  refine (Level_ok d (by omega) _).mono ?_
  rintro e w' ⟨rfl, rfl⟩
  go_wp2_with fail
  refine (Level_succ d (by omega) _).mono ?_
  rintro e w' ⟨rfl, rfl⟩
  go_wp2_with fail
  go_ret
  exact ⟨rfl, hb⟩
set_option maxHeartbeats 1600000 in
set_option maxRecDepth 100000 in
theorem walk_Order_B2_A1 (m : Nat) (h6 : 6 ≤ (m : Int)) (h8 : (m : Int) < 108) (hm : Pm.lev m ≤ Pm.lev (m + 1)) (hq : (Pm.lev m == Pm.lev (m + 1)) = false) (u : Int) (hu : u < 1) (w : World) :
    Calls Tryd.prog 3 #[.int .i64 m, .int .i64 u] w fun e w' => e = .returned (.bool true) ∧ Below w.heap.size w w' := by
  have hb := Below.refl w.heap.size w
  go_enter Tryd.func3, Tryd.ntmps3
  go_wp2_with (go_at_call 11; refine (carry (awake_any _) hb).mono ?_; rintro e w' ⟨rfl, hb⟩)
  refine (Level_ok m (by omega) _).mono ?_
  rintro e w' ⟨rfl, rfl⟩
  go_wp2_with fail
  refine (Level_succ m (by omega) _).mono ?_
  rintro e w' ⟨rfl, rfl⟩
  go_wp2_with fail
  refine (carry (Decibels_bad u (by omega) _) hb).mono ?_
  rintro e w' ⟨rfl, hb⟩
  go_wp2_with fail
  go_ret
  exact ⟨rfl, hb⟩
set_option maxHeartbeats 1600000 in
set_option maxRecDepth 100000 in
theorem walk_Order_B2_A2 (m : Nat) (h6 : 6 ≤ (m : Int)) (h8 : (m : Int) < 108) (hm : Pm.lev m ≤ Pm.lev (m + 1)) (hq : (Pm.lev m == Pm.lev (m + 1)) = false) (u : Int) (hu : 68719476736 < u) (w : World) :
    Calls Tryd.prog 3 #[.int .i64 m, .int .i64 u] w fun e w' => e = .returned (.bool true) ∧ Below w.heap.size w w' := by
  have hb := Below.refl w.heap.size w
  go_enter Tryd.func3, Tryd.ntmps3
  go_wp2_with (go_at_call 11; refine (carry (awake_any _) hb).mono ?_; rintro e w' ⟨rfl, hb⟩)
  refine (Level_ok m (by omega) _).mono ?_
  rintro e w' ⟨rfl, rfl⟩
  go_wp2_with fail
  refine (Level_succ m (by omega) _).mono ?_
  rintro e w' ⟨rfl, rfl⟩
  go_wp2_with fail
  refine (carry (Decibels_bad u (by omega) _) hb).mono ?_
  rintro e w' ⟨rfl, hb⟩
  go_wp2_with fail
  go_ret
  exact ⟨rfl, hb⟩
set_option maxHeartbeats 1600000 in
set_option maxRecDepth 100000 in
theorem walk_Order_B2_B1 (m : Nat) (h6 : 6 ≤ (m : Int)) (h8 : (m : Int) < 108) (hm : Pm.lev m ≤ Pm.lev (m + 1)) (hq : (Pm.lev m == Pm.lev (m + 1)) = false) (u : Int) (h0 : 1 ≤ u) (h1 : u ≤ 68719476736) (hd : Hid (Pm.dec u = 108)) (hl : 63100000000 ≤ u) (w : World) :
    Calls Tryd.prog 3 #[.int .i64 m, .int .i64 u] w fun e w' => e = .returned (.bool true) ∧ Below w.heap.size w w' := by
  have hb := Below.refl w.heap.size w
  go_enter Tryd.func3, Tryd.ntmps3
  go_wp2_with (go_at_call 11; refine (carry (awake_any _) hb).mono ?_; rintro e w' ⟨rfl, hb⟩)
  refine (Level_ok m (by omega) _).mono ?_
  rintro e w' ⟨rfl, rfl⟩
  go_wp2_with fail
  refine (Level_succ m (by omega) _).mono ?_
  rintro e w' ⟨rfl, rfl⟩
  go_wp2_with fail
  refine (carry (Decibels_at u 108 (by omega) (by omega) hd.out _) hb).mono ?_
  rintro e w' ⟨rfl, hb⟩
  go_wp2_with fail
  refine (Level_108 _).mono ?_
  rintro e w' ⟨rfl, rfl⟩
  go_wp2_with fail
  refine (Level_109 _).mono ?_
  rintro e w' ⟨rfl, rfl⟩
  go_wp2_with fail
  go_ret
  exact ⟨rfl, hb⟩
set_option maxHeartbeats 1600000 in
set_option maxRecDepth 100000 in
theorem walk_Order_B2_B2 (m : Nat) (h6 : 6 ≤ (m : Int)) (h8 : (m : Int) < 108) (hm : Pm.lev m ≤ Pm.lev (m + 1)) (hq : (Pm.lev m == Pm.lev (m + 1)) = false) (u : Int) (d : Nat) (h0 : 1 ≤ u) (h1 : u ≤ 68719476736) (hd : Hid (Pm.dec u = d)) (hd8 : (d : Int) < 108) (hl : Pm.lev d ≤ u) (hg : u < Pm.lev (d + 1)) (w : World) :
    Calls Tryd.prog 3 #[.int .i64 m, .int .i64 u] w fun e w' => e = .returned (.bool true) ∧ Below w.heap.size w w' := by
  have hb := Below.refl w.heap.size w
  go_enter Tryd.func3, Tryd.ntmps3
  go_wp2_with (go_at_call 11; refine (carry (awake_any _) hb).mono ?_; rintro e w' ⟨rfl, hb⟩)
  refine (Level_ok m (by omega) _).mono ?_
  rintro e w' ⟨rfl, rfl⟩
  go_wp2_with fail
  refine (Level_succ m (by omega) _).mono ?_
  rintro e w' ⟨rfl, rfl⟩
  go_wp2_with fail
  refine (carry (Decibels_at u d (by omega) (by omega) hd.out _) hb).mono ?_
  rintro e w' ⟨rfl, hb⟩
  go_wp2_with fail
  refine (Level_ok d (by omega) _).mono ?_
  rintro e w' ⟨rfl, rfl⟩
  go_wp2_with fail
  refine (Level_succ d (by omega) _).mono ?_
  rintro e w' ⟨rfl, rfl⟩
  go_wp2_with fail
  go_ret
  exact ⟨rfl, hb⟩
set_option maxHeartbeats 1600000 in
set_option maxRecDepth 100000 in
theorem walk_Order_C_A1  (u : Int) (hu : u < 1) (w : World) :
    Calls Tryd.prog 3 #[.int .i64 108, .int .i64 u] w fun e w' => e = .returned (.bool true) ∧ Below w.heap.size w w' := by
  have hb := Below.refl w.heap.size w
  go_enter Tryd.func3, Tryd.ntmps3
  go_wp2_with (go_at_call 11; refine (carry (awake_any _) hb).mono ?_; rintro e w' ⟨rfl, hb⟩)
  refine (Level_108 _).mono ?_
  rintro e w' ⟨rfl, rfl⟩
  go_wp2_with fail
  refine (Level_109 _).mono ?_
  rintro e w' ⟨rfl, rfl⟩
  go_wp2_with fail
  refine (carry (Decibels_bad u (by omega) _) hb).mono ?_
  rintro e w' ⟨rfl, hb⟩
  go_wp2_with fail
  go_ret
  exact ⟨rfl, hb⟩
set_option maxHeartbeats 1600000 in
set_option maxRecDepth 100000 in
theorem walk_Order_C_A2  (u : Int) (hu : 68719476736 < u) (w : World) :
    Calls Tryd.prog 3 #[.int .i64 108, .int .i64 u] w fun e w' => e = .returned (.bool true) ∧ Below w.heap.size w w' := by
  have hb := Below.refl w.heap.size w
  go_enter Tryd.func3, Tryd.ntmps3
  go_wp2_with (go_at_call 11; refine (carry (awake_any _) hb).mono ?_; rintro e w' ⟨rfl, hb⟩)
  refine (Level_108 _).mono ?_
  rintro e w' ⟨rfl, rfl⟩
  go_wp2_with fail
  refine (Level_109 _).mono ?_
  rintro e w' ⟨rfl, rfl⟩
  go_wp2_with fail
  refine (carry (Decibels_bad u (by omega) _) hb).mono ?_
  rintro e w' ⟨rfl, hb⟩
  go_wp2_with fail
  go_ret
  exact ⟨rfl, hb⟩
set_option maxHeartbeats 1600000 in
set_option maxRecDepth 100000 in
theorem walk_Order_C_B1  (u : Int) (h0 : 1 ≤ u) (h1 : u ≤ 68719476736) (hd : Hid (Pm.dec u = 108)) (hl : 63100000000 ≤ u) (w : World) :
    Calls Tryd.prog 3 #[.int .i64 108, .int .i64 u] w fun e w' => e = .returned (.bool true) ∧ Below w.heap.size w w' := by
  have hb := Below.refl w.heap.size w
  go_enter Tryd.func3, Tryd.ntmps3
  go_wp2_with (go_at_call 11; refine (carry (awake_any _) hb).mono ?_; rintro e w' ⟨rfl, hb⟩)
  refine (Level_108 _).mono ?_
  rintro e w' ⟨rfl, rfl⟩
  go_wp2_with fail
  refine (Level_109 _).mono ?_
  rintro e w' ⟨rfl, rfl⟩
  go_wp2_with fail
  refine (carry (Decibels_at u 108 (by omega) (by omega) hd.out _) hb).mono ?_
  rintro e w' ⟨rfl, hb⟩
  go_wp2_with fail
  refine (Level_108 _).mono ?_
  rintro e w' ⟨rfl, rfl⟩
  go_wp2_with fail
  refine (Level_109 _).mono ?_
  rintro e w' ⟨rfl, rfl⟩
  go_wp2_with fail
  go_ret
  exact ⟨rfl, hb⟩
set_option maxHeartbeats 1600000 in
set_option maxRecDepth 100000 in
theorem walk_Order_C_B2  (u : Int) (d : Nat) (h0 : 1 ≤ u) (h1 : u ≤ 68719476736) (hd : Hid (Pm.dec u = d)) (hd8 : (d : Int) < 108) (hl : Pm.lev d ≤ u) (hg : u < Pm.lev (d + 1)) (w : World) :
    Calls Tryd.prog 3 #[.int .i64 108, .int .i64 u] w fun e w' => e = .returned (.bool true) ∧ Below w.heap.size w w' := by
  have hb := Below.refl w.heap.size w
  go_enter Tryd.func3, Tryd.ntmps3
  go_wp2_with (go_at_call 11; refine (carry (awake_any _) hb).mono ?_; rintro e w' ⟨rfl, hb⟩)
  refine (Level_108 _).mono ?_
  rintro e w' ⟨rfl, rfl⟩
  go_wp2_with fail
  refine (Level_109 _).mono ?_
  rintro e w' ⟨rfl, rfl⟩
  go_wp2_with fail
  refine (carry (Decibels_at u d (by omega) (by omega) hd.out _) hb).mono ?_
  rintro e w' ⟨rfl, hb⟩
  go_wp2_with fail
  refine (Level_ok d (by omega) _).mono ?_
  rintro e w' ⟨rfl, rfl⟩
  go_wp2_with fail
  refine (Level_succ d (by omega) _).mono ?_
  rintro e w' ⟨rfl, rfl⟩
  go_wp2_with fail
  go_ret
  exact ⟨rfl, hb⟩
theorem walk_Order (n u : Int) (w : World) :
    Calls Tryd.prog 3 #[.int .i64 n, .int .i64 u] w fun e w' => e = .returned (.bool true) ∧ Below w.heap.size w w' := by
  by_cases hn : n < 0 ∨ 108 < n
  ·
    by_cases hu0 : u < 1
    · exact walk_Order_A_A1 n (Lib.hid hn) u hu0 w
    by_cases hu1 : 68719476736 < u
    · exact walk_Order_A_A2 n (Lib.hid hn) u hu1 w
    have hl := Pm.dec_low u (by omega)
    have hle := Pm.dec_le u (by omega)
    by_cases hd : Pm.dec u = 108
    · exact walk_Order_A_B1 n (Lib.hid hn) u (by omega) (by omega) (Lib.hid hd) (by rw [hd, Pm.lev_last] at hl; exact hl) w
    · exact walk_Order_A_B2 n (Lib.hid hn) u (Pm.dec u) (by omega) (by omega) (Lib.hid rfl) (by omega) hl (Pm.dec_high u (by omega) (by omega)) w
  by_cases h8 : n = 108
  · subst h8
    by_cases hu0 : u < 1
    · exact walk_Order_C_A1 u hu0 w
    by_cases hu1 : 68719476736 < u
    · exact walk_Order_C_A2 u hu1 w
    have hl := Pm.dec_low u (by omega)
    have hle := Pm.dec_le u (by omega)
    by_cases hd : Pm.dec u = 108
    · exact walk_Order_C_B1 u (by omega) (by omega) (Lib.hid hd) (by rw [hd, Pm.lev_last] at hl; exact hl) w
    · exact walk_Order_C_B2 u (Pm.dec u) (by omega) (by omega) (Lib.hid rfl) (by omega) hl (Pm.dec_high u (by omega) (by omega)) w
  obtain ⟨m, rfl⟩ := Int.eq_ofNat_of_zero_le (show 0 ≤ n by omega)
  by_cases h6 : (m : Int) < 6
  ·
    by_cases hu0 : u < 1
    · exact walk_Order_B1_A1 m h6 (by omega) (Pm.lev_step m (by omega)) u hu0 w
    by_cases hu1 : 68719476736 < u
    · exact walk_Order_B1_A2 m h6 (by omega) (Pm.lev_step m (by omega)) u hu1 w
    have hl := Pm.dec_low u (by omega)
    have hle := Pm.dec_le u (by omega)
    by_cases hd : Pm.dec u = 108
    · exact walk_Order_B1_B1 m h6 (by omega) (Pm.lev_step m (by omega)) u (by omega) (by omega) (Lib.hid hd) (by rw [hd, Pm.lev_last] at hl; exact hl) w
    · exact walk_Order_B1_B2 m h6 (by omega) (Pm.lev_step m (by omega)) u (Pm.dec u) (by omega) (by omega) (Lib.hid rfl) (by omega) hl (Pm.dec_high u (by omega) (by omega)) w
  ·
    by_cases hu0 : u < 1
    · exact walk_Order_B2_A1 m (by omega) (by omega) (Pm.lev_step m (by omega)) (by have := Pm.lev_strict m (by omega) (by omega); rw [beq_eq_false_iff_ne]; omega) u hu0 w
    by_cases hu1 : 68719476736 < u
    · exact walk_Order_B2_A2 m (by omega) (by omega) (Pm.lev_step m (by omega)) (by have := Pm.lev_strict m (by omega) (by omega); rw [beq_eq_false_iff_ne]; omega) u hu1 w
    have hl := Pm.dec_low u (by omega)
    have hle := Pm.dec_le u (by omega)
    by_cases hd : Pm.dec u = 108
    · exact walk_Order_B2_B1 m (by omega) (by omega) (Pm.lev_step m (by omega)) (by have := Pm.lev_strict m (by omega) (by omega); rw [beq_eq_false_iff_ne]; omega) u (by omega) (by omega) (Lib.hid hd) (by rw [hd, Pm.lev_last] at hl; exact hl) w
    · exact walk_Order_B2_B2 m (by omega) (by omega) (Pm.lev_step m (by omega)) (by have := Pm.lev_strict m (by omega) (by omega); rw [beq_eq_false_iff_ne]; omega) u (Pm.dec u) (by omega) (by omega) (Lib.hid rfl) (by omega) hl (Pm.dec_high u (by omega) (by omega)) w

end Go.Proofs.YticgdbokflbjaaaDoor
