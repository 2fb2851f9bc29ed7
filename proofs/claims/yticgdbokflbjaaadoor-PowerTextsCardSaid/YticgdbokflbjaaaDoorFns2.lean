/-
  THE CONTRACTS, second part: Level, Scale, Sum, Received, Margin, Least, of the program and of the reference.
-/
import Derived.Test.YticgdbokflbjaaaDoorFns
import Derived.Below
import Derived.Laws.OwnMore
import Derived.Deep.AppendLies
import Derived.Deep.Draws
namespace Go.Proofs.YticgdbokflbjaaaDoor
open Go.RowKit

theorem tabAt (m : Nat) : ([.int .i64 1000, .int .i64 1259, .int .i64 1585, .int .i64 1995, .int .i64 2512, .int .i64 3162, .int .i64 3981, .int .i64 5012, .int .i64 6310, .int .i64 7943] : List Value)[m % 10]? = some (.int .i64 (Pm.tab (m % 10))) := by
  have hlt : m % 10 < 10 := Nat.mod_lt _ (by omega)
  generalize m % 10 = r at hlt
  have : r = 0 ∨ r = 1 ∨ r = 2 ∨ r = 3 ∨ r = 4 ∨ r = 5 ∨ r = 6 ∨ r = 7 ∨ r = 8 ∨ r = 9 := by omega
  rcases this with rfl | rfl | rfl | rfl | rfl | rfl | rfl | rfl | rfl | rfl <;> rfl
set_option maxHeartbeats 400000 in
theorem rLevel_ok (m : Nat) (h : m ≤ 108) (w : World) :
    Calls Tryd.prog 14 #[.int .i64 m] w fun e w' => e = .returned (.tuple #[.int .i64 (Pm.lev m), .int .i64 0]) ∧ Below w.heap.size w w' := by
  have ht := tabAt m
  have h' : (m : Int) ≤ 108 := by omega
  go_enter Tryd.func14, Tryd.ntmps14
  go_wp2
  clear ht
  go_loop [5, 6] (fun v i => ∃ k : Nat, k ≤ m / 10 ∧ i = .int .i64 k ∧ v = .int .i64 (Pm.pw m k)) (fun _ i => m / 10 - (intOf i).toNat)
  case atStart => exact ⟨0, Nat.zero_le _, rfl, rfl⟩
  case round =>
    obtain ⟨k, hk, rfl, rfl⟩ := hrel
    have hb := Pm.pw_bound m k (by omega)
    by_cases hlt : (k : Int) < (m : Int) / 10
    · go_wp2
      go_round
      case rel => exact ⟨k + 1, by omega, by go_num, rfl⟩
      case measure => simp [intOf]; omega
    · go_wp2
      go_ret2
      have e : k = m / 10 := by omega
      exact ⟨ret_two (by subst e; rfl) rfl, (Below.refl _ _).alloc (Nat.le_refl _) _⟩
set_option maxHeartbeats 400000 in
theorem Level_ok (m : Nat) (h : m ≤ 108) (w : World) :
    Calls Tryd.prog 12 #[.int .i64 m] w fun e w' => e = .returned (.tuple #[.int .i64 (Pm.lev m), .int .i64 0]) ∧ w = w' := by
  have h' : (m : Int) ≤ 108 := by omega
  go_enter Tryd.func12, Tryd.ntmps12
  go_wp2_with (go_at_call 32; refine (level_any m (by omega) _).mono ?_; rintro e w' ⟨rfl, rfl⟩)
  go_ret2
  exact ⟨rfl, rfl⟩

set_option maxHeartbeats 400000 in
theorem Level_low (n : Int) (h : n < 0) (w : World) :
    Calls Tryd.prog 12 #[.int .i64 n] w fun e w' => e = .returned (.tuple #[.int .i64 0, .int .i64 2]) ∧ w = w' := by
  go_enter Tryd.func12, Tryd.ntmps12
  go_wp2
  go_ret2
  exact ⟨rfl, rfl⟩
set_option maxHeartbeats 400000 in
theorem Level_high (n : Int) (h0 : 0 ≤ n) (h : 108 < n) (w : World) :
    Calls Tryd.prog 12 #[.int .i64 n] w fun e w' => e = .returned (.tuple #[.int .i64 0, .int .i64 2]) ∧ w = w' := by
  go_enter Tryd.func12, Tryd.ntmps12
  go_wp2
  go_ret2
  exact ⟨rfl, rfl⟩
theorem Level_bad (n : Int) (h : n < 0 ∨ 108 < n) (w : World) :
    Calls Tryd.prog 12 #[.int .i64 n] w fun e w' => e = .returned (.tuple #[.int .i64 0, .int .i64 2]) ∧ w = w' := by
  by_cases h0 : n < 0
  · exact Level_low n h0 w
  · exact Level_high n (by omega) (by omega) w
set_option maxHeartbeats 400000 in
theorem rLevel_low (n : Int) (h : n < 0) (w : World) :
    Calls Tryd.prog 14 #[.int .i64 n] w fun e w' => e = .returned (.tuple #[.int .i64 0, .int .i64 2]) ∧ w = w' := by
  go_enter Tryd.func14, Tryd.ntmps14
  go_wp2
  go_ret2
  exact ⟨rfl, rfl⟩
set_option maxHeartbeats 400000 in
theorem rLevel_high (n : Int) (h0 : 0 ≤ n) (h : 108 < n) (w : World) :
    Calls Tryd.prog 14 #[.int .i64 n] w fun e w' => e = .returned (.tuple #[.int .i64 0, .int .i64 2]) ∧ w = w' := by
  go_enter Tryd.func14, Tryd.ntmps14
  go_wp2
  go_ret2
  exact ⟨rfl, rfl⟩
theorem rLevel_bad (n : Int) (h : n < 0 ∨ 108 < n) (w : World) :
    Calls Tryd.prog 14 #[.int .i64 n] w fun e w' => e = .returned (.tuple #[.int .i64 0, .int .i64 2]) ∧ w = w' := by
  by_cases h0 : n < 0
  · exact rLevel_low n h0 w
  · exact rLevel_high n (by omega) (by omega) w
theorem Level_any (n : Int) (w : World) :
    Calls Tryd.prog 12 #[.int .i64 n] w fun e w' => e = .returned (.tuple #[.int .i64 (Pm.levV n), .int .i64 (Pm.levE n)]) ∧ w = w' := by
  unfold Pm.levV Pm.levE
  by_cases h : 0 ≤ n ∧ n ≤ 108
  · obtain ⟨m, rfl⟩ := Int.eq_ofNat_of_zero_le h.1
    rw [if_pos h, if_pos h, Int.toNat_natCast]; exact Level_ok m (by omega) w
  · rw [if_neg h, if_neg h]; exact Level_bad n (by omega) w
theorem rLevel_any (n : Int) (w : World) :
    Calls Tryd.prog 14 #[.int .i64 n] w fun e w' => e = .returned (.tuple #[.int .i64 (Pm.levV n), .int .i64 (Pm.levE n)]) ∧ Below w.heap.size w w' := by
  unfold Pm.levV Pm.levE
  by_cases h : 0 ≤ n ∧ n ≤ 108
  · obtain ⟨m, rfl⟩ := Int.eq_ofNat_of_zero_le h.1
    rw [if_pos h, if_pos h, Int.toNat_natCast]; exact rLevel_ok m (by omega) w
  · rw [if_neg h, if_neg h]; exact (rLevel_bad n (by omega) w).mono fun e w' ⟨h1, h2⟩ => ⟨h1, h2 ▸ Below.refl _ _⟩

set_option maxHeartbeats 400000 in
theorem Scale_ok (n f : Int) (hp : Pm.isP n = true) (h0 : 0 ≤ f) (h1 : f ≤ 1000) (w : World) :
    Calls Tryd.prog 16 #[.int .i64 n, .int .i64 f] w fun e w' => e = .returned (.tuple #[.int .i64 (n * f / 1000), .int .i64 0]) ∧ w = w' := by
  have hi := (Pm.isP_iff n).1 hp
  have b0 : 0 ≤ n * f := Int.mul_nonneg hi.1 h0
  have b1 : n * f ≤ 68719476736000 := by
    have := Int.mul_le_mul hi.2 h1 h0 (by omega); omega
  clear hi
  have hp := Lib.hid hp
  go_enter Tryd.func16, Tryd.ntmps16
  go_wp2_with (go_at_call 33; refine (power_t _ hp.out _).mono ?_; rintro e w' ⟨rfl, rfl⟩)
  go_ret2
  exact ⟨rfl, rfl⟩
set_option maxHeartbeats 400000 in
theorem Scale_b1 (n f : Int) (hp : Pm.isP n = false) (w : World) :
    Calls Tryd.prog 16 #[.int .i64 n, .int .i64 f] w fun e w' => e = .returned (.tuple #[.int .i64 0, .int .i64 2]) ∧ w = w' := by
  have hp := Lib.hid hp
  go_enter Tryd.func16, Tryd.ntmps16
  go_wp2_with (go_at_call 33; refine (power_f _ hp.out _).mono ?_; rintro e w' ⟨rfl, rfl⟩)
  go_ret2
  exact ⟨rfl, rfl⟩
set_option maxHeartbeats 400000 in
theorem Scale_b2 (n f : Int) (hp : Pm.isP n = true) (h0 : f < 0) (w : World) :
    Calls Tryd.prog 16 #[.int .i64 n, .int .i64 f] w fun e w' => e = .returned (.tuple #[.int .i64 0, .int .i64 2]) ∧ w = w' := by
  have hp := Lib.hid hp
  go_enter Tryd.func16, Tryd.ntmps16
  go_wp2_with (go_at_call 33; refine (power_t _ hp.out _).mono ?_; rintro e w' ⟨rfl, rfl⟩)
  go_ret2
  exact ⟨rfl, rfl⟩
set_option maxHeartbeats 400000 in
theorem Scale_b3 (n f : Int) (hp : Pm.isP n = true) (h0 : 0 ≤ f) (h1 : 1000 < f) (w : World) :
    Calls Tryd.prog 16 #[.int .i64 n, .int .i64 f] w fun e w' => e = .returned (.tuple #[.int .i64 0, .int .i64 2]) ∧ w = w' := by
  have hp := Lib.hid hp
  go_enter Tryd.func16, Tryd.ntmps16
  go_wp2_with (go_at_call 33; refine (power_t _ hp.out _).mono ?_; rintro e w' ⟨rfl, rfl⟩)
  go_ret2
  exact ⟨rfl, rfl⟩
theorem Scale_any (n f : Int) (w : World) :
    Calls Tryd.prog 16 #[.int .i64 n, .int .i64 f] w fun e w' => e = .returned (.tuple #[.int .i64 (Pm.sclV n f), .int .i64 (Pm.sclE n f)]) ∧ w = w' := by
  unfold Pm.sclV Pm.sclE
  by_cases h : Pm.isP n = true ∧ 0 ≤ f ∧ f ≤ 1000
  · rw [if_pos h, if_pos h]; exact Scale_ok n f h.1 h.2.1 h.2.2 w
  · rw [if_neg h, if_neg h]
    by_cases h1 : Pm.isP n = true
    · by_cases h2 : f < 0
      · exact Scale_b2 n f h1 h2 w
      · exact Scale_b3 n f h1 (by omega) (Int.not_le.1 fun hh => h ⟨h1, by omega, hh⟩) w
    · exact Scale_b1 n f (by simpa using h1) w

set_option maxHeartbeats 400000 in
theorem rScale_ok (n f : Int) (hp : Pm.isP n = true) (h0 : 0 ≤ f) (h1 : f ≤ 1000) (w : World) :
    Calls Tryd.prog 17 #[.int .i64 n, .int .i64 f] w fun e w' => e = .returned (.tuple #[.int .i64 (n * f / 1000), .int .i64 0]) ∧ w = w' := by
  have hi := (Pm.isP_iff n).1 hp
  have b0 : 0 ≤ n * f := Int.mul_nonneg hi.1 h0
  have b1 : n * f ≤ 68719476736000 := by
    have := Int.mul_le_mul hi.2 h1 h0 (by omega); omega
  clear hi
  have hp := Lib.hid hp
  go_enter Tryd.func17, Tryd.ntmps17
  go_wp2_with (go_at_call 36; refine (Is_t _ hp.out _).mono ?_; rintro e w' ⟨rfl, rfl⟩)
  go_ret2
  exact ⟨rfl, rfl⟩
set_option maxHeartbeats 400000 in
theorem rScale_b1 (n f : Int) (hp : Pm.isP n = false) (w : World) :
    Calls Tryd.prog 17 #[.int .i64 n, .int .i64 f] w fun e w' => e = .returned (.tuple #[.int .i64 0, .int .i64 2]) ∧ w = w' := by
  have hp := Lib.hid hp
  go_enter Tryd.func17, Tryd.ntmps17
  go_wp2_with (go_at_call 36; refine (Is_f _ hp.out _).mono ?_; rintro e w' ⟨rfl, rfl⟩)
  go_ret2
  exact ⟨rfl, rfl⟩
set_option maxHeartbeats 400000 in
theorem rScale_b2 (n f : Int) (hp : Pm.isP n = true) (h0 : f < 0) (w : World) :
    Calls Tryd.prog 17 #[.int .i64 n, .int .i64 f] w fun e w' => e = .returned (.tuple #[.int .i64 0, .int .i64 2]) ∧ w = w' := by
  have hp := Lib.hid hp
  go_enter Tryd.func17, Tryd.ntmps17
  go_wp2_with (go_at_call 36; refine (Is_t _ hp.out _).mono ?_; rintro e w' ⟨rfl, rfl⟩)
  go_ret2
  exact ⟨rfl, rfl⟩
set_option maxHeartbeats 400000 in
theorem rScale_b3 (n f : Int) (hp : Pm.isP n = true) (h0 : 0 ≤ f) (h1 : 1000 < f) (w : World) :
    Calls Tryd.prog 17 #[.int .i64 n, .int .i64 f] w fun e w' => e = .returned (.tuple #[.int .i64 0, .int .i64 2]) ∧ w = w' := by
  have hp := Lib.hid hp
  go_enter Tryd.func17, Tryd.ntmps17
  go_wp2_with (go_at_call 36; refine (Is_t _ hp.out _).mono ?_; rintro e w' ⟨rfl, rfl⟩)
  go_ret2
  exact ⟨rfl, rfl⟩
theorem rScale_any (n f : Int) (w : World) :
    Calls Tryd.prog 17 #[.int .i64 n, .int .i64 f] w fun e w' => e = .returned (.tuple #[.int .i64 (Pm.sclV n f), .int .i64 (Pm.sclE n f)]) ∧ w = w' := by
  unfold Pm.sclV Pm.sclE
  by_cases h : Pm.isP n = true ∧ 0 ≤ f ∧ f ≤ 1000
  · rw [if_pos h, if_pos h]; exact rScale_ok n f h.1 h.2.1 h.2.2 w
  · rw [if_neg h, if_neg h]
    by_cases h1 : Pm.isP n = true
    · by_cases h2 : f < 0
      · exact rScale_b2 n f h1 h2 w
      · exact rScale_b3 n f h1 (by omega) (Int.not_le.1 fun hh => h ⟨h1, by omega, hh⟩) w
    · exact rScale_b1 n f (by simpa using h1) w

end Go.Proofs.YticgdbokflbjaaaDoor
