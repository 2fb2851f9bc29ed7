/-
  THE CONTRACTS of package power's functions and of the reference's: what each call returns; whatever memory it is called in, the old cells stay.
-/
import Derived.Test.YticgdbokflbjaaaDoorRows
import Derived.Test.YticgdbokflbjaaaDoorMath
import Derived.WalkKit
import Derived.WalkSpells
import Derived.WalkLawsBesides
import Derived.BigQuiet
import Derived.Deep.QuietTactic
import Derived.Lib.Hide
import Derived.IntWalk
namespace Go.Proofs.YticgdbokflbjaaaDoor
open Go.RowKit

theorem ret_int {k : IntKind} {a b : Int} (h : a = b) : Ending.returned (.int k a) = .returned (.int k b) := by rw [h]
theorem ret_bool {a b : Bool} (h : a = b) : Ending.returned (.bool a) = .returned (.bool b) := by rw [h]
theorem ret_two {k l : IntKind} {a b c d : Int} (h : a = b) (g : c = d) : Ending.returned (.tuple #[.int k a, .int l c]) = .returned (.tuple #[.int k b, .int l d]) := by rw [h, g]

set_option maxHeartbeats 400000 in
theorem power_y (n : Int) (h0 : 0 ≤ n) (h1 : n ≤ 68719476736) (w : World) :
    Calls Tryd.prog 33 #[.int .i64 n] w fun e w' => e = .returned (.bool true) ∧ w = w' := by
  go_enter Tryd.func33, Tryd.ntmps33
  go_wp2
  go_ret
  exact ⟨rfl, rfl⟩
set_option maxHeartbeats 400000 in
theorem power_low (n : Int) (h0 : n < 0) (w : World) :
    Calls Tryd.prog 33 #[.int .i64 n] w fun e w' => e = .returned (.bool false) ∧ w = w' := by
  go_enter Tryd.func33, Tryd.ntmps33
  go_wp2
  go_ret
  exact ⟨rfl, rfl⟩
set_option maxHeartbeats 400000 in
theorem power_high (n : Int) (h0 : 0 ≤ n) (h1 : 68719476736 < n) (w : World) :
    Calls Tryd.prog 33 #[.int .i64 n] w fun e w' => e = .returned (.bool false) ∧ w = w' := by
  go_enter Tryd.func33, Tryd.ntmps33
  go_wp2
  go_ret
  exact ⟨ret_bool (decide_eq_false (by omega)), rfl⟩
theorem power_t (n : Int) (h : Pm.isP n = true) (w : World) : Calls Tryd.prog 33 #[.int .i64 n] w fun e w' => e = .returned (.bool true) ∧ w = w' :=
  power_y n ((Pm.isP_iff n).1 h).1 ((Pm.isP_iff n).1 h).2 w
theorem power_f (n : Int) (h : Pm.isP n = false) (w : World) : Calls Tryd.prog 33 #[.int .i64 n] w fun e w' => e = .returned (.bool false) ∧ w = w' := by
  by_cases h0 : n < 0
  · exact power_low n h0 w
  · exact power_high n (by omega) (by rcases (Pm.isP_not n).1 h with h | h <;> omega) w

set_option maxHeartbeats 400000 in
theorem Is_y (n : Int) (h0 : 0 ≤ n) (h1 : n ≤ 68719476736) (w : World) :
    Calls Tryd.prog 36 #[.int .i64 n] w fun e w' => e = .returned (.bool true) ∧ w = w' := by
  go_enter Tryd.func36, Tryd.ntmps36
  go_wp2
  go_ret
  exact ⟨rfl, rfl⟩
set_option maxHeartbeats 400000 in
theorem Is_low (n : Int) (h0 : n < 0) (w : World) :
    Calls Tryd.prog 36 #[.int .i64 n] w fun e w' => e = .returned (.bool false) ∧ w = w' := by
  go_enter Tryd.func36, Tryd.ntmps36
  go_wp2
  go_ret
  exact ⟨rfl, rfl⟩
set_option maxHeartbeats 400000 in
theorem Is_high (n : Int) (h0 : 0 ≤ n) (h1 : 68719476736 < n) (w : World) :
    Calls Tryd.prog 36 #[.int .i64 n] w fun e w' => e = .returned (.bool false) ∧ w = w' := by
  go_enter Tryd.func36, Tryd.ntmps36
  go_wp2
  go_ret
  exact ⟨ret_bool (decide_eq_false (by omega)), rfl⟩
theorem Is_t (n : Int) (h : Pm.isP n = true) (w : World) : Calls Tryd.prog 36 #[.int .i64 n] w fun e w' => e = .returned (.bool true) ∧ w = w' :=
  Is_y n ((Pm.isP_iff n).1 h).1 ((Pm.isP_iff n).1 h).2 w
theorem Is_f (n : Int) (h : Pm.isP n = false) (w : World) : Calls Tryd.prog 36 #[.int .i64 n] w fun e w' => e = .returned (.bool false) ∧ w = w' := by
  by_cases h0 : n < 0
  · exact Is_low n h0 w
  · exact Is_high n (by omega) (by rcases (Pm.isP_not n).1 h with h | h <;> omega) w

set_option maxHeartbeats 400000 in
theorem cond_y (t n : Int) (h0 : 1000 ≤ t) (h1 : t ≤ 100000) (h2 : 1 ≤ n) (h3 : n ≤ 68719476736) (w : World) :
    Calls Tryd.prog 37 #[.int .i64 t, .int .i64 n] w fun e w' => e = .returned (.bool true) ∧ w = w' := by
  go_enter Tryd.func37, Tryd.ntmps37
  go_wp2
  go_ret
  exact ⟨rfl, rfl⟩
set_option maxHeartbeats 400000 in
theorem cond_1 (t n : Int) (h0 : t < 1000) (w : World) :
    Calls Tryd.prog 37 #[.int .i64 t, .int .i64 n] w fun e w' => e = .returned (.bool false) ∧ w = w' := by
  go_enter Tryd.func37, Tryd.ntmps37
  go_wp2
  go_ret
  exact ⟨rfl, rfl⟩
set_option maxHeartbeats 400000 in
theorem cond_2 (t n : Int) (h0 : 1000 ≤ t) (h1 : 100000 < t) (w : World) :
    Calls Tryd.prog 37 #[.int .i64 t, .int .i64 n] w fun e w' => e = .returned (.bool false) ∧ w = w' := by
  go_enter Tryd.func37, Tryd.ntmps37
  go_wp2
  go_ret
  exact ⟨rfl, rfl⟩
set_option maxHeartbeats 400000 in
theorem cond_3 (t n : Int) (h0 : 1000 ≤ t) (h1 : t ≤ 100000) (h2 : n < 1) (w : World) :
    Calls Tryd.prog 37 #[.int .i64 t, .int .i64 n] w fun e w' => e = .returned (.bool false) ∧ w = w' := by
  go_enter Tryd.func37, Tryd.ntmps37
  go_wp2
  go_ret
  exact ⟨rfl, rfl⟩
set_option maxHeartbeats 400000 in
theorem cond_4 (t n : Int) (h0 : 1000 ≤ t) (h1 : t ≤ 100000) (h2 : 1 ≤ n) (h3 : 68719476736 < n) (w : World) :
    Calls Tryd.prog 37 #[.int .i64 t, .int .i64 n] w fun e w' => e = .returned (.bool false) ∧ w = w' := by
  go_enter Tryd.func37, Tryd.ntmps37
  go_wp2
  go_ret
  exact ⟨ret_bool (decide_eq_false (by omega)), rfl⟩
theorem cond_t (t n : Int) (h : Pm.condB t n = true) (w : World) : Calls Tryd.prog 37 #[.int .i64 t, .int .i64 n] w fun e w' => e = .returned (.bool true) ∧ w = w' := by
  obtain ⟨a, b, c, d⟩ := (Pm.condB_iff t n).1 h
  exact cond_y t n a b c d w
theorem cond_f (t n : Int) (h : Pm.condB t n = false) (w : World) : Calls Tryd.prog 37 #[.int .i64 t, .int .i64 n] w fun e w' => e = .returned (.bool false) ∧ w = w' := by
  have h' := (Pm.condB_not t n).1 h
  by_cases h0 : t < 1000
  · exact cond_1 t n h0 w
  by_cases h1 : 100000 < t
  · exact cond_2 t n (by omega) h1 w
  by_cases h2 : n < 1
  · exact cond_3 t n (by omega) (by omega) h2 w
  · exact cond_4 t n (by omega) (by omega) (by omega) (by omega) w

set_option maxHeartbeats 400000 in
theorem Right_y (t n : Int) (h0 : 1000 ≤ t) (h1 : t ≤ 100000) (h2 : 1 ≤ n) (h3 : n ≤ 68719476736) (w : World) :
    Calls Tryd.prog 39 #[.int .i64 t, .int .i64 n] w fun e w' => e = .returned (.bool true) ∧ w = w' := by
  go_enter Tryd.func39, Tryd.ntmps39
  go_wp2
  go_ret
  exact ⟨rfl, rfl⟩
set_option maxHeartbeats 400000 in
theorem Right_1 (t n : Int) (h0 : t < 1000) (w : World) :
    Calls Tryd.prog 39 #[.int .i64 t, .int .i64 n] w fun e w' => e = .returned (.bool false) ∧ w = w' := by
  go_enter Tryd.func39, Tryd.ntmps39
  go_wp2
  go_ret
  exact ⟨rfl, rfl⟩
set_option maxHeartbeats 400000 in
theorem Right_2 (t n : Int) (h0 : 1000 ≤ t) (h1 : 100000 < t) (w : World) :
    Calls Tryd.prog 39 #[.int .i64 t, .int .i64 n] w fun e w' => e = .returned (.bool false) ∧ w = w' := by
  go_enter Tryd.func39, Tryd.ntmps39
  go_wp2
  go_ret
  exact ⟨rfl, rfl⟩
set_option maxHeartbeats 400000 in
theorem Right_3 (t n : Int) (h0 : 1000 ≤ t) (h1 : t ≤ 100000) (h2 : n < 1) (w : World) :
    Calls Tryd.prog 39 #[.int .i64 t, .int .i64 n] w fun e w' => e = .returned (.bool false) ∧ w = w' := by
  go_enter Tryd.func39, Tryd.ntmps39
  go_wp2
  go_ret
  exact ⟨rfl, rfl⟩
set_option maxHeartbeats 400000 in
theorem Right_4 (t n : Int) (h0 : 1000 ≤ t) (h1 : t ≤ 100000) (h2 : 1 ≤ n) (h3 : 68719476736 < n) (w : World) :
    Calls Tryd.prog 39 #[.int .i64 t, .int .i64 n] w fun e w' => e = .returned (.bool false) ∧ w = w' := by
  go_enter Tryd.func39, Tryd.ntmps39
  go_wp2
  go_ret
  exact ⟨ret_bool (decide_eq_false (by omega)), rfl⟩
theorem Right_t (t n : Int) (h : Pm.condB t n = true) (w : World) : Calls Tryd.prog 39 #[.int .i64 t, .int .i64 n] w fun e w' => e = .returned (.bool true) ∧ w = w' := by
  obtain ⟨a, b, c, d⟩ := (Pm.condB_iff t n).1 h
  exact Right_y t n a b c d w
theorem Right_f (t n : Int) (h : Pm.condB t n = false) (w : World) : Calls Tryd.prog 39 #[.int .i64 t, .int .i64 n] w fun e w' => e = .returned (.bool false) ∧ w = w' := by
  have h' := (Pm.condB_not t n).1 h
  by_cases h0 : t < 1000
  · exact Right_1 t n h0 w
  by_cases h1 : 100000 < t
  · exact Right_2 t n (by omega) h1 w
  by_cases h2 : n < 1
  · exact Right_3 t n (by omega) (by omega) h2 w
  · exact Right_4 t n (by omega) (by omega) (by omega) (by omega) w

theorem idx0 (w : World) : (Instr.index 50 (.agg #[.int .i64 1000, .int .i64 1259, .int .i64 1585, .int .i64 1995, .int .i64 2512, .int .i64 3162, .int .i64 3981, .int .i64 5012, .int .i64 6310, .int .i64 7943]) (.int .i64 0)).run Tryd.prog w = .ok (.int .i64 (Pm.tab 0)) w := by kernel_rfl
theorem idx1 (w : World) : (Instr.index 50 (.agg #[.int .i64 1000, .int .i64 1259, .int .i64 1585, .int .i64 1995, .int .i64 2512, .int .i64 3162, .int .i64 3981, .int .i64 5012, .int .i64 6310, .int .i64 7943]) (.int .i64 1)).run Tryd.prog w = .ok (.int .i64 (Pm.tab 1)) w := by kernel_rfl
theorem idx2 (w : World) : (Instr.index 50 (.agg #[.int .i64 1000, .int .i64 1259, .int .i64 1585, .int .i64 1995, .int .i64 2512, .int .i64 3162, .int .i64 3981, .int .i64 5012, .int .i64 6310, .int .i64 7943]) (.int .i64 2)).run Tryd.prog w = .ok (.int .i64 (Pm.tab 2)) w := by kernel_rfl
theorem idx3 (w : World) : (Instr.index 50 (.agg #[.int .i64 1000, .int .i64 1259, .int .i64 1585, .int .i64 1995, .int .i64 2512, .int .i64 3162, .int .i64 3981, .int .i64 5012, .int .i64 6310, .int .i64 7943]) (.int .i64 3)).run Tryd.prog w = .ok (.int .i64 (Pm.tab 3)) w := by kernel_rfl
theorem idx4 (w : World) : (Instr.index 50 (.agg #[.int .i64 1000, .int .i64 1259, .int .i64 1585, .int .i64 1995, .int .i64 2512, .int .i64 3162, .int .i64 3981, .int .i64 5012, .int .i64 6310, .int .i64 7943]) (.int .i64 4)).run Tryd.prog w = .ok (.int .i64 (Pm.tab 4)) w := by kernel_rfl
theorem idx5 (w : World) : (Instr.index 50 (.agg #[.int .i64 1000, .int .i64 1259, .int .i64 1585, .int .i64 1995, .int .i64 2512, .int .i64 3162, .int .i64 3981, .int .i64 5012, .int .i64 6310, .int .i64 7943]) (.int .i64 5)).run Tryd.prog w = .ok (.int .i64 (Pm.tab 5)) w := by kernel_rfl
theorem idx6 (w : World) : (Instr.index 50 (.agg #[.int .i64 1000, .int .i64 1259, .int .i64 1585, .int .i64 1995, .int .i64 2512, .int .i64 3162, .int .i64 3981, .int .i64 5012, .int .i64 6310, .int .i64 7943]) (.int .i64 6)).run Tryd.prog w = .ok (.int .i64 (Pm.tab 6)) w := by kernel_rfl
theorem idx7 (w : World) : (Instr.index 50 (.agg #[.int .i64 1000, .int .i64 1259, .int .i64 1585, .int .i64 1995, .int .i64 2512, .int .i64 3162, .int .i64 3981, .int .i64 5012, .int .i64 6310, .int .i64 7943]) (.int .i64 7)).run Tryd.prog w = .ok (.int .i64 (Pm.tab 7)) w := by kernel_rfl
theorem idx8 (w : World) : (Instr.index 50 (.agg #[.int .i64 1000, .int .i64 1259, .int .i64 1585, .int .i64 1995, .int .i64 2512, .int .i64 3162, .int .i64 3981, .int .i64 5012, .int .i64 6310, .int .i64 7943]) (.int .i64 8)).run Tryd.prog w = .ok (.int .i64 (Pm.tab 8)) w := by kernel_rfl
theorem idx9 (w : World) : (Instr.index 50 (.agg #[.int .i64 1000, .int .i64 1259, .int .i64 1585, .int .i64 1995, .int .i64 2512, .int .i64 3162, .int .i64 3981, .int .i64 5012, .int .i64 6310, .int .i64 7943]) (.int .i64 9)).run Tryd.prog w = .ok (.int .i64 (Pm.tab 9)) w := by kernel_rfl
theorem idx (m : Nat) (w : World) : (Instr.index 50 (.agg #[.int .i64 1000, .int .i64 1259, .int .i64 1585, .int .i64 1995, .int .i64 2512, .int .i64 3162, .int .i64 3981, .int .i64 5012, .int .i64 6310, .int .i64 7943]) (.int .i64 ((m : Int) % 10))).run Tryd.prog w = .ok (.int .i64 (Pm.tab (m % 10))) w := by
  have e : ((m : Int) % 10) = ((m % 10 : Nat) : Int) := by omega
  rw [e]
  have hlt : m % 10 < 10 := Nat.mod_lt _ (by omega)
  generalize m % 10 = r at hlt
  have : r = 0 ∨ r = 1 ∨ r = 2 ∨ r = 3 ∨ r = 4 ∨ r = 5 ∨ r = 6 ∨ r = 7 ∨ r = 8 ∨ r = 9 := by omega
  rcases this with rfl | rfl | rfl | rfl | rfl | rfl | rfl | rfl | rfl | rfl
  · exact idx0 w
  · exact idx1 w
  · exact idx2 w
  · exact idx3 w
  · exact idx4 w
  · exact idx5 w
  · exact idx6 w
  · exact idx7 w
  · exact idx8 w
  · exact idx9 w
set_option maxHeartbeats 400000 in
/-- level: the power of 0 to 109 decibels. -/
theorem level_any (m : Nat) (h : m ≤ 109) (w : World) :
    Calls Tryd.prog 32 #[.int .i64 m] w fun e w' => e = .returned (.int .i64 (Pm.lev m)) ∧ w = w' := by
  have hidx := idx m
  go_enter Tryd.func32, Tryd.ntmps32
  go_wp2
  go_loop [3, 10] (fun v i => ∃ k : Nat, k ≤ m / 10 ∧ i = .int .i64 k ∧ v = .int .i64 (Pm.pw m k)) (fun _ i => m / 10 - (intOf i).toNat)
  case atStart => exact ⟨0, Nat.zero_le _, rfl, rfl⟩
  case round =>
    obtain ⟨k, hk, rfl, rfl⟩ := hrel
    clear hidx
    have hb := Pm.pw_bound m k (by omega)
    by_cases hlt : (k : Int) < (m : Int) / 10
    · go_wp2
      go_round
      case rel => exact ⟨k + 1, by omega, by go_num, rfl⟩
      case measure => simp [intOf]; omega
    · go_wp2
      go_ret
      have e : k = m / 10 := by omega
      exact ⟨ret_int (by subst e; rfl), rfl⟩

end Go.Proofs.YticgdbokflbjaaaDoor
