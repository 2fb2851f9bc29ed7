/-
  THE CONTRACTS, fourth part: Received, Margin, Least, of the program and of the reference.
-/
import Derived.Test.YticgdbokflbjaaaDoorFns3
namespace Go.Proofs.YticgdbokflbjaaaDoor
open Go.RowKit

theorem Sum_lit (A : Option Addr) (n c B : Nat) (xs : List Int) (V E : Int) (w : World) (hr : Reads w B A n xs) (hs : sumRes xs = .returned (.tuple #[.int .i64 V, .int .i64 E])) :
    Calls Tryd.prog 19 #[.slice A n c] w fun e w' => e = .returned (.tuple #[.int .i64 V, .int .i64 E]) ∧ w = w' :=
  (Sum_any A n c B xs w hr).mono fun _ _ ⟨h1, h2⟩ => ⟨h1.trans hs, h2⟩
theorem rSum_lit (A : Option Addr) (n c B : Nat) (xs : List Int) (V E : Int) (w : World) (hr : Reads w B A n xs) (hs : sumRes xs = .returned (.tuple #[.int .i64 V, .int .i64 E])) :
    Calls Tryd.prog 21 #[.slice A n c] w fun e w' => e = .returned (.tuple #[.int .i64 V, .int .i64 E]) ∧ w = w' :=
  (rSum_any A n c B xs w hr).mono fun _ _ ⟨h1, h2⟩ => ⟨h1.trans hs, h2⟩
theorem sumRes_any (xs : List Int) : sumRes xs = .returned (.tuple #[.int .i64 (Pm.sumV xs), .int .i64 (Pm.sumE xs)]) := rfl
theorem sumE_cases (xs : List Int) : Pm.sumE xs = 0 ∨ Pm.sumE xs = 2 ∨ Pm.sumE xs = 8 := by
  unfold Pm.sumE; split
  · exact Or.inr (Or.inr rfl)
  · split
    · exact Or.inl rfl
    · exact Or.inr (Or.inl rfl)
def rcvRes (s t n : Int) (xs : List Int) : Ending := .returned (.tuple #[.bool (Pm.rcvV s t n xs), .int .i64 (Pm.rcvE s t n xs)])
theorem rcvRes_arg (s t n : Int) (xs : List Int) (h : ¬ (Pm.isP s = true ∧ Pm.condB t n = true)) : .returned (.tuple #[.bool false, .int .i64 2]) = rcvRes s t n xs := by
  unfold rcvRes Pm.rcvV Pm.rcvE
  rw [if_neg (fun hh => h ⟨hh.1, hh.2.1⟩), if_neg h]
theorem rcvRes_sum (s t n : Int) (xs : List Int) (h1 : Pm.isP s = true) (h2 : Pm.condB t n = true) (E : Int) (he : Pm.sumE xs = E) (h0 : E ≠ 0) : .returned (.tuple #[.bool false, .int .i64 E]) = rcvRes s t n xs := by
  unfold rcvRes Pm.rcvV Pm.rcvE
  rw [if_neg (fun hh => h0 (he.symm.trans hh.2.2)), if_pos ⟨h1, h2⟩, he]
theorem rcvRes_ok (s t n : Int) (xs : List Int) (h1 : Pm.isP s = true) (h2 : Pm.condB t n = true) (he : Pm.sumE xs = 0) : .returned (.tuple #[.bool (Pm.rcvB s t n (Pm.sumV xs)), .int .i64 0]) = rcvRes s t n xs := by
  unfold rcvRes Pm.rcvV Pm.rcvE
  rw [if_pos ⟨h1, h2, he⟩, if_pos ⟨h1, h2⟩, he]
theorem ret_bi {a b : Bool} {c d : Int} (h : a = b) (g : c = d) : Ending.returned (.tuple #[.bool a, .int .i64 c]) = .returned (.tuple #[.bool b, .int .i64 d]) := by rw [h, g]

set_option maxHeartbeats 400000 in
theorem Decide_any (s t n i : Int) (hs : Pm.isP s = true) (hc : Pm.condB t n = true) (h0 : 0 ≤ i) (h1 : i ≤ 4398046511104) (w : World) :
    Calls Tryd.prog 40 #[.int .i64 s, .int .i64 t, .int .i64 n, .int .i64 i] w fun e w' => e = .returned (.bool (Pm.rcvB s t n i)) ∧ w = w' := by
  obtain ⟨p0, p1⟩ := Pm.prod_bound t n i hc h0 h1
  obtain ⟨s0, s1⟩ := (Pm.isP_iff s).1 hs
  obtain ⟨c0, c1, c2, c3⟩ := (Pm.condB_iff t n).1 hc
  clear hs hc
  go_enter Tryd.func40, Tryd.ntmps40
  go_wp2
  go_ret
  exact ⟨rfl, rfl⟩

set_option maxHeartbeats 800000 in
theorem Received_b1 (s t n : Int) (A : Option Addr) (k c : Nat) (xs : List Int) (w : World) (hs : Pm.isP s = false) :
    Calls Tryd.prog 18 #[.int .i64 s, .int .i64 t, .int .i64 n, .slice A k c] w fun e w' => e = rcvRes s t n xs ∧ w = w' := by
  have hs := Lib.hid hs
  go_enter Tryd.func18, Tryd.ntmps18
  go_wp2_with (go_at_call 33; refine (power_f _ hs.out _).mono ?_; rintro e w' ⟨rfl, rfl⟩)
  go_ret2
  exact ⟨rcvRes_arg s t n xs (fun hh => by rw [hs.out] at hh; exact absurd hh.1 (by decide)), rfl⟩
set_option maxHeartbeats 800000 in
theorem Received_b2 (s t n : Int) (A : Option Addr) (k c : Nat) (xs : List Int) (w : World) (hs : Pm.isP s = true) (hc : Pm.condB t n = false) :
    Calls Tryd.prog 18 #[.int .i64 s, .int .i64 t, .int .i64 n, .slice A k c] w fun e w' => e = rcvRes s t n xs ∧ w = w' := by
  have hs := Lib.hid hs
  have hc := Lib.hid hc
  go_enter Tryd.func18, Tryd.ntmps18
  go_wp2_with (first | (go_at_call 33; refine (power_t _ hs.out _).mono ?_; rintro e w' ⟨rfl, rfl⟩) | (go_at_call 37; refine (cond_f _ _ hc.out _).mono ?_; rintro e w' ⟨rfl, rfl⟩))
  go_ret2
  exact ⟨rcvRes_arg s t n xs (fun hh => by rw [hc.out] at hh; exact absurd hh.2 (by decide)), rfl⟩
set_option maxHeartbeats 800000 in
theorem Received_b2e (s t n : Int) (A : Option Addr) (k c B : Nat) (xs : List Int) (w : World) (hr : Reads w B A k xs) (hs : Pm.isP s = true) (hc : Pm.condB t n = true) (he : Pm.sumE xs = 2) :
    Calls Tryd.prog 18 #[.int .i64 s, .int .i64 t, .int .i64 n, .slice A k c] w fun e w' => e = rcvRes s t n xs ∧ w = w' := by
  have hsum : Hid (sumRes xs = .returned (.tuple #[.int .i64 (Pm.sumV xs), .int .i64 2])) := Lib.hid (by rw [sumRes_any, he])
  have he := Lib.hid he
  have hs := Lib.hid hs
  have hc := Lib.hid hc
  have hr := Lib.hid hr
  go_enter Tryd.func18, Tryd.ntmps18
  go_wp2_with (first | (go_at_call 33; refine (power_t _ hs.out _).mono ?_; rintro e w' ⟨rfl, rfl⟩) | (go_at_call 37; refine (cond_t _ _ hc.out _).mono ?_; rintro e w' ⟨rfl, rfl⟩) | (go_at_call 19; refine (Sum_lit A k c B xs _ _ _ hr.out hsum.out).mono ?_; rintro e w' ⟨rfl, rfl⟩))
  go_ret2
  exact ⟨rcvRes_sum s t n xs hs.out hc.out 2 he.out (by decide), rfl⟩
set_option maxHeartbeats 800000 in
theorem Received_b8 (s t n : Int) (A : Option Addr) (k c B : Nat) (xs : List Int) (w : World) (hr : Reads w B A k xs) (hs : Pm.isP s = true) (hc : Pm.condB t n = true) (he : Pm.sumE xs = 8) :
    Calls Tryd.prog 18 #[.int .i64 s, .int .i64 t, .int .i64 n, .slice A k c] w fun e w' => e = rcvRes s t n xs ∧ w = w' := by
  have hsum : Hid (sumRes xs = .returned (.tuple #[.int .i64 (Pm.sumV xs), .int .i64 8])) := Lib.hid (by rw [sumRes_any, he])
  have he := Lib.hid he
  have hs := Lib.hid hs
  have hc := Lib.hid hc
  have hr := Lib.hid hr
  go_enter Tryd.func18, Tryd.ntmps18
  go_wp2_with (first | (go_at_call 33; refine (power_t _ hs.out _).mono ?_; rintro e w' ⟨rfl, rfl⟩) | (go_at_call 37; refine (cond_t _ _ hc.out _).mono ?_; rintro e w' ⟨rfl, rfl⟩) | (go_at_call 19; refine (Sum_lit A k c B xs _ _ _ hr.out hsum.out).mono ?_; rintro e w' ⟨rfl, rfl⟩))
  go_ret2
  exact ⟨rcvRes_sum s t n xs hs.out hc.out 8 he.out (by decide), rfl⟩
set_option maxHeartbeats 800000 in
theorem Received_ok (s t n : Int) (A : Option Addr) (k c B : Nat) (xs : List Int) (w : World) (hr : Reads w B A k xs) (hs : Pm.isP s = true) (hc : Pm.condB t n = true) (he : Pm.sumE xs = 0) :
    Calls Tryd.prog 18 #[.int .i64 s, .int .i64 t, .int .i64 n, .slice A k c] w fun e w' => e = rcvRes s t n xs ∧ w = w' := by
  have hsum : Hid (sumRes xs = .returned (.tuple #[.int .i64 (Pm.sumV xs), .int .i64 0])) := Lib.hid (by rw [sumRes_any, he])
  have hV := Pm.sumV_bound xs
  obtain ⟨v0, v1⟩ := hV
  have hV := Pm.sumV_bound xs
  obtain ⟨p0, p1⟩ := Pm.prod_bound t n (Pm.sumV xs) hc v0 v1
  obtain ⟨s0, s1⟩ := (Pm.isP_iff s).1 hs
  obtain ⟨c0, c1, c2, c3⟩ := (Pm.condB_iff t n).1 hc
  have he := Lib.hid he
  have hs := Lib.hid hs
  have hc := Lib.hid hc
  have hr := Lib.hid hr
  go_enter Tryd.func18, Tryd.ntmps18
  go_wp2_with (first | (go_at_call 33; refine (power_t _ hs.out _).mono ?_; rintro e w' ⟨rfl, rfl⟩) | (go_at_call 37; refine (cond_t _ _ hc.out _).mono ?_; rintro e w' ⟨rfl, rfl⟩) | (go_at_call 19; refine (Sum_lit A k c B xs _ _ _ hr.out hsum.out).mono ?_; rintro e w' ⟨rfl, rfl⟩))
  go_ret2
  rw [← rcvRes_ok s t n xs hs.out hc.out he.out]
  exact ⟨rfl, rfl⟩
theorem Received_any (s t n : Int) (A : Option Addr) (k c B : Nat) (xs : List Int) (w : World) (hr : Reads w B A k xs) :
    Calls Tryd.prog 18 #[.int .i64 s, .int .i64 t, .int .i64 n, .slice A k c] w fun e w' => e = rcvRes s t n xs ∧ w = w' := by
  cases hs : Pm.isP s
  · exact Received_b1 s t n A k c xs w hs
  cases hc : Pm.condB t n
  · exact Received_b2 s t n A k c xs w hs hc
  rcases sumE_cases xs with he | he | he
  · exact Received_ok s t n A k c B xs w hr hs hc he
  · exact Received_b2e s t n A k c B xs w hr hs hc he
  · exact Received_b8 s t n A k c B xs w hr hs hc he

set_option maxHeartbeats 800000 in
theorem rReceived_b1 (s t n : Int) (A : Option Addr) (k c : Nat) (xs : List Int) (w : World) (hs : Pm.isP s = false) :
    Calls Tryd.prog 22 #[.int .i64 s, .int .i64 t, .int .i64 n, .slice A k c] w fun e w' => e = rcvRes s t n xs ∧ w = w' := by
  have hs := Lib.hid hs
  go_enter Tryd.func22, Tryd.ntmps22
  go_wp2_with (go_at_call 36; refine (Is_f _ hs.out _).mono ?_; rintro e w' ⟨rfl, rfl⟩)
  go_ret2
  exact ⟨rcvRes_arg s t n xs (fun hh => by rw [hs.out] at hh; exact absurd hh.1 (by decide)), rfl⟩
set_option maxHeartbeats 800000 in
theorem rReceived_b2 (s t n : Int) (A : Option Addr) (k c : Nat) (xs : List Int) (w : World) (hs : Pm.isP s = true) (hc : Pm.condB t n = false) :
    Calls Tryd.prog 22 #[.int .i64 s, .int .i64 t, .int .i64 n, .slice A k c] w fun e w' => e = rcvRes s t n xs ∧ w = w' := by
  have hs := Lib.hid hs
  have hc := Lib.hid hc
  go_enter Tryd.func22, Tryd.ntmps22
  go_wp2_with (first | (go_at_call 36; refine (Is_t _ hs.out _).mono ?_; rintro e w' ⟨rfl, rfl⟩) | (go_at_call 39; refine (Right_f _ _ hc.out _).mono ?_; rintro e w' ⟨rfl, rfl⟩))
  go_ret2
  exact ⟨rcvRes_arg s t n xs (fun hh => by rw [hc.out] at hh; exact absurd hh.2 (by decide)), rfl⟩
set_option maxHeartbeats 800000 in
theorem rReceived_b2e (s t n : Int) (A : Option Addr) (k c B : Nat) (xs : List Int) (w : World) (hr : Reads w B A k xs) (hs : Pm.isP s = true) (hc : Pm.condB t n = true) (he : Pm.sumE xs = 2) :
    Calls Tryd.prog 22 #[.int .i64 s, .int .i64 t, .int .i64 n, .slice A k c] w fun e w' => e = rcvRes s t n xs ∧ w = w' := by
  have hsum : Hid (sumRes xs = .returned (.tuple #[.int .i64 (Pm.sumV xs), .int .i64 2])) := Lib.hid (by rw [sumRes_any, he])
  have he := Lib.hid he
  have hs := Lib.hid hs
  have hc := Lib.hid hc
  have hr := Lib.hid hr
  go_enter Tryd.func22, Tryd.ntmps22
  go_wp2_with (first | (go_at_call 36; refine (Is_t _ hs.out _).mono ?_; rintro e w' ⟨rfl, rfl⟩) | (go_at_call 39; refine (Right_t _ _ hc.out _).mono ?_; rintro e w' ⟨rfl, rfl⟩) | (go_at_call 21; refine (rSum_lit A k c B xs _ _ _ hr.out hsum.out).mono ?_; rintro e w' ⟨rfl, rfl⟩))
  go_ret2
  exact ⟨rcvRes_sum s t n xs hs.out hc.out 2 he.out (by decide), rfl⟩
set_option maxHeartbeats 800000 in
theorem rReceived_b8 (s t n : Int) (A : Option Addr) (k c B : Nat) (xs : List Int) (w : World) (hr : Reads w B A k xs) (hs : Pm.isP s = true) (hc : Pm.condB t n = true) (he : Pm.sumE xs = 8) :
    Calls Tryd.prog 22 #[.int .i64 s, .int .i64 t, .int .i64 n, .slice A k c] w fun e w' => e = rcvRes s t n xs ∧ w = w' := by
  have hsum : Hid (sumRes xs = .returned (.tuple #[.int .i64 (Pm.sumV xs), .int .i64 8])) := Lib.hid (by rw [sumRes_any, he])
  have he := Lib.hid he
  have hs := Lib.hid hs
  have hc := Lib.hid hc
  have hr := Lib.hid hr
  go_enter Tryd.func22, Tryd.ntmps22
  go_wp2_with (first | (go_at_call 36; refine (Is_t _ hs.out _).mono ?_; rintro e w' ⟨rfl, rfl⟩) | (go_at_call 39; refine (Right_t _ _ hc.out _).mono ?_; rintro e w' ⟨rfl, rfl⟩) | (go_at_call 21; refine (rSum_lit A k c B xs _ _ _ hr.out hsum.out).mono ?_; rintro e w' ⟨rfl, rfl⟩))
  go_ret2
  exact ⟨rcvRes_sum s t n xs hs.out hc.out 8 he.out (by decide), rfl⟩
set_option maxHeartbeats 800000 in
theorem rReceived_ok (s t n : Int) (A : Option Addr) (k c B : Nat) (xs : List Int) (w : World) (hr : Reads w B A k xs) (hs : Pm.isP s = true) (hc : Pm.condB t n = true) (he : Pm.sumE xs = 0) :
    Calls Tryd.prog 22 #[.int .i64 s, .int .i64 t, .int .i64 n, .slice A k c] w fun e w' => e = rcvRes s t n xs ∧ w = w' := by
  have hsum : Hid (sumRes xs = .returned (.tuple #[.int .i64 (Pm.sumV xs), .int .i64 0])) := Lib.hid (by rw [sumRes_any, he])
  have hV := Pm.sumV_bound xs
  obtain ⟨v0, v1⟩ := hV
  have hV := Pm.sumV_bound xs
  obtain ⟨p0, p1⟩ := Pm.prod_bound t n (Pm.sumV xs) hc v0 v1
  obtain ⟨s0, s1⟩ := (Pm.isP_iff s).1 hs
  obtain ⟨c0, c1, c2, c3⟩ := (Pm.condB_iff t n).1 hc
  have he := Lib.hid he
  have hs := Lib.hid hs
  have hc := Lib.hid hc
  have hr := Lib.hid hr
  go_enter Tryd.func22, Tryd.ntmps22
  go_wp2_with (first | (go_at_call 36; refine (Is_t _ hs.out _).mono ?_; rintro e w' ⟨rfl, rfl⟩) | (go_at_call 39; refine (Right_t _ _ hc.out _).mono ?_; rintro e w' ⟨rfl, rfl⟩) | (go_at_call 21; refine (rSum_lit A k c B xs _ _ _ hr.out hsum.out).mono ?_; rintro e w' ⟨rfl, rfl⟩) | (go_at_call 40; refine (Decide_any _ _ _ _ hs.out hc.out hV.1 hV.2 _).mono ?_; rintro e w' ⟨rfl, rfl⟩))
  go_ret2
  rw [← rcvRes_ok s t n xs hs.out hc.out he.out]
  exact ⟨rfl, rfl⟩
theorem rReceived_any (s t n : Int) (A : Option Addr) (k c B : Nat) (xs : List Int) (w : World) (hr : Reads w B A k xs) :
    Calls Tryd.prog 22 #[.int .i64 s, .int .i64 t, .int .i64 n, .slice A k c] w fun e w' => e = rcvRes s t n xs ∧ w = w' := by
  cases hs : Pm.isP s
  · exact rReceived_b1 s t n A k c xs w hs
  cases hc : Pm.condB t n
  · exact rReceived_b2 s t n A k c xs w hs hc
  rcases sumE_cases xs with he | he | he
  · exact rReceived_ok s t n A k c B xs w hr hs hc he
  · exact rReceived_b2e s t n A k c B xs w hr hs hc he
  · exact rReceived_b8 s t n A k c B xs w hr hs hc he

theorem mrg_bound (s t : Int) (h0 : 0 ≤ s) (h1 : s ≤ 68719476736) (ht : 1000 ≤ t) : 0 ≤ 1000 * s / t ∧ 1000 * s / t ≤ 68719476736000 := by
  constructor
  · exact Int.ediv_nonneg (by omega) (by omega)
  · exact Int.le_trans (Int.ediv_le_self _ (by omega)) (by omega)

set_option maxHeartbeats 800000 in
theorem Margin_b1 (s t n : Int) (hs : Pm.isP s = false) (w : World) :
    Calls Tryd.prog 23 #[.int .i64 s, .int .i64 t, .int .i64 n] w fun e w' => e = .returned (.tuple #[.int .i64 0, .int .i64 2]) ∧ w = w' := by
  have hs := Lib.hid hs
  go_enter Tryd.func23, Tryd.ntmps23
  go_wp2_with (go_at_call 33; refine (power_f _ hs.out _).mono ?_; rintro e w' ⟨rfl, rfl⟩)
  go_ret2
  exact ⟨rfl, rfl⟩
set_option maxHeartbeats 800000 in
theorem Margin_b2 (s t n : Int) (hs : Pm.isP s = true) (hc : Pm.condB t n = false) (w : World) :
    Calls Tryd.prog 23 #[.int .i64 s, .int .i64 t, .int .i64 n] w fun e w' => e = .returned (.tuple #[.int .i64 0, .int .i64 2]) ∧ w = w' := by
  have hs := Lib.hid hs
  have hc := Lib.hid hc
  go_enter Tryd.func23, Tryd.ntmps23
  go_wp2_with (first | (go_at_call 33; refine (power_t _ hs.out _).mono ?_; rintro e w' ⟨rfl, rfl⟩) | (go_at_call 37; refine (cond_f _ _ hc.out _).mono ?_; rintro e w' ⟨rfl, rfl⟩))
  go_ret2
  exact ⟨rfl, rfl⟩
set_option maxHeartbeats 800000 in
theorem Margin_ok (s t n : Int) (hs : Pm.isP s = true) (hc : Pm.condB t n = true) (w : World) :
    Calls Tryd.prog 23 #[.int .i64 s, .int .i64 t, .int .i64 n] w fun e w' => e = .returned (.tuple #[.int .i64 (max (1000 * s / t - n) (-1)), .int .i64 0]) ∧ w = w' := by
  obtain ⟨s0, s1⟩ := (Pm.isP_iff s).1 hs
  obtain ⟨c0, c1, c2, c3⟩ := (Pm.condB_iff t n).1 hc
  obtain ⟨q0, q1⟩ := mrg_bound s t s0 s1 c0
  have hs := Lib.hid hs
  have hc := Lib.hid hc
  go_enter Tryd.func23, Tryd.ntmps23
  go_wp2_with (first | (go_at_call 33; refine (power_t _ hs.out _).mono ?_; rintro e w' ⟨rfl, rfl⟩) | (go_at_call 37; refine (cond_t _ _ hc.out _).mono ?_; rintro e w' ⟨rfl, rfl⟩))
  all_goals go_ret2
  all_goals exact ⟨ret_two (by omega) rfl, rfl⟩
theorem Margin_any (s t n : Int) (w : World) :
    Calls Tryd.prog 23 #[.int .i64 s, .int .i64 t, .int .i64 n] w fun e w' => e = .returned (.tuple #[.int .i64 (Pm.mrgV s t n), .int .i64 (Pm.mrgE s t n)]) ∧ w = w' := by
  unfold Pm.mrgV Pm.mrgE
  cases hs : Pm.isP s
  · rw [if_neg (by simp), if_neg (by simp)]; exact Margin_b1 s t n hs w
  cases hc : Pm.condB t n
  · rw [if_neg (by simp), if_neg (by simp)]; exact Margin_b2 s t n hs hc w
  rw [if_pos ⟨rfl, rfl⟩, if_pos ⟨rfl, rfl⟩]; exact Margin_ok s t n hs hc w

set_option maxHeartbeats 800000 in
theorem rMargin_b1 (s t n : Int) (hs : Pm.isP s = false) (w : World) :
    Calls Tryd.prog 24 #[.int .i64 s, .int .i64 t, .int .i64 n] w fun e w' => e = .returned (.tuple #[.int .i64 0, .int .i64 2]) ∧ w = w' := by
  have hs := Lib.hid hs
  go_enter Tryd.func24, Tryd.ntmps24
  go_wp2_with (go_at_call 36; refine (Is_f _ hs.out _).mono ?_; rintro e w' ⟨rfl, rfl⟩)
  go_ret2
  exact ⟨rfl, rfl⟩
set_option maxHeartbeats 800000 in
theorem rMargin_b2 (s t n : Int) (hs : Pm.isP s = true) (hc : Pm.condB t n = false) (w : World) :
    Calls Tryd.prog 24 #[.int .i64 s, .int .i64 t, .int .i64 n] w fun e w' => e = .returned (.tuple #[.int .i64 0, .int .i64 2]) ∧ w = w' := by
  have hs := Lib.hid hs
  have hc := Lib.hid hc
  go_enter Tryd.func24, Tryd.ntmps24
  go_wp2_with (first | (go_at_call 36; refine (Is_t _ hs.out _).mono ?_; rintro e w' ⟨rfl, rfl⟩) | (go_at_call 39; refine (Right_f _ _ hc.out _).mono ?_; rintro e w' ⟨rfl, rfl⟩))
  go_ret2
  exact ⟨rfl, rfl⟩
set_option maxHeartbeats 800000 in
theorem rMargin_ok (s t n : Int) (hs : Pm.isP s = true) (hc : Pm.condB t n = true) (w : World) :
    Calls Tryd.prog 24 #[.int .i64 s, .int .i64 t, .int .i64 n] w fun e w' => e = .returned (.tuple #[.int .i64 (max (1000 * s / t - n) (-1)), .int .i64 0]) ∧ w = w' := by
  obtain ⟨s0, s1⟩ := (Pm.isP_iff s).1 hs
  obtain ⟨c0, c1, c2, c3⟩ := (Pm.condB_iff t n).1 hc
  obtain ⟨q0, q1⟩ := mrg_bound s t s0 s1 c0
  have hs := Lib.hid hs
  have hc := Lib.hid hc
  go_enter Tryd.func24, Tryd.ntmps24
  go_wp2_with (first | (go_at_call 36; refine (Is_t _ hs.out _).mono ?_; rintro e w' ⟨rfl, rfl⟩) | (go_at_call 39; refine (Right_t _ _ hc.out _).mono ?_; rintro e w' ⟨rfl, rfl⟩))
  all_goals go_ret2
  all_goals exact ⟨ret_two (by omega) rfl, rfl⟩
theorem rMargin_any (s t n : Int) (w : World) :
    Calls Tryd.prog 24 #[.int .i64 s, .int .i64 t, .int .i64 n] w fun e w' => e = .returned (.tuple #[.int .i64 (Pm.mrgV s t n), .int .i64 (Pm.mrgE s t n)]) ∧ w = w' := by
  unfold Pm.mrgV Pm.mrgE
  cases hs : Pm.isP s
  · rw [if_neg (by simp), if_neg (by simp)]; exact rMargin_b1 s t n hs w
  cases hc : Pm.condB t n
  · rw [if_neg (by simp), if_neg (by simp)]; exact rMargin_b2 s t n hs hc w
  rw [if_pos ⟨rfl, rfl⟩, if_pos ⟨rfl, rfl⟩]; exact rMargin_ok s t n hs hc w

theorem least_bound (t n i : Int) (h : Pm.condB t n = true) (h0 : 0 ≤ i) (h1 : i ≤ 4398046511104) : 0 ≤ Pm.least t n i ∧ Pm.least t n i ≤ 446676598784001 := by
  obtain ⟨p0, p1⟩ := Pm.prod_bound t n i h h0 h1
  unfold Pm.least; omega

set_option maxHeartbeats 800000 in
theorem Least_b1 (t n i : Int) (hc : Pm.condB t n = false) (w : World) :
    Calls Tryd.prog 25 #[.int .i64 t, .int .i64 n, .int .i64 i] w fun e w' => e = .returned (.tuple #[.int .i64 0, .int .i64 2]) ∧ w = w' := by
  have hc := Lib.hid hc
  go_enter Tryd.func25, Tryd.ntmps25
  go_wp2_with (go_at_call 37; refine (cond_f _ _ hc.out _).mono ?_; rintro e w' ⟨rfl, rfl⟩)
  go_ret2
  exact ⟨rfl, rfl⟩
set_option maxHeartbeats 800000 in
theorem Least_b2 (t n i : Int) (hc : Pm.condB t n = true) (h0 : i < 0) (w : World) :
    Calls Tryd.prog 25 #[.int .i64 t, .int .i64 n, .int .i64 i] w fun e w' => e = .returned (.tuple #[.int .i64 0, .int .i64 2]) ∧ w = w' := by
  have hc := Lib.hid hc
  go_enter Tryd.func25, Tryd.ntmps25
  go_wp2_with (go_at_call 37; refine (cond_t _ _ hc.out _).mono ?_; rintro e w' ⟨rfl, rfl⟩)
  go_ret2
  exact ⟨rfl, rfl⟩
set_option maxHeartbeats 800000 in
theorem Least_b3 (t n i : Int) (hc : Pm.condB t n = true) (h0 : 0 ≤ i) (h1 : 4398046511104 < i) (w : World) :
    Calls Tryd.prog 25 #[.int .i64 t, .int .i64 n, .int .i64 i] w fun e w' => e = .returned (.tuple #[.int .i64 0, .int .i64 2]) ∧ w = w' := by
  have hc := Lib.hid hc
  go_enter Tryd.func25, Tryd.ntmps25
  go_wp2_with (go_at_call 37; refine (cond_t _ _ hc.out _).mono ?_; rintro e w' ⟨rfl, rfl⟩)
  go_ret2
  exact ⟨rfl, rfl⟩
set_option maxHeartbeats 800000 in
theorem Least_b4 (t n i : Int) (hc : Pm.condB t n = true) (h0 : 0 ≤ i) (h1 : i ≤ 4398046511104) (h2 : 68719476736 < Pm.least t n i) (w : World) :
    Calls Tryd.prog 25 #[.int .i64 t, .int .i64 n, .int .i64 i] w fun e w' => e = .returned (.tuple #[.int .i64 0, .int .i64 8]) ∧ w = w' := by
  obtain ⟨c0, c1, c2, c3⟩ := (Pm.condB_iff t n).1 hc
  obtain ⟨p0, p1⟩ := Pm.prod_bound t n i hc h0 h1
  unfold Pm.least at h2
  have hc := Lib.hid hc
  go_enter Tryd.func25, Tryd.ntmps25
  go_wp2_with (go_at_call 37; refine (cond_t _ _ hc.out _).mono ?_; rintro e w' ⟨rfl, rfl⟩)
  go_ret2
  exact ⟨rfl, rfl⟩
set_option maxHeartbeats 800000 in
theorem Least_ok (t n i : Int) (hc : Pm.condB t n = true) (h0 : 0 ≤ i) (h1 : i ≤ 4398046511104) (h2 : Pm.least t n i ≤ 68719476736) (w : World) :
    Calls Tryd.prog 25 #[.int .i64 t, .int .i64 n, .int .i64 i] w fun e w' => e = .returned (.tuple #[.int .i64 (Pm.least t n i), .int .i64 0]) ∧ w = w' := by
  obtain ⟨c0, c1, c2, c3⟩ := (Pm.condB_iff t n).1 hc
  obtain ⟨p0, p1⟩ := Pm.prod_bound t n i hc h0 h1
  unfold Pm.least at h2
  have hc := Lib.hid hc
  go_enter Tryd.func25, Tryd.ntmps25
  go_wp2_with (go_at_call 37; refine (cond_t _ _ hc.out _).mono ?_; rintro e w' ⟨rfl, rfl⟩)
  go_ret2
  exact ⟨rfl, rfl⟩
theorem Least_any (t n i : Int) (w : World) :
    Calls Tryd.prog 25 #[.int .i64 t, .int .i64 n, .int .i64 i] w fun e w' => e = .returned (.tuple #[.int .i64 (Pm.lstV t n i), .int .i64 (Pm.lstE t n i)]) ∧ w = w' := by
  unfold Pm.lstV Pm.lstE
  cases hc : Pm.condB t n
  · rw [if_neg (by simp), if_neg (by simp)]; exact Least_b1 t n i hc w
  by_cases h0 : i < 0
  · rw [if_neg (by omega), if_neg (by omega)]; exact Least_b2 t n i hc h0 w
  by_cases h1 : 4398046511104 < i
  · rw [if_neg (by omega), if_neg (by omega)]; exact Least_b3 t n i hc (by omega) h1 w
  by_cases h2 : Pm.least t n i ≤ 68719476736
  · rw [if_pos ⟨rfl, by omega, by omega, h2⟩, if_pos ⟨rfl, by omega, by omega⟩, if_pos h2]; exact Least_ok t n i hc (by omega) (by omega) h2 w
  · rw [if_neg (by omega), if_pos ⟨rfl, by omega, by omega⟩, if_neg h2]; exact Least_b4 t n i hc (by omega) (by omega) (by omega) w

set_option maxHeartbeats 800000 in
theorem rLeast_b1 (t n i : Int) (hc : Pm.condB t n = false) (w : World) :
    Calls Tryd.prog 26 #[.int .i64 t, .int .i64 n, .int .i64 i] w fun e w' => e = .returned (.tuple #[.int .i64 0, .int .i64 2]) ∧ w = w' := by
  have hc := Lib.hid hc
  go_enter Tryd.func26, Tryd.ntmps26
  go_wp2_with (go_at_call 39; refine (Right_f _ _ hc.out _).mono ?_; rintro e w' ⟨rfl, rfl⟩)
  go_ret2
  exact ⟨rfl, rfl⟩
set_option maxHeartbeats 800000 in
theorem rLeast_b2 (t n i : Int) (hc : Pm.condB t n = true) (h0 : i < 0) (w : World) :
    Calls Tryd.prog 26 #[.int .i64 t, .int .i64 n, .int .i64 i] w fun e w' => e = .returned (.tuple #[.int .i64 0, .int .i64 2]) ∧ w = w' := by
  have hc := Lib.hid hc
  go_enter Tryd.func26, Tryd.ntmps26
  go_wp2_with (go_at_call 39; refine (Right_t _ _ hc.out _).mono ?_; rintro e w' ⟨rfl, rfl⟩)
  go_ret2
  exact ⟨rfl, rfl⟩
set_option maxHeartbeats 800000 in
theorem rLeast_b3 (t n i : Int) (hc : Pm.condB t n = true) (h0 : 0 ≤ i) (h1 : 4398046511104 < i) (w : World) :
    Calls Tryd.prog 26 #[.int .i64 t, .int .i64 n, .int .i64 i] w fun e w' => e = .returned (.tuple #[.int .i64 0, .int .i64 2]) ∧ w = w' := by
  have hc := Lib.hid hc
  go_enter Tryd.func26, Tryd.ntmps26
  go_wp2_with (go_at_call 39; refine (Right_t _ _ hc.out _).mono ?_; rintro e w' ⟨rfl, rfl⟩)
  go_ret2
  exact ⟨rfl, rfl⟩
set_option maxHeartbeats 800000 in
theorem rLeast_b4 (t n i : Int) (hc : Pm.condB t n = true) (h0 : 0 ≤ i) (h1 : i ≤ 4398046511104) (h2 : 68719476736 < Pm.least t n i) (w : World) :
    Calls Tryd.prog 26 #[.int .i64 t, .int .i64 n, .int .i64 i] w fun e w' => e = .returned (.tuple #[.int .i64 0, .int .i64 8]) ∧ w = w' := by
  obtain ⟨c0, c1, c2, c3⟩ := (Pm.condB_iff t n).1 hc
  obtain ⟨p0, p1⟩ := Pm.prod_bound t n i hc h0 h1
  unfold Pm.least at h2
  have hc := Lib.hid hc
  go_enter Tryd.func26, Tryd.ntmps26
  go_wp2_with (go_at_call 39; refine (Right_t _ _ hc.out _).mono ?_; rintro e w' ⟨rfl, rfl⟩)
  go_ret2
  exact ⟨rfl, rfl⟩
set_option maxHeartbeats 800000 in
theorem rLeast_ok (t n i : Int) (hc : Pm.condB t n = true) (h0 : 0 ≤ i) (h1 : i ≤ 4398046511104) (h2 : Pm.least t n i ≤ 68719476736) (w : World) :
    Calls Tryd.prog 26 #[.int .i64 t, .int .i64 n, .int .i64 i] w fun e w' => e = .returned (.tuple #[.int .i64 (Pm.least t n i), .int .i64 0]) ∧ w = w' := by
  obtain ⟨c0, c1, c2, c3⟩ := (Pm.condB_iff t n).1 hc
  obtain ⟨p0, p1⟩ := Pm.prod_bound t n i hc h0 h1
  unfold Pm.least at h2
  have hc := Lib.hid hc
  go_enter Tryd.func26, Tryd.ntmps26
  go_wp2_with (go_at_call 39; refine (Right_t _ _ hc.out _).mono ?_; rintro e w' ⟨rfl, rfl⟩)
  go_ret2
  exact ⟨rfl, rfl⟩
theorem rLeast_any (t n i : Int) (w : World) :
    Calls Tryd.prog 26 #[.int .i64 t, .int .i64 n, .int .i64 i] w fun e w' => e = .returned (.tuple #[.int .i64 (Pm.lstV t n i), .int .i64 (Pm.lstE t n i)]) ∧ w = w' := by
  unfold Pm.lstV Pm.lstE
  cases hc : Pm.condB t n
  · rw [if_neg (by simp), if_neg (by simp)]; exact rLeast_b1 t n i hc w
  by_cases h0 : i < 0
  · rw [if_neg (by omega), if_neg (by omega)]; exact rLeast_b2 t n i hc h0 w
  by_cases h1 : 4398046511104 < i
  · rw [if_neg (by omega), if_neg (by omega)]; exact rLeast_b3 t n i hc (by omega) h1 w
  by_cases h2 : Pm.least t n i ≤ 68719476736
  · rw [if_pos ⟨rfl, by omega, by omega, h2⟩, if_pos ⟨rfl, by omega, by omega⟩, if_pos h2]; exact rLeast_ok t n i hc (by omega) (by omega) h2 w
  · rw [if_neg (by omega), if_pos ⟨rfl, by omega, by omega⟩, if_neg h2]; exact rLeast_b4 t n i hc (by omega) (by omega) (by omega) w

end Go.Proofs.YticgdbokflbjaaaDoor
