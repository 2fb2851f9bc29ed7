/-
  THE CONTRACTS, fifth part: Decibels, of the program (a binary search with a closure) and of the reference (a loop).
-/
import Derived.Test.YticgdbokflbjaaaDoorFns4
import Derived.Test.YticgdbokflbjaaaDoorShelf
namespace Go.Proofs.YticgdbokflbjaaaDoor
open Go.RowKit

theorem quiet_left {P : Program} {f : FuncId} {args : Array Value} {w : World} {n : Nat} {v : Value}
    (h : Calls P f args (w.drewN n) fun e w' => e = .returned v ∧ w.drewN n = w') : Calls P f args (w.drewN n) fun e w'' => e = .returned v ∧ ∃ m, w'' = w.drewN m :=
  h.mono fun _ _ ⟨he, hm⟩ => ⟨he, n, hm.symm⟩

set_option maxHeartbeats 800000 in
/-- The closure of Decibels: level(n) > p. -/
theorem closure (b i : Nat) (hi : i < 109) (p : Int) (w : World) (hc : w.cell? ⟨b, 0, none⟩ = some (.int .i64 p)) :
    Calls Tryd.prog 35 #[.int .i64 i, .pointer (some ⟨b, 0, none⟩)] w fun e w' => e = .returned (.bool (decide (p < Pm.lev i))) ∧ ∃ n, w' = w.drewN n := by
  have hl := Lib.hid (fun W => level_any i (by omega) W)
  go_enter Tryd.func35, Tryd.ntmps35
  go_wp2
  go_quiet ((go_at_call 32; exact quiet_left (hl.out _)))
  go_wp2
  go_ret
  exact ⟨rfl, _, rfl⟩

/-- The number of the places below 109 at which the power is not greater. -/
theorem search_any (b : Nat) (p : Int) (h1 : 1 ≤ p) (w : World) (hb : b < w.heap.size) (hc : w.cell? ⟨b, 0, none⟩ = some (.int .i64 p)) :
    Calls Tryd.prog 34 #[.int .i64 109, .func (.func 35) #[] #[.pointer (some ⟨b, 0, none⟩)]] w fun e w' => e = .returned (.int .i64 ((Pm.dec p : Int) + 1)) ∧ Below w.heap.size w w' := by
  have h := Any.sort_Search Tryd.search 35 #[.pointer (some ⟨b, 0, none⟩)] 109 (fun i => decide (p < Pm.lev i)) w (enters_of Tryd.func35 (by kernel_rfl) rfl) (by omega)
    (fun m os i hi => (closure b i hi p _ (cell_grown hb hc m os)).mono fun e w' ⟨he, n, hn⟩ => ⟨he, n, #[], by rw [hn, Sort.grow_empty]⟩)
    (fun x y hxy hy hx => by
      have := Pm.lev_mono x y hxy (by omega)
      simp at hx ⊢; omega)
  change Calls Tryd.prog 34 _ _ _ at h
  refine h.mono fun e w' ⟨he, q, os, hw⟩ => ⟨?_, ?_⟩
  · rw [he, (Pm.dec_count p h1).1]; exact ret_int (by omega)
  · rw [hw]; exact below_grown_sl _ _ _ _ (Nat.le_refl _)

set_option maxHeartbeats 800000 in
theorem Decibels_ok (p : Int) (h0 : 1 ≤ p) (h1 : p ≤ 68719476736) (w : World) :
    Calls Tryd.prog 13 #[.int .i64 p] w fun e w' => e = .returned (.tuple #[.int .i64 (Pm.dec p), .int .i64 0]) ∧ Below w.heap.size w w' := by
  have hp := Lib.hid ((Pm.isP_iff p).2 ⟨by omega, h1⟩)
  have hd := Pm.dec_le p h0
  have hc : (w.alloc (.cells #[.int .i64 p] 3)).cell? ⟨w.heap.size, 0, none⟩ = some (.int .i64 p) := cell_new_sl w _ _
  have hs := Lib.hid (search_any w.heap.size p h0 (w.alloc (.cells #[.int .i64 p] 3)) (by simp) hc)
  clear hc
  go_enter Tryd.func13, Tryd.ntmps13
  go_wp2_with (first | (go_at_call 33; refine (power_t _ hp.out _).mono ?_; rintro e w' ⟨rfl, rfl⟩) | (go_at_call 34; refine hs.out.mono ?_; rintro e w' ⟨rfl, hb⟩))
  go_ret2
  exact ⟨ret_two (by omega) rfl, ((Below.refl _ _).alloc (Nat.le_refl _) _).trans (hb.mono (by simp))⟩
set_option maxHeartbeats 800000 in
theorem Decibels_no (p : Int) (hp : Pm.isP p = false) (w : World) :
    Calls Tryd.prog 13 #[.int .i64 p] w fun e w' => e = .returned (.tuple #[.int .i64 0, .int .i64 2]) ∧ Below w.heap.size w w' := by
  have hp := Lib.hid hp
  go_enter Tryd.func13, Tryd.ntmps13
  go_wp2_with (go_at_call 33; refine (power_f _ hp.out _).mono ?_; rintro e w' ⟨rfl, rfl⟩)
  go_ret2
  exact ⟨rfl, (Below.refl _ _).alloc (Nat.le_refl _) _⟩
set_option maxHeartbeats 800000 in
theorem Decibels_zero (w : World) :
    Calls Tryd.prog 13 #[.int .i64 0] w fun e w' => e = .returned (.tuple #[.int .i64 0, .int .i64 2]) ∧ Below w.heap.size w w' := by
  go_enter Tryd.func13, Tryd.ntmps13
  go_wp2_with (go_at_call 33; refine (power_t 0 rfl _).mono ?_; rintro e w' ⟨rfl, rfl⟩)
  go_ret2
  exact ⟨rfl, (Below.refl _ _).alloc (Nat.le_refl _) _⟩
theorem Decibels_any (p : Int) (w : World) :
    Calls Tryd.prog 13 #[.int .i64 p] w fun e w' => e = .returned (.tuple #[.int .i64 (Pm.decV p), .int .i64 (Pm.decE p)]) ∧ Below w.heap.size w w' := by
  unfold Pm.decV Pm.decE
  by_cases h : 1 ≤ p ∧ p ≤ 68719476736
  · rw [if_pos h, if_pos h]; exact Decibels_ok p h.1 h.2 w
  · rw [if_neg h, if_neg h]
    by_cases h0 : p = 0
    · subst h0; exact Decibels_zero w
    · exact Decibels_no p ((Pm.isP_not p).2 (by omega)) w

theorem rLevel_succ (k : Nat) (h : k < 108) (w : World) :
    Calls Tryd.prog 14 #[.int .i64 ((k : Int) + 1)] w fun e w' => e = .returned (.tuple #[.int .i64 (Pm.lev (k + 1)), .int .i64 0]) ∧ Below w.heap.size w w' := rLevel_ok (k + 1) (by omega) w
set_option maxHeartbeats 800000 in
theorem rDecibels_ok (p : Int) (h0 : 1 ≤ p) (h1 : p ≤ 68719476736) (w : World) :
    Calls Tryd.prog 15 #[.int .i64 p] w fun e w' => e = .returned (.tuple #[.int .i64 (Pm.dec p), .int .i64 0]) ∧ Below w.heap.size w w' := by
  have hd := Pm.dec_le p h0
  have hn := Lib.hid (Pm.dec_next p h0)
  have hh := Lib.hid (Pm.dec_high p h0)
  go_enter Tryd.func15, Tryd.ntmps15
  go_wp2
  go_loopw [4] (fun n wr => ∃ k : Nat, k ≤ Pm.dec p ∧ n = .int .i64 k ∧ Below w.heap.size w wr) (fun n _ => 108 - (intOf n).toNat)
  case atStart => exact ⟨0, Nat.zero_le _, rfl, Below.refl _ _⟩
  case round =>
    obtain ⟨k, hk, rfl, hb⟩ := hrel
    by_cases hlt : k < Pm.dec p
    · have hle := hn.out k hlt
      go_wp2_with (go_at_call 14; refine (rLevel_succ k (by omega) _).mono ?_; rintro e w' ⟨rfl, hb'⟩)
      go_roundw
      case rel => exact ⟨k + 1, by omega, by go_num, hb.trans (hb'.mono hb.size)⟩
      case measure => simp [intOf]; omega
    · by_cases h8 : k < 108
      · have hgt : p < Pm.lev (k + 1) := by
          have e : k = Pm.dec p := by omega
          rw [e]; exact hh.out (by omega)
        go_wp2_with (go_at_call 14; refine (rLevel_succ k h8 _).mono ?_; rintro e w' ⟨rfl, hb'⟩)
        go_ret2
        exact ⟨ret_two (by omega) rfl, hb.trans (hb'.mono hb.size)⟩
      · go_wp2
        go_ret2
        exact ⟨ret_two (by omega) rfl, hb⟩
set_option maxHeartbeats 800000 in
theorem rDecibels_low (p : Int) (h0 : p < 1) (w : World) :
    Calls Tryd.prog 15 #[.int .i64 p] w fun e w' => e = .returned (.tuple #[.int .i64 0, .int .i64 2]) ∧ w = w' := by
  go_enter Tryd.func15, Tryd.ntmps15
  go_wp2
  go_ret2
  exact ⟨rfl, rfl⟩
set_option maxHeartbeats 800000 in
theorem rDecibels_high (p : Int) (h0 : 1 ≤ p) (h1 : 68719476736 < p) (w : World) :
    Calls Tryd.prog 15 #[.int .i64 p] w fun e w' => e = .returned (.tuple #[.int .i64 0, .int .i64 2]) ∧ w = w' := by
  go_enter Tryd.func15, Tryd.ntmps15
  go_wp2
  go_ret2
  exact ⟨rfl, rfl⟩
theorem rDecibels_any (p : Int) (w : World) :
    Calls Tryd.prog 15 #[.int .i64 p] w fun e w' => e = .returned (.tuple #[.int .i64 (Pm.decV p), .int .i64 (Pm.decE p)]) ∧ Below w.heap.size w w' := by
  unfold Pm.decV Pm.decE
  by_cases h : 1 ≤ p ∧ p ≤ 68719476736
  · rw [if_pos h, if_pos h]; exact rDecibels_ok p h.1 h.2 w
  · rw [if_neg h, if_neg h]
    by_cases h0 : p < 1
    · exact (rDecibels_low p h0 w).mono fun e w' ⟨h1, h2⟩ => ⟨h1, h2 ▸ Below.refl _ _⟩
    · exact (rDecibels_high p (by omega) (by omega) w).mono fun e w' ⟨h1, h2⟩ => ⟨h1, h2 ▸ Below.refl _ _⟩
end Go.Proofs.YticgdbokflbjaaaDoor
