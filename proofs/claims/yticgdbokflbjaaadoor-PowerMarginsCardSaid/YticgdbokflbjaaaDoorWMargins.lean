/-
  THE WALK OF PowerMargins: it returns true, whatever the arguments; what lay in memory stays.
-/
import Derived.Test.YticgdbokflbjaaaDoorFns6
import Derived.Deep.RegionHeld3
namespace Go.Proofs.YticgdbokflbjaaaDoor
open Go.RowKit


theorem Margin_lit (s t n V E : Int) (hv : Pm.mrgV s t n = V) (he : Pm.mrgE s t n = E) (w : World) :
    Calls Tryd.prog 23 #[.int .i64 s, .int .i64 t, .int .i64 n] w fun e w' => e = .returned (.tuple #[.int .i64 V, .int .i64 E]) ∧ w = w' := by
  subst hv he; exact Margin_any s t n w
theorem Least_lit (t n i V E : Int) (hv : Pm.lstV t n i = V) (he : Pm.lstE t n i = E) (w : World) :
    Calls Tryd.prog 25 #[.int .i64 t, .int .i64 n, .int .i64 i] w fun e w' => e = .returned (.tuple #[.int .i64 V, .int .i64 E]) ∧ w = w' := by
  subst hv he; exact Least_any t n i w

set_option maxHeartbeats 1600000 in
set_option maxRecDepth 100000 in
theorem walk_Margins_e2 (s t n : Int) (A : Option Addr) (k c : Nat) (xs : List Int) (w : World) (hr : Reads w w.heap.size A k xs) (h0 : Hid (A = none → k = 0)) (hk : k ≤ 64) (V : Bool) (hv : Hid (Pm.rcvV s t n xs = V ∧ Pm.rcvE s t n xs = 2)) :
    Calls Tryd.prog 8 #[.agg #[.int .i64 s, .int .i64 t, .int .i64 n, .slice A k c]] w fun e w' => e = .returned (.bool true) ∧ Below w.heap.size w w' := by
  have HB := Lib.hid (Box4.new s t n (.slice A k c) w)
  have hb0 : Below w.heap.size w (w.alloc (.cells #[.int .i64 s, .int .i64 t, .int .i64 n, .slice A k c] 35)) := (Below.refl _ _).alloc (Nat.le_refl _) _
  have HR := Lib.hid hr
  clear hr
  go_enter Tryd.func8, Tryd.ntmps8
  go_wp2_with (go_at_call 11; refine (awake_any _).mono ?_; rintro e w1 ⟨rfl, hb1⟩; have hw1 := hb0.trans (hb1.mono (by simp)); have hz : w.heap.size < w1.heap.size := by { have := hb1.size; simp at this; omega }; have hx1 := HB.out.below hb1 (by simp); obtain ⟨c0, c1, c2, c3⟩ := hx1)
  go_region_held3 (fun w' => w'.cell? ⟨w.heap.size, 0, none⟩ = some (.int .i64 s) ∧ w'.cell? ⟨w.heap.size, 1, none⟩ = some (.int .i64 t) ∧ w'.cell? ⟨w.heap.size, 2, none⟩ = some (.int .i64 n) ∧ w'.cell? ⟨w.heap.size, 3, none⟩ = some (.slice A k c))
    (first | exact ⟨d0, d1, d2, d3⟩ | exact ⟨c0, c1, c2, c3⟩)
    (first
      | (go_at_call 20; refine (Clone_any A k c w.heap.size xs _ (HR.out.below hw1.drew) (by omega) h0.out).mono ?_; rintro e w2 ⟨A2, k2, rfl, hown2, hr2, hg2, hb2⟩; have hw2 := bstep hw1.drew hb2 (Nat.le_refl _); have hz2 : w.heap.size < w2.heap.size := by { have := hb2.size; simp at this; omega }; have hx2 := Box4.below (by exact ⟨c0, c1, c2, c3⟩) hb2 (by exact hz); obtain ⟨d0, d1, d2, d3⟩ := hx2)
      | (go_at_call 18; refine (Received_lit s t n _ _ _ _ xs V 2 hv.out.1 hv.out.2 _ hr2).mono ?_; rintro e w' ⟨rfl, rfl⟩))
  go_wp2_with fail
  go_ret
  exact ⟨rfl, hw2⟩
set_option maxHeartbeats 1600000 in
set_option maxRecDepth 100000 in
theorem walk_Margins_e8 (s t n : Int) (A : Option Addr) (k c : Nat) (xs : List Int) (w : World) (hr : Reads w w.heap.size A k xs) (h0 : Hid (A = none → k = 0)) (hk : k ≤ 64) (V : Bool) (hv : Hid (Pm.rcvV s t n xs = V ∧ Pm.rcvE s t n xs = 8)) :
    Calls Tryd.prog 8 #[.agg #[.int .i64 s, .int .i64 t, .int .i64 n, .slice A k c]] w fun e w' => e = .returned (.bool true) ∧ Below w.heap.size w w' := by
  have HB := Lib.hid (Box4.new s t n (.slice A k c) w)
  have hb0 : Below w.heap.size w (w.alloc (.cells #[.int .i64 s, .int .i64 t, .int .i64 n, .slice A k c] 35)) := (Below.refl _ _).alloc (Nat.le_refl _) _
  have HR := Lib.hid hr
  clear hr
  go_enter Tryd.func8, Tryd.ntmps8
  go_wp2_with (go_at_call 11; refine (awake_any _).mono ?_; rintro e w1 ⟨rfl, hb1⟩; have hw1 := hb0.trans (hb1.mono (by simp)); have hz : w.heap.size < w1.heap.size := by { have := hb1.size; simp at this; omega }; have hx1 := HB.out.below hb1 (by simp); obtain ⟨c0, c1, c2, c3⟩ := hx1)
  go_region_held3 (fun w' => w'.cell? ⟨w.heap.size, 0, none⟩ = some (.int .i64 s) ∧ w'.cell? ⟨w.heap.size, 1, none⟩ = some (.int .i64 t) ∧ w'.cell? ⟨w.heap.size, 2, none⟩ = some (.int .i64 n) ∧ w'.cell? ⟨w.heap.size, 3, none⟩ = some (.slice A k c))
    (first | exact ⟨d0, d1, d2, d3⟩ | exact ⟨c0, c1, c2, c3⟩)
    (first
      | (go_at_call 20; refine (Clone_any A k c w.heap.size xs _ (HR.out.below hw1.drew) (by omega) h0.out).mono ?_; rintro e w2 ⟨A2, k2, rfl, hown2, hr2, hg2, hb2⟩; have hw2 := bstep hw1.drew hb2 (Nat.le_refl _); have hz2 : w.heap.size < w2.heap.size := by { have := hb2.size; simp at this; omega }; have hx2 := Box4.below (by exact ⟨c0, c1, c2, c3⟩) hb2 (by exact hz); obtain ⟨d0, d1, d2, d3⟩ := hx2)
      | (go_at_call 18; refine (Received_lit s t n _ _ _ _ xs V 8 hv.out.1 hv.out.2 _ hr2).mono ?_; rintro e w' ⟨rfl, rfl⟩))
  go_wp2_with fail
  go_ret
  exact ⟨rfl, hw2⟩
set_option maxHeartbeats 1600000 in
set_option maxRecDepth 100000 in
theorem walk_Margins_t0 (s t n : Int) (A : Option Addr) (k c : Nat) (xs : List Int) (w : World) (hr : Reads w w.heap.size A k xs) (h0 : Hid (A = none → k = 0)) (hk : k ≤ 64) (S M L : Int) (hs : Hid (sumRes xs = .returned (.tuple #[.int .i64 S, .int .i64 0]))) (hm : Hid (Pm.mrgV s t n = M ∧ Pm.mrgE s t n = 0)) (hM : -1 ≤ M) (hv : Hid (Pm.rcvV s t n xs = true ∧ Pm.rcvE s t n xs = 0)) (hl : Hid (Pm.lstV t n S = L ∧ Pm.lstE t n S = 0)) (hq : S ≤ M) (hu : L ≤ s) :
    Calls Tryd.prog 8 #[.agg #[.int .i64 s, .int .i64 t, .int .i64 n, .slice A k c]] w fun e w' => e = .returned (.bool true) ∧ Below w.heap.size w w' := by
  have HB := Lib.hid (Box4.new s t n (.slice A k c) w)
  have hb0 : Below w.heap.size w (w.alloc (.cells #[.int .i64 s, .int .i64 t, .int .i64 n, .slice A k c] 35)) := (Below.refl _ _).alloc (Nat.le_refl _) _
  have HR := Lib.hid hr
  clear hr
  go_enter Tryd.func8, Tryd.ntmps8
  go_wp2_with (go_at_call 11; refine (awake_any _).mono ?_; rintro e w1 ⟨rfl, hb1⟩; have hw1 := hb0.trans (hb1.mono (by simp)); have hz : w.heap.size < w1.heap.size := by { have := hb1.size; simp at this; omega }; have hx1 := HB.out.below hb1 (by simp); obtain ⟨c0, c1, c2, c3⟩ := hx1)
  go_region_held3 (fun w' => w'.cell? ⟨w.heap.size, 0, none⟩ = some (.int .i64 s) ∧ w'.cell? ⟨w.heap.size, 1, none⟩ = some (.int .i64 t) ∧ w'.cell? ⟨w.heap.size, 2, none⟩ = some (.int .i64 n) ∧ w'.cell? ⟨w.heap.size, 3, none⟩ = some (.slice A k c))
    (first | exact ⟨d0, d1, d2, d3⟩ | exact ⟨c0, c1, c2, c3⟩)
    (first
      | (go_at_call 20; refine (Clone_any A k c w.heap.size xs _ (HR.out.below hw1.drew) (by omega) h0.out).mono ?_; rintro e w2 ⟨A2, k2, rfl, hown2, hr2, hg2, hb2⟩; have hw2 := bstep hw1.drew hb2 (Nat.le_refl _); have hz2 : w.heap.size < w2.heap.size := by { have := hb2.size; simp at this; omega }; have hx2 := Box4.below (by exact ⟨c0, c1, c2, c3⟩) hb2 (by exact hz); obtain ⟨d0, d1, d2, d3⟩ := hx2)
      | (go_at_call 18; refine (Received_lit s t n _ _ _ _ xs true 0 hv.out.1 hv.out.2 _ hr2).mono ?_; rintro e w' ⟨rfl, rfl⟩))
  clear c0 c1 c2 c3
  go_wp2_with (first
    | (go_at_call 20; refine (Clone_any A k c w.heap.size xs _ (HR.out.below hw2) (by omega) h0.out).mono ?_; rintro e w3 ⟨A3, k3, rfl, hown3, hr3, hg3, hb3⟩; have hw3 := bstep hw2 hb3 (Nat.le_refl _); have hx3 := Box4.below (by exact ⟨d0, d1, d2, d3⟩) hb3 (by exact hz2); obtain ⟨f0, f1, f2, f3⟩ := hx3)
    | (go_at_call 19; refine (Sum_lit _ _ _ _ xs S 0 _ hr3 hs.out).mono ?_; rintro e w' ⟨rfl, rfl⟩)
    | (go_at_call 23; refine (Margin_lit _ _ _ M 0 hm.out.1 hm.out.2 _).mono ?_; rintro e w' ⟨rfl, rfl⟩)
    | (go_at_call 25; refine (Least_lit _ _ _ L 0 hl.out.1 hl.out.2 _).mono ?_; rintro e w' ⟨rfl, rfl⟩))
  go_ret
  exact ⟨by first | rfl | exact ret_bool (by simp; omega), hw3⟩
set_option maxHeartbeats 1600000 in
set_option maxRecDepth 100000 in
theorem walk_Margins_f0 (s t n : Int) (A : Option Addr) (k c : Nat) (xs : List Int) (w : World) (hr : Reads w w.heap.size A k xs) (h0 : Hid (A = none → k = 0)) (hk : k ≤ 64) (S M L : Int) (hs : Hid (sumRes xs = .returned (.tuple #[.int .i64 S, .int .i64 0]))) (hm : Hid (Pm.mrgV s t n = M ∧ Pm.mrgE s t n = 0)) (hM : -1 ≤ M) (hv : Hid (Pm.rcvV s t n xs = false ∧ Pm.rcvE s t n xs = 0)) (hl : Hid (Pm.lstV t n S = L ∧ Pm.lstE t n S = 0)) (hq : M < S) (hu : s < L) :
    Calls Tryd.prog 8 #[.agg #[.int .i64 s, .int .i64 t, .int .i64 n, .slice A k c]] w fun e w' => e = .returned (.bool true) ∧ Below w.heap.size w w' := by
  have HB := Lib.hid (Box4.new s t n (.slice A k c) w)
  have hb0 : Below w.heap.size w (w.alloc (.cells #[.int .i64 s, .int .i64 t, .int .i64 n, .slice A k c] 35)) := (Below.refl _ _).alloc (Nat.le_refl _) _
  have HR := Lib.hid hr
  clear hr
  go_enter Tryd.func8, Tryd.ntmps8
  go_wp2_with (go_at_call 11; refine (awake_any _).mono ?_; rintro e w1 ⟨rfl, hb1⟩; have hw1 := hb0.trans (hb1.mono (by simp)); have hz : w.heap.size < w1.heap.size := by { have := hb1.size; simp at this; omega }; have hx1 := HB.out.below hb1 (by simp); obtain ⟨c0, c1, c2, c3⟩ := hx1)
  go_region_held3 (fun w' => w'.cell? ⟨w.heap.size, 0, none⟩ = some (.int .i64 s) ∧ w'.cell? ⟨w.heap.size, 1, none⟩ = some (.int .i64 t) ∧ w'.cell? ⟨w.heap.size, 2, none⟩ = some (.int .i64 n) ∧ w'.cell? ⟨w.heap.size, 3, none⟩ = some (.slice A k c))
    (first | exact ⟨d0, d1, d2, d3⟩ | exact ⟨c0, c1, c2, c3⟩)
    (first
      | (go_at_call 20; refine (Clone_any A k c w.heap.size xs _ (HR.out.below hw1.drew) (by omega) h0.out).mono ?_; rintro e w2 ⟨A2, k2, rfl, hown2, hr2, hg2, hb2⟩; have hw2 := bstep hw1.drew hb2 (Nat.le_refl _); have hz2 : w.heap.size < w2.heap.size := by { have := hb2.size; simp at this; omega }; have hx2 := Box4.below (by exact ⟨c0, c1, c2, c3⟩) hb2 (by exact hz); obtain ⟨d0, d1, d2, d3⟩ := hx2)
      | (go_at_call 18; refine (Received_lit s t n _ _ _ _ xs false 0 hv.out.1 hv.out.2 _ hr2).mono ?_; rintro e w' ⟨rfl, rfl⟩))
  clear c0 c1 c2 c3
  go_wp2_with (first
    | (go_at_call 20; refine (Clone_any A k c w.heap.size xs _ (HR.out.below hw2) (by omega) h0.out).mono ?_; rintro e w3 ⟨A3, k3, rfl, hown3, hr3, hg3, hb3⟩; have hw3 := bstep hw2 hb3 (Nat.le_refl _); have hx3 := Box4.below (by exact ⟨d0, d1, d2, d3⟩) hb3 (by exact hz2); obtain ⟨f0, f1, f2, f3⟩ := hx3)
    | (go_at_call 19; refine (Sum_lit _ _ _ _ xs S 0 _ hr3 hs.out).mono ?_; rintro e w' ⟨rfl, rfl⟩)
    | (go_at_call 23; refine (Margin_lit _ _ _ M 0 hm.out.1 hm.out.2 _).mono ?_; rintro e w' ⟨rfl, rfl⟩)
    | (go_at_call 25; refine (Least_lit _ _ _ L 0 hl.out.1 hl.out.2 _).mono ?_; rintro e w' ⟨rfl, rfl⟩))
  go_ret
  exact ⟨by first | rfl | exact ret_bool (by simp; omega), hw3⟩
set_option maxHeartbeats 1600000 in
set_option maxRecDepth 100000 in
theorem walk_Margins_f8 (s t n : Int) (A : Option Addr) (k c : Nat) (xs : List Int) (w : World) (hr : Reads w w.heap.size A k xs) (h0 : Hid (A = none → k = 0)) (hk : k ≤ 64) (S M : Int) (hs : Hid (sumRes xs = .returned (.tuple #[.int .i64 S, .int .i64 0]))) (hm : Hid (Pm.mrgV s t n = M ∧ Pm.mrgE s t n = 0)) (hM : -1 ≤ M) (hv : Hid (Pm.rcvV s t n xs = false ∧ Pm.rcvE s t n xs = 0)) (hl : Hid (Pm.lstV t n S = 0 ∧ Pm.lstE t n S = 8)) (hq : M < S) :
    Calls Tryd.prog 8 #[.agg #[.int .i64 s, .int .i64 t, .int .i64 n, .slice A k c]] w fun e w' => e = .returned (.bool true) ∧ Below w.heap.size w w' := by
  have HB := Lib.hid (Box4.new s t n (.slice A k c) w)
  have hb0 : Below w.heap.size w (w.alloc (.cells #[.int .i64 s, .int .i64 t, .int .i64 n, .slice A k c] 35)) := (Below.refl _ _).alloc (Nat.le_refl _) _
  have HR := Lib.hid hr
  clear hr
  go_enter Tryd.func8, Tryd.ntmps8
  go_wp2_with (go_at_call 11; refine (awake_any _).mono ?_; rintro e w1 ⟨rfl, hb1⟩; have hw1 := hb0.trans (hb1.mono (by simp)); have hz : w.heap.size < w1.heap.size := by { have := hb1.size; simp at this; omega }; have hx1 := HB.out.below hb1 (by simp); obtain ⟨c0, c1, c2, c3⟩ := hx1)
  go_region_held3 (fun w' => w'.cell? ⟨w.heap.size, 0, none⟩ = some (.int .i64 s) ∧ w'.cell? ⟨w.heap.size, 1, none⟩ = some (.int .i64 t) ∧ w'.cell? ⟨w.heap.size, 2, none⟩ = some (.int .i64 n) ∧ w'.cell? ⟨w.heap.size, 3, none⟩ = some (.slice A k c))
    (first | exact ⟨d0, d1, d2, d3⟩ | exact ⟨c0, c1, c2, c3⟩)
    (first
      | (go_at_call 20; refine (Clone_any A k c w.heap.size xs _ (HR.out.below hw1.drew) (by omega) h0.out).mono ?_; rintro e w2 ⟨A2, k2, rfl, hown2, hr2, hg2, hb2⟩; have hw2 := bstep hw1.drew hb2 (Nat.le_refl _); have hz2 : w.heap.size < w2.heap.size := by { have := hb2.size; simp at this; omega }; have hx2 := Box4.below (by exact ⟨c0, c1, c2, c3⟩) hb2 (by exact hz); obtain ⟨d0, d1, d2, d3⟩ := hx2)
      | (go_at_call 18; refine (Received_lit s t n _ _ _ _ xs false 0 hv.out.1 hv.out.2 _ hr2).mono ?_; rintro e w' ⟨rfl, rfl⟩))
  clear c0 c1 c2 c3
  go_wp2_with (first
    | (go_at_call 20; refine (Clone_any A k c w.heap.size xs _ (HR.out.below hw2) (by omega) h0.out).mono ?_; rintro e w3 ⟨A3, k3, rfl, hown3, hr3, hg3, hb3⟩; have hw3 := bstep hw2 hb3 (Nat.le_refl _); have hx3 := Box4.below (by exact ⟨d0, d1, d2, d3⟩) hb3 (by exact hz2); obtain ⟨f0, f1, f2, f3⟩ := hx3)
    | (go_at_call 19; refine (Sum_lit _ _ _ _ xs S 0 _ hr3 hs.out).mono ?_; rintro e w' ⟨rfl, rfl⟩)
    | (go_at_call 23; refine (Margin_lit _ _ _ M 0 hm.out.1 hm.out.2 _).mono ?_; rintro e w' ⟨rfl, rfl⟩)
    | (go_at_call 25; refine (Least_lit _ _ _ 0 8 hl.out.1 hl.out.2 _).mono ?_; rintro e w' ⟨rfl, rfl⟩))
  go_ret
  exact ⟨by first | rfl | exact ret_bool (by simp; omega), hw3⟩
set_option maxHeartbeats 1600000 in
set_option maxRecDepth 100000 in
theorem walk_Margins_big (s t n : Int) (A : Option Addr) (k c : Nat) (w : World) (hk : 64 < k) :
    Calls Tryd.prog 8 #[.agg #[.int .i64 s, .int .i64 t, .int .i64 n, .slice A k c]] w fun e w' => e = .returned (.bool true) ∧ Below w.heap.size w w' := by
  have HB := Lib.hid (Box4.new s t n (.slice A k c) w)
  have hb0 : Below w.heap.size w (w.alloc (.cells #[.int .i64 s, .int .i64 t, .int .i64 n, .slice A k c] 35)) := (Below.refl _ _).alloc (Nat.le_refl _) _
  go_enter Tryd.func8, Tryd.ntmps8
  go_wp2_with (go_at_call 11; refine (awake_any _).mono ?_; rintro e w1 ⟨rfl, hb1⟩; have hw1 := hb0.trans (hb1.mono (by simp)); have hx1 := HB.out.below hb1 (by simp); obtain ⟨c0, c1, c2, c3⟩ := hx1)
  go_ret
  exact ⟨rfl, hw1⟩
theorem rcv_ok (s t n : Int) (xs : List Int) (h : Pm.rcvE s t n xs = 0) : Pm.isP s = true ∧ Pm.condB t n = true ∧ Pm.sumE xs = 0 ∧ Pm.rcvV s t n xs = Pm.rcvB s t n (Pm.sumV xs) := by
  unfold Pm.rcvE at h
  split at h
  · next hh =>
    refine ⟨hh.1, hh.2, h, ?_⟩
    unfold Pm.rcvV
    rw [if_pos ⟨hh.1, hh.2, h⟩]
  · cases h
theorem walk_Margins (s t n : Int) (A : Option Addr) (k c : Nat) (xs : List Int) (w : World) (hr : Reads w w.heap.size A k xs) (h0 : A = none → k = 0) :
    Calls Tryd.prog 8 #[.agg #[.int .i64 s, .int .i64 t, .int .i64 n, .slice A k c]] w fun e w' => e = .returned (.bool true) ∧ Below w.heap.size w w' := by
  by_cases hk : 64 < k
  · exact walk_Margins_big s t n A k c w hk
  rcases rcvE_cases s t n xs with he | he | he
  · obtain ⟨hp, hc, hs, hv⟩ := rcv_ok s t n xs he
    obtain ⟨t0, t1, n0, n1⟩ := (Pm.condB_iff t n).1 hc
    obtain ⟨s0, s1⟩ := (Pm.isP_iff s).1 hp
    obtain ⟨b0, b1⟩ := Pm.sumV_bound xs
    have hm : Pm.mrgV s t n = max (1000 * s / t - n) (-1) ∧ Pm.mrgE s t n = 0 := by
      unfold Pm.mrgV Pm.mrgE; rw [if_pos ⟨hp, hc⟩, if_pos ⟨hp, hc⟩]; exact ⟨rfl, rfl⟩
    have hsr : sumRes xs = .returned (.tuple #[.int .i64 (Pm.sumV xs), .int .i64 0]) := by rw [sumRes_any, hs]
    generalize Pm.sumV xs = S at *
    have hiff : n + S ≤ 1000 * s / t ↔ (n + S) * t ≤ 1000 * s := Int.le_ediv_iff_mul_le (by omega)
    rw [Int.mul_comm (n + S) t] at hiff
    have hll : Pm.least t n S = (t * (n + S) + 999) / 1000 := rfl
    have hL : (Pm.least t n S ≤ 68719476736 ∧ Pm.lstV t n S = Pm.least t n S ∧ Pm.lstE t n S = 0) ∨ (68719476736 < Pm.least t n S ∧ Pm.lstV t n S = 0 ∧ Pm.lstE t n S = 8) := by
      unfold Pm.lstV Pm.lstE
      by_cases h : Pm.least t n S ≤ 68719476736
      · left; rw [if_pos ⟨hc, b0, b1, h⟩, if_pos ⟨hc, b0, b1⟩, if_pos h]; exact ⟨h, rfl, rfl⟩
      · right; rw [if_neg (fun hh => h hh.2.2.2), if_pos ⟨hc, b0, b1⟩, if_neg h]; exact ⟨by omega, rfl, rfl⟩
    by_cases hq : t * (n + S) ≤ 1000 * s
    · have hV : Pm.rcvV s t n xs = true := by rw [hv]; unfold Pm.rcvB; simpa using hq
      have hS := hiff.2 hq
      rcases hL with ⟨h1, h2, h3⟩ | ⟨h1, h2, h3⟩
      · exact walk_Margins_t0 s t n A k c xs w hr (Lib.hid h0) (by omega) S _ _ (Lib.hid hsr) (Lib.hid hm) (by omega) (Lib.hid ⟨hV, he⟩) (Lib.hid ⟨h2, h3⟩) (by omega) (by omega)
      · omega
    · have hV : Pm.rcvV s t n xs = false := by rw [hv]; unfold Pm.rcvB; simpa using hq
      have hS := fun h => hq (hiff.1 h)
      rcases hL with ⟨h1, h2, h3⟩ | ⟨h1, h2, h3⟩
      · exact walk_Margins_f0 s t n A k c xs w hr (Lib.hid h0) (by omega) S _ _ (Lib.hid hsr) (Lib.hid hm) (by omega) (Lib.hid ⟨hV, he⟩) (Lib.hid ⟨h2, h3⟩) (by omega) (by omega)
      · exact walk_Margins_f8 s t n A k c xs w hr (Lib.hid h0) (by omega) S _ (Lib.hid hsr) (Lib.hid hm) (by omega) (Lib.hid ⟨hV, he⟩) (Lib.hid ⟨h2, h3⟩) (by omega)
  · exact walk_Margins_e2 s t n A k c xs w hr (Lib.hid h0) (by omega) _ (Lib.hid ⟨rfl, he⟩)
  · exact walk_Margins_e8 s t n A k c xs w hr (Lib.hid h0) (by omega) _ (Lib.hid ⟨rfl, he⟩)

end Go.Proofs.YticgdbokflbjaaaDoor
