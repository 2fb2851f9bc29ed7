/-
  THE WALK OF PowerMonotone, case c: it returns true, whatever the arguments; what lay in memory stays.
-/
import Derived.Test.YticgdbokflbjaaaDoorWMonoA
namespace Go.Proofs.YticgdbokflbjaaaDoor
open Go.RowKit

set_option maxHeartbeats 3200000 in
set_option maxRecDepth 100000 in
theorem walk_Mono_c_t0 (s t n m u : Int) (A : Option Addr) (k c : Nat) (xs : List Int) (w : World) (hr : Reads w w.heap.size A k xs) (h0 : Hid (A = none → k = 0)) (hk : k ≤ 64) (hk0 : (k : Int) ≤ 0) (hs0 : 0 ≤ s) (hs1 : s ≤ 68719476736) (hm : 0 ≤ m) (hm2 : m ≤ 68719476736 - s) (hv : Hid (Pm.rcvV s t n xs = true ∧ Pm.rcvE s t n xs = 0)) (hgv : Hid (Pm.rcvV (s + m) t n xs = true ∧ Pm.rcvE (s + m) t n xs = 0)) :
    Calls Tryd.prog 9 #[.agg #[.int .i64 s, .int .i64 t, .int .i64 n, .slice A k c], .int .i64 m, .int .u8 u] w fun e w' => e = .returned (.bool true) ∧ Below w.heap.size w w' := by
  have HB := Lib.hid (Box4.new s t n (.slice A k c) w)
  have hb0 : Below w.heap.size w (w.alloc (.cells #[.int .i64 s, .int .i64 t, .int .i64 n, .slice A k c] 35)) := (Below.refl _ _).alloc (Nat.le_refl _) _
  have HR := Lib.hid hr
  clear hr
  go_enter Tryd.func9, Tryd.ntmps9
  go_wp2_with (go_at_call 11; refine (awake_any _).mono ?_; rintro e w1 ⟨rfl, hb1⟩; have hw1 := hb0.trans (hb1.mono (by simp)); have hz : w.heap.size < w1.heap.size := by { have := hb1.size; simp at this; omega }; have hx1 := HB.out.below hb1 (by simp); obtain ⟨c0, c1, c2, c3⟩ := hx1)
  go_region_held3 (fun w' => w'.cell? ⟨w.heap.size, 0, none⟩ = some (.int .i64 s) ∧ w'.cell? ⟨w.heap.size, 1, none⟩ = some (.int .i64 t) ∧ w'.cell? ⟨w.heap.size, 2, none⟩ = some (.int .i64 n) ∧ w'.cell? ⟨w.heap.size, 3, none⟩ = some (.slice A k c))
    (first | exact ⟨d0, d1, d2, d3⟩ | exact ⟨c0, c1, c2, c3⟩)
    (first
      | (go_at_call 20; refine (Clone_any A k c w.heap.size xs _ (HR.out.below hw1.drew) (by omega) h0.out).mono ?_; rintro e w2 ⟨A2, k2, rfl, hown2, hr2, hg2, hb2⟩; have hw2 := bstep hw1.drew hb2 (Nat.le_refl _); have hz2 : w.heap.size < w2.heap.size := by { have := hb2.size; simp at this; omega }; have hx2 := Box4.below (by exact ⟨c0, c1, c2, c3⟩) hb2 (by exact hz); obtain ⟨d0, d1, d2, d3⟩ := hx2)
      | (go_at_call 18; refine (Received_lit s t n _ _ _ _ xs true 0 hv.out.1 hv.out.2 _ hr2).mono ?_; rintro e w' ⟨rfl, rfl⟩))
  clear c0 c1 c2 c3
  go_wp2_with fail
  have hwr : IntKind.i64.wrap (s + m) = s + m := IntWalk.i64_in _ (by omega)
  go_region_held3 (fun w' => w'.cell? ⟨w.heap.size, 0, none⟩ = some (.int .i64 s) ∧ w'.cell? ⟨w.heap.size, 1, none⟩ = some (.int .i64 t) ∧ w'.cell? ⟨w.heap.size, 2, none⟩ = some (.int .i64 n) ∧ w'.cell? ⟨w.heap.size, 3, none⟩ = some (.slice A k c))
    (first | exact ⟨f0, f1, f2, f3⟩ | exact ⟨d0, d1, d2, d3⟩)
    (first
      | (go_at_call 20; refine (Clone_any A k c w.heap.size xs _ (HR.out.below hw2.drew) (by omega) h0.out).mono ?_; rintro e w3 ⟨A3, k3, rfl, hown3, hr3, hg3, hb3⟩; have hw3 := bstep hw2.drew hb3 (Nat.le_refl _); have hz3 : w.heap.size < w3.heap.size := by { have := hb3.size; simp at this; omega }; have hx3 := Box4.below (by exact ⟨d0, d1, d2, d3⟩) hb3 (by exact hz2); obtain ⟨f0, f1, f2, f3⟩ := hx3)
      | (go_at_call 18; refine (Received_lit (s + m) t n _ _ _ _ xs true 0 hgv.out.1 hgv.out.2 _ hr3).mono ?_; rintro e w' ⟨rfl, rfl⟩))
  clear d0 d1 d2 d3 hwr
  go_wp2_with fail
  go_ret
  exact ⟨rfl, hw3⟩
set_option maxHeartbeats 3200000 in
set_option maxRecDepth 100000 in
theorem walk_Mono_c_t1 (s t n m u : Int) (A : Option Addr) (k c : Nat) (xs : List Int) (w : World) (hr : Reads w w.heap.size A k xs) (h0 : Hid (A = none → k = 0)) (hk : k ≤ 64) (hk0 : 0 < k) (j : Nat) (hj : j < k) (hi : Hid (u % (k : Int) = j)) (hu0 : 0 ≤ u) (hu1 : u ≤ 255) (hq0 : 0 ≤ u % (k : Int)) (hq1 : u % (k : Int) < 64) (hs0 : 0 ≤ s) (hs1 : s ≤ 68719476736) (hm : 0 ≤ m) (hm2 : m ≤ 68719476736 - s) (hv : Hid (Pm.rcvV s t n xs = true ∧ Pm.rcvE s t n xs = 0)) (hgv : Hid (Pm.rcvV (s + m) t n xs = true ∧ Pm.rcvE (s + m) t n xs = 0)) (hzv : Hid (Pm.rcvV s t n (xs.eraseIdx j) = true ∧ Pm.rcvE s t n (xs.eraseIdx j) = 0)) :
    Calls Tryd.prog 9 #[.agg #[.int .i64 s, .int .i64 t, .int .i64 n, .slice A k c], .int .i64 m, .int .u8 u] w fun e w' => e = .returned (.bool true) ∧ Below w.heap.size w w' := by
  have HB := Lib.hid (Box4.new s t n (.slice A k c) w)
  have hb0 : Below w.heap.size w (w.alloc (.cells #[.int .i64 s, .int .i64 t, .int .i64 n, .slice A k c] 35)) := (Below.refl _ _).alloc (Nat.le_refl _) _
  have HR := Lib.hid hr
  clear hr
  go_enter Tryd.func9, Tryd.ntmps9
  go_wp2_with (go_at_call 11; refine (awake_any _).mono ?_; rintro e w1 ⟨rfl, hb1⟩; have hw1 := hb0.trans (hb1.mono (by simp)); have hz : w.heap.size < w1.heap.size := by { have := hb1.size; simp at this; omega }; have hx1 := HB.out.below hb1 (by simp); obtain ⟨c0, c1, c2, c3⟩ := hx1)
  go_region_held3 (fun w' => w'.cell? ⟨w.heap.size, 0, none⟩ = some (.int .i64 s) ∧ w'.cell? ⟨w.heap.size, 1, none⟩ = some (.int .i64 t) ∧ w'.cell? ⟨w.heap.size, 2, none⟩ = some (.int .i64 n) ∧ w'.cell? ⟨w.heap.size, 3, none⟩ = some (.slice A k c))
    (first | exact ⟨d0, d1, d2, d3⟩ | exact ⟨c0, c1, c2, c3⟩)
    (first
      | (go_at_call 20; refine (Clone_any A k c w.heap.size xs _ (HR.out.below hw1.drew) (by omega) h0.out).mono ?_; rintro e w2 ⟨A2, k2, rfl, hown2, hr2, hg2, hb2⟩; have hw2 := bstep hw1.drew hb2 (Nat.le_refl _); have hz2 : w.heap.size < w2.heap.size := by { have := hb2.size; simp at this; omega }; have hx2 := Box4.below (by exact ⟨c0, c1, c2, c3⟩) hb2 (by exact hz); obtain ⟨d0, d1, d2, d3⟩ := hx2)
      | (go_at_call 18; refine (Received_lit s t n _ _ _ _ xs true 0 hv.out.1 hv.out.2 _ hr2).mono ?_; rintro e w' ⟨rfl, rfl⟩))
  clear c0 c1 c2 c3
  go_wp2_with fail
  have hwr : IntKind.i64.wrap (s + m) = s + m := IntWalk.i64_in _ (by omega)
  go_region_held3 (fun w' => w'.cell? ⟨w.heap.size, 0, none⟩ = some (.int .i64 s) ∧ w'.cell? ⟨w.heap.size, 1, none⟩ = some (.int .i64 t) ∧ w'.cell? ⟨w.heap.size, 2, none⟩ = some (.int .i64 n) ∧ w'.cell? ⟨w.heap.size, 3, none⟩ = some (.slice A k c))
    (first | exact ⟨f0, f1, f2, f3⟩ | exact ⟨d0, d1, d2, d3⟩)
    (first
      | (go_at_call 20; refine (Clone_any A k c w.heap.size xs _ (HR.out.below hw2.drew) (by omega) h0.out).mono ?_; rintro e w3 ⟨A3, k3, rfl, hown3, hr3, hg3, hb3⟩; have hw3 := bstep hw2.drew hb3 (Nat.le_refl _); have hz3 : w.heap.size < w3.heap.size := by { have := hb3.size; simp at this; omega }; have hx3 := Box4.below (by exact ⟨d0, d1, d2, d3⟩) hb3 (by exact hz2); obtain ⟨f0, f1, f2, f3⟩ := hx3)
      | (go_at_call 18; refine (Received_lit (s + m) t n _ _ _ _ xs true 0 hgv.out.1 hgv.out.2 _ hr3).mono ?_; rintro e w' ⟨rfl, rfl⟩))
  clear d0 d1 d2 d3 hwr
  go_wp2_with fail
  have hwi : IntKind.i64.wrap (u % (k : Int) + 1) = u % (k : Int) + 1 := IntWalk.i64_in _ (by omega)
  go_region_held3 (fun w' => w'.cell? ⟨w.heap.size, 0, none⟩ = some (.int .i64 s) ∧ w'.cell? ⟨w.heap.size, 1, none⟩ = some (.int .i64 t) ∧ w'.cell? ⟨w.heap.size, 2, none⟩ = some (.int .i64 n) ∧ w'.cell? ⟨w.heap.size, 3, none⟩ = some (.slice A k c))
    (first | exact ⟨z0, z1, z2, z3⟩ | exact ⟨y0, y1, y2, y3⟩ | exact ⟨f0, f1, f2, f3⟩)
    (first
      | (go_at_call 20; refine (Clone_any A k c w.heap.size xs _ (HR.out.below hw3.drew) (by omega) h0.out).mono ?_; rintro e w4 ⟨A4, k4, rfl, hown4, hr4, hg4, hb4⟩; obtain ⟨gg, rfl⟩ := hg4 (by omega); have hw4 := bstep hw3.drew hb4 (Nat.le_refl _); have hz4 : w.heap.size < w4.heap.size := by { have := hb4.size; simp at this; omega }; have hx4 := Box4.below (by exact ⟨f0, f1, f2, f3⟩) hb4 (by exact hz3); obtain ⟨y0, y1, y2, y3⟩ := hx4)
      | (go_at_call 27; refine (Delete_at gg k k4 j _ _ xs _ hi hown4 hj).mono ?_; rintro e w9 ⟨rfl, hr9, hb9⟩; have hw9 := hw4.trans (hb9.mono (by exact Nat.le_of_lt hz3)); have hx9 := Box4.below (by exact ⟨y0, y1, y2, y3⟩) hb9 (by exact hz3); obtain ⟨z0, z1, z2, z3⟩ := hx9)
      | (go_at_call 18; refine (Received_lit s t n _ _ _ _ _ true 0 hzv.out.1 hzv.out.2 _ hr9).mono ?_; rintro e w' ⟨rfl, rfl⟩))
  go_wp2_with fail
  go_ret
  exact ⟨rfl, hw9⟩
set_option maxHeartbeats 3200000 in
set_option maxRecDepth 100000 in
theorem walk_Mono_c_f0 (s t n m u : Int) (A : Option Addr) (k c : Nat) (xs : List Int) (w : World) (hr : Reads w w.heap.size A k xs) (h0 : Hid (A = none → k = 0)) (hk : k ≤ 64) (G : Bool) (hk0 : (k : Int) ≤ 0) (hs0 : 0 ≤ s) (hs1 : s ≤ 68719476736) (hm : 0 ≤ m) (hm2 : m ≤ 68719476736 - s) (hv : Hid (Pm.rcvV s t n xs = false ∧ Pm.rcvE s t n xs = 0)) (hgv : Hid (Pm.rcvV (s + m) t n xs = G ∧ Pm.rcvE (s + m) t n xs = 0)) :
    Calls Tryd.prog 9 #[.agg #[.int .i64 s, .int .i64 t, .int .i64 n, .slice A k c], .int .i64 m, .int .u8 u] w fun e w' => e = .returned (.bool true) ∧ Below w.heap.size w w' := by
  have HB := Lib.hid (Box4.new s t n (.slice A k c) w)
  have hb0 : Below w.heap.size w (w.alloc (.cells #[.int .i64 s, .int .i64 t, .int .i64 n, .slice A k c] 35)) := (Below.refl _ _).alloc (Nat.le_refl _) _
  have HR := Lib.hid hr
  clear hr
  go_enter Tryd.func9, Tryd.ntmps9
  go_wp2_with (go_at_call 11; refine (awake_any _).mono ?_; rintro e w1 ⟨rfl, hb1⟩; have hw1 := hb0.trans (hb1.mono (by simp)); have hz : w.heap.size < w1.heap.size := by { have := hb1.size; simp at this; omega }; have hx1 := HB.out.below hb1 (by simp); obtain ⟨c0, c1, c2, c3⟩ := hx1)
  go_region_held3 (fun w' => w'.cell? ⟨w.heap.size, 0, none⟩ = some (.int .i64 s) ∧ w'.cell? ⟨w.heap.size, 1, none⟩ = some (.int .i64 t) ∧ w'.cell? ⟨w.heap.size, 2, none⟩ = some (.int .i64 n) ∧ w'.cell? ⟨w.heap.size, 3, none⟩ = some (.slice A k c))
    (first | exact ⟨d0, d1, d2, d3⟩ | exact ⟨c0, c1, c2, c3⟩)
    (first
      | (go_at_call 20; refine (Clone_any A k c w.heap.size xs _ (HR.out.below hw1.drew) (by omega) h0.out).mono ?_; rintro e w2 ⟨A2, k2, rfl, hown2, hr2, hg2, hb2⟩; have hw2 := bstep hw1.drew hb2 (Nat.le_refl _); have hz2 : w.heap.size < w2.heap.size := by { have := hb2.size; simp at this; omega }; have hx2 := Box4.below (by exact ⟨c0, c1, c2, c3⟩) hb2 (by exact hz); obtain ⟨d0, d1, d2, d3⟩ := hx2)
      | (go_at_call 18; refine (Received_lit s t n _ _ _ _ xs false 0 hv.out.1 hv.out.2 _ hr2).mono ?_; rintro e w' ⟨rfl, rfl⟩))
  clear c0 c1 c2 c3
  go_wp2_with fail
  have hwr : IntKind.i64.wrap (s + m) = s + m := IntWalk.i64_in _ (by omega)
  go_region_held3 (fun w' => w'.cell? ⟨w.heap.size, 0, none⟩ = some (.int .i64 s) ∧ w'.cell? ⟨w.heap.size, 1, none⟩ = some (.int .i64 t) ∧ w'.cell? ⟨w.heap.size, 2, none⟩ = some (.int .i64 n) ∧ w'.cell? ⟨w.heap.size, 3, none⟩ = some (.slice A k c))
    (first | exact ⟨f0, f1, f2, f3⟩ | exact ⟨d0, d1, d2, d3⟩)
    (first
      | (go_at_call 20; refine (Clone_any A k c w.heap.size xs _ (HR.out.below hw2.drew) (by omega) h0.out).mono ?_; rintro e w3 ⟨A3, k3, rfl, hown3, hr3, hg3, hb3⟩; have hw3 := bstep hw2.drew hb3 (Nat.le_refl _); have hz3 : w.heap.size < w3.heap.size := by { have := hb3.size; simp at this; omega }; have hx3 := Box4.below (by exact ⟨d0, d1, d2, d3⟩) hb3 (by exact hz2); obtain ⟨f0, f1, f2, f3⟩ := hx3)
      | (go_at_call 18; refine (Received_lit (s + m) t n _ _ _ _ xs G 0 hgv.out.1 hgv.out.2 _ hr3).mono ?_; rintro e w' ⟨rfl, rfl⟩))
  clear d0 d1 d2 d3 hwr
  go_wp2_with fail
  go_ret
  exact ⟨rfl, hw3⟩
set_option maxHeartbeats 3200000 in
set_option maxRecDepth 100000 in
theorem walk_Mono_c_f1 (s t n m u : Int) (A : Option Addr) (k c : Nat) (xs : List Int) (w : World) (hr : Reads w w.heap.size A k xs) (h0 : Hid (A = none → k = 0)) (hk : k ≤ 64) (G : Bool) (Z : Bool) (hk0 : 0 < k) (j : Nat) (hj : j < k) (hi : Hid (u % (k : Int) = j)) (hu0 : 0 ≤ u) (hu1 : u ≤ 255) (hq0 : 0 ≤ u % (k : Int)) (hq1 : u % (k : Int) < 64) (hs0 : 0 ≤ s) (hs1 : s ≤ 68719476736) (hm : 0 ≤ m) (hm2 : m ≤ 68719476736 - s) (hv : Hid (Pm.rcvV s t n xs = false ∧ Pm.rcvE s t n xs = 0)) (hgv : Hid (Pm.rcvV (s + m) t n xs = G ∧ Pm.rcvE (s + m) t n xs = 0)) (hzv : Hid (Pm.rcvV s t n (xs.eraseIdx j) = Z ∧ Pm.rcvE s t n (xs.eraseIdx j) = 0)) :
    Calls Tryd.prog 9 #[.agg #[.int .i64 s, .int .i64 t, .int .i64 n, .slice A k c], .int .i64 m, .int .u8 u] w fun e w' => e = .returned (.bool true) ∧ Below w.heap.size w w' := by
  have HB := Lib.hid (Box4.new s t n (.slice A k c) w)
  have hb0 : Below w.heap.size w (w.alloc (.cells #[.int .i64 s, .int .i64 t, .int .i64 n, .slice A k c] 35)) := (Below.refl _ _).alloc (Nat.le_refl _) _
  have HR := Lib.hid hr
  clear hr
  go_enter Tryd.func9, Tryd.ntmps9
  go_wp2_with (go_at_call 11; refine (awake_any _).mono ?_; rintro e w1 ⟨rfl, hb1⟩; have hw1 := hb0.trans (hb1.mono (by simp)); have hz : w.heap.size < w1.heap.size := by { have := hb1.size; simp at this; omega }; have hx1 := HB.out.below hb1 (by simp); obtain ⟨c0, c1, c2, c3⟩ := hx1)
  go_region_held3 (fun w' => w'.cell? ⟨w.heap.size, 0, none⟩ = some (.int .i64 s) ∧ w'.cell? ⟨w.heap.size, 1, none⟩ = some (.int .i64 t) ∧ w'.cell? ⟨w.heap.size, 2, none⟩ = some (.int .i64 n) ∧ w'.cell? ⟨w.heap.size, 3, none⟩ = some (.slice A k c))
    (first | exact ⟨d0, d1, d2, d3⟩ | exact ⟨c0, c1, c2, c3⟩)
    (first
      | (go_at_call 20; refine (Clone_any A k c w.heap.size xs _ (HR.out.below hw1.drew) (by omega) h0.out).mono ?_; rintro e w2 ⟨A2, k2, rfl, hown2, hr2, hg2, hb2⟩; have hw2 := bstep hw1.drew hb2 (Nat.le_refl _); have hz2 : w.heap.size < w2.heap.size := by { have := hb2.size; simp at this; omega }; have hx2 := Box4.below (by exact ⟨c0, c1, c2, c3⟩) hb2 (by exact hz); obtain ⟨d0, d1, d2, d3⟩ := hx2)
      | (go_at_call 18; refine (Received_lit s t n _ _ _ _ xs false 0 hv.out.1 hv.out.2 _ hr2).mono ?_; rintro e w' ⟨rfl, rfl⟩))
  clear c0 c1 c2 c3
  go_wp2_with fail
  have hwr : IntKind.i64.wrap (s + m) = s + m := IntWalk.i64_in _ (by omega)
  go_region_held3 (fun w' => w'.cell? ⟨w.heap.size, 0, none⟩ = some (.int .i64 s) ∧ w'.cell? ⟨w.heap.size, 1, none⟩ = some (.int .i64 t) ∧ w'.cell? ⟨w.heap.size, 2, none⟩ = some (.int .i64 n) ∧ w'.cell? ⟨w.heap.size, 3, none⟩ = some (.slice A k c))
    (first | exact ⟨f0, f1, f2, f3⟩ | exact ⟨d0, d1, d2, d3⟩)
    (first
      | (go_at_call 20; refine (Clone_any A k c w.heap.size xs _ (HR.out.below hw2.drew) (by omega) h0.out).mono ?_; rintro e w3 ⟨A3, k3, rfl, hown3, hr3, hg3, hb3⟩; have hw3 := bstep hw2.drew hb3 (Nat.le_refl _); have hz3 : w.heap.size < w3.heap.size := by { have := hb3.size; simp at this; omega }; have hx3 := Box4.below (by exact ⟨d0, d1, d2, d3⟩) hb3 (by exact hz2); obtain ⟨f0, f1, f2, f3⟩ := hx3)
      | (go_at_call 18; refine (Received_lit (s + m) t n _ _ _ _ xs G 0 hgv.out.1 hgv.out.2 _ hr3).mono ?_; rintro e w' ⟨rfl, rfl⟩))
  clear d0 d1 d2 d3 hwr
  go_wp2_with fail
  have hwi : IntKind.i64.wrap (u % (k : Int) + 1) = u % (k : Int) + 1 := IntWalk.i64_in _ (by omega)
  go_region_held3 (fun w' => w'.cell? ⟨w.heap.size, 0, none⟩ = some (.int .i64 s) ∧ w'.cell? ⟨w.heap.size, 1, none⟩ = some (.int .i64 t) ∧ w'.cell? ⟨w.heap.size, 2, none⟩ = some (.int .i64 n) ∧ w'.cell? ⟨w.heap.size, 3, none⟩ = some (.slice A k c))
    (first | exact ⟨z0, z1, z2, z3⟩ | exact ⟨y0, y1, y2, y3⟩ | exact ⟨f0, f1, f2, f3⟩)
    (first
      | (go_at_call 20; refine (Clone_any A k c w.heap.size xs _ (HR.out.below hw3.drew) (by omega) h0.out).mono ?_; rintro e w4 ⟨A4, k4, rfl, hown4, hr4, hg4, hb4⟩; obtain ⟨gg, rfl⟩ := hg4 (by omega); have hw4 := bstep hw3.drew hb4 (Nat.le_refl _); have hz4 : w.heap.size < w4.heap.size := by { have := hb4.size; simp at this; omega }; have hx4 := Box4.below (by exact ⟨f0, f1, f2, f3⟩) hb4 (by exact hz3); obtain ⟨y0, y1, y2, y3⟩ := hx4)
      | (go_at_call 27; refine (Delete_at gg k k4 j _ _ xs _ hi hown4 hj).mono ?_; rintro e w9 ⟨rfl, hr9, hb9⟩; have hw9 := hw4.trans (hb9.mono (by exact Nat.le_of_lt hz3)); have hx9 := Box4.below (by exact ⟨y0, y1, y2, y3⟩) hb9 (by exact hz3); obtain ⟨z0, z1, z2, z3⟩ := hx9)
      | (go_at_call 18; refine (Received_lit s t n _ _ _ _ _ Z 0 hzv.out.1 hzv.out.2 _ hr9).mono ?_; rintro e w' ⟨rfl, rfl⟩))
  go_wp2_with fail
  go_ret
  exact ⟨rfl, hw9⟩
end Go.Proofs.YticgdbokflbjaaaDoor
