/-
  THE WALK OF PowerReceives: it returns true, whatever the arguments; what lay in memory stays.
-/
import Derived.Test.YticgdbokflbjaaaDoorFns6
import Derived.Deep.RegionHeld3
namespace Go.Proofs.YticgdbokflbjaaaDoor
open Go.RowKit

set_option maxHeartbeats 1600000 in
set_option maxRecDepth 100000 in
theorem walk_Receives_small (s t n sum : Int) (A : Option Addr) (k c : Nat) (xs : List Int) (w : World) (hr : Reads w w.heap.size A k xs) (h0 : Hid (A = none → k = 0)) (hk : k ≤ 100) :
    Calls Tryd.prog 7 #[.agg #[.int .i64 s, .int .i64 t, .int .i64 n, .slice A k c], .int .i64 sum] w fun e w' => e = .returned (.bool true) ∧ Below w.heap.size w w' := by
  have HB := Lib.hid (Box4.new s t n (.slice A k c) w)
  have hb0 : Below w.heap.size w (w.alloc (.cells #[.int .i64 s, .int .i64 t, .int .i64 n, .slice A k c] 35)) := (Below.refl _ _).alloc (Nat.le_refl _) _
  have HR := Lib.hid hr
  clear hr
  go_enter Tryd.func7, Tryd.ntmps7
  go_wp2_with (first
    | (go_at_call 11; refine (awake_any _).mono ?_; rintro e w1 ⟨rfl, hb1⟩; have hw1 := hb0.trans (hb1.mono (by simp)); have hz : w.heap.size < w1.heap.size := by { have := hb1.size; simp at this; omega }; have hx1 := HB.out.below hb1 (by simp); obtain ⟨c0, c1, c2, c3⟩ := hx1)
    | (go_at_call 20; refine (Clone_any A k c w.heap.size xs _ (HR.out.below hw1) (by omega) h0.out).mono ?_; rintro e w2 ⟨A2, k2, rfl, hown2, hr2, hg2, hb2⟩; have hw2 := bstep hw1 hb2 (Nat.le_refl _); have hz2 : w.heap.size < w2.heap.size := by { have := hb2.size; omega }; have hx2 := (HB.out.below hb1 (by simp)).below hb2 hz; obtain ⟨d0, d1, d2, d3⟩ := hx2)
    | (go_at_call 19; refine (Sum_lit _ _ _ _ xs _ _ _ hr2 (sumRes_any xs)).mono ?_; rintro e w' ⟨rfl, rfl⟩)
    | (go_at_call 21; refine (rSum_lit _ _ _ _ xs _ _ _ (HR.out.below hw2) (sumRes_any xs)).mono ?_; rintro e w' ⟨rfl, rfl⟩))
  clear c0 c1 c2 c3
  go_region_held3 (fun w' => w'.cell? ⟨w.heap.size, 0, none⟩ = some (.int .i64 s) ∧ w'.cell? ⟨w.heap.size, 1, none⟩ = some (.int .i64 t) ∧ w'.cell? ⟨w.heap.size, 2, none⟩ = some (.int .i64 n) ∧ w'.cell? ⟨w.heap.size, 3, none⟩ = some (.slice A k c))
    (first | exact ⟨f0, f1, f2, f3⟩ | exact ⟨d0, d1, d2, d3⟩)
    (first
      | (go_at_call 20; refine (Clone_any A k c w.heap.size xs _ (HR.out.below hw2.drew) (by omega) h0.out).mono ?_; rintro e w3 ⟨A3, k3, rfl, hown3, hr3, hg3, hb3⟩; have hw3 := bstep hw2.drew hb3 (Nat.le_refl _); have hx3 := Box4.below (by exact ⟨d0, d1, d2, d3⟩) hb3 (by exact hz2); obtain ⟨f0, f1, f2, f3⟩ := hx3)
      | (go_at_call 18; refine (Received_lit s t n _ _ _ _ xs _ _ rfl rfl _ hr3).mono ?_; rintro e w' ⟨rfl, rfl⟩))
  clear d0 d1 d2 d3
  go_wp2_with (first
    | (go_at_call 22; refine (rReceived_lit s t n _ _ _ _ xs _ _ rfl rfl _ (HR.out.below hw3)).mono ?_; rintro e w' ⟨rfl, rfl⟩)
    | (go_at_call 23; refine (Margin_any _ _ _ _).mono ?_; rintro e w' ⟨rfl, rfl⟩)
    | (go_at_call 24; refine (rMargin_any _ _ _ _).mono ?_; rintro e w' ⟨rfl, rfl⟩)
    | (go_at_call 25; refine (Least_any _ _ _ _).mono ?_; rintro e w' ⟨rfl, rfl⟩)
    | (go_at_call 26; refine (rLeast_any _ _ _ _).mono ?_; rintro e w' ⟨rfl, rfl⟩))
  go_ret
  exact ⟨rfl, hw3⟩
set_option maxHeartbeats 1600000 in
set_option maxRecDepth 100000 in
theorem walk_Receives_big (s t n sum : Int) (A : Option Addr) (k c : Nat) (w : World) (hk : 100 < k) :
    Calls Tryd.prog 7 #[.agg #[.int .i64 s, .int .i64 t, .int .i64 n, .slice A k c], .int .i64 sum] w fun e w' => e = .returned (.bool true) ∧ Below w.heap.size w w' := by
  have HB := Lib.hid (Box4.new s t n (.slice A k c) w)
  have hb0 : Below w.heap.size w (w.alloc (.cells #[.int .i64 s, .int .i64 t, .int .i64 n, .slice A k c] 35)) := (Below.refl _ _).alloc (Nat.le_refl _) _
  go_enter Tryd.func7, Tryd.ntmps7
  go_wp2_with (go_at_call 11; refine (awake_any _).mono ?_; rintro e w1 ⟨rfl, hb1⟩; have hw1 := hb0.trans (hb1.mono (by simp)); have hx1 := HB.out.below hb1 (by simp); obtain ⟨c0, c1, c2, c3⟩ := hx1)
  go_ret
  exact ⟨rfl, hw1⟩
theorem walk_Receives (s t n sum : Int) (A : Option Addr) (k c : Nat) (xs : List Int) (w : World) (hr : Reads w w.heap.size A k xs) (h0 : A = none → k = 0) :
    Calls Tryd.prog 7 #[.agg #[.int .i64 s, .int .i64 t, .int .i64 n, .slice A k c], .int .i64 sum] w fun e w' => e = .returned (.bool true) ∧ Below w.heap.size w w' := by
  by_cases h : 100 < k
  · exact walk_Receives_big s t n sum A k c w h
  · exact walk_Receives_small s t n sum A k c xs w hr (Lib.hid h0) (by omega)
end Go.Proofs.YticgdbokflbjaaaDoor
