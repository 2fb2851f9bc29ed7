/-
  THE WALK OF PowerMonotone, where the first call errs: it returns true, whatever the arguments; what lay in memory stays.
-/
import Derived.Test.YticgdbokflbjaaaDoorWMonoA
namespace Go.Proofs.YticgdbokflbjaaaDoor
open Go.RowKit

set_option maxHeartbeats 3200000 in
set_option maxRecDepth 100000 in
theorem walk_Mono_e2 (s t n m u : Int) (A : Option Addr) (k c : Nat) (xs : List Int) (w : World) (hr : Reads w w.heap.size A k xs) (h0 : Hid (A = none → k = 0)) (hk : k ≤ 64) (hv : Hid (Pm.rcvV s t n xs = false ∧ Pm.rcvE s t n xs = 2)) :
    Calls Tryd.prog 9 #[.agg #[.int .i64 s, .int .i64 t, .int .i64 n, .slice A k c], .int .i64 m, .int .u8 u] w fun e w' => e = .returned (.bool true) ∧ Below w.heap.size w w' := by
  have HB := Lib.hid (Box4.new s t n (.slice A k c) w)
  have hb0 : Below w.heap.size w (w.alloc (.cells #[.int .i64 s, .int .i64 t, .int .i64 n, .slice A k c] 35)) := (Below.refl _ _).alloc (Nat.le_refl _) _
  have HR := Lib.hid hr
  clear hr
  go_enter Tryd.func9, Tryd.ntmps9
  go_wp2_with (go_at_call 11; refine (awake_any _).mono ?_; rintro e w1 ⟨rfl, hb1⟩; have hw1 := hb0.trans (hb1.mono (by simp)); have hz : w.heap.size < w1.heap.size := by { have := hb1.size; simp at this; omega }; have hx1 := HB.out.below hb1 (by simp); obtain ⟨c0, c1, c2, c3⟩ := hx1)
  go_region_held3 (fun w' => w'.cell? ⟨w.heap.size, 0, none⟩ = some (.int .i64 s) ∧ w'.cell? ⟨w.heap.size, 1, none⟩ = some (.int .i64 t) ∧ w'.cell? ⟨w.heap.size, 2, none⟩ = some (.int .i64 n) ∧ w'.cell? ⟨w.heap.size, 3, none⟩ = some (.slice A k c))
    (first | exact ⟨d0, d1, d2, d3⟩ | exact ⟨c0, c1, c2, c3⟩)
    (first
      | (go_at_call 20; refine (Clone_any A k c w.heap.size xs _ (HR.out.below hw1.drew) (by omega) h0.out).mono ?_; rintro e w2 ⟨A2, k2, rfl, hown2, hr2, hg2, hb2⟩; have hw2 := bstep hw1.drew hb2 (Nat.le_refl _); have hz2 : w.heap.size < w2.heap.size := by { have := hb2.size; simp at this; omega }; have hx2 := Box4.below (by exact ⟨c0, c1, c2, c3⟩) hb2 (by exact hz); obtain ⟨d0, d1, d2, d3⟩ := hx2)
      | (go_at_call 18; refine (Received_lit s t n _ _ _ _ xs false 2 hv.out.1 hv.out.2 _ hr2).mono ?_; rintro e w' ⟨rfl, rfl⟩))
  go_wp2_with fail
  go_ret
  exact ⟨rfl, hw2⟩
set_option maxHeartbeats 3200000 in
set_option maxRecDepth 100000 in
theorem walk_Mono_e8 (s t n m u : Int) (A : Option Addr) (k c : Nat) (xs : List Int) (w : World) (hr : Reads w w.heap.size A k xs) (h0 : Hid (A = none → k = 0)) (hk : k ≤ 64) (hv : Hid (Pm.rcvV s t n xs = false ∧ Pm.rcvE s t n xs = 8)) :
    Calls Tryd.prog 9 #[.agg #[.int .i64 s, .int .i64 t, .int .i64 n, .slice A k c], .int .i64 m, .int .u8 u] w fun e w' => e = .returned (.bool true) ∧ Below w.heap.size w w' := by
  have HB := Lib.hid (Box4.new s t n (.slice A k c) w)
  have hb0 : Below w.heap.size w (w.alloc (.cells #[.int .i64 s, .int .i64 t, .int .i64 n, .slice A k c] 35)) := (Below.refl _ _).alloc (Nat.le_refl _) _
  have HR := Lib.hid hr
  clear hr
  go_enter Tryd.func9, Tryd.ntmps9
  go_wp2_with (go_at_call 11; refine (awake_any _).mono ?_; rintro e w1 ⟨rfl, hb1⟩; have hw1 := hb0.trans (hb1.mono (by simp)); have hz : w.heap.size < w1.heap.size := by { have := hb1.size; simp at this; omega }; have hx1 := HB.out.below hb1 (by simp); obtain ⟨c0, c1, c2, c3⟩ := hx1)
  go_region_held3 (fun w' => w'.cell? ⟨w.heap.size, 0, none⟩ = some (.int .i64 s) ∧ w'.cell? ⟨w.heap.size, 1, none⟩ = some (.int .i64 t) ∧ w'.cell? ⟨w.heap.size, 2, none⟩ = some (.int .i64 n) ∧ w'.cell? ⟨w.heap.size, 3, none⟩ = some (.slice A k c))
    (first | exact ⟨d0, d1, d2, d3⟩ | exact ⟨c0, c1, c2, c3⟩)
    (first
      | (go_at_call 20; refine (Clone_any A k c w.heap.size xs _ (HR.out.below hw1.drew) (by omega) h0.out).mono ?_; rintro e w2 ⟨A2, k2, rfl, hown2, hr2, hg2, hb2⟩; have hw2 := bstep hw1.drew hb2 (Nat.le_refl _); have hz2 : w.heap.size < w2.heap.size := by { have := hb2.size; simp at this; omega }; have hx2 := Box4.below (by exact ⟨c0, c1, c2, c3⟩) hb2 (by exact hz); obtain ⟨d0, d1, d2, d3⟩ := hx2)
      | (go_at_call 18; refine (Received_lit s t n _ _ _ _ xs false 8 hv.out.1 hv.out.2 _ hr2).mono ?_; rintro e w' ⟨rfl, rfl⟩))
  go_wp2_with fail
  go_ret
  exact ⟨rfl, hw2⟩
set_option maxHeartbeats 1600000 in
set_option maxRecDepth 100000 in
theorem walk_Mono_big (s t n m u : Int) (A : Option Addr) (k c : Nat) (w : World) (hk : 64 < k) :
    Calls Tryd.prog 9 #[.agg #[.int .i64 s, .int .i64 t, .int .i64 n, .slice A k c], .int .i64 m, .int .u8 u] w fun e w' => e = .returned (.bool true) ∧ Below w.heap.size w w' := by
  have HB := Lib.hid (Box4.new s t n (.slice A k c) w)
  have hb0 : Below w.heap.size w (w.alloc (.cells #[.int .i64 s, .int .i64 t, .int .i64 n, .slice A k c] 35)) := (Below.refl _ _).alloc (Nat.le_refl _) _
  go_enter Tryd.func9, Tryd.ntmps9
  go_wp2_with (go_at_call 11; refine (awake_any _).mono ?_; rintro e w1 ⟨rfl, hb1⟩; have hw1 := hb0.trans (hb1.mono (by simp)); have hx1 := HB.out.below hb1 (by simp); obtain ⟨c0, c1, c2, c3⟩ := hx1)
  go_ret
  exact ⟨rfl, hw1⟩
end Go.Proofs.YticgdbokflbjaaaDoor
