/-
  THE LAW's OWN EXAMPLE (awake): every example that each law of chapter 04 checks first comes out true.
-/
import Derived.Test.YticgdbokflbjaaaDoorFns5
import Derived.Test.YticgdbokflbjaaaDoorShelf2
namespace Go.Proofs.YticgdbokflbjaaaDoor
open Go.RowKit

theorem bstep {B : Nat} {w W W' : World} (h : Below B w W) (h' : Below W.heap.size W W') (hB : B ≤ w.heap.size) : Below B w W' := h.trans (h'.mono (Nat.le_trans hB h.size))
/-- A contract that keeps what lies below, seen from an older world. -/
theorem carry {P : Program} {f : FuncId} {args : Array Value} {R : Ending → Prop} {w0 W : World} (h : Calls P f args W fun e w' => R e ∧ Below W.heap.size W w') (hb : Below w0.heap.size w0 W) :
    Calls P f args W fun e w' => R e ∧ Below w0.heap.size w0 w' := h.mono fun _ _ ⟨h1, h2⟩ => ⟨h1, bstep hb h2 (Nat.le_refl _)⟩

theorem dec24 : Pm.dec 24 = 13 := by decide +kernel
theorem dec1000 : Pm.dec 1000 = 30 := by decide +kernel
theorem lev13 : Pm.lev 13 = 19 := by decide +kernel

theorem ex_Level (w : World) : Calls Tryd.prog 12 #[.int .i64 13] w fun e w' => e = .returned (.tuple #[.int .i64 19, .int .i64 0]) ∧ w = w' := by
  have h := Level_ok 13 (by omega) w
  rw [lev13] at h; exact h
theorem ex_Decibels (w : World) : Calls Tryd.prog 13 #[.int .i64 24] w fun e w' => e = .returned (.tuple #[.int .i64 13, .int .i64 0]) ∧ Below w.heap.size w w' := by
  have h := Decibels_ok 24 (by omega) (by omega) w
  rw [dec24] at h; exact h
theorem ex_Margin (w : World) : Calls Tryd.prog 23 #[.int .i64 100, .int .i64 2000, .int .i64 10] w fun e w' => e = .returned (.tuple #[.int .i64 40, .int .i64 0]) ∧ w = w' :=
  Margin_ok 100 2000 10 rfl rfl w
theorem ex_Least (w : World) : Calls Tryd.prog 25 #[.int .i64 2000, .int .i64 10, .int .i64 40] w fun e w' => e = .returned (.tuple #[.int .i64 100, .int .i64 0]) ∧ w = w' :=
  Least_ok 2000 10 40 rfl (by omega) (by omega) (by decide) w
theorem ex_Dec (w : World) : Calls Tryd.prog 13 #[.int .i64 1000] w fun e w' => e = .returned (.tuple #[.int .i64 30, .int .i64 0]) ∧ Below w.heap.size w w' := by
  have h := Decibels_ok 1000 (by omega) (by omega) w
  rw [dec1000] at h; exact h
theorem ex_Itoa (w : World) : Calls Tryd.prog 41 #[.int .i64 30] w fun e w' => e = .returned (.string ⟨#[51, 48]⟩) ∧ w' = w := by
  have h := Tryd.strconv_Itoa_small 30 (by omega) w
  have e : Lib.decDigits 30 = [51, 48] := by decide +kernel
  rw [e] at h; exact h
set_option maxHeartbeats 800000 in
theorem ex_Format (w : World) : Calls Tryd.prog 28 #[.int .i64 1000] w fun e w' => e = .returned (.tuple #[.string ⟨#[51, 48, 32, 100, 66]⟩, .int .i64 0]) ∧ Below w.heap.size w w' := by
  go_enter Tryd.func28, Tryd.ntmps28
  go_wp2_with (first | (go_at_call 13; refine (ex_Dec _).mono ?_; rintro e w' ⟨rfl, hb⟩) | (go_at_call 41; refine (ex_Itoa _).mono ?_; rintro e w' ⟨rfl, rfl⟩))
  go_ret2
  exact ⟨rfl, hb⟩
set_option maxHeartbeats 800000 in
set_option maxRecDepth 100000 in
theorem awake_any (w : World) : Calls Tryd.prog 11 #[] w fun e w' => e = .returned (.bool true) ∧ Below w.heap.size w w' := by
  have hb := Below.refl w.heap.size w
  go_enter Tryd.func11, Tryd.ntmps11
  go_wp2_with (first | (go_at_call 12; refine (ex_Level _).mono ?_; rintro e w' ⟨rfl, rfl⟩) | (go_at_call 13; refine (carry (ex_Decibels _) hb).mono ?_; rintro e w' ⟨rfl, hb⟩) | (go_at_call 23; refine (ex_Margin _).mono ?_; rintro e w' ⟨rfl, rfl⟩) | (go_at_call 25; refine (ex_Least _).mono ?_; rintro e w' ⟨rfl, rfl⟩) | (go_at_call 28; refine (carry (ex_Format _) hb).mono ?_; rintro e w' ⟨rfl, hb⟩))
  go_ret
  exact ⟨rfl, hb⟩
end Go.Proofs.YticgdbokflbjaaaDoor
