/-
  THE WALK OF PowerScales: it returns true, whatever the arguments; what lay in memory stays.
-/
import Derived.Test.YticgdbokflbjaaaDoorAwake
namespace Go.Proofs.YticgdbokflbjaaaDoor
open Go.RowKit

theorem Scale_lit (n f V E : Int) (hv : Pm.sclV n f = V) (he : Pm.sclE n f = E) (w : World) :
    Calls Tryd.prog 16 #[.int .i64 n, .int .i64 f] w fun e w' => e = .returned (.tuple #[.int .i64 V, .int .i64 E]) ∧ w = w' := by
  subst hv he; exact Scale_any n f w
theorem scl_ok (n f : Int) (hp : Pm.isP n = true) (h0 : 0 ≤ f) (h1 : f ≤ 1000) : Pm.sclV n f = n * f / 1000 ∧ Pm.sclE n f = 0 := by
  unfold Pm.sclV Pm.sclE; rw [if_pos ⟨hp, h0, h1⟩, if_pos ⟨hp, h0, h1⟩]; exact ⟨rfl, rfl⟩
theorem scl_no (n f : Int) (h : ¬ (Pm.isP n = true ∧ 0 ≤ f ∧ f ≤ 1000)) : Pm.sclV n f = 0 ∧ Pm.sclE n f = 2 := by
  unfold Pm.sclV Pm.sclE; rw [if_neg h, if_neg h]; exact ⟨rfl, rfl⟩
theorem scl_cases (n f : Int) : (Pm.sclE n f = 0 ∧ Pm.isP n = true ∧ 0 ≤ f ∧ f ≤ 1000) ∨ (Pm.sclE n f = 2 ∧ Pm.sclV n f = 0) := by
  by_cases h : Pm.isP n = true ∧ 0 ≤ f ∧ f ≤ 1000
  · exact .inl ⟨(scl_ok n f h.1 h.2.1 h.2.2).2, h⟩
  · exact .inr ⟨(scl_no n f h).2, (scl_no n f h).1⟩

set_option maxHeartbeats 1600000 in
set_option maxRecDepth 100000 in
/-- One of the two is refused. -/
theorem walk_Scales_no1 (a b f Y E : Int) (ha : Hid (Pm.sclV a f = 0 ∧ Pm.sclE a f = 2)) (hb : Hid (Pm.sclV b f = Y ∧ Pm.sclE b f = E)) (hY : Hid ((Y = 0 ∧ E = 2) ∨ E = 0)) (w : World) :
    Calls Tryd.prog 5 #[.int .i64 a, .int .i64 b, .int .i64 f] w fun e w' => e = .returned (.bool true) ∧ Below w.heap.size w w' := by
  have hbl := Below.refl w.heap.size w
  rcases hY.out with ⟨rfl, rfl⟩ | rfl
  all_goals
    go_enter Tryd.func5, Tryd.ntmps5
    go_wp2_with (go_at_call 11; refine (carry (awake_any _) hbl).mono ?_; rintro e w' ⟨rfl, hbl⟩)
    refine (Scale_lit _ _ 0 2 ha.out.1 ha.out.2 _).mono ?_
    rintro e w' ⟨rfl, rfl⟩
    go_wp2_with fail
    refine (Scale_lit _ _ _ _ hb.out.1 hb.out.2 _).mono ?_
    rintro e w' ⟨rfl, rfl⟩
    go_wp2_with fail
    go_ret
    exact ⟨rfl, hbl⟩
set_option maxHeartbeats 1600000 in
set_option maxRecDepth 100000 in
theorem walk_Scales_no2 (a b f X : Int) (ha : Hid (Pm.sclV a f = X ∧ Pm.sclE a f = 0)) (hb : Hid (Pm.sclV b f = 0 ∧ Pm.sclE b f = 2)) (w : World) :
    Calls Tryd.prog 5 #[.int .i64 a, .int .i64 b, .int .i64 f] w fun e w' => e = .returned (.bool true) ∧ Below w.heap.size w w' := by
  have hbl := Below.refl w.heap.size w
  go_enter Tryd.func5, Tryd.ntmps5
  go_wp2_with (go_at_call 11; refine (carry (awake_any _) hbl).mono ?_; rintro e w' ⟨rfl, hbl⟩)
  refine (Scale_lit _ _ X 0 ha.out.1 ha.out.2 _).mono ?_
  rintro e w' ⟨rfl, rfl⟩
  go_wp2_with fail
  refine (Scale_lit _ _ _ _ hb.out.1 hb.out.2 _).mono ?_
  rintro e w' ⟨rfl, rfl⟩
  go_wp2_with fail
  go_ret
  exact ⟨rfl, hbl⟩
set_option maxHeartbeats 1600000 in
set_option maxRecDepth 100000 in
theorem walk_Scales_ok (a b f X Y : Int) (ha : Hid (Pm.sclV a f = X ∧ Pm.sclE a f = 0)) (hb : Hid (Pm.sclV b f = Y ∧ Pm.sclE b f = 0)) (hp : Hid (Pm.isP a = true))
    (hX0 : 0 ≤ X) (hX1 : X ≤ a) (hXY : Hid (b < a ∨ (a ≤ b ∧ X ≤ Y))) (w : World) :
    Calls Tryd.prog 5 #[.int .i64 a, .int .i64 b, .int .i64 f] w fun e w' => e = .returned (.bool true) ∧ Below w.heap.size w w' := by
  have hbl := Below.refl w.heap.size w
  have hfull : Hid (Pm.sclV a 1000 = a ∧ Pm.sclE a 1000 = 0) := Lib.hid (by
    obtain ⟨h1, h2⟩ := scl_ok a 1000 hp.out (by omega) (by omega)
    exact ⟨by rw [h1]; omega, h2⟩)
  have hnone : Hid (Pm.sclV a 0 = 0 ∧ Pm.sclE a 0 = 0) := Lib.hid (by
    obtain ⟨h1, h2⟩ := scl_ok a 0 hp.out (by omega) (by omega)
    exact ⟨by rw [h1]; omega, h2⟩)
  rcases hXY.out with h | ⟨h, h'⟩
  all_goals
    go_enter Tryd.func5, Tryd.ntmps5
    go_wp2_with (go_at_call 11; refine (carry (awake_any _) hbl).mono ?_; rintro e w' ⟨rfl, hbl⟩)
    refine (Scale_lit _ _ X 0 ha.out.1 ha.out.2 _).mono ?_
    rintro e w' ⟨rfl, rfl⟩
    go_wp2_with fail
    refine (Scale_lit _ _ Y 0 hb.out.1 hb.out.2 _).mono ?_
    rintro e w' ⟨rfl, rfl⟩
    go_wp2_with fail
    refine (Scale_lit _ _ a 0 hfull.out.1 hfull.out.2 _).mono ?_
    rintro e w' ⟨rfl, rfl⟩
    go_wp2_with fail
    refine (Scale_lit _ _ 0 0 hnone.out.1 hnone.out.2 _).mono ?_
    rintro e w' ⟨rfl, rfl⟩
    go_wp2_with fail
    go_ret
    exact ⟨rfl, hbl⟩

theorem walk_Scales (a b f : Int) (w : World) :
    Calls Tryd.prog 5 #[.int .i64 a, .int .i64 b, .int .i64 f] w fun e w' => e = .returned (.bool true) ∧ Below w.heap.size w w' := by
  rcases scl_cases a f with ⟨ea, pa, f0, f1⟩ | ⟨ea, va⟩
  · rcases scl_cases b f with ⟨eb, pb, _, _⟩ | ⟨eb, vb⟩
    · have hia := (Pm.isP_iff a).1 pa
      have hib := (Pm.isP_iff b).1 pb
      have va := (scl_ok a f pa f0 f1).1
      have vb := (scl_ok b f pb f0 f1).1
      have h0 : 0 ≤ a * f := Int.mul_nonneg hia.1 f0
      have h1 : a * f ≤ a * 1000 := Int.mul_le_mul_of_nonneg_left f1 hia.1
      refine walk_Scales_ok a b f (a * f / 1000) (b * f / 1000) (Lib.hid ⟨va, ea⟩) (Lib.hid ⟨vb, eb⟩) (Lib.hid pa) (by omega) (by omega) (Lib.hid ?_) w
      by_cases h : b < a
      · exact .inl h
      · have h2 : a * f ≤ b * f := Int.mul_le_mul_of_nonneg_right (by omega) f0
        exact .inr ⟨by omega, by omega⟩
    · exact walk_Scales_no2 a b f _ (Lib.hid ⟨rfl, ea⟩) (Lib.hid ⟨vb, eb⟩) w
  · rcases scl_cases b f with ⟨eb, _, _, _⟩ | ⟨eb, vb⟩
    · exact walk_Scales_no1 a b f _ 0 (Lib.hid ⟨va, ea⟩) (Lib.hid ⟨rfl, eb⟩) (Lib.hid (.inr rfl)) w
    · exact walk_Scales_no1 a b f 0 2 (Lib.hid ⟨va, ea⟩) (Lib.hid ⟨vb, eb⟩) (Lib.hid (.inl ⟨rfl, rfl⟩)) w
end Go.Proofs.YticgdbokflbjaaaDoor
