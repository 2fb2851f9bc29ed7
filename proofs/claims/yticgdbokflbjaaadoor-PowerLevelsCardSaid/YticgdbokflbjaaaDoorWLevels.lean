/-
  THE WALKS OF THE LAWS: each call returns true, whatever the arguments; what lay in memory stays.
-/
import Derived.Test.YticgdbokflbjaaaDoorAwake
namespace Go.Proofs.YticgdbokflbjaaaDoor
open Go.RowKit
set_option maxHeartbeats 1600000 in
set_option maxRecDepth 100000 in
theorem walk_Levels (d u f : Int) (w : World) : Calls Tryd.prog 4 #[.int .i64 d, .int .i64 u, .int .i64 f] w fun e w' => e = .returned (.bool true) ∧ Below w.heap.size w w' := by
  have hb := Below.refl w.heap.size w
  go_enter Tryd.func4, Tryd.ntmps4
  go_wp2_with (first
    | (go_at_call 11; refine (carry (awake_any _) hb).mono ?_; rintro e w' ⟨rfl, hb⟩)
    | (go_at_call 12; refine (Level_any _ _).mono ?_; rintro e w' ⟨rfl, rfl⟩)
    | (go_at_call 14; refine (carry (rLevel_any _ _) hb).mono ?_; rintro e w' ⟨rfl, hb⟩)
    | (go_at_call 13; refine (carry (Decibels_any _ _) hb).mono ?_; rintro e w' ⟨rfl, hb⟩)
    | (go_at_call 15; refine (carry (rDecibels_any _ _) hb).mono ?_; rintro e w' ⟨rfl, hb⟩)
    | (go_at_call 16; refine (Scale_any _ _ _).mono ?_; rintro e w' ⟨rfl, rfl⟩)
    | (go_at_call 17; refine (rScale_any _ _ _).mono ?_; rintro e w' ⟨rfl, rfl⟩))
  go_ret
  exact ⟨rfl, hb⟩
end Go.Proofs.YticgdbokflbjaaaDoor
