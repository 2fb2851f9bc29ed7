/-
  CHAPTER 35, FLOWS: check, Check, Find; the periods.
-/
import Derived.Test.YtnddjcadkbjjhaaGreatDoorNf
namespace Go.Proofs.YtnddjcadkbjjhaaGreatDoor
open Go.RowKit

set_option maxHeartbeats 400000 in
theorem fnode_lit (x k : Int) (b : Nat) (r : Bool) (h : insB x k = r) (w : World) (hb : w.cell? ⟨b, 0, none⟩ = some (.int .i64 k)) : Calls Tryz.prog 117 #[.int .i64 x, .pointer (some ⟨b, 0, none⟩)] w fun e w' => e = .returned (.bool r) ∧ w = w' := by
  subst h
  by_cases h0 : 0 ≤ x
  · have e : insB x k = decide (x < k) := by unfold insB; simp [h0]
    rw [e]
    clear e
    go_enter Tryz.func117, Tryz.ntmps117
    go_wp2
    go_ret
    exact ⟨rfl, rfl⟩
  · have e : insB x k = false := by unfold insB; simp [h0]
    rw [e]
    clear e
    go_enter Tryz.func117, Tryz.ntmps117
    go_wp2
    go_ret
    exact ⟨rfl, rfl⟩
def okF (k : Int) (f : F6) : Bool := decide (0 ≤ f.i) && decide (f.i ≤ 255) && insB f.f k && insB f.t k && decide (1 ≤ f.p) && decide (f.p ≤ 512) && decide (0 ≤ f.h) && decide (f.h < f.p) && decide (1 ≤ f.d) && decide (f.d ≤ f.p)
def flowE (k : Int) (f : F6) : Int := if okF k f = false then 2 else if f.f = f.t then 1 else 0
theorem okF_iff {k : Int} {f : F6} : okF k f = true ↔ 0 ≤ f.i ∧ f.i ≤ 255 ∧ insB f.f k = true ∧ insB f.t k = true ∧ 1 ≤ f.p ∧ f.p ≤ 512 ∧ 0 ≤ f.h ∧ f.h < f.p ∧ 1 ≤ f.d ∧ f.d ≤ f.p := by
  unfold okF
  simp only [Bool.and_eq_true, decide_eq_true_eq, and_assoc]
theorem twoF (k : Int) (f : F6) (w : World) : Below w.heap.size w ((w.alloc (.cells #[.int .i64 k] 3)).alloc (OF6 f)) ∧ ((w.alloc (.cells #[.int .i64 k] 3)).alloc (OF6 f)).cell? ⟨w.heap.size, 0, none⟩ = some (.int .i64 k) ∧ BoxF6 ((w.alloc (.cells #[.int .i64 k] 3)).alloc (OF6 f)) (w.heap.size + 1) f := by
  refine ⟨bstep (alloc_below _ _) (alloc_below _ _) (Nat.le_refl _), by simp [go_sem], ?_⟩
  have := BoxF6.new f (w.alloc (.cells #[.int .i64 k] 3))
  rwa [World.size_alloc] at this
set_option maxHeartbeats 1600000 in
set_option maxRecDepth 100000 in
theorem fl_0 (k : Int) (f : F6) (g0 : f.i < 0) (w : World) :
    Calls Tryz.prog 82 #[.int .i64 k, .agg #[.int .i64 f.i, .int .i64 f.f, .int .i64 f.t, .int .i64 f.p, .int .i64 f.h, .int .i64 f.d]] w fun e w' => e = .returned (.int .i64 2) ∧ Below w.heap.size w w' := by
  obtain ⟨hb0, hk0, hF0⟩ := twoF k f w
  go_enter Tryz.func82, Tryz.ntmps82
  go_upto_region 1 with fail
  revert hb0 hk0 hF0
  generalize (w.alloc (.cells #[.int .i64 k] 3)).alloc (OF6 f) = w0
  intro hb0 hk0 hF0
  obtain ⟨f0, f1, f2, f3, f4, f5⟩ := hF0
  go_wp2_with fail
  go_ret
  exact ⟨rfl, hb0⟩
set_option maxHeartbeats 1600000 in
set_option maxRecDepth 100000 in
theorem fl_1 (k : Int) (f : F6) (g0 : 0 ≤ f.i) (g1 : 255 < f.i) (w : World) :
    Calls Tryz.prog 82 #[.int .i64 k, .agg #[.int .i64 f.i, .int .i64 f.f, .int .i64 f.t, .int .i64 f.p, .int .i64 f.h, .int .i64 f.d]] w fun e w' => e = .returned (.int .i64 2) ∧ Below w.heap.size w w' := by
  obtain ⟨hb0, hk0, hF0⟩ := twoF k f w
  go_enter Tryz.func82, Tryz.ntmps82
  go_upto_region 1 with fail
  revert hb0 hk0 hF0
  generalize (w.alloc (.cells #[.int .i64 k] 3)).alloc (OF6 f) = w0
  intro hb0 hk0 hF0
  obtain ⟨f0, f1, f2, f3, f4, f5⟩ := hF0
  go_wp2_with fail
  go_ret
  exact ⟨rfl, hb0⟩
set_option maxHeartbeats 1600000 in
set_option maxRecDepth 100000 in
theorem fl_2 (k : Int) (f : F6) (g0 : 0 ≤ f.i) (g1 : f.i ≤ 255) (g2 : Hid (insB f.f k = false)) (w : World) :
    Calls Tryz.prog 82 #[.int .i64 k, .agg #[.int .i64 f.i, .int .i64 f.f, .int .i64 f.t, .int .i64 f.p, .int .i64 f.h, .int .i64 f.d]] w fun e w' => e = .returned (.int .i64 2) ∧ Below w.heap.size w w' := by
  obtain ⟨hb0, hk0, hF0⟩ := twoF k f w
  go_enter Tryz.func82, Tryz.ntmps82
  go_upto_region 1 with fail
  revert hb0 hk0 hF0
  generalize (w.alloc (.cells #[.int .i64 k] 3)).alloc (OF6 f) = w0
  intro hb0 hk0 hF0
  obtain ⟨f0, f1, f2, f3, f4, f5⟩ := hF0
  go_wp2_with fail
  refine (fnode_lit f.f k w.heap.size false g2.out _ hk0).mono ?_
  rintro e w' ⟨rfl, rfl⟩
  go_wp2_with fail
  go_ret
  exact ⟨rfl, hb0⟩
set_option maxHeartbeats 1600000 in
set_option maxRecDepth 100000 in
theorem fl_3 (k : Int) (f : F6) (g0 : 0 ≤ f.i) (g1 : f.i ≤ 255) (g2 : Hid (insB f.f k = true)) (g3 : Hid (insB f.t k = false)) (w : World) :
    Calls Tryz.prog 82 #[.int .i64 k, .agg #[.int .i64 f.i, .int .i64 f.f, .int .i64 f.t, .int .i64 f.p, .int .i64 f.h, .int .i64 f.d]] w fun e w' => e = .returned (.int .i64 2) ∧ Below w.heap.size w w' := by
  obtain ⟨hb0, hk0, hF0⟩ := twoF k f w
  go_enter Tryz.func82, Tryz.ntmps82
  go_upto_region 1 with fail
  revert hb0 hk0 hF0
  generalize (w.alloc (.cells #[.int .i64 k] 3)).alloc (OF6 f) = w0
  intro hb0 hk0 hF0
  obtain ⟨f0, f1, f2, f3, f4, f5⟩ := hF0
  go_wp2_with fail
  refine (fnode_lit f.f k w.heap.size true g2.out _ hk0).mono ?_
  rintro e w' ⟨rfl, rfl⟩
  go_wp2_with fail
  refine (fnode_lit f.t k w.heap.size false g3.out _ hk0).mono ?_
  rintro e w' ⟨rfl, rfl⟩
  go_wp2_with fail
  go_ret
  exact ⟨rfl, hb0⟩
set_option maxHeartbeats 1600000 in
set_option maxRecDepth 100000 in
theorem fl_4 (k : Int) (f : F6) (g0 : 0 ≤ f.i) (g1 : f.i ≤ 255) (g2 : Hid (insB f.f k = true)) (g3 : Hid (insB f.t k = true)) (g4 : f.p < 1) (w : World) :
    Calls Tryz.prog 82 #[.int .i64 k, .agg #[.int .i64 f.i, .int .i64 f.f, .int .i64 f.t, .int .i64 f.p, .int .i64 f.h, .int .i64 f.d]] w fun e w' => e = .returned (.int .i64 2) ∧ Below w.heap.size w w' := by
  obtain ⟨hb0, hk0, hF0⟩ := twoF k f w
  go_enter Tryz.func82, Tryz.ntmps82
  go_upto_region 1 with fail
  revert hb0 hk0 hF0
  generalize (w.alloc (.cells #[.int .i64 k] 3)).alloc (OF6 f) = w0
  intro hb0 hk0 hF0
  obtain ⟨f0, f1, f2, f3, f4, f5⟩ := hF0
  go_wp2_with fail
  refine (fnode_lit f.f k w.heap.size true g2.out _ hk0).mono ?_
  rintro e w' ⟨rfl, rfl⟩
  go_wp2_with fail
  refine (fnode_lit f.t k w.heap.size true g3.out _ hk0).mono ?_
  rintro e w' ⟨rfl, rfl⟩
  go_wp2_with fail
  go_ret
  exact ⟨rfl, hb0⟩
set_option maxHeartbeats 1600000 in
set_option maxRecDepth 100000 in
theorem fl_5 (k : Int) (f : F6) (g0 : 0 ≤ f.i) (g1 : f.i ≤ 255) (g2 : Hid (insB f.f k = true)) (g3 : Hid (insB f.t k = true)) (g4 : 1 ≤ f.p) (g5 : 512 < f.p) (w : World) :
    Calls Tryz.prog 82 #[.int .i64 k, .agg #[.int .i64 f.i, .int .i64 f.f, .int .i64 f.t, .int .i64 f.p, .int .i64 f.h, .int .i64 f.d]] w fun e w' => e = .returned (.int .i64 2) ∧ Below w.heap.size w w' := by
  obtain ⟨hb0, hk0, hF0⟩ := twoF k f w
  go_enter Tryz.func82, Tryz.ntmps82
  go_upto_region 1 with fail
  revert hb0 hk0 hF0
  generalize (w.alloc (.cells #[.int .i64 k] 3)).alloc (OF6 f) = w0
  intro hb0 hk0 hF0
  obtain ⟨f0, f1, f2, f3, f4, f5⟩ := hF0
  go_wp2_with fail
  refine (fnode_lit f.f k w.heap.size true g2.out _ hk0).mono ?_
  rintro e w' ⟨rfl, rfl⟩
  go_wp2_with fail
  refine (fnode_lit f.t k w.heap.size true g3.out _ hk0).mono ?_
  rintro e w' ⟨rfl, rfl⟩
  go_wp2_with fail
  go_ret
  exact ⟨rfl, hb0⟩
set_option maxHeartbeats 1600000 in
set_option maxRecDepth 100000 in
theorem fl_6 (k : Int) (f : F6) (g0 : 0 ≤ f.i) (g1 : f.i ≤ 255) (g2 : Hid (insB f.f k = true)) (g3 : Hid (insB f.t k = true)) (g4 : 1 ≤ f.p) (g5 : f.p ≤ 512) (g6 : f.h < 0) (w : World) :
    Calls Tryz.prog 82 #[.int .i64 k, .agg #[.int .i64 f.i, .int .i64 f.f, .int .i64 f.t, .int .i64 f.p, .int .i64 f.h, .int .i64 f.d]] w fun e w' => e = .returned (.int .i64 2) ∧ Below w.heap.size w w' := by
  obtain ⟨hb0, hk0, hF0⟩ := twoF k f w
  go_enter Tryz.func82, Tryz.ntmps82
  go_upto_region 1 with fail
  revert hb0 hk0 hF0
  generalize (w.alloc (.cells #[.int .i64 k] 3)).alloc (OF6 f) = w0
  intro hb0 hk0 hF0
  obtain ⟨f0, f1, f2, f3, f4, f5⟩ := hF0
  go_wp2_with fail
  refine (fnode_lit f.f k w.heap.size true g2.out _ hk0).mono ?_
  rintro e w' ⟨rfl, rfl⟩
  go_wp2_with fail
  refine (fnode_lit f.t k w.heap.size true g3.out _ hk0).mono ?_
  rintro e w' ⟨rfl, rfl⟩
  go_wp2_with fail
  go_ret
  exact ⟨rfl, hb0⟩
set_option maxHeartbeats 1600000 in
set_option maxRecDepth 100000 in
theorem fl_7 (k : Int) (f : F6) (g0 : 0 ≤ f.i) (g1 : f.i ≤ 255) (g2 : Hid (insB f.f k = true)) (g3 : Hid (insB f.t k = true)) (g4 : 1 ≤ f.p) (g5 : f.p ≤ 512) (g6 : 0 ≤ f.h) (g7 : f.p ≤ f.h) (w : World) :
    Calls Tryz.prog 82 #[.int .i64 k, .agg #[.int .i64 f.i, .int .i64 f.f, .int .i64 f.t, .int .i64 f.p, .int .i64 f.h, .int .i64 f.d]] w fun e w' => e = .returned (.int .i64 2) ∧ Below w.heap.size w w' := by
  obtain ⟨hb0, hk0, hF0⟩ := twoF k f w
  go_enter Tryz.func82, Tryz.ntmps82
  go_upto_region 1 with fail
  revert hb0 hk0 hF0
  generalize (w.alloc (.cells #[.int .i64 k] 3)).alloc (OF6 f) = w0
  intro hb0 hk0 hF0
  obtain ⟨f0, f1, f2, f3, f4, f5⟩ := hF0
  go_wp2_with fail
  refine (fnode_lit f.f k w.heap.size true g2.out _ hk0).mono ?_
  rintro e w' ⟨rfl, rfl⟩
  go_wp2_with fail
  refine (fnode_lit f.t k w.heap.size true g3.out _ hk0).mono ?_
  rintro e w' ⟨rfl, rfl⟩
  go_wp2_with fail
  go_ret
  exact ⟨rfl, hb0⟩
set_option maxHeartbeats 1600000 in
set_option maxRecDepth 100000 in
theorem fl_8 (k : Int) (f : F6) (g0 : 0 ≤ f.i) (g1 : f.i ≤ 255) (g2 : Hid (insB f.f k = true)) (g3 : Hid (insB f.t k = true)) (g4 : 1 ≤ f.p) (g5 : f.p ≤ 512) (g6 : 0 ≤ f.h) (g7 : f.h < f.p) (g8 : f.d < 1) (w : World) :
    Calls Tryz.prog 82 #[.int .i64 k, .agg #[.int .i64 f.i, .int .i64 f.f, .int .i64 f.t, .int .i64 f.p, .int .i64 f.h, .int .i64 f.d]] w fun e w' => e = .returned (.int .i64 2) ∧ Below w.heap.size w w' := by
  obtain ⟨hb0, hk0, hF0⟩ := twoF k f w
  go_enter Tryz.func82, Tryz.ntmps82
  go_upto_region 1 with fail
  revert hb0 hk0 hF0
  generalize (w.alloc (.cells #[.int .i64 k] 3)).alloc (OF6 f) = w0
  intro hb0 hk0 hF0
  obtain ⟨f0, f1, f2, f3, f4, f5⟩ := hF0
  go_wp2_with fail
  refine (fnode_lit f.f k w.heap.size true g2.out _ hk0).mono ?_
  rintro e w' ⟨rfl, rfl⟩
  go_wp2_with fail
  refine (fnode_lit f.t k w.heap.size true g3.out _ hk0).mono ?_
  rintro e w' ⟨rfl, rfl⟩
  go_wp2_with fail
  go_ret
  exact ⟨rfl, hb0⟩
set_option maxHeartbeats 1600000 in
set_option maxRecDepth 100000 in
theorem fl_9 (k : Int) (f : F6) (g0 : 0 ≤ f.i) (g1 : f.i ≤ 255) (g2 : Hid (insB f.f k = true)) (g3 : Hid (insB f.t k = true)) (g4 : 1 ≤ f.p) (g5 : f.p ≤ 512) (g6 : 0 ≤ f.h) (g7 : f.h < f.p) (g8 : 1 ≤ f.d) (g9 : f.p < f.d) (w : World) :
    Calls Tryz.prog 82 #[.int .i64 k, .agg #[.int .i64 f.i, .int .i64 f.f, .int .i64 f.t, .int .i64 f.p, .int .i64 f.h, .int .i64 f.d]] w fun e w' => e = .returned (.int .i64 2) ∧ Below w.heap.size w w' := by
  obtain ⟨hb0, hk0, hF0⟩ := twoF k f w
  go_enter Tryz.func82, Tryz.ntmps82
  go_upto_region 1 with fail
  revert hb0 hk0 hF0
  generalize (w.alloc (.cells #[.int .i64 k] 3)).alloc (OF6 f) = w0
  intro hb0 hk0 hF0
  obtain ⟨f0, f1, f2, f3, f4, f5⟩ := hF0
  go_wp2_with fail
  refine (fnode_lit f.f k w.heap.size true g2.out _ hk0).mono ?_
  rintro e w' ⟨rfl, rfl⟩
  go_wp2_with fail
  refine (fnode_lit f.t k w.heap.size true g3.out _ hk0).mono ?_
  rintro e w' ⟨rfl, rfl⟩
  go_wp2_with fail
  go_ret
  exact ⟨rfl, hb0⟩
set_option maxHeartbeats 1600000 in
set_option maxRecDepth 100000 in
theorem fl_10 (k : Int) (f : F6) (g0 : 0 ≤ f.i) (g1 : f.i ≤ 255) (g2 : Hid (insB f.f k = true)) (g3 : Hid (insB f.t k = true)) (g4 : 1 ≤ f.p) (g5 : f.p ≤ 512) (g6 : 0 ≤ f.h) (g7 : f.h < f.p) (g8 : 1 ≤ f.d) (g9 : f.d ≤ f.p) (he : (f.f == f.t) = true) (w : World) :
    Calls Tryz.prog 82 #[.int .i64 k, .agg #[.int .i64 f.i, .int .i64 f.f, .int .i64 f.t, .int .i64 f.p, .int .i64 f.h, .int .i64 f.d]] w fun e w' => e = .returned (.int .i64 1) ∧ Below w.heap.size w w' := by
  obtain ⟨hb0, hk0, hF0⟩ := twoF k f w
  go_enter Tryz.func82, Tryz.ntmps82
  go_upto_region 1 with fail
  revert hb0 hk0 hF0
  generalize (w.alloc (.cells #[.int .i64 k] 3)).alloc (OF6 f) = w0
  intro hb0 hk0 hF0
  obtain ⟨f0, f1, f2, f3, f4, f5⟩ := hF0
  go_wp2_with fail
  refine (fnode_lit f.f k w.heap.size true g2.out _ hk0).mono ?_
  rintro e w' ⟨rfl, rfl⟩
  go_wp2_with fail
  refine (fnode_lit f.t k w.heap.size true g3.out _ hk0).mono ?_
  rintro e w' ⟨rfl, rfl⟩
  go_wp2_with fail
  go_ret
  exact ⟨rfl, hb0⟩
set_option maxHeartbeats 1600000 in
set_option maxRecDepth 100000 in
theorem fl_11 (k : Int) (f : F6) (g0 : 0 ≤ f.i) (g1 : f.i ≤ 255) (g2 : Hid (insB f.f k = true)) (g3 : Hid (insB f.t k = true)) (g4 : 1 ≤ f.p) (g5 : f.p ≤ 512) (g6 : 0 ≤ f.h) (g7 : f.h < f.p) (g8 : 1 ≤ f.d) (g9 : f.d ≤ f.p) (he : (f.f == f.t) = false) (w : World) :
    Calls Tryz.prog 82 #[.int .i64 k, .agg #[.int .i64 f.i, .int .i64 f.f, .int .i64 f.t, .int .i64 f.p, .int .i64 f.h, .int .i64 f.d]] w fun e w' => e = .returned (.int .i64 0) ∧ Below w.heap.size w w' := by
  obtain ⟨hb0, hk0, hF0⟩ := twoF k f w
  go_enter Tryz.func82, Tryz.ntmps82
  go_upto_region 1 with fail
  revert hb0 hk0 hF0
  generalize (w.alloc (.cells #[.int .i64 k] 3)).alloc (OF6 f) = w0
  intro hb0 hk0 hF0
  obtain ⟨f0, f1, f2, f3, f4, f5⟩ := hF0
  go_wp2_with fail
  refine (fnode_lit f.f k w.heap.size true g2.out _ hk0).mono ?_
  rintro e w' ⟨rfl, rfl⟩
  go_wp2_with fail
  refine (fnode_lit f.t k w.heap.size true g3.out _ hk0).mono ?_
  rintro e w' ⟨rfl, rfl⟩
  go_wp2_with fail
  go_ret
  exact ⟨rfl, hb0⟩
/-- flow.check. -/
theorem flow_lit (k : Int) (f : F6) (r : Int) (hr : flowE k f = r) (w : World) :
    Calls Tryz.prog 82 #[.int .i64 k, .agg #[.int .i64 f.i, .int .i64 f.f, .int .i64 f.t, .int .i64 f.p, .int .i64 f.h, .int .i64 f.d]] w fun e w' => e = .returned (.int .i64 r) ∧ Below w.heap.size w w' := by
  subst hr
  unfold flowE
  by_cases g0' : f.i < 0
  · have g0 := g0'
    rw [if_pos (by rw [← Bool.not_eq_true, okF_iff]; omega)]
    exact fl_0 k f g0 w
  have g0 : 0 ≤ f.i := by omega
  by_cases g1' : 255 < f.i
  · have g1 := g1'
    rw [if_pos (by rw [← Bool.not_eq_true, okF_iff]; omega)]
    exact fl_1 k f g0 g1 w
  have g1 : f.i ≤ 255 := by omega
  cases g2 : insB f.f k
  · rw [if_pos (by rw [← Bool.not_eq_true, okF_iff]; simp [g2])]
    exact fl_2 k f g0 g1 (Lib.hid g2) w
  cases g3 : insB f.t k
  · rw [if_pos (by rw [← Bool.not_eq_true, okF_iff]; simp [g3])]
    exact fl_3 k f g0 g1 (Lib.hid g2) (Lib.hid g3) w
  by_cases g4' : f.p < 1
  · have g4 := g4'
    rw [if_pos (by rw [← Bool.not_eq_true, okF_iff]; omega)]
    exact fl_4 k f g0 g1 (Lib.hid g2) (Lib.hid g3) g4 w
  have g4 : 1 ≤ f.p := by omega
  by_cases g5' : 512 < f.p
  · have g5 := g5'
    rw [if_pos (by rw [← Bool.not_eq_true, okF_iff]; omega)]
    exact fl_5 k f g0 g1 (Lib.hid g2) (Lib.hid g3) g4 g5 w
  have g5 : f.p ≤ 512 := by omega
  by_cases g6' : f.h < 0
  · have g6 := g6'
    rw [if_pos (by rw [← Bool.not_eq_true, okF_iff]; omega)]
    exact fl_6 k f g0 g1 (Lib.hid g2) (Lib.hid g3) g4 g5 g6 w
  have g6 : 0 ≤ f.h := by omega
  by_cases g7' : f.p ≤ f.h
  · have g7 := g7'
    rw [if_pos (by rw [← Bool.not_eq_true, okF_iff]; omega)]
    exact fl_7 k f g0 g1 (Lib.hid g2) (Lib.hid g3) g4 g5 g6 g7 w
  have g7 : f.h < f.p := by omega
  by_cases g8' : f.d < 1
  · have g8 := g8'
    rw [if_pos (by rw [← Bool.not_eq_true, okF_iff]; omega)]
    exact fl_8 k f g0 g1 (Lib.hid g2) (Lib.hid g3) g4 g5 g6 g7 g8 w
  have g8 : 1 ≤ f.d := by omega
  by_cases g9' : f.p < f.d
  · have g9 := g9'
    rw [if_pos (by rw [← Bool.not_eq_true, okF_iff]; omega)]
    exact fl_9 k f g0 g1 (Lib.hid g2) (Lib.hid g3) g4 g5 g6 g7 g8 g9 w
  have g9 : f.d ≤ f.p := by omega
  rw [if_neg (by rw [okF_iff.2 ⟨g0, g1, g2, g3, g4, g5, g6, g7, g8, g9⟩]; simp)]
  by_cases he : f.f = f.t
  · rw [if_pos he]
    exact fl_10 k f g0 g1 (Lib.hid g2) (Lib.hid g3) g4 g5 g6 g7 g8 g9 (by simpa using he) w
  · rw [if_neg he]
    exact fl_11 k f g0 g1 (Lib.hid g2) (Lib.hid g3) g4 g5 g6 g7 g8 g9 (by simpa using he) w
end Go.Proofs.YtnddjcadkbjjhaaGreatDoor
