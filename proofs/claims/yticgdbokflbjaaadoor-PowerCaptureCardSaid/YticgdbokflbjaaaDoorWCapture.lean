/-
  THE WALK OF PowerCapture: it returns true, whatever the arguments; what lay in memory stays.
-/
import Derived.Test.YticgdbokflbjaaaDoorFns6
namespace Go.Proofs.YticgdbokflbjaaaDoor
open Go.RowKit

theorem sumV_one (b : Int) (h : Pm.sumE [b] = 0) : Pm.sumV [b] = b := by
  unfold Pm.sumE at h
  rw [if_neg (by simp)] at h
  split at h
  · next ha =>
    unfold Pm.sumV
    rw [if_pos ⟨by simp, ha⟩]; simp [Pm.tot]
  · cases h
theorem not_both (a b t n : Int) (h1 : Pm.rcvV a t n [b] = true) (h2 : Pm.rcvV b t n [a] = true) : False := by
  obtain ⟨e1, p1, c1, l1⟩ := rcv_true a t n [b] h1
  obtain ⟨e2, p2, c2, l2⟩ := rcv_true b t n [a] h2
  have hs1 : Pm.sumE [b] = 0 := by unfold Pm.rcvE at e1; rwa [if_pos ⟨p1, c1⟩] at e1
  have hs2 : Pm.sumE [a] = 0 := by unfold Pm.rcvE at e2; rwa [if_pos ⟨p2, c2⟩] at e2
  rw [sumV_one b hs1] at l1
  rw [sumV_one a hs2] at l2
  obtain ⟨t0, t1, n0, n1⟩ := (Pm.condB_iff t n).1 c1
  have a0 := (Pm.isP_iff a).1 p1
  have b0 := (Pm.isP_iff b).1 p2
  have m1 : 1000 * (n + b) ≤ t * (n + b) := Int.mul_le_mul_of_nonneg_right t0 (by omega)
  have m2 : 1000 * (n + a) ≤ t * (n + a) := Int.mul_le_mul_of_nonneg_right t0 (by omega)
  omega
theorem reads_one (w : World) (g : Nat) (x : Int) (hg : g < w.heap.size) (hc : w.cell? ⟨g, 0, none⟩ = some (.int .i64 x)) : Reads w w.heap.size (some ⟨g, 0, none⟩) 1 [x] := by
  refine ⟨rfl, fun _ => ⟨g, 0, rfl, hg, fun j y hy => ?_⟩⟩
  obtain ⟨hj, e⟩ := List.getElem?_eq_some_iff.1 hy
  have : j = 0 := by simpa using hj
  subst this
  rw [← e]; exact hc
theorem box2 {w w1 : World} (t n : Int) (hb1 : Below (w.alloc (.cells #[.int .i64 t, .int .i64 n] 29)).heap.size (w.alloc (.cells #[.int .i64 t, .int .i64 n] 29)) w1) :
    w1.cell? ⟨w.heap.size, 0, none⟩ = some (.int .i64 t) ∧ w1.cell? ⟨w.heap.size, 1, none⟩ = some (.int .i64 n) ∧ w.heap.size < w1.heap.size := by
  refine ⟨(hb1.cell (p := ⟨w.heap.size, 0, none⟩) (by simp)).trans ?_, (hb1.cell (p := ⟨w.heap.size, 1, none⟩) (by simp)).trans ?_, ?_⟩
  · rw [World.cell?_alloc_at _ _ _ _ (by simp)]; rfl
  · rw [World.cell?_alloc_at _ _ _ _ (by simp)]; rfl
  · have := hb1.size; simp at this; omega
set_option maxHeartbeats 1600000 in
set_option maxRecDepth 100000 in
theorem walk_Capture_true0_false0 (a b t n : Int) (hx : Hid (Pm.rcvV a t n [b] = true ∧ Pm.rcvE a t n [b] = 0)) (hy : Hid (Pm.rcvV b t n [a] = false ∧ Pm.rcvE b t n [a] = 0)) (w : World) :
    Calls Tryd.prog 6 #[.int .i64 a, .int .i64 b, .agg #[.int .i64 t, .int .i64 n]] w fun e w' => e = .returned (.bool true) ∧ Below w.heap.size w w' := by
  go_enter Tryd.func6, Tryd.ntmps6
  go_wp2_with (go_at_call 11; refine (awake_any _).mono ?_; rintro e w1 ⟨rfl, hb1⟩; obtain ⟨c0, c1, hz⟩ := box2 t n hb1)
  refine (Received_lit a t n _ 1 1 _ [b] _ _ hx.out.1 hx.out.2 _ (reads_one _ w1.heap.size b (by simp) (by simp))).mono ?_
  rintro e w' ⟨rfl, rfl⟩
  go_wp2_with fail
  refine (Received_lit b t n _ 1 1 _ [a] _ _ hy.out.1 hy.out.2 _ (reads_one _ (w1.heap.size + 1) a (by simp) (by simp))).mono ?_
  rintro e w' ⟨rfl, rfl⟩
  go_wp2_with fail
  go_ret
  exact ⟨rfl, (((((Below.refl w.heap.size w).alloc (Nat.le_refl _) _).trans (hb1.mono (by simp))).alloc (by omega) _).alloc (by simp; omega) _)⟩
set_option maxHeartbeats 1600000 in
set_option maxRecDepth 100000 in
theorem walk_Capture_true0_false2 (a b t n : Int) (hx : Hid (Pm.rcvV a t n [b] = true ∧ Pm.rcvE a t n [b] = 0)) (hy : Hid (Pm.rcvV b t n [a] = false ∧ Pm.rcvE b t n [a] = 2)) (w : World) :
    Calls Tryd.prog 6 #[.int .i64 a, .int .i64 b, .agg #[.int .i64 t, .int .i64 n]] w fun e w' => e = .returned (.bool true) ∧ Below w.heap.size w w' := by
  go_enter Tryd.func6, Tryd.ntmps6
  go_wp2_with (go_at_call 11; refine (awake_any _).mono ?_; rintro e w1 ⟨rfl, hb1⟩; obtain ⟨c0, c1, hz⟩ := box2 t n hb1)
  refine (Received_lit a t n _ 1 1 _ [b] _ _ hx.out.1 hx.out.2 _ (reads_one _ w1.heap.size b (by simp) (by simp))).mono ?_
  rintro e w' ⟨rfl, rfl⟩
  go_wp2_with fail
  refine (Received_lit b t n _ 1 1 _ [a] _ _ hy.out.1 hy.out.2 _ (reads_one _ (w1.heap.size + 1) a (by simp) (by simp))).mono ?_
  rintro e w' ⟨rfl, rfl⟩
  go_wp2_with fail
  go_ret
  exact ⟨rfl, (((((Below.refl w.heap.size w).alloc (Nat.le_refl _) _).trans (hb1.mono (by simp))).alloc (by omega) _).alloc (by simp; omega) _)⟩
set_option maxHeartbeats 1600000 in
set_option maxRecDepth 100000 in
theorem walk_Capture_true0_false8 (a b t n : Int) (hx : Hid (Pm.rcvV a t n [b] = true ∧ Pm.rcvE a t n [b] = 0)) (hy : Hid (Pm.rcvV b t n [a] = false ∧ Pm.rcvE b t n [a] = 8)) (w : World) :
    Calls Tryd.prog 6 #[.int .i64 a, .int .i64 b, .agg #[.int .i64 t, .int .i64 n]] w fun e w' => e = .returned (.bool true) ∧ Below w.heap.size w w' := by
  go_enter Tryd.func6, Tryd.ntmps6
  go_wp2_with (go_at_call 11; refine (awake_any _).mono ?_; rintro e w1 ⟨rfl, hb1⟩; obtain ⟨c0, c1, hz⟩ := box2 t n hb1)
  refine (Received_lit a t n _ 1 1 _ [b] _ _ hx.out.1 hx.out.2 _ (reads_one _ w1.heap.size b (by simp) (by simp))).mono ?_
  rintro e w' ⟨rfl, rfl⟩
  go_wp2_with fail
  refine (Received_lit b t n _ 1 1 _ [a] _ _ hy.out.1 hy.out.2 _ (reads_one _ (w1.heap.size + 1) a (by simp) (by simp))).mono ?_
  rintro e w' ⟨rfl, rfl⟩
  go_wp2_with fail
  go_ret
  exact ⟨rfl, (((((Below.refl w.heap.size w).alloc (Nat.le_refl _) _).trans (hb1.mono (by simp))).alloc (by omega) _).alloc (by simp; omega) _)⟩
set_option maxHeartbeats 1600000 in
set_option maxRecDepth 100000 in
theorem walk_Capture_false0_true0 (a b t n : Int) (hx : Hid (Pm.rcvV a t n [b] = false ∧ Pm.rcvE a t n [b] = 0)) (hy : Hid (Pm.rcvV b t n [a] = true ∧ Pm.rcvE b t n [a] = 0)) (w : World) :
    Calls Tryd.prog 6 #[.int .i64 a, .int .i64 b, .agg #[.int .i64 t, .int .i64 n]] w fun e w' => e = .returned (.bool true) ∧ Below w.heap.size w w' := by
  go_enter Tryd.func6, Tryd.ntmps6
  go_wp2_with (go_at_call 11; refine (awake_any _).mono ?_; rintro e w1 ⟨rfl, hb1⟩; obtain ⟨c0, c1, hz⟩ := box2 t n hb1)
  refine (Received_lit a t n _ 1 1 _ [b] _ _ hx.out.1 hx.out.2 _ (reads_one _ w1.heap.size b (by simp) (by simp))).mono ?_
  rintro e w' ⟨rfl, rfl⟩
  go_wp2_with fail
  refine (Received_lit b t n _ 1 1 _ [a] _ _ hy.out.1 hy.out.2 _ (reads_one _ (w1.heap.size + 1) a (by simp) (by simp))).mono ?_
  rintro e w' ⟨rfl, rfl⟩
  go_wp2_with fail
  go_ret
  exact ⟨rfl, (((((Below.refl w.heap.size w).alloc (Nat.le_refl _) _).trans (hb1.mono (by simp))).alloc (by omega) _).alloc (by simp; omega) _)⟩
set_option maxHeartbeats 1600000 in
set_option maxRecDepth 100000 in
theorem walk_Capture_false0_false0 (a b t n : Int) (hx : Hid (Pm.rcvV a t n [b] = false ∧ Pm.rcvE a t n [b] = 0)) (hy : Hid (Pm.rcvV b t n [a] = false ∧ Pm.rcvE b t n [a] = 0)) (w : World) :
    Calls Tryd.prog 6 #[.int .i64 a, .int .i64 b, .agg #[.int .i64 t, .int .i64 n]] w fun e w' => e = .returned (.bool true) ∧ Below w.heap.size w w' := by
  go_enter Tryd.func6, Tryd.ntmps6
  go_wp2_with (go_at_call 11; refine (awake_any _).mono ?_; rintro e w1 ⟨rfl, hb1⟩; obtain ⟨c0, c1, hz⟩ := box2 t n hb1)
  refine (Received_lit a t n _ 1 1 _ [b] _ _ hx.out.1 hx.out.2 _ (reads_one _ w1.heap.size b (by simp) (by simp))).mono ?_
  rintro e w' ⟨rfl, rfl⟩
  go_wp2_with fail
  refine (Received_lit b t n _ 1 1 _ [a] _ _ hy.out.1 hy.out.2 _ (reads_one _ (w1.heap.size + 1) a (by simp) (by simp))).mono ?_
  rintro e w' ⟨rfl, rfl⟩
  go_wp2_with fail
  go_ret
  exact ⟨rfl, (((((Below.refl w.heap.size w).alloc (Nat.le_refl _) _).trans (hb1.mono (by simp))).alloc (by omega) _).alloc (by simp; omega) _)⟩
set_option maxHeartbeats 1600000 in
set_option maxRecDepth 100000 in
theorem walk_Capture_false0_false2 (a b t n : Int) (hx : Hid (Pm.rcvV a t n [b] = false ∧ Pm.rcvE a t n [b] = 0)) (hy : Hid (Pm.rcvV b t n [a] = false ∧ Pm.rcvE b t n [a] = 2)) (w : World) :
    Calls Tryd.prog 6 #[.int .i64 a, .int .i64 b, .agg #[.int .i64 t, .int .i64 n]] w fun e w' => e = .returned (.bool true) ∧ Below w.heap.size w w' := by
  go_enter Tryd.func6, Tryd.ntmps6
  go_wp2_with (go_at_call 11; refine (awake_any _).mono ?_; rintro e w1 ⟨rfl, hb1⟩; obtain ⟨c0, c1, hz⟩ := box2 t n hb1)
  refine (Received_lit a t n _ 1 1 _ [b] _ _ hx.out.1 hx.out.2 _ (reads_one _ w1.heap.size b (by simp) (by simp))).mono ?_
  rintro e w' ⟨rfl, rfl⟩
  go_wp2_with fail
  refine (Received_lit b t n _ 1 1 _ [a] _ _ hy.out.1 hy.out.2 _ (reads_one _ (w1.heap.size + 1) a (by simp) (by simp))).mono ?_
  rintro e w' ⟨rfl, rfl⟩
  go_wp2_with fail
  go_ret
  exact ⟨rfl, (((((Below.refl w.heap.size w).alloc (Nat.le_refl _) _).trans (hb1.mono (by simp))).alloc (by omega) _).alloc (by simp; omega) _)⟩
set_option maxHeartbeats 1600000 in
set_option maxRecDepth 100000 in
theorem walk_Capture_false0_false8 (a b t n : Int) (hx : Hid (Pm.rcvV a t n [b] = false ∧ Pm.rcvE a t n [b] = 0)) (hy : Hid (Pm.rcvV b t n [a] = false ∧ Pm.rcvE b t n [a] = 8)) (w : World) :
    Calls Tryd.prog 6 #[.int .i64 a, .int .i64 b, .agg #[.int .i64 t, .int .i64 n]] w fun e w' => e = .returned (.bool true) ∧ Below w.heap.size w w' := by
  go_enter Tryd.func6, Tryd.ntmps6
  go_wp2_with (go_at_call 11; refine (awake_any _).mono ?_; rintro e w1 ⟨rfl, hb1⟩; obtain ⟨c0, c1, hz⟩ := box2 t n hb1)
  refine (Received_lit a t n _ 1 1 _ [b] _ _ hx.out.1 hx.out.2 _ (reads_one _ w1.heap.size b (by simp) (by simp))).mono ?_
  rintro e w' ⟨rfl, rfl⟩
  go_wp2_with fail
  refine (Received_lit b t n _ 1 1 _ [a] _ _ hy.out.1 hy.out.2 _ (reads_one _ (w1.heap.size + 1) a (by simp) (by simp))).mono ?_
  rintro e w' ⟨rfl, rfl⟩
  go_wp2_with fail
  go_ret
  exact ⟨rfl, (((((Below.refl w.heap.size w).alloc (Nat.le_refl _) _).trans (hb1.mono (by simp))).alloc (by omega) _).alloc (by simp; omega) _)⟩
set_option maxHeartbeats 1600000 in
set_option maxRecDepth 100000 in
theorem walk_Capture_false2_true0 (a b t n : Int) (hx : Hid (Pm.rcvV a t n [b] = false ∧ Pm.rcvE a t n [b] = 2)) (hy : Hid (Pm.rcvV b t n [a] = true ∧ Pm.rcvE b t n [a] = 0)) (w : World) :
    Calls Tryd.prog 6 #[.int .i64 a, .int .i64 b, .agg #[.int .i64 t, .int .i64 n]] w fun e w' => e = .returned (.bool true) ∧ Below w.heap.size w w' := by
  go_enter Tryd.func6, Tryd.ntmps6
  go_wp2_with (go_at_call 11; refine (awake_any _).mono ?_; rintro e w1 ⟨rfl, hb1⟩; obtain ⟨c0, c1, hz⟩ := box2 t n hb1)
  refine (Received_lit a t n _ 1 1 _ [b] _ _ hx.out.1 hx.out.2 _ (reads_one _ w1.heap.size b (by simp) (by simp))).mono ?_
  rintro e w' ⟨rfl, rfl⟩
  go_wp2_with fail
  refine (Received_lit b t n _ 1 1 _ [a] _ _ hy.out.1 hy.out.2 _ (reads_one _ (w1.heap.size + 1) a (by simp) (by simp))).mono ?_
  rintro e w' ⟨rfl, rfl⟩
  go_wp2_with fail
  go_ret
  exact ⟨rfl, (((((Below.refl w.heap.size w).alloc (Nat.le_refl _) _).trans (hb1.mono (by simp))).alloc (by omega) _).alloc (by simp; omega) _)⟩
set_option maxHeartbeats 1600000 in
set_option maxRecDepth 100000 in
theorem walk_Capture_false2_false0 (a b t n : Int) (hx : Hid (Pm.rcvV a t n [b] = false ∧ Pm.rcvE a t n [b] = 2)) (hy : Hid (Pm.rcvV b t n [a] = false ∧ Pm.rcvE b t n [a] = 0)) (w : World) :
    Calls Tryd.prog 6 #[.int .i64 a, .int .i64 b, .agg #[.int .i64 t, .int .i64 n]] w fun e w' => e = .returned (.bool true) ∧ Below w.heap.size w w' := by
  go_enter Tryd.func6, Tryd.ntmps6
  go_wp2_with (go_at_call 11; refine (awake_any _).mono ?_; rintro e w1 ⟨rfl, hb1⟩; obtain ⟨c0, c1, hz⟩ := box2 t n hb1)
  refine (Received_lit a t n _ 1 1 _ [b] _ _ hx.out.1 hx.out.2 _ (reads_one _ w1.heap.size b (by simp) (by simp))).mono ?_
  rintro e w' ⟨rfl, rfl⟩
  go_wp2_with fail
  refine (Received_lit b t n _ 1 1 _ [a] _ _ hy.out.1 hy.out.2 _ (reads_one _ (w1.heap.size + 1) a (by simp) (by simp))).mono ?_
  rintro e w' ⟨rfl, rfl⟩
  go_wp2_with fail
  go_ret
  exact ⟨rfl, (((((Below.refl w.heap.size w).alloc (Nat.le_refl _) _).trans (hb1.mono (by simp))).alloc (by omega) _).alloc (by simp; omega) _)⟩
set_option maxHeartbeats 1600000 in
set_option maxRecDepth 100000 in
theorem walk_Capture_false2_false2 (a b t n : Int) (hx : Hid (Pm.rcvV a t n [b] = false ∧ Pm.rcvE a t n [b] = 2)) (hy : Hid (Pm.rcvV b t n [a] = false ∧ Pm.rcvE b t n [a] = 2)) (w : World) :
    Calls Tryd.prog 6 #[.int .i64 a, .int .i64 b, .agg #[.int .i64 t, .int .i64 n]] w fun e w' => e = .returned (.bool true) ∧ Below w.heap.size w w' := by
  go_enter Tryd.func6, Tryd.ntmps6
  go_wp2_with (go_at_call 11; refine (awake_any _).mono ?_; rintro e w1 ⟨rfl, hb1⟩; obtain ⟨c0, c1, hz⟩ := box2 t n hb1)
  refine (Received_lit a t n _ 1 1 _ [b] _ _ hx.out.1 hx.out.2 _ (reads_one _ w1.heap.size b (by simp) (by simp))).mono ?_
  rintro e w' ⟨rfl, rfl⟩
  go_wp2_with fail
  refine (Received_lit b t n _ 1 1 _ [a] _ _ hy.out.1 hy.out.2 _ (reads_one _ (w1.heap.size + 1) a (by simp) (by simp))).mono ?_
  rintro e w' ⟨rfl, rfl⟩
  go_wp2_with fail
  go_ret
  exact ⟨rfl, (((((Below.refl w.heap.size w).alloc (Nat.le_refl _) _).trans (hb1.mono (by simp))).alloc (by omega) _).alloc (by simp; omega) _)⟩
set_option maxHeartbeats 1600000 in
set_option maxRecDepth 100000 in
theorem walk_Capture_false2_false8 (a b t n : Int) (hx : Hid (Pm.rcvV a t n [b] = false ∧ Pm.rcvE a t n [b] = 2)) (hy : Hid (Pm.rcvV b t n [a] = false ∧ Pm.rcvE b t n [a] = 8)) (w : World) :
    Calls Tryd.prog 6 #[.int .i64 a, .int .i64 b, .agg #[.int .i64 t, .int .i64 n]] w fun e w' => e = .returned (.bool true) ∧ Below w.heap.size w w' := by
  go_enter Tryd.func6, Tryd.ntmps6
  go_wp2_with (go_at_call 11; refine (awake_any _).mono ?_; rintro e w1 ⟨rfl, hb1⟩; obtain ⟨c0, c1, hz⟩ := box2 t n hb1)
  refine (Received_lit a t n _ 1 1 _ [b] _ _ hx.out.1 hx.out.2 _ (reads_one _ w1.heap.size b (by simp) (by simp))).mono ?_
  rintro e w' ⟨rfl, rfl⟩
  go_wp2_with fail
  refine (Received_lit b t n _ 1 1 _ [a] _ _ hy.out.1 hy.out.2 _ (reads_one _ (w1.heap.size + 1) a (by simp) (by simp))).mono ?_
  rintro e w' ⟨rfl, rfl⟩
  go_wp2_with fail
  go_ret
  exact ⟨rfl, (((((Below.refl w.heap.size w).alloc (Nat.le_refl _) _).trans (hb1.mono (by simp))).alloc (by omega) _).alloc (by simp; omega) _)⟩
set_option maxHeartbeats 1600000 in
set_option maxRecDepth 100000 in
theorem walk_Capture_false8_true0 (a b t n : Int) (hx : Hid (Pm.rcvV a t n [b] = false ∧ Pm.rcvE a t n [b] = 8)) (hy : Hid (Pm.rcvV b t n [a] = true ∧ Pm.rcvE b t n [a] = 0)) (w : World) :
    Calls Tryd.prog 6 #[.int .i64 a, .int .i64 b, .agg #[.int .i64 t, .int .i64 n]] w fun e w' => e = .returned (.bool true) ∧ Below w.heap.size w w' := by
  go_enter Tryd.func6, Tryd.ntmps6
  go_wp2_with (go_at_call 11; refine (awake_any _).mono ?_; rintro e w1 ⟨rfl, hb1⟩; obtain ⟨c0, c1, hz⟩ := box2 t n hb1)
  refine (Received_lit a t n _ 1 1 _ [b] _ _ hx.out.1 hx.out.2 _ (reads_one _ w1.heap.size b (by simp) (by simp))).mono ?_
  rintro e w' ⟨rfl, rfl⟩
  go_wp2_with fail
  refine (Received_lit b t n _ 1 1 _ [a] _ _ hy.out.1 hy.out.2 _ (reads_one _ (w1.heap.size + 1) a (by simp) (by simp))).mono ?_
  rintro e w' ⟨rfl, rfl⟩
  go_wp2_with fail
  go_ret
  exact ⟨rfl, (((((Below.refl w.heap.size w).alloc (Nat.le_refl _) _).trans (hb1.mono (by simp))).alloc (by omega) _).alloc (by simp; omega) _)⟩
set_option maxHeartbeats 1600000 in
set_option maxRecDepth 100000 in
theorem walk_Capture_false8_false0 (a b t n : Int) (hx : Hid (Pm.rcvV a t n [b] = false ∧ Pm.rcvE a t n [b] = 8)) (hy : Hid (Pm.rcvV b t n [a] = false ∧ Pm.rcvE b t n [a] = 0)) (w : World) :
    Calls Tryd.prog 6 #[.int .i64 a, .int .i64 b, .agg #[.int .i64 t, .int .i64 n]] w fun e w' => e = .returned (.bool true) ∧ Below w.heap.size w w' := by
  go_enter Tryd.func6, Tryd.ntmps6
  go_wp2_with (go_at_call 11; refine (awake_any _).mono ?_; rintro e w1 ⟨rfl, hb1⟩; obtain ⟨c0, c1, hz⟩ := box2 t n hb1)
  refine (Received_lit a t n _ 1 1 _ [b] _ _ hx.out.1 hx.out.2 _ (reads_one _ w1.heap.size b (by simp) (by simp))).mono ?_
  rintro e w' ⟨rfl, rfl⟩
  go_wp2_with fail
  refine (Received_lit b t n _ 1 1 _ [a] _ _ hy.out.1 hy.out.2 _ (reads_one _ (w1.heap.size + 1) a (by simp) (by simp))).mono ?_
  rintro e w' ⟨rfl, rfl⟩
  go_wp2_with fail
  go_ret
  exact ⟨rfl, (((((Below.refl w.heap.size w).alloc (Nat.le_refl _) _).trans (hb1.mono (by simp))).alloc (by omega) _).alloc (by simp; omega) _)⟩
set_option maxHeartbeats 1600000 in
set_option maxRecDepth 100000 in
theorem walk_Capture_false8_false2 (a b t n : Int) (hx : Hid (Pm.rcvV a t n [b] = false ∧ Pm.rcvE a t n [b] = 8)) (hy : Hid (Pm.rcvV b t n [a] = false ∧ Pm.rcvE b t n [a] = 2)) (w : World) :
    Calls Tryd.prog 6 #[.int .i64 a, .int .i64 b, .agg #[.int .i64 t, .int .i64 n]] w fun e w' => e = .returned (.bool true) ∧ Below w.heap.size w w' := by
  go_enter Tryd.func6, Tryd.ntmps6
  go_wp2_with (go_at_call 11; refine (awake_any _).mono ?_; rintro e w1 ⟨rfl, hb1⟩; obtain ⟨c0, c1, hz⟩ := box2 t n hb1)
  refine (Received_lit a t n _ 1 1 _ [b] _ _ hx.out.1 hx.out.2 _ (reads_one _ w1.heap.size b (by simp) (by simp))).mono ?_
  rintro e w' ⟨rfl, rfl⟩
  go_wp2_with fail
  refine (Received_lit b t n _ 1 1 _ [a] _ _ hy.out.1 hy.out.2 _ (reads_one _ (w1.heap.size + 1) a (by simp) (by simp))).mono ?_
  rintro e w' ⟨rfl, rfl⟩
  go_wp2_with fail
  go_ret
  exact ⟨rfl, (((((Below.refl w.heap.size w).alloc (Nat.le_refl _) _).trans (hb1.mono (by simp))).alloc (by omega) _).alloc (by simp; omega) _)⟩
set_option maxHeartbeats 1600000 in
set_option maxRecDepth 100000 in
theorem walk_Capture_false8_false8 (a b t n : Int) (hx : Hid (Pm.rcvV a t n [b] = false ∧ Pm.rcvE a t n [b] = 8)) (hy : Hid (Pm.rcvV b t n [a] = false ∧ Pm.rcvE b t n [a] = 8)) (w : World) :
    Calls Tryd.prog 6 #[.int .i64 a, .int .i64 b, .agg #[.int .i64 t, .int .i64 n]] w fun e w' => e = .returned (.bool true) ∧ Below w.heap.size w w' := by
  go_enter Tryd.func6, Tryd.ntmps6
  go_wp2_with (go_at_call 11; refine (awake_any _).mono ?_; rintro e w1 ⟨rfl, hb1⟩; obtain ⟨c0, c1, hz⟩ := box2 t n hb1)
  refine (Received_lit a t n _ 1 1 _ [b] _ _ hx.out.1 hx.out.2 _ (reads_one _ w1.heap.size b (by simp) (by simp))).mono ?_
  rintro e w' ⟨rfl, rfl⟩
  go_wp2_with fail
  refine (Received_lit b t n _ 1 1 _ [a] _ _ hy.out.1 hy.out.2 _ (reads_one _ (w1.heap.size + 1) a (by simp) (by simp))).mono ?_
  rintro e w' ⟨rfl, rfl⟩
  go_wp2_with fail
  go_ret
  exact ⟨rfl, (((((Below.refl w.heap.size w).alloc (Nat.le_refl _) _).trans (hb1.mono (by simp))).alloc (by omega) _).alloc (by simp; omega) _)⟩
theorem walk_Capture (a b t n : Int) (w : World) :
    Calls Tryd.prog 6 #[.int .i64 a, .int .i64 b, .agg #[.int .i64 t, .int .i64 n]] w fun e w' => e = .returned (.bool true) ∧ Below w.heap.size w w' := by
  cases hx : Pm.rcvV a t n [b]
  · cases hy : Pm.rcvV b t n [a]
    · rcases rcvE_cases a t n [b] with ex | ex | ex <;> rcases rcvE_cases b t n [a] with ey | ey | ey
      · exact walk_Capture_false0_false0 a b t n (Lib.hid ⟨hx, ex⟩) (Lib.hid ⟨hy, ey⟩) w
      · exact walk_Capture_false0_false2 a b t n (Lib.hid ⟨hx, ex⟩) (Lib.hid ⟨hy, ey⟩) w
      · exact walk_Capture_false0_false8 a b t n (Lib.hid ⟨hx, ex⟩) (Lib.hid ⟨hy, ey⟩) w
      · exact walk_Capture_false2_false0 a b t n (Lib.hid ⟨hx, ex⟩) (Lib.hid ⟨hy, ey⟩) w
      · exact walk_Capture_false2_false2 a b t n (Lib.hid ⟨hx, ex⟩) (Lib.hid ⟨hy, ey⟩) w
      · exact walk_Capture_false2_false8 a b t n (Lib.hid ⟨hx, ex⟩) (Lib.hid ⟨hy, ey⟩) w
      · exact walk_Capture_false8_false0 a b t n (Lib.hid ⟨hx, ex⟩) (Lib.hid ⟨hy, ey⟩) w
      · exact walk_Capture_false8_false2 a b t n (Lib.hid ⟨hx, ex⟩) (Lib.hid ⟨hy, ey⟩) w
      · exact walk_Capture_false8_false8 a b t n (Lib.hid ⟨hx, ex⟩) (Lib.hid ⟨hy, ey⟩) w
    · rcases rcvE_cases a t n [b] with ex | ex | ex
      · exact walk_Capture_false0_true0 a b t n (Lib.hid ⟨hx, ex⟩) (Lib.hid ⟨hy, (rcv_true _ _ _ _ hy).1⟩) w
      · exact walk_Capture_false2_true0 a b t n (Lib.hid ⟨hx, ex⟩) (Lib.hid ⟨hy, (rcv_true _ _ _ _ hy).1⟩) w
      · exact walk_Capture_false8_true0 a b t n (Lib.hid ⟨hx, ex⟩) (Lib.hid ⟨hy, (rcv_true _ _ _ _ hy).1⟩) w
  · cases hy : Pm.rcvV b t n [a]
    · rcases rcvE_cases b t n [a] with ey | ey | ey
      · exact walk_Capture_true0_false0 a b t n (Lib.hid ⟨hx, (rcv_true _ _ _ _ hx).1⟩) (Lib.hid ⟨hy, ey⟩) w
      · exact walk_Capture_true0_false2 a b t n (Lib.hid ⟨hx, (rcv_true _ _ _ _ hx).1⟩) (Lib.hid ⟨hy, ey⟩) w
      · exact walk_Capture_true0_false8 a b t n (Lib.hid ⟨hx, (rcv_true _ _ _ _ hx).1⟩) (Lib.hid ⟨hy, ey⟩) w
    · exact (not_both a b t n hx hy).elim

end Go.Proofs.YticgdbokflbjaaaDoor
