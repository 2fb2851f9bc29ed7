/-
  CHAPTER 35, THE REFERENCE: in, numbers, Less, right.
-/
import Derived.Test.YtnddjcadkbjjhaaGreatDoorJ
import Derived.Test.YtnddjcadkbjjhaaGreatDoorY
namespace Go.Proofs.YtnddjcadkbjjhaaGreatDoor
open Go.RowKit

def inB (x lo hi : Int) : Bool := decide (lo ≤ x) && decide (x ≤ hi)
set_option maxHeartbeats 400000 in
theorem in_lit (x lo hi : Int) (b : Bool) (h : inB x lo hi = b) (w : World) : Calls Tryz.prog 47 #[.int .i64 x, .int .i64 lo, .int .i64 hi] w fun e w' => e = .returned (.bool b) ∧ w = w' := by
  subst h
  by_cases h0 : lo ≤ x
  · by_cases h1 : x ≤ hi
    · have e : inB x lo hi = true := by unfold inB; simp [h0, h1]
      rw [e]
      clear e
      go_enter Tryz.func47, Tryz.ntmps47
      go_wp2
      go_ret
      exact ⟨ret_bool (by simp), rfl⟩
    · have e : inB x lo hi = false := by unfold inB; simp [h0, h1]
      rw [e]
      clear e
      go_enter Tryz.func47, Tryz.ntmps47
      go_wp2
      go_ret
      exact ⟨ret_bool (by simp), rfl⟩
  · have e : inB x lo hi = false := by unfold inB; simp [h0]
    rw [e]
    clear e
    go_enter Tryz.func47, Tryz.ntmps47
    go_wp2
    go_ret
    exact ⟨rfl, rfl⟩
abbrev N3 (c : C5) : Obj := .cells #[.int .i64 c.s, .int .i64 c.o, .int .i64 c.f, .int .i64 c.t, .int .i64 c.w] 3
set_option maxHeartbeats 800000 in
theorem rnumbers_exact (c : C5) (w : World) :
    Calls Tryz.prog 60 #[.agg #[.int .i64 c.s, .int .i64 c.o, .int .i64 c.f, .int .i64 c.t, .int .i64 c.w]] w fun r w' => r = .returned (.slice (some ⟨w.heap.size + 1, 0, none⟩) 5 5) ∧ (w.alloc (N51 c)).alloc (N3 c) = w' := by
  go_enter Tryz.func60, Tryz.ntmps60
  go_wp2
  go_ret
  exact ⟨rfl, rfl⟩
def lessB (c d : C5) : Bool := decide (cmpC c d < 0)
def C5.nth (c : C5) (k : Nat) : Int := c.ints.getD k 0
theorem less_at {c d : C5} {k : Nat} (hk : k < 5) (h : ∀ t, t < k → c.nth t = d.nth t) (hne : c.nth k ≠ d.nth k) : lessB c d = decide (c.nth k < d.nth k) := by
  unfold lessB
  rw [decide_eq_decide, cmpC_lt]
  unfold C5.nth C5.ints at *
  have h0 := h 0
  have h1 := h 1
  have h2 := h 2
  have h3 := h 3
  clear h
  match k, hk with
  | 0, _ => simp at *; omega
  | 1, _ => simp at *; omega
  | 2, _ => simp at *; omega
  | 3, _ => simp at *; omega
  | 4, _ => simp at *; omega
theorem less_end {c d : C5} (h : ∀ t, t < 5 → c.nth t = d.nth t) : lessB c d = false := by
  unfold lessB
  rw [decide_eq_false_iff_not, cmpC_lt]
  unfold C5.nth C5.ints at *
  have h0 := h 0 (by omega)
  have h1 := h 1 (by omega)
  have h2 := h 2 (by omega)
  have h3 := h 3 (by omega)
  have h4 := h 4 (by omega)
  clear h
  simp at *
  omega
theorem Box5.nth {w : World} {b : Nat} {c : C5} (h : Box5 w b c) {k : Nat} (hk : k < 5) : w.cell? ⟨b, k, none⟩ = some (.int .i64 (c.nth k)) := by
  obtain ⟨h0, h1, h2, h3, h4⟩ := h
  match k, hk with
  | 0, _ => exact h0
  | 1, _ => exact h1
  | 2, _ => exact h2
  | 3, _ => exact h3
  | 4, _ => exact h4
theorem two51 (c d : C5) (w : World) : Below w.heap.size w ((w.alloc (N51 c)).alloc (N51 d)) ∧ Box5 ((w.alloc (N51 c)).alloc (N51 d)) w.heap.size c ∧ Box5 ((w.alloc (N51 c)).alloc (N51 d)) (w.heap.size + 1) d ∧ ((w.alloc (N51 c)).alloc (N51 d)).heap.size = w.heap.size + 2 := by
  refine ⟨((Below.refl _ _).alloc (Nat.le_refl _) _).alloc (by simp) _, (Box5.new c 51 w).below ((Below.refl _ _).alloc (Nat.le_refl _) _) (by simp), ?_, by simp⟩
  have := Box5.new d 51 (w.alloc (N51 c))
  rwa [World.size_alloc] at this
set_option maxHeartbeats 4000000 in
set_option maxRecDepth 100000 in
theorem Less_lit (c d : C5) (r : Bool) (h : Hid (lessB c d = r)) (w : World) :
    Calls Tryz.prog 50 #[.agg #[.int .i64 c.s, .int .i64 c.o, .int .i64 c.f, .int .i64 c.t, .int .i64 c.w], .agg #[.int .i64 d.s, .int .i64 d.o, .int .i64 d.f, .int .i64 d.t, .int .i64 d.w]] w fun e w' => e = .returned (.bool r) ∧ Below w.heap.size w w' := by
  obtain ⟨hb0, hx0, hy0, hs0⟩ := two51 c d w
  go_enter Tryz.func50, Tryz.ntmps50
  go_upto_region 6 with fail
  revert hb0 hx0 hy0 hs0
  generalize ((w.alloc (N51 c)).alloc (N51 d)) = w0
  intro hb0 hx0 hy0 hs0
  go_cut [5, 6] from 8 to 12 (fun v7 v8 wx => ∃ g g', v7 = .slice (some ⟨g, 0, none⟩) 5 5 ∧ v8 = .slice (some ⟨g', 0, none⟩) 5 5 ∧ Hid (Box5 wx g c) ∧ Hid (Box5 wx g' d) ∧ Below w.heap.size w wx)
  case first =>
    have hx := Lib.hid hx0
    have hy := Lib.hid hy0
    have hxa : w.heap.size < w0.heap.size := by omega
    have hyb : w.heap.size + 1 < w0.heap.size := by omega
    clear hx0 hy0
    go_region_held3 (fun w' => w'.cell? ⟨w.heap.size, 0, none⟩ = some (.int .i64 c.s) ∧ w'.cell? ⟨w.heap.size, 1, none⟩ = some (.int .i64 c.o) ∧ w'.cell? ⟨w.heap.size, 2, none⟩ = some (.int .i64 c.f) ∧ w'.cell? ⟨w.heap.size, 3, none⟩ = some (.int .i64 c.t) ∧ w'.cell? ⟨w.heap.size, 4, none⟩ = some (.int .i64 c.w) ∧ w'.cell? ⟨w.heap.size + 1, 0, none⟩ = some (.int .i64 d.s) ∧ w'.cell? ⟨w.heap.size + 1, 1, none⟩ = some (.int .i64 d.o) ∧ w'.cell? ⟨w.heap.size + 1, 2, none⟩ = some (.int .i64 d.f) ∧ w'.cell? ⟨w.heap.size + 1, 3, none⟩ = some (.int .i64 d.t) ∧ w'.cell? ⟨w.heap.size + 1, 4, none⟩ = some (.int .i64 d.w))
      (first | (refine boxes hx hy hxa hyb ?_; (repeat first | assumption | exact Below.refl _ _ | refine Below.drew ?_ | refine ba ?_ _); done))
      (first
        | (go_at_call_of 60 (C5.s c); refine (rnumbers_exact c _).mono ?_; rintro e w1 ⟨rfl, rfl⟩)
        | (go_at_call_of 60 (C5.s d); refine (rnumbers_exact d _).mono ?_; rintro e w2 ⟨rfl, rfl⟩))
    all_goals (go_wp2_with fail; go_meet; refine ⟨_, _, rfl, rfl, Lib.hid ⟨?_, ?_, ?_, ?_, ?_⟩, Lib.hid ⟨?_, ?_, ?_, ?_, ?_⟩, hb0.trans (Below.mono (B := w0.heap.size) ?_ (by omega))⟩)
    all_goals first | ((repeat first | assumption | exact Below.refl _ _ | refine Below.drew ?_ | refine ba ?_ _); done) | (simp [hs0, go_sem]; done) | (simp [hs0, go_sem]; omega)
  case rest =>
    obtain ⟨g, g', rfl, rfl, hG, hG', hb⟩ := hcut
    clear hx0 hy0 hb0 hs0
    go_wp2_with fail
    go_loopw [7] (fun i wx => ∃ k m : Nat, k ≤ 5 ∧ i = .int .i64 k ∧ wx = wc.drewN m ∧ Hid (∀ t, t < k → c.nth t = d.nth t)) (fun i _ => 5 - (intOf i).toNat)
    case atStart => exact ⟨0, 0, Nat.zero_le _, rfl, rfl, Lib.hid fun t h => absurd h (Nat.not_lt_zero t)⟩
    case round =>
      obtain ⟨k, m, hk, rfl, rfl, H⟩ := hrel
      by_cases hlt : k < 5
      · have x0 := hG.out.nth hlt
        have y0 := hG'.out.nth hlt
        have hk0 : (0 : Int) ≤ (k : Int) := by omega
        have hk1 : (k : Int) < 5 := by omega
        by_cases heq : c.nth k = d.nth k
        · have h1 : (c.nth k != d.nth k) = false := by simp [heq]
          have heq := Lib.hid heq
          have hg1 : Hid (∀ t, t < k + 1 → c.nth t = d.nth t) := Lib.hid fun t ht => by
            rcases Nat.lt_or_ge t k with h | h
            · exact H.out t h
            · have : t = k := by omega
              subst this; exact heq.out
          go_wp2_with fail
          go_quiet (fail)
          go_wp2_with fail
          go_roundw
          case rel => exact ⟨k + 1, m + nq, by omega, by go_num, by simp, hg1⟩
          case measure => simp [intOf]; omega
        · have h1 : (c.nth k != d.nth k) = true := by simp [heq]
          have hl := Lib.hid (less_at hlt H.out heq)
          have heq := Lib.hid heq
          go_wp2_with fail
          go_quiet (fail)
          go_wp2_with fail
          go_quiet (fail)
          go_wp2_with fail
          go_ret
          exact ⟨ret_bool (by rw [← h.out, hl.out]), below_drewN (below_drewN (below_drewN hb _) _) _⟩
      · obtain rfl : k = 5 := by omega
        have hl := Lib.hid (less_end H.out)
        go_wp2_with fail
        go_ret
        exact ⟨ret_bool (by rw [← h.out, hl.out]), below_drewN hb _⟩
def rightB (L O : Int) (c : C5) : Bool := inB c.s 0 (L - 1) && inB c.o 0 (O - 1) && inB c.f 0 31 && inB c.t 0 31 && inB c.w 0 255
theorem right_formed (L O : Int) (c : C5) : rightB L O c = formedB L O c := by
  unfold rightB formedB placedB inB insB
  rw [Bool.eq_iff_iff]
  simp only [Bool.and_eq_true, decide_eq_true_eq]
  omega
end Go.Proofs.YtnddjcadkbjjhaaGreatDoor
