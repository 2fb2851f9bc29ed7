/-
  CHAPTER 35: the reference's SameCells, Same and Few; the example.
-/
import Derived.Test.YtnddjcadkbjjhaaGreatDoorD
import Derived.Laws.StructEq
import Derived.Deep.RegionHeld3
namespace Go.Proofs.YtnddjcadkbjjhaaGreatDoor
open Go.RowKit

theorem hS51 : Tryz.prog.underlying 51 = some (.struct (Tryz.prog.fieldsOf 51)) := by kernel_rfl
theorem hp51 : Tryz.prog.stoodInHeld 51 = false := by kernel_rfl
theorem hm51 : Tryz.prog.eqGuardType Tryz.prog.depth 51 = false := by kernel_rfl
def eqC (c d : C5) : Bool := decide (c = d)
theorem eqC_iff (c d : C5) : eqC c d = true ↔ c = d := by unfold eqC; simp
theorem equal51 (c d : C5) (w : World) : (Op.equalIn 10000 51 (.agg #[.int .i64 c.s, .int .i64 c.o, .int .i64 c.f, .int .i64 c.t, .int .i64 c.w]) (.agg #[.int .i64 d.s, .int .i64 d.o, .int .i64 d.f, .int .i64 d.t, .int .i64 d.w])).run Tryz.prog w = .ok (eqC c d) w := by
  have u3 := Tryz.underlying3
  have a3 := Tryz.isAgg3
  have z3 := Tryz.sizeOf3
  rw [show (10000 : Nat) = 9999 + 1 from rfl, run_equalIn_agg w 9999 51 _ _ hS51 hp51]
  simp only [Program.fieldsOf, Tryz.underlying51]
  go_simp
  have e : eqC c d = (decide (c.s = d.s) && decide (c.o = d.o) && decide (c.f = d.f) && decide (c.t = d.t) && decide (c.w = d.w)) := by
    rw [Bool.eq_iff_iff, eqC_iff]
    cases c; cases d; simp [C5.mk.injEq, and_assoc]
  rw [e]
  by_cases h1 : c.s = d.s <;> by_cases h2 : c.o = d.o <;> by_cases h3 : c.f = d.f <;> by_cases h4 : c.t = d.t <;> by_cases h5 : c.w = d.w <;> simp [h1, h2, h3, h4, h5]
def sameL (cs ds : List C5) : Bool := decide (cs = ds)
theorem sameL_drop {cs ds : List C5} {k : Nat} {c d : C5} (hc : cs[k]? = some c) (hd : ds[k]? = some d) : sameL (cs.drop k) (ds.drop k) = (eqC c d && sameL (cs.drop (k + 1)) (ds.drop (k + 1))) := by
  obtain ⟨h1, e1⟩ := List.getElem?_eq_some_iff.1 hc
  obtain ⟨h2, e2⟩ := List.getElem?_eq_some_iff.1 hd
  rw [List.drop_eq_getElem_cons h1, List.drop_eq_getElem_cons h2, e1, e2]
  unfold sameL eqC
  rw [Bool.eq_iff_iff]; simp
set_option maxHeartbeats 1600000 in
set_option maxRecDepth 100000 in
theorem SameCells_len (A A' : Option Addr) (n n' c c' : Nat) (hne : n ≠ n') (w : World) :
    Calls Tryz.prog 33 #[.slice A n c, .slice A' n' c'] w fun e w' => e = .returned (.bool false) ∧ w = w' := by
  have h1 : ((n : Int) == (n' : Int)) = false := by rw [beq_eq_false_iff_ne]; omega
  have h2 : ((n : Int) != (n' : Int)) = true := by rw [bne, h1]; rfl
  have hne := Lib.hid hne
  go_enter Tryz.func33, Tryz.ntmps33
  go_wp2
  go_ret
  exact ⟨rfl, rfl⟩
set_option maxHeartbeats 1600000 in
set_option maxRecDepth 100000 in
theorem SameCells_eq (A A' : Option Addr) (n c c' : Nat) (cs ds : List C5) (hn : n ≤ 1000000) (B B' : Nat) (w : World) (hc : Hid (Cells w B A n cs)) (hd : Hid (Cells w B' A' n ds)) (r : Bool) (hr : Hid (sameL cs ds = r)) :
    Calls Tryz.prog 33 #[.slice A n c, .slice A' n c'] w fun e w' => e = .returned (.bool r) ∧ ∃ m, w' = w.drewN m := by
  have hm51 := hm51
  go_enter Tryz.func33, Tryz.ntmps33
  go_wp2
  go_loopw [5] (fun i wx => ∃ k m : Nat, k ≤ n ∧ i = .int .i64 k ∧ wx = w.drewN m ∧ Hid (sameL (cs.drop k) (ds.drop k) = r)) (fun i _ => n - (intOf i).toNat)
  case atStart => exact ⟨0, 0, Nat.zero_le _, rfl, rfl, hr⟩
  case round =>
    obtain ⟨k, m, hk, rfl, rfl, H⟩ := hrel
    by_cases hlt : k < n
    · obtain ⟨b, off, x, rfl, hb, ex, x0, x1, x2, x3, x4⟩ := hc.out.at_ hlt
      obtain ⟨b', off', y, rfl, hb', ey, y0, y1, y2, y3, y4⟩ := hd.out.at_ hlt
      have hdr := Lib.hid (sameL_drop ex ey)
      have heq := equal51 x y
      clear ex ey
      have hk0 : (0 : Int) ≤ (k : Int) := by omega
      have hk1 : (k : Int) < (n : Int) := by omega
      cases hxy : eqC x y
      · rw [hxy] at heq
        have hxy := Lib.hid hxy
        have hrf : Hid (r = false) := Lib.hid (by rw [← H.out, hdr.out, hxy.out]; rfl)
        go_wp2
        go_quiet (fail)
        go_wp2
        go_ret
        exact ⟨ret_bool hrf.out.symm, m + nq, by simp⟩
      · rw [hxy] at heq
        have hxy := Lib.hid hxy
        go_wp2
        go_quiet (fail)
        go_wp2
        go_roundw
        case rel => exact ⟨k + 1, m + nq, by omega, by go_num, by simp, Lib.hid (by rw [← H.out, hdr.out, hxy.out]; rfl)⟩
        case measure => simp [intOf]; omega
    · go_wp2
      go_ret
      exact ⟨ret_bool (by rw [← H.out, List.drop_eq_nil_of_le (by have := hc.out.1; omega), List.drop_eq_nil_of_le (by have := hd.out.1; omega)]; rfl), m, rfl⟩
theorem below_drewN {B : Nat} {a w : World} (h : Below B a w) (n : Nat) : Below B a (w.drewN n) := ⟨h.os, h.tape, h.output, h.size, h.block⟩
theorem SameCells_any (A A' : Option Addr) (n n' c c' : Nat) (cs ds : List C5) (hn : n ≤ 1000000) (B B' : Nat) (w : World) (hc : Cells w B A n cs) (hd : Cells w B' A' n' ds) (r : Bool) (hr : sameL cs ds = r) :
    Calls Tryz.prog 33 #[.slice A n c, .slice A' n' c'] w fun e w' => e = .returned (.bool r) ∧ Below w.heap.size w w' := by
  by_cases h : n = n'
  · subst h
    exact (SameCells_eq A A' n c c' cs ds hn B B' w (Lib.hid hc) (Lib.hid hd) r (Lib.hid hr)).mono fun e w' ⟨he, m, hw⟩ => ⟨he, by subst hw; exact below_drewN (Below.refl _ _) m⟩
  · refine (SameCells_len A A' n n' c c' h w).mono fun e w' ⟨he, hw⟩ => ⟨?_, by subst hw; exact Below.refl _ _⟩
    rw [he, ← hr]
    have : sameL cs ds = false := by
      unfold sameL
      rw [decide_eq_false_iff_not]
      intro e
      exact h (by rw [← hc.1, ← hd.1, e])
    rw [this]
def sameS (L O : Int) (cs : List C5) (L' O' : Int) (ds : List C5) : Bool := (L == L') && (O == O') && sameL cs ds
set_option maxHeartbeats 1600000 in
set_option maxRecDepth 100000 in
theorem Same_ne (L O L' O' : Int) (A A' : Option Addr) (n n' c c' : Nat) (h : Hid (((L == L') && (O == O')) = false)) (w : World) :
    Calls Tryz.prog 20 #[.agg #[.int .i64 L, .int .i64 O, .slice A n c], .agg #[.int .i64 L', .int .i64 O', .slice A' n' c']] w fun e w' => e = .returned (.bool false) ∧ Below w.heap.size w w' := by
  cases h1 : (L == L')
  · go_enter Tryz.func20, Tryz.ntmps20
    go_wp2
    go_ret
    exact ⟨rfl, ((Below.refl _ _).alloc (Nat.le_refl _) _).alloc (by simp) _⟩
  · have h2 : (O == O') = false := by have := h.out; rw [h1] at this; simpa using this
    obtain rfl : L = L' := by simpa using h1
    clear h1
    go_enter Tryz.func20, Tryz.ntmps20
    go_wp2
    go_ret
    exact ⟨rfl, ((Below.refl _ _).alloc (Nat.le_refl _) _).alloc (by simp) _⟩
set_option maxHeartbeats 1600000 in
set_option maxRecDepth 100000 in
theorem Same_eq (L O : Int) (A A' : Option Addr) (n n' c c' : Nat) (cs ds : List C5) (hn : n ≤ 1000000) (w : World) (hc : Hid (Cells w w.heap.size A n cs)) (hd : Hid (Cells w w.heap.size A' n' ds)) (r : Bool) (hr : Hid (sameL cs ds = r)) :
    Calls Tryz.prog 20 #[.agg #[.int .i64 L, .int .i64 O, .slice A n c], .agg #[.int .i64 L, .int .i64 O, .slice A' n' c']] w fun e w' => e = .returned (.bool r) ∧ Below w.heap.size w w' := by
  have hb0 : Below w.heap.size w ((w.alloc (N30 L O (.slice A n c))).alloc (N30 L O (.slice A' n' c'))) := ((Below.refl _ _).alloc (Nat.le_refl _) _).alloc (by simp) _
  go_enter Tryz.func20, Tryz.ntmps20
  go_wp2_with fail
  refine (carry (SameCells_any A A' n n' c c' cs ds hn _ _ _ (hc.out.below hb0) (hd.out.below hb0) r hr.out) hb0).mono ?_
  rintro e w1 ⟨rfl, hb1⟩
  go_wp2_with fail
  go_ret
  exact ⟨rfl, hb1⟩
theorem Same_any (L O L' O' : Int) (A A' : Option Addr) (n n' c c' : Nat) (cs ds : List C5) (hn : n ≤ 1000000) (w : World) (hc : Cells w w.heap.size A n cs) (hd : Cells w w.heap.size A' n' ds) (r : Bool) (hr : sameS L O cs L' O' ds = r) :
    Calls Tryz.prog 20 #[.agg #[.int .i64 L, .int .i64 O, .slice A n c], .agg #[.int .i64 L', .int .i64 O', .slice A' n' c']] w fun e w' => e = .returned (.bool r) ∧ Below w.heap.size w w' := by
  unfold sameS at hr
  cases h : ((L == L') && (O == O'))
  · rw [h] at hr
    obtain rfl : r = false := by rw [← hr]; rfl
    exact Same_ne L O L' O' A A' n n' c c' (Lib.hid h) w
  · rw [h, Bool.true_and] at hr
    simp only [Bool.and_eq_true, beq_iff_eq] at h
    obtain ⟨rfl, rfl⟩ := h
    exact Same_eq L O A A' n n' c c' cs ds hn w (Lib.hid hc) (Lib.hid hd) r (Lib.hid hr)
def fewB (n : Nat) : Bool := decide (n ≤ 60) || decide (n = 512) || decide (n = 513)
set_option maxHeartbeats 1600000 in
theorem Few_any (L O : Int) (A : Option Addr) (n c : Nat) (hn : n ≤ 9223372036854775807) (r : Bool) (hr : fewB n = r) (w : World) :
    Calls Tryz.prog 13 #[.agg #[.int .i64 L, .int .i64 O, .slice A n c]] w fun e w' => e = .returned (.bool r) ∧ Below w.heap.size w w' := by
  by_cases h1 : n ≤ 60
  · obtain rfl : r = true := by rw [← hr]; unfold fewB; simp [h1]
    clear hr
    go_enter Tryz.func13, Tryz.ntmps13
    go_wp2
    go_ret
    exact ⟨rfl, (Below.refl _ _).alloc (Nat.le_refl _) _⟩
  by_cases h2 : n = 512
  · subst h2
    obtain rfl : r = true := by rw [← hr]; rfl
    clear hr
    go_enter Tryz.func13, Tryz.ntmps13
    go_wp2
    go_ret
    exact ⟨rfl, (Below.refl _ _).alloc (Nat.le_refl _) _⟩
  have hz2 : ((n : Int) == 512) = false := by rw [beq_eq_false_iff_ne]; omega
  by_cases h3 : n = 513
  · subst h3
    obtain rfl : r = true := by rw [← hr]; rfl
    clear hr
    go_enter Tryz.func13, Tryz.ntmps13
    go_wp2
    go_ret
    exact ⟨rfl, (Below.refl _ _).alloc (Nat.le_refl _) _⟩
  · have hz3 : ((n : Int) == 513) = false := by rw [beq_eq_false_iff_ne]; omega
    obtain rfl : r = false := by rw [← hr]; unfold fewB; simp [h1, h2, h3]
    clear hr
    have h2 := Lib.hid h2
    have h3 := Lib.hid h3
    go_enter Tryz.func13, Tryz.ntmps13
    go_wp2
    go_ret
    exact ⟨ret_bool (by simp; omega), (Below.refl _ _).alloc (Nat.le_refl _) _⟩
theorem example_cells (w : World) : Cells ((w.alloc (.cells #[.int .i64 4, .int .i64 2, .slice (some ⟨w.heap.size + 1, 0, none⟩) 2 2] 30)).alloc (.cells #[.int .i64 0, .int .i64 0, .int .i64 0, .int .i64 1, .int .i64 5, .int .i64 2, .int .i64 1, .int .i64 1, .int .i64 2, .int .i64 5] 51)) ((w.alloc (.cells #[.int .i64 4, .int .i64 2, .slice (some ⟨w.heap.size + 1, 0, none⟩) 2 2] 30)).alloc (.cells #[.int .i64 0, .int .i64 0, .int .i64 0, .int .i64 1, .int .i64 5, .int .i64 2, .int .i64 1, .int .i64 1, .int .i64 2, .int .i64 5] 51)).heap.size (some ⟨w.heap.size + 1, 0, none⟩) 2 [⟨0, 0, 0, 1, 5⟩, ⟨2, 1, 1, 2, 5⟩] := by
  refine ⟨rfl, fun _ => ⟨_, _, rfl, by simp, ?_⟩⟩
  intro j c hc
  match j, hc with
  | 0, hc => cases hc; refine ⟨?_, ?_, ?_, ?_, ?_⟩ <;> simp [go_sem]
  | 1, hc => cases hc; refine ⟨?_, ?_, ?_, ?_, ?_⟩ <;> simp [go_sem]
set_option maxHeartbeats 1600000 in
theorem example_any (w : World) :
    Calls Tryz.prog 37 #[] w fun e w' => e = .returned (.agg #[.int .i64 4, .int .i64 2, .slice (some ⟨w.heap.size + 1, 0, none⟩) 2 2]) ∧ Cells w' w'.heap.size (some ⟨w.heap.size + 1, 0, none⟩) 2 [⟨0, 0, 0, 1, 5⟩, ⟨2, 1, 1, 2, 5⟩] ∧ Below w.heap.size w w' := by
  go_enter Tryz.func37, Tryz.ntmps37
  go_wp2
  exact bodyPost_ret (v := .agg #[.int .i64 4, .int .i64 2, .slice (some ⟨w.heap.size + 1, 0, none⟩) 2 2]) (by simp [results, Tryz.results37, go_sem]) rfl ⟨rfl, example_cells w, ((Below.refl _ _).alloc (Nat.le_refl _) _).alloc (by simp) _⟩
end Go.Proofs.YtnddjcadkbjjhaaGreatDoor
