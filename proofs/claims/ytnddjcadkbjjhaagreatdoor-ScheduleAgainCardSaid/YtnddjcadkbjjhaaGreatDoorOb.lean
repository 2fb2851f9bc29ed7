/-
  CHAPTER 35: ScheduleAgain's parts: Few of a network, cells that differ in the slot alone.
-/
import Derived.Test.YtnddjcadkbjjhaaGreatDoorNa
import Derived.Test.YtnddjcadkbjjhaaGreatDoorL
namespace Go.Proofs.YtnddjcadkbjjhaaGreatDoor
open Go.RowKit

/-- Rows of any length. -/
def RowsW (w : World) (B : Nat) (A : Option Addr) (n : Nat) (xs : List (List Int)) : Prop :=
  xs.length = n ∧ (0 < n → ∃ b off, A = some ⟨b, off, none⟩ ∧ b < B ∧ ∀ (j : Nat) r, xs[j]? = some r → ∃ A' c', w.cell? ⟨b, off + j, none⟩ = some (.slice A' r.length c') ∧ Reads w B A' r.length r ∧ r.length ≤ maxLen)
theorem RowsW.rows2 {w : World} {B : Nat} {A : Option Addr} {n : Nat} {xs : List (List Int)} (h : RowsW w B A n xs) (hs : ∀ r ∈ xs, r.length ≤ 1000000) : Rows2 w B A n xs :=
  ⟨h.1, fun hn => by
    obtain ⟨b, off, e, hb, hc⟩ := h.2 hn
    refine ⟨b, off, e, hb, fun j r hr => ?_⟩
    obtain ⟨A', c', h1, h2, _⟩ := hc j r hr
    exact ⟨A', c', h1, h2, hs r (List.mem_of_getElem? hr)⟩⟩
theorem RowsW.at_ {w : World} {B : Nat} {A : Option Addr} {n : Nat} {xs : List (List Int)} {k : Nat} (h : RowsW w B A n xs) (hk : k < n) : ∃ b off r A' c', A = some ⟨b, off, none⟩ ∧ b < B ∧ xs[k]? = some r ∧ w.cell? ⟨b, off + k, none⟩ = some (.slice A' r.length c') ∧ r.length ≤ maxLen := by
  obtain ⟨b, off, e, hb, hc⟩ := h.2 (by omega)
  have hl : k < xs.length := by have := h.1; omega
  obtain ⟨A', c', h1, _, h2⟩ := hc k _ (List.getElem?_eq_getElem hl)
  exact ⟨b, off, xs[k], A', c', e, hb, List.getElem?_eq_getElem hl, h1, h2⟩
theorem RowsW.below {w w' : World} {B : Nat} {A : Option Addr} {n : Nat} {xs : List (List Int)} (h : RowsW w B A n xs) (hb : Below B w w') : RowsW w' B A n xs :=
  ⟨h.1, fun hn => by
    obtain ⟨b, off, e, hB, hc⟩ := h.2 hn
    refine ⟨b, off, e, hB, fun j r hr => ?_⟩
    obtain ⟨A', c', h1, h2, h3⟩ := hc j r hr
    exact ⟨A', c', (hb.cell (p := ⟨b, _, none⟩) hB).trans h1, h2.below hb, h3⟩⟩
theorem RowsW.more {w : World} {B B' : Nat} {A : Option Addr} {n : Nat} {xs : List (List Int)} (h : RowsW w B A n xs) (hB : B ≤ B') : RowsW w B' A n xs :=
  ⟨h.1, fun hn => by
    obtain ⟨b, off, e, hb, hc⟩ := h.2 hn
    refine ⟨b, off, e, by omega, fun j r hr => ?_⟩
    obtain ⟨A', c', h1, h2, h3⟩ := hc j r hr
    exact ⟨A', c', h1, h2.more hB, h3⟩⟩
/-- A network as it came in. -/
def NetO (w : World) (B : Nat) (N : NT) : Prop := RowsW w B N.Ap N.np N.rows ∧ Links w B N.Al N.nl N.ls ∧ Reads w B N.Am N.nm N.ms ∧ N.np ≤ maxLen ∧ N.nl ≤ maxLen ∧ N.nm ≤ maxLen
def fewN (N : NT) : Bool := N.rows.all (fun r => decide (r.length ≤ 40)) && (decide (N.np ≤ 8) && decide (N.nl ≤ 60) && decide (N.nm ≤ 60))
theorem fewN_small {N : NT} (h : fewN N = true) : N.small := by
  unfold fewN at h
  simp only [Bool.and_eq_true, decide_eq_true_eq] at h
  unfold NT.small
  omega
theorem NetO.net {w : World} {B : Nat} {N : NT} (h : NetO w B N) (hf : fewN N = true) : NetM w B N := by
  unfold fewN at hf
  simp only [Bool.and_eq_true, List.all_eq_true, decide_eq_true_eq] at hf
  exact ⟨h.1.rows2 fun r hr => by have := hf.1 r hr; omega, h.2.1, h.2.2.1⟩
abbrev NV (N : NT) : Value := .agg #[.int .i64 N.k, .slice N.Ap N.np N.cp, .int .i64 N.z, .int .i64 N.h, .slice N.Al N.nl N.cl, .slice N.Am N.nm N.cm]
theorem maxLen_le : maxLen ≤ 9223372036854775807 := by unfold maxLen; omega
def shortFrom (N : NT) (k : Nat) : Bool := (N.rows.drop k).all fun r => decide (r.length ≤ 40)
theorem shortFrom_drop (N : NT) (k : Nat) (x : List Int) (h : N.rows[k]? = some x) : shortFrom N k = (decide (x.length ≤ 40) && shortFrom N (k + 1)) := by
  obtain ⟨h1, e1⟩ := List.getElem?_eq_some_iff.1 h
  unfold shortFrom
  rw [List.drop_eq_getElem_cons h1, e1]; rfl
set_option maxHeartbeats 4000000 in
set_option maxRecDepth 100000 in
theorem FewN_any (N : NT) (r : Bool) (hr : fewN N = r) (w : World) (hN : NetO w w.heap.size N) :
    Calls Tryz.prog 12 #[NV N] w fun e w' => e = .returned (.bool r) ∧ Below w.heap.size w w' := by
  obtain ⟨hR, _, _, hnp, hnl, hnm⟩ := hN
  have hm := maxLen_le
  have hw0 := alloc_below w (ONT N)
  have hN0 := Lib.hid (BoxNT.new N w)
  have hNl0 : w.heap.size < (w.alloc (ONT N)).heap.size := by simp
  have hR0 := Lib.hid ((hR.below hw0).more hw0.size)
  have hl := hR.1
  have hr0 : Hid ((shortFrom N 0 && (decide (N.np ≤ 8) && decide (N.nl ≤ 60) && decide (N.nm ≤ 60))) = r) := Lib.hid (by rw [← hr]; rfl)
  clear hR hr
  go_enter Tryz.func12, Tryz.ntmps12
  go_upto_region 1 with fail
  revert hw0 hN0 hNl0 hR0
  generalize w.alloc (ONT N) = w0
  intro hw0 hN0 hNl0 hR0
  obtain ⟨n0, n1, n2, n3, n4, n5⟩ := id hN0.out
  go_wp2_with fail
  clear n0 n1 n2 n3 n4 n5
  go_loopw [3] (fun i wx => ∃ k : Nat, k ≤ N.np ∧ i = .int .i64 k ∧ Below w0.heap.size w0 wx ∧ Hid ((shortFrom N k && (decide (N.np ≤ 8) && decide (N.nl ≤ 60) && decide (N.nm ≤ 60))) = r)) (fun i _ => N.np - (intOf i).toNat)
  case atStart => exact ⟨0, Nat.zero_le _, rfl, Below.refl _ _, hr0⟩
  case round =>
    obtain ⟨k, hk, rfl, hwx, H⟩ := hrel
    have hNr := Lib.hid (hN0.out.below hwx hNl0)
    have hbw := bstep hw0 hwx (Nat.le_refl _)
    obtain ⟨n0, n1, n2, n3, n4, n5⟩ := id hNr.out
    by_cases hlt : k < N.np
    · obtain ⟨b, off, x, A', c', hA, hb, ex, x0, hx⟩ := ((hR0.out.below hwx).more hwx.size).at_ hlt
      have hd := Lib.hid (shortFrom_drop N k x ex)
      have hk0 : (0 : Int) ≤ (k : Int) := by omega
      have hk1 : (k : Int) < (N.np : Int) := by omega
      have ex := Lib.hid ex
      rw [hA] at n1
      have hA := Lib.hid hA
      by_cases hx4 : x.length ≤ 40
      · have hH : Hid ((shortFrom N (k + 1) && (decide (N.np ≤ 8) && decide (N.nl ≤ 60) && decide (N.nm ≤ 60))) = r) := Lib.hid (by rw [← H.out, hd.out, decide_eq_true hx4, Bool.true_and])
        go_wp2_with fail
        go_roundw
        case rel => exact ⟨k + 1, by omega, by go_num, hwx, hH⟩
        case measure => simp [intOf]; omega
      · obtain rfl : r = false := by rw [← H.out, hd.out, decide_eq_false hx4]; rfl
        go_wp2_with fail
        go_ret
        exact ⟨rfl, hbw⟩
    · have hrr : Hid ((decide (N.np ≤ 8) && decide (N.nl ≤ 60) && decide (N.nm ≤ 60)) = r) := Lib.hid (by
        rw [← H.out]
        have : shortFrom N k = true := by unfold shortFrom; rw [List.drop_eq_nil_of_le (by omega)]; rfl
        rw [this, Bool.true_and])
      by_cases h8 : N.np ≤ 8
      · by_cases h6 : N.nl ≤ 60
        · by_cases h7 : N.nm ≤ 60
          · obtain rfl : r = true := by rw [← hrr.out]; simp [h8, h6, h7]
            go_wp2_with fail
            go_ret
            exact ⟨ret_bool (by simp; omega), hbw⟩
          · obtain rfl : r = false := by rw [← hrr.out]; simp [h7]
            go_wp2_with fail
            go_ret
            exact ⟨ret_bool (by simp; omega), hbw⟩
        · obtain rfl : r = false := by rw [← hrr.out]; simp [h6]
          go_wp2_with fail
          go_ret
          exact ⟨ret_bool (by simp), hbw⟩
      · obtain rfl : r = false := by rw [← hrr.out]; simp [h8]
        go_wp2_with fail
        go_ret
        exact ⟨ret_bool (by simp), hbw⟩
set_option maxHeartbeats 4000000 in
set_option maxRecDepth 100000 in
theorem again1 (x : C5) (d : Int) (w : World) :
    Calls Tryz.prog 25 #[.agg #[.int .i64 x.s, .int .i64 x.o, .int .i64 x.f, .int .i64 x.t, .int .i64 x.w], .agg #[.int .i64 (x.s + d), .int .i64 x.o, .int .i64 x.f, .int .i64 x.t, .int .i64 x.w]] w fun e w' => e = .returned (.bool true) ∧ Below w.heap.size w w' := by
  go_enter Tryz.func25, Tryz.ntmps25
  go_wp2_with fail
  go_ret
  exact ⟨ret_bool (by simp), ((Below.refl _ _).alloc (Nat.le_refl _) _).alloc (by simp) _⟩
set_option maxHeartbeats 4000000 in
set_option maxRecDepth 100000 in
theorem EqualFunc_again (A A' : Option Addr) (n c c' : Nat) (cs : List C5) (d : Int) (hn : n ≤ 1000000) (w : World) (hC : Hid (Cells w w.heap.size A n cs)) (hD : Hid (Cells w w.heap.size A' n (cs.map (shiftC d)))) :
    Calls Tryz.prog 24 #[.slice A n c, .slice A' n c', .func (.func 25) #[] #[]] w fun e w' => e = .returned (.bool true) ∧ Below w.heap.size w w' := by
  have hl := hC.out.1
  go_enter Tryz.func24, Tryz.ntmps24
  go_wp2_with fail
  go_loopw [17] (fun i wx => ∃ k : Nat, k ≤ n ∧ i = .int .i64 k ∧ Below w.heap.size w wx) (fun i _ => n - (intOf i).toNat)
  case atStart => exact ⟨0, Nat.zero_le _, rfl, Below.refl _ _⟩
  case round =>
    obtain ⟨k, hk, rfl, hwx⟩ := hrel
    by_cases hlt : k < n
    · obtain ⟨b, off, x, rfl, hb, ex, x0, x1, x2, x3, x4⟩ := (hC.out.below hwx).at_ hlt
      obtain ⟨b', off', y, rfl, hb', ey, y0, y1, y2, y3, y4⟩ := (hD.out.below hwx).at_ hlt
      have hk0 : (0 : Int) ≤ (k : Int) := by omega
      have hk1 : (k : Int) < (n : Int) := by omega
      obtain rfl : y = shiftC d x := by
        rw [List.getElem?_map, ex] at ey
        simpa using ey.symm
      clear ex ey
      have hs := hwx.size
      have hbr : b < wr.heap.size := by omega
      have hbr' : b' < wr.heap.size := by omega
      go_wp2_with fail
      refine (again1 x d _).mono ?_
      rintro e w2 ⟨rfl, hb2⟩
      go_wp2_with fail
      go_roundw
      case rel => exact ⟨k + 1, by omega, by go_num, bstep ((hwx.alloc hs _).alloc (by simp; omega) _) hb2 (Nat.le_refl _)⟩
      case measure => simp [intOf]; omega
    · go_wp2_with fail
      go_ret
      exact ⟨rfl, hwx⟩
end Go.Proofs.YtnddjcadkbjjhaaGreatDoor
