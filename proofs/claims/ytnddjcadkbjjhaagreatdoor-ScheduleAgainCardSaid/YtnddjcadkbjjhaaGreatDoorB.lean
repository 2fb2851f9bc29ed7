/-
  CHAPTER 35, THE ORDER OF CELLS: numbers, slices.Compare, order, compare.
-/
import Derived.Test.YtnddjcadkbjjhaaGreatDoorA
import Derived.Deep.RegionWith
import Derived.Deep.DeepCutAuto
namespace Go.Proofs.YtnddjcadkbjjhaaGreatDoor
open Go.RowKit

/-- A slice value that reads as a list of ints, nil let in; it lies below block B. -/
def Reads (w : World) (B : Nat) (A : Option Addr) (n : Nat) (xs : List Int) : Prop :=
  xs.length = n ∧ (0 < n → ∃ b off, A = some ⟨b, off, none⟩ ∧ b < B ∧ ∀ j x, xs[j]? = some x → w.cell? ⟨b, off + j, none⟩ = some (.int .i64 x))
section
variable {w w' : World} {B B' n : Nat} {A : Option Addr} {xs : List Int}
theorem Reads.at_ {k : Nat} (h : Reads w B A n xs) (hk : k < n) : ∃ b off x, A = some ⟨b, off, none⟩ ∧ b < B ∧ xs[k]? = some x ∧ w.cell? ⟨b, off + k, none⟩ = some (.int .i64 x) := by
  obtain ⟨b, off, e, hb, hc⟩ := h.2 (by omega)
  have hl : k < xs.length := by have := h.1; omega
  exact ⟨b, off, xs[k], e, hb, List.getElem?_eq_getElem hl, hc k _ (List.getElem?_eq_getElem hl)⟩
theorem Reads.keep (h : Reads w B A n xs) (hk : ∀ p : Addr, p.block < B → w'.cell? p = w.cell? p) : Reads w' B A n xs :=
  ⟨h.1, fun hn => by
    obtain ⟨b, off, e, hb, hc⟩ := h.2 hn
    exact ⟨b, off, e, hb, fun j u hu => (hk ⟨b, off + j, none⟩ hb).trans (hc j u hu)⟩⟩
theorem Reads.below (h : Reads w B A n xs) (hb : Below B w w') : Reads w' B A n xs := h.keep fun _ hp => hb.cell hp
theorem Reads.more (h : Reads w B A n xs) (hB : B ≤ B') : Reads w B' A n xs :=
  ⟨h.1, fun hn => by
    obtain ⟨b, off, e, hb, hc⟩ := h.2 hn
    exact ⟨b, off, e, by omega, hc⟩⟩
end

def cmpI (a b : Int) : Int := if a < b then -1 else if b < a then 1 else 0
/-- Lists of one length, compared number by number. -/
def cmpL : List Int → List Int → Int
  | a :: l, b :: m => if cmpI a b = 0 then cmpL l m else cmpI a b
  | _, _ => 0
theorem cmpI_lt (a b : Int) : cmpI a b = -1 ↔ a < b := by unfold cmpI; split <;> (try split) <;> omega
theorem cmpI_zero (a b : Int) : cmpI a b = 0 ↔ a = b := by unfold cmpI; split <;> (try split) <;> omega
theorem cmpI_self (a : Int) : cmpI a a = 0 := (cmpI_zero a a).2 rfl

set_option maxHeartbeats 800000 in
theorem Compare_lt (a b : Int) (h : a < b) (w : World) : Calls Tryz.prog 147 #[.int .i64 a, .int .i64 b] w fun e w' => e = .returned (.int .i64 (-1)) ∧ w = w' := by
  go_enter Tryz.func147, Tryz.ntmps147
  go_wp2
  go_ret
  exact ⟨rfl, rfl⟩
set_option maxHeartbeats 800000 in
theorem Compare_gt (a b : Int) (h : b < a) (w : World) : Calls Tryz.prog 147 #[.int .i64 a, .int .i64 b] w fun e w' => e = .returned (.int .i64 1) ∧ w = w' := by
  go_enter Tryz.func147, Tryz.ntmps147
  go_wp2
  go_ret
  exact ⟨rfl, rfl⟩
set_option maxHeartbeats 800000 in
theorem Compare_eq (a : Int) (w : World) : Calls Tryz.prog 147 #[.int .i64 a, .int .i64 a] w fun e w' => e = .returned (.int .i64 0) ∧ w = w' := by
  go_enter Tryz.func147, Tryz.ntmps147
  go_wp2
  go_ret
  exact ⟨rfl, rfl⟩
theorem Compare_lit (a b r : Int) (h : cmpI a b = r) (w : World) : Calls Tryz.prog 147 #[.int .i64 a, .int .i64 b] w fun e w' => e = .returned (.int .i64 r) ∧ w = w' := by
  subst h
  unfold cmpI
  by_cases h1 : a < b
  · rw [if_pos h1]; exact Compare_lt a b h1 w
  · rw [if_neg h1]
    by_cases h2 : b < a
    · rw [if_pos h2]; exact Compare_gt a b h2 w
    · rw [if_neg h2]
      obtain rfl : a = b := by omega
      exact Compare_eq a w
theorem cmpL_drop (l m : List Int) (k : Nat) (x y : Int) (hx : l[k]? = some x) (hy : m[k]? = some y) : cmpL (l.drop k) (m.drop k) = if cmpI x y = 0 then cmpL (l.drop (k + 1)) (m.drop (k + 1)) else cmpI x y := by
  obtain ⟨h1, e1⟩ := List.getElem?_eq_some_iff.1 hx
  obtain ⟨h2, e2⟩ := List.getElem?_eq_some_iff.1 hy
  rw [List.drop_eq_getElem_cons h1, List.drop_eq_getElem_cons h2, e1, e2]; rfl
theorem cmpL_nil (l m : List Int) (k : Nat) (h : l.length ≤ k) : cmpL (l.drop k) (m.drop k) = 0 := by
  rw [List.drop_eq_nil_of_le h]; rfl
set_option maxHeartbeats 1600000 in
/-- slices.Compare of two slices of one length. -/
theorem sliceCompare (A A' : Option Addr) (n c c' B B' : Nat) (xs ys : List Int) (w : World) (hn : n ≤ 1000) (hx : Reads w B A n xs) (hy : Reads w B' A' n ys) (r : Int) (hr : cmpL xs ys = r) :
    Calls Tryz.prog 141 #[.slice A n c, .slice A' n c'] w fun e w' => e = .returned (.int .i64 r) ∧ w = w' := by
  have HX := Lib.hid hx
  have HY := Lib.hid hy
  have HRr := Lib.hid hr
  clear hx hy hr
  go_enter Tryz.func141, Tryz.ntmps141
  go_wp2
  go_loop [11] (fun i => ∃ k : Nat, k ≤ n ∧ i = .int .i64 k ∧ Hid (cmpL (xs.drop k) (ys.drop k) = r)) (fun i => n - (intOf i).toNat)
  case atStart => exact ⟨0, Nat.zero_le _, rfl, HRr⟩
  case round =>
    obtain ⟨k, hk, rfl, H⟩ := hrel
    by_cases hlt : k < n
    · obtain ⟨b, off, x, rfl, _, ex, hc⟩ := HX.out.at_ hlt
      obtain ⟨b', off', y, rfl, _, ey, hc'⟩ := HY.out.at_ hlt
      have hd := Lib.hid (cmpL_drop xs ys k x y ex ey)
      clear ex ey
      by_cases hz : cmpI x y = 0
      · have hz' := Lib.hid hz
        clear hz
        go_wp2_with (go_at_call 147; refine (Compare_lit x y 0 hz'.out _).mono ?_; rintro e w' ⟨rfl, rfl⟩)
        go_round
        case rel => exact ⟨k + 1, by omega, by go_num, Lib.hid (by have := hd.out; rw [if_pos hz'.out, H.out] at this; exact this.symm)⟩
        case measure => simp [intOf]; omega
      · have hz' := Lib.hid hz
        have hne : (cmpI x y == 0) = false := by rw [beq_eq_false_iff_ne]; exact hz
        clear hz
        go_wp2_with (go_at_call 147; refine (Compare_lit x y (cmpI x y) rfl _).mono ?_; rintro e w' ⟨rfl, rfl⟩)
        go_ret
        exact ⟨ret_int (by have := hd.out; rw [if_neg hz'.out, H.out] at this; exact this.symm), rfl⟩
    · have h0 : Hid (r = 0) := Lib.hid (by rw [← H.out]; exact cmpL_nil xs ys k (by have := HX.out.1; omega))
      go_wp2
      go_ret
      exact ⟨ret_int h0.out.symm, rfl⟩

set_option maxHeartbeats 800000 in
theorem numbers_any (a b c d e : Int) (w : World) :
    Calls Tryz.prog 56 #[.agg #[.int .i64 a, .int .i64 b, .int .i64 c, .int .i64 d, .int .i64 e]] w fun r w' => r = .returned (.agg #[.int .i64 a, .int .i64 b, .int .i64 c, .int .i64 d, .int .i64 e]) ∧ Below w.heap.size w w' := by
  go_enter Tryz.func56, Tryz.ntmps56
  go_wp2
  exact bodyPost_ret (v := .agg #[.int .i64 a, .int .i64 b, .int .i64 c, .int .i64 d, .int .i64 e]) (by simp [results, Tryz.results56, go_sem]) rfl ⟨rfl, ((Below.refl _ _).alloc (Nat.le_refl _) _).alloc (by simp) _⟩
end Go.Proofs.YtnddjcadkbjjhaaGreatDoor
