/-
  CHAPTER 35, THE BASE: small predicates of package schedule (inside, placed, formed, sized), each call's result; what lay in memory stays.
-/
import Derived.Test.YtnddjcadkbjjhaaGreatDoorRows
import Derived.WalkKit
import Derived.WalkSpells
import Derived.WalkLawsBesides
import Derived.BigQuiet
import Derived.Deep.QuietTactic
import Derived.Lib.Hide
import Derived.IntWalk
import Derived.Below
import Derived.Deep.Draws
namespace Go.Proofs.YtnddjcadkbjjhaaGreatDoor
open Go.RowKit

theorem ret_int {k : IntKind} {a b : Int} (h : a = b) : Ending.returned (.int k a) = .returned (.int k b) := by rw [h]
theorem ret_bool {a b : Bool} (h : a = b) : Ending.returned (.bool a) = .returned (.bool b) := by rw [h]
theorem bstep {B : Nat} {w W W' : World} (h : Below B w W) (h' : Below W.heap.size W W') (hB : B ≤ w.heap.size) : Below B w W' := h.trans (h'.mono (Nat.le_trans hB h.size))
/-- A contract that keeps what lies below, seen from an older world. -/
theorem carry {P : Program} {f : FuncId} {args : Array Value} {R : Ending → Prop} {w0 W : World} (h : Calls P f args W fun e w' => R e ∧ Below W.heap.size W w') (hb : Below w0.heap.size w0 W) :
    Calls P f args W fun e w' => R e ∧ Below w0.heap.size w0 w' := h.mono fun _ _ ⟨h1, h2⟩ => ⟨h1, bstep hb h2 (Nat.le_refl _)⟩
/-- All old cells and marks read as before. -/
theorem bcell {W w1 : World} (hb : Below W.heap.size W w1) : (∀ b o, b < W.heap.size → w1.cell? ⟨b, o, none⟩ = W.cell? ⟨b, o, none⟩) ∧ (∀ b o, b < W.heap.size → w1.frozen? ⟨b, o, none⟩ = W.frozen? ⟨b, o, none⟩) :=
  ⟨fun b o h => hb.cell (p := ⟨b, o, none⟩) h, fun b o h => hb.frozen (p := ⟨b, o, none⟩) h⟩

/-- A cell of a schedule: slot, offset, from, to, flow. -/
structure C5 where
  s : Int
  o : Int
  f : Int
  t : Int
  w : Int
deriving DecidableEq
def C5.val (c : C5) : Value := .agg #[.int .i64 c.s, .int .i64 c.o, .int .i64 c.f, .int .i64 c.t, .int .i64 c.w]
def C5.cells (c : C5) : List Value := [.int .i64 c.s, .int .i64 c.o, .int .i64 c.f, .int .i64 c.t, .int .i64 c.w]

def insB (x n : Int) : Bool := decide (0 ≤ x) && decide (x < n)
theorem insB_iff (x n : Int) : insB x n = true ↔ 0 ≤ x ∧ x < n := by unfold insB; simp
theorem insB_not (x n : Int) : insB x n = false ↔ x < 0 ∨ n ≤ x := by rw [← Bool.not_eq_true, insB_iff]; omega
set_option maxHeartbeats 400000 in
theorem inside_t (x n : Int) (h0 : 0 ≤ x) (w : World) : Calls Tryz.prog 105 #[.int .i64 x, .int .i64 n] w fun e w' => e = .returned (.bool (decide (x < n))) ∧ w = w' := by
  go_enter Tryz.func105, Tryz.ntmps105
  by_cases h : x < n
  · go_wp2
    go_ret
    exact ⟨ret_bool (by simp [h]), rfl⟩
  · go_wp2
    go_ret
    exact ⟨ret_bool (by simp [h]), rfl⟩
set_option maxHeartbeats 400000 in
theorem inside_f (x n : Int) (h0 : x < 0) (w : World) : Calls Tryz.prog 105 #[.int .i64 x, .int .i64 n] w fun e w' => e = .returned (.bool false) ∧ w = w' := by
  go_enter Tryz.func105, Tryz.ntmps105
  go_wp2
  go_ret
  exact ⟨rfl, rfl⟩
theorem inside_lit (x n : Int) (b : Bool) (h : insB x n = b) (w : World) : Calls Tryz.prog 105 #[.int .i64 x, .int .i64 n] w fun e w' => e = .returned (.bool b) ∧ w = w' := by
  subst h
  by_cases h0 : 0 ≤ x
  · refine (inside_t x n h0 w).mono fun e w' ⟨h1, h2⟩ => ⟨h1.trans (ret_bool ?_), h2⟩
    unfold insB; simp [h0]
  · refine (inside_f x n (by omega) w).mono fun e w' ⟨h1, h2⟩ => ⟨h1.trans (ret_bool ?_), h2⟩
    unfold insB; simp [h0]

def placedB (L O : Int) (c : C5) : Bool := insB c.s L && insB c.o O
set_option maxHeartbeats 800000 in
theorem placed_no (L O : Int) (S : Value) (c : C5) (h : Hid (insB c.s L = false)) (w : World) :
    Calls Tryz.prog 84 #[.agg #[.int .i64 L, .int .i64 O, S], .agg #[.int .i64 c.s, .int .i64 c.o, .int .i64 c.f, .int .i64 c.t, .int .i64 c.w]] w fun e w' => e = .returned (.bool false) ∧ Below w.heap.size w w' := by
  go_enter Tryz.func84, Tryz.ntmps84
  go_wp2_with (go_at_call 105; refine (inside_lit c.s L false h.out _).mono ?_; rintro e w' ⟨rfl, rfl⟩)
  go_ret
  exact ⟨rfl, ((Below.refl _ _).alloc (Nat.le_refl _) _).alloc (by simp) _⟩
set_option maxHeartbeats 800000 in
theorem placed_yes (L O : Int) (S : Value) (c : C5) (b : Bool) (h : Hid (insB c.s L = true)) (h2 : Hid (insB c.o O = b)) (w : World) :
    Calls Tryz.prog 84 #[.agg #[.int .i64 L, .int .i64 O, S], .agg #[.int .i64 c.s, .int .i64 c.o, .int .i64 c.f, .int .i64 c.t, .int .i64 c.w]] w fun e w' => e = .returned (.bool b) ∧ Below w.heap.size w w' := by
  go_enter Tryz.func84, Tryz.ntmps84
  go_wp2_with fail
  refine (inside_lit c.s L true h.out _).mono ?_
  rintro e w' ⟨rfl, rfl⟩
  go_wp2_with fail
  refine (inside_lit c.o O b h2.out _).mono ?_
  rintro e w' ⟨rfl, rfl⟩
  go_wp2_with fail
  go_ret
  exact ⟨rfl, ((Below.refl _ _).alloc (Nat.le_refl _) _).alloc (by simp) _⟩
theorem placed_lit (L O : Int) (S : Value) (c : C5) (b : Bool) (h : placedB L O c = b) (w : World) :
    Calls Tryz.prog 84 #[.agg #[.int .i64 L, .int .i64 O, S], .agg #[.int .i64 c.s, .int .i64 c.o, .int .i64 c.f, .int .i64 c.t, .int .i64 c.w]] w fun e w' => e = .returned (.bool b) ∧ Below w.heap.size w w' := by
  subst h
  unfold placedB
  cases h1 : insB c.s L
  · exact placed_no L O S c (Lib.hid h1) w
  · exact placed_yes L O S c _ (Lib.hid h1) (Lib.hid (by simp)) w

def formedB (L O : Int) (c : C5) : Bool := placedB L O c && insB c.f 32 && insB c.t 32 && insB c.w 256
set_option maxHeartbeats 800000 in
theorem formed_0 (L O : Int) (S : Value) (c : C5) (h0 : Hid (placedB L O c = false)) (w : World) :
    Calls Tryz.prog 71 #[.agg #[.int .i64 L, .int .i64 O, S], .agg #[.int .i64 c.s, .int .i64 c.o, .int .i64 c.f, .int .i64 c.t, .int .i64 c.w]] w fun e w' => e = .returned (.bool false) ∧ Below w.heap.size w w' := by
  go_enter Tryz.func71, Tryz.ntmps71
  go_wp2_with fail
  refine (placed_lit L O S c false h0.out _).mono ?_
  rintro e w1 ⟨rfl, hb⟩
  obtain ⟨hc, hf⟩ := bcell hb
  have hz : w.heap.size + 1 < w1.heap.size := by have := hb.size; simp at this; omega
  go_wp2_with fail
  go_ret
  exact ⟨rfl, ((((Below.refl _ _).alloc (Nat.le_refl _) _).alloc (by simp) _).trans (hb.mono (by simp; omega)))⟩

set_option maxHeartbeats 800000 in
theorem formed_1 (L O : Int) (S : Value) (c : C5) (h0 : Hid (placedB L O c = true)) (h1 : Hid (insB c.f 32 = false)) (w : World) :
    Calls Tryz.prog 71 #[.agg #[.int .i64 L, .int .i64 O, S], .agg #[.int .i64 c.s, .int .i64 c.o, .int .i64 c.f, .int .i64 c.t, .int .i64 c.w]] w fun e w' => e = .returned (.bool false) ∧ Below w.heap.size w w' := by
  go_enter Tryz.func71, Tryz.ntmps71
  go_wp2_with fail
  refine (placed_lit L O S c true h0.out _).mono ?_
  rintro e w1 ⟨rfl, hb⟩
  obtain ⟨hc, hf⟩ := bcell hb
  have hz : w.heap.size + 1 < w1.heap.size := by have := hb.size; simp at this; omega
  go_wp2_with fail
  refine (inside_lit c.f 32 false h1.out _).mono ?_
  rintro e w' ⟨rfl, rfl⟩
  go_wp2_with fail
  go_ret
  exact ⟨rfl, ((((Below.refl _ _).alloc (Nat.le_refl _) _).alloc (by simp) _).trans (hb.mono (by simp; omega)))⟩

set_option maxHeartbeats 800000 in
theorem formed_2 (L O : Int) (S : Value) (c : C5) (h0 : Hid (placedB L O c = true)) (h1 : Hid (insB c.f 32 = true)) (h2 : Hid (insB c.t 32 = false)) (w : World) :
    Calls Tryz.prog 71 #[.agg #[.int .i64 L, .int .i64 O, S], .agg #[.int .i64 c.s, .int .i64 c.o, .int .i64 c.f, .int .i64 c.t, .int .i64 c.w]] w fun e w' => e = .returned (.bool false) ∧ Below w.heap.size w w' := by
  go_enter Tryz.func71, Tryz.ntmps71
  go_wp2_with fail
  refine (placed_lit L O S c true h0.out _).mono ?_
  rintro e w1 ⟨rfl, hb⟩
  obtain ⟨hc, hf⟩ := bcell hb
  have hz : w.heap.size + 1 < w1.heap.size := by have := hb.size; simp at this; omega
  go_wp2_with fail
  refine (inside_lit c.f 32 true h1.out _).mono ?_
  rintro e w' ⟨rfl, rfl⟩
  go_wp2_with fail
  refine (inside_lit c.t 32 false h2.out _).mono ?_
  rintro e w' ⟨rfl, rfl⟩
  go_wp2_with fail
  go_ret
  exact ⟨rfl, ((((Below.refl _ _).alloc (Nat.le_refl _) _).alloc (by simp) _).trans (hb.mono (by simp; omega)))⟩

set_option maxHeartbeats 800000 in
theorem formed_3 (L O : Int) (S : Value) (c : C5) (b : Bool) (h0 : Hid (placedB L O c = true)) (h1 : Hid (insB c.f 32 = true)) (h2 : Hid (insB c.t 32 = true)) (h3 : Hid (insB c.w 256 = b)) (w : World) :
    Calls Tryz.prog 71 #[.agg #[.int .i64 L, .int .i64 O, S], .agg #[.int .i64 c.s, .int .i64 c.o, .int .i64 c.f, .int .i64 c.t, .int .i64 c.w]] w fun e w' => e = .returned (.bool b) ∧ Below w.heap.size w w' := by
  go_enter Tryz.func71, Tryz.ntmps71
  go_wp2_with fail
  refine (placed_lit L O S c true h0.out _).mono ?_
  rintro e w1 ⟨rfl, hb⟩
  obtain ⟨hc, hf⟩ := bcell hb
  have hz : w.heap.size + 1 < w1.heap.size := by have := hb.size; simp at this; omega
  go_wp2_with fail
  refine (inside_lit c.f 32 true h1.out _).mono ?_
  rintro e w' ⟨rfl, rfl⟩
  go_wp2_with fail
  refine (inside_lit c.t 32 true h2.out _).mono ?_
  rintro e w' ⟨rfl, rfl⟩
  go_wp2_with fail
  refine (inside_lit c.w 256 b h3.out _).mono ?_
  rintro e w' ⟨rfl, rfl⟩
  go_wp2_with fail
  go_ret
  exact ⟨rfl, ((((Below.refl _ _).alloc (Nat.le_refl _) _).alloc (by simp) _).trans (hb.mono (by simp; omega)))⟩

theorem formed_lit (L O : Int) (S : Value) (c : C5) (b : Bool) (h : formedB L O c = b) (w : World) :
    Calls Tryz.prog 71 #[.agg #[.int .i64 L, .int .i64 O, S], .agg #[.int .i64 c.s, .int .i64 c.o, .int .i64 c.f, .int .i64 c.t, .int .i64 c.w]] w fun e w' => e = .returned (.bool b) ∧ Below w.heap.size w w' := by
  subst h
  unfold formedB
  cases h0 : placedB L O c
  · exact formed_0 L O S c (Lib.hid h0) w
  cases h1 : insB c.f 32
  · exact formed_1 L O S c (Lib.hid h0) (Lib.hid h1) w
  cases h2 : insB c.t 32
  · exact formed_2 L O S c (Lib.hid h0) (Lib.hid h1) (Lib.hid h2) w
  · exact formed_3 L O S c _ (Lib.hid h0) (Lib.hid h1) (Lib.hid h2) (Lib.hid (by simp)) w

def sizedB (L O : Int) : Bool := decide (1 ≤ L) && decide (L ≤ 512) && decide (1 ≤ O) && decide (O ≤ 16)
theorem sizedB_iff (L O : Int) : sizedB L O = true ↔ 1 ≤ L ∧ L ≤ 512 ∧ 1 ≤ O ∧ O ≤ 16 := by unfold sizedB; simp [and_assoc]

set_option maxHeartbeats 800000 in
theorem sized_1 (L O : Int) (S : Value) (h0 : L < 1) (w : World) :
    Calls Tryz.prog 40 #[.agg #[.int .i64 L, .int .i64 O, S]] w fun e w' => e = .returned (.bool false) ∧ Below w.heap.size w w' := by
  go_enter Tryz.func40, Tryz.ntmps40
  go_wp2
  go_ret
  exact ⟨ret_bool (by simp; try omega), (Below.refl _ _).alloc (Nat.le_refl _) _⟩

set_option maxHeartbeats 800000 in
theorem sized_2 (L O : Int) (S : Value) (h0 : 1 ≤ L) (h1 : 512 < L) (w : World) :
    Calls Tryz.prog 40 #[.agg #[.int .i64 L, .int .i64 O, S]] w fun e w' => e = .returned (.bool false) ∧ Below w.heap.size w w' := by
  go_enter Tryz.func40, Tryz.ntmps40
  go_wp2
  go_ret
  exact ⟨ret_bool (by simp; try omega), (Below.refl _ _).alloc (Nat.le_refl _) _⟩

set_option maxHeartbeats 800000 in
theorem sized_3 (L O : Int) (S : Value) (h0 : 1 ≤ L) (h1 : L ≤ 512) (h2 : O < 1) (w : World) :
    Calls Tryz.prog 40 #[.agg #[.int .i64 L, .int .i64 O, S]] w fun e w' => e = .returned (.bool false) ∧ Below w.heap.size w w' := by
  go_enter Tryz.func40, Tryz.ntmps40
  go_wp2
  go_ret
  exact ⟨ret_bool (by simp; try omega), (Below.refl _ _).alloc (Nat.le_refl _) _⟩

set_option maxHeartbeats 800000 in
theorem sized_4 (L O : Int) (S : Value) (h0 : 1 ≤ L) (h1 : L ≤ 512) (h2 : 1 ≤ O) (h3 : 16 < O) (w : World) :
    Calls Tryz.prog 40 #[.agg #[.int .i64 L, .int .i64 O, S]] w fun e w' => e = .returned (.bool false) ∧ Below w.heap.size w w' := by
  go_enter Tryz.func40, Tryz.ntmps40
  go_wp2
  go_ret
  exact ⟨ret_bool (by simp; try omega), (Below.refl _ _).alloc (Nat.le_refl _) _⟩

set_option maxHeartbeats 800000 in
theorem sized_5 (L O : Int) (S : Value) (h0 : 1 ≤ L) (h1 : L ≤ 512) (h2 : 1 ≤ O) (h3 : O ≤ 16) (w : World) :
    Calls Tryz.prog 40 #[.agg #[.int .i64 L, .int .i64 O, S]] w fun e w' => e = .returned (.bool true) ∧ Below w.heap.size w w' := by
  go_enter Tryz.func40, Tryz.ntmps40
  go_wp2
  go_ret
  exact ⟨ret_bool (by simp; try omega), (Below.refl _ _).alloc (Nat.le_refl _) _⟩

theorem sized_lit (L O : Int) (S : Value) (b : Bool) (h : sizedB L O = b) (w : World) :
    Calls Tryz.prog 40 #[.agg #[.int .i64 L, .int .i64 O, S]] w fun e w' => e = .returned (.bool b) ∧ Below w.heap.size w w' := by
  subst h
  have h := sizedB_iff L O
  by_cases h0 : L < 1
  · rw [show sizedB L O = false by rw [← Bool.not_eq_true, h]; omega]; exact sized_1 L O S h0 w
  by_cases h1 : 512 < L
  · rw [show sizedB L O = false by rw [← Bool.not_eq_true, h]; omega]; exact sized_2 L O S (by omega) h1 w
  by_cases h2 : O < 1
  · rw [show sizedB L O = false by rw [← Bool.not_eq_true, h]; omega]; exact sized_3 L O S (by omega) (by omega) h2 w
  by_cases h3 : 16 < O
  · rw [show sizedB L O = false by rw [← Bool.not_eq_true, h]; omega]; exact sized_4 L O S (by omega) (by omega) (by omega) h3 w
  · rw [show sizedB L O = true by rw [h]; omega]; exact sized_5 L O S (by omega) (by omega) (by omega) (by omega) w
end Go.Proofs.YtnddjcadkbjjhaaGreatDoor
