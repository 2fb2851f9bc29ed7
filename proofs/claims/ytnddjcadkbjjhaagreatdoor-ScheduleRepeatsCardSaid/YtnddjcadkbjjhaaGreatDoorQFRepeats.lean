/-
  PLAIN: what the reference's functions (as printed) say of a schedule's form is what the program's say. No program in sight.
-/
import Derived.Test.YtnddjcadkbjjhaaGreatDoorD
import Derived.Test.YtnddjcadkbjjhaaGreatDoorPScheduleRepeatsx8
namespace Go.Proofs.YtnddjcadkbjjhaaGreatDoor.PScheduleRepeats
open Go.RowKit Go.Proofs.YtnddjcadkbjjhaaGreatDoor Go.Proofs.YtnddjcadkbjjhaaGreatDoorW.PrintWords Go.Proofs.YtnddjcadkbjjhaaGreatDoorW.PrintLast Go.Proofs.YtnddjcadkbjjhaaGreatDoorW.PrintMore

def ofC (c : C5) : S51 := ⟨c.s, c.o, c.f, c.t, c.w⟩
theorem rd_ofC {cs : List C5} {k : Nat} {c : C5} (h : cs[k]? = some c) : rd_T51 (cs.map ofC) (k : Int) = ofC c := by
  unfold rd_T51; simp [List.getD_eq_getElem?_getD, h]
theorem wrap_small {i : Int} (h0 : -1000000000000000 ≤ i) (h : i ≤ 1000000000000000) : wrap64 i = i := by unfold wrap64; omega
theorem rd_some {xs : List Int} {k : Nat} {x : Int} (h : xs[k]? = some x) : rd xs (k : Int) = x := by
  unfold rd; simp [List.getD_eq_getElem?_getD, h]
theorem less_l0 (xs ys : List Int) (hl : xs.length = ys.length) (hs : xs.length ≤ 100) : ∀ d i k : Nat, xs.length - i = d → i ≤ xs.length → d < k →
    hopmeshref35_Less.l0 k xs ys i = some (decide (cmpL (xs.drop i) (ys.drop i) < 0)) := by
  intro d
  induction d with
  | zero =>
    intro i k hd hi hk
    obtain ⟨k, rfl⟩ : ∃ m, k = m + 1 := ⟨k - 1, by omega⟩
    simp only [hopmeshref35_Less.l0]
    rw [if_neg (by omega), cmpL_nil _ _ _ (by omega)]; rfl
  | succ d ih =>
    intro i k hd hi hk
    obtain ⟨k, rfl⟩ : ∃ m, k = m + 1 := ⟨k - 1, by omega⟩
    have h1 : i < xs.length := by omega
    have h2 : i < ys.length := by omega
    have e1 := List.getElem?_eq_getElem h1
    have e2 := List.getElem?_eq_getElem h2
    simp only [hopmeshref35_Less.l0]
    rw [if_pos (by omega), if_pos (by omega), if_pos (by omega), rd_some e1, rd_some e2, cmpL_drop xs ys i _ _ e1 e2, wrap_small (by omega) (by omega)]
    by_cases h : xs[i] = ys[i]
    · rw [if_pos h, if_pos ((cmpI_zero _ _).2 h)]
      exact ih (i + 1) k (by omega) (by omega) (by omega)
    · rw [if_neg h, if_neg (fun e => h ((cmpI_zero _ _).1 e))]
      congr 1
      unfold cmpI
      by_cases h3 : xs[i] < ys[i]
      · rw [if_pos h3]; simp [h3]
      · rw [if_neg h3, if_pos (by omega)]; simp [h3]
theorem less_eq (c d : C5) (k : Nat) (hk : 5 < k) : hopmeshref35_Less.f k c.s c.o c.f c.t c.w d.s d.o d.f d.t d.w = some (decide (cmpC c d < 0)) := by
  unfold hopmeshref35_Less.f hopmeshref35_numbers.f
  simp only [Option.bind_some]
  exact less_l0 c.ints d.ints rfl (by simp [C5.ints]) 5 0 k rfl (by omega) hk
theorem in_eq (a b c : Int) : hopmeshref35_in.f a b c = some (decide (b ≤ a) && decide (a ≤ c)) := by
  unfold hopmeshref35_in.f
  by_cases h : b ≤ a
  · rw [if_pos h]; simp [h]
  · rw [if_neg h]; simp [h]
theorem right_eq (L O : Int) (ds : List S51) (c : C5) (hL0 : -1000000 ≤ L) (hL : L ≤ 1000000) (hO0 : -1000000 ≤ O) (hO : O ≤ 1000000) : hopmeshref35_right.f L O ds c.s c.o c.f c.t c.w = some (formedB L O c) := by
  unfold hopmeshref35_right.f
  rw [wrap_small (by omega) (by omega), wrap_small (by omega) (by omega)]
  simp only [in_eq, Option.bind_some]
  have e : ∀ x n : Int, (decide (0 ≤ x) && decide (x ≤ n - 1)) = insB x n := fun x n => by
    unfold insB
    congr 1
    rw [decide_eq_decide]; omega
  have e31 : ∀ x : Int, (decide (0 ≤ x) && decide (x ≤ 31)) = insB x 32 := fun x => e x 32
  have e255 : ∀ x : Int, (decide (0 ≤ x) && decide (x ≤ 255)) = insB x 256 := fun x => e x 256
  rw [e, e, e31, e31, e255]
  unfold formedB placedB
  cases insB c.s L <;> cases insB c.o O <;> cases insB c.f 32 <;> cases insB c.t 32 <;> cases insB c.w 256 <;> rfl
theorem formed_l0 (L O : Int) (cs : List C5) (hL0 : -1000000 ≤ L) (hL : L ≤ 1000000) (hO0 : -1000000 ≤ O) (hO : O ≤ 1000000) (hn : cs.length ≤ 1000000) : ∀ d i k : Nat, cs.length - i = d → i ≤ cs.length → d + 6 < k →
    hopmeshref35_Formed.l0 k i L O (cs.map ofC) = some (chainB L O (prevAt cs i) (cs.drop i)) := by
  intro d
  induction d with
  | zero =>
    intro i k hd hi hk
    obtain ⟨k, rfl⟩ : ∃ m, k = m + 1 := ⟨k - 1, by omega⟩
    simp only [hopmeshref35_Formed.l0, List.length_map]
    rw [if_neg (by omega), chain_end _ _ _ _ (by omega)]
  | succ d ih =>
    intro i k hd hi hk
    obtain ⟨k, rfl⟩ : ∃ m, k = m + 1 := ⟨k - 1, by omega⟩
    have h1 : i < cs.length := by omega
    have e1 := List.getElem?_eq_getElem h1
    simp only [hopmeshref35_Formed.l0, List.length_map]
    rw [if_pos (by omega), if_pos (by omega), rd_ofC e1, wrap_small (i := (i : Int) + 1) (by omega) (by omega), chain_drop L O cs i _ e1]
    have hr := right_eq L O (cs.map ofC) cs[i] hL0 hL hO0 hO
    have ih' := ih (i + 1) k (by omega) (by omega) (by omega)
    simp only [Int.natCast_add, Int.cast_ofNat_Int] at ih'
    simp only [ofC]
    rw [hr]
    simp only [Option.bind_some]
    cases hf : formedB L O cs[i]
    · rfl
    · rw [if_pos rfl]
      rcases Nat.eq_zero_or_pos i with h0 | h0
      · subst h0
        rw [if_neg (by omega), ih']
        simp [prevAt]
      · obtain ⟨m, rfl⟩ : ∃ m, i = m + 1 := ⟨i - 1, by omega⟩
        have e2 : cs[m]? = some (cs[m]'(by omega)) := List.getElem?_eq_getElem (by omega)
        have e3 : (((m + 1 : Nat) : Int) - 1) = (m : Int) := by omega
        rw [if_pos (by omega), wrap_small (by omega) (by omega), e3, if_pos (by omega), if_pos (by omega), rd_ofC e2]
        simp only [ofC]
        rw [less_eq _ _ k (by omega)]
        simp only [Option.bind_some]
        rw [show prevAt cs (m + 1) = some cs[m] from e2]
        simp only [Bool.true_and]
        by_cases h4 : cmpC cs[m] cs[m + 1] < 0
        · simp only [h4, decide_true, if_true, Bool.true_and]; exact ih'
        · simp only [h4, decide_false, Bool.false_eq_true, if_false, Bool.false_and]
theorem formed_eq (L O : Int) (cs : List C5) (hn : cs.length ≤ 1000000) (k : Nat) (hk : cs.length + 8 < k) : hopmeshref35_Formed.f k L O (cs.map ofC) = some (formB L O cs) := by
  unfold hopmeshref35_Formed.f
  simp only [in_eq, Option.bind_some, List.length_map]
  obtain ⟨k, rfl⟩ : ∃ m, k = m + 1 := ⟨k - 1, by omega⟩
  unfold formB sizedB
  by_cases h1 : 1 ≤ L ∧ L ≤ 512
  · simp only [h1.1, h1.2, decide_true, Bool.and_self, if_true]
    by_cases h2 : 1 ≤ O ∧ O ≤ 16
    · simp only [h2.1, h2.2, decide_true, Bool.and_self, if_true, Bool.true_and]
      simp only [hopmeshref35_Formed.j0]
      by_cases h3 : cs.length ≤ 512
      · rw [if_neg (by simp; omega)]
        have := formed_l0 L O cs (by omega) (by omega) (by omega) (by omega) hn cs.length 0 k (by omega) (by omega) (by omega)
        rw [show (((0 : Nat) : Int)) = 0 from rfl] at this
        rw [this]
        simp [h3, prevAt]
      · rw [if_pos (by simp; omega)]
        simp [h3]
    · have e : (decide (1 ≤ O) && decide (O ≤ 16)) = false := by rw [← Bool.not_eq_true]; simpa using h2
      have e' : ∀ b : Bool, (b && decide (1 ≤ O) && decide (O ≤ 16)) = false := fun b => by rw [Bool.and_assoc, e, Bool.and_false]
      rw [e]
      simp only [Bool.false_eq_true, if_false, hopmeshref35_Formed.j0, if_true, e', Bool.false_and]
  · have e : (decide (1 ≤ L) && decide (L ≤ 512)) = false := by rw [← Bool.not_eq_true]; simpa using h1
    rw [e]
    simp only [Bool.false_eq_true, if_false, hopmeshref35_Formed.j0, if_true, Bool.false_and]
end Go.Proofs.YtnddjcadkbjjhaaGreatDoor.PScheduleRepeats
