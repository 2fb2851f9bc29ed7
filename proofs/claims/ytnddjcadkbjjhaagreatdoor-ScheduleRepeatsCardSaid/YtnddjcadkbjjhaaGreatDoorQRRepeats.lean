/-
  PLAIN: what the reference's Repeat (as printed) gives is what the program's gives.
-/
import Derived.Test.YtnddjcadkbjjhaaGreatDoorL
import Derived.Test.YtnddjcadkbjjhaaGreatDoorQFRepeats
import Derived.Test.YtnddjcadkbjjhaaGreatDoorPScheduleRepeatsx9
namespace Go.Proofs.YtnddjcadkbjjhaaGreatDoor.PScheduleRepeats
open Go.RowKit Go.Proofs.YtnddjcadkbjjhaaGreatDoor Go.Proofs.YtnddjcadkbjjhaaGreatDoorW.PrintWords Go.Proofs.YtnddjcadkbjjhaaGreatDoorW.PrintLast Go.Proofs.YtnddjcadkbjjhaaGreatDoorW.PrintMore

/-- From some number of rounds on. -/
def From {α : Type} (g : Nat → Option α) (r : α) : Prop := ∃ K, ∀ k, K ≤ k → g k = some r
theorem rep_inner (L O t oL oO : Int) (cs : List C5) (i : Nat) (hi : (i : Int) < t) (ht : t ≤ 512) (hL0 : 0 ≤ L) (hL : L ≤ 512) (hn : cs.length ≤ 512) (hs : ∀ c ∈ cs, 0 ≤ c.s ∧ c.s ≤ 512) (r : Int × Int × List S51 × Int)
    (hr : From (fun k => hopmeshref35_Repeat.l0 k t ((i : Int) + 1) L O (cs.map ofC) oL oO ((repC L cs (i + 1)).map ofC)) r) :
    ∀ d m : Nat, cs.length - m = d → m ≤ cs.length → From (fun k => hopmeshref35_Repeat.l1 k t i m L O (cs.map ofC) oL oO ((repC L cs i ++ (cs.take m).map (shiftC (i * L))).map ofC)) r := by
  intro d
  induction d with
  | zero =>
    intro m hd hm
    obtain ⟨K, hK⟩ := hr
    refine ⟨K + 1, fun k hk => ?_⟩
    obtain ⟨k, rfl⟩ : ∃ q, k = q + 1 := ⟨k - 1, by omega⟩
    simp only [hopmeshref35_Repeat.l1, List.length_map]
    rw [if_neg (by omega), wrap_small (by omega) (by omega), List.take_of_length_le (by omega)]
    exact hK k (by omega)
  | succ d ih =>
    intro m hd hm
    obtain ⟨K, hK⟩ := ih (m + 1) (by omega) (by omega)
    refine ⟨K + 1, fun k hk => ?_⟩
    obtain ⟨k, rfl⟩ : ∃ q, k = q + 1 := ⟨k - 1, by omega⟩
    have h1 : m < cs.length := by omega
    have e1 := List.getElem?_eq_getElem h1
    have hx := hs cs[m] (List.getElem_mem h1)
    have hm1 := mul_small (a := (i : Int)) (b := L) (by omega) (by omega) (by omega) (by omega)
    have hlen : ((repC L cs i ++ (cs.take m).map (shiftC (i * L))).map ofC).length < 3518437208883 := by
      rw [List.length_map, List.length_append, repC_length, List.length_map, List.length_take]
      have : cs.length * i ≤ 512 * 512 := Nat.mul_le_mul hn (by omega)
      omega
    have hK' := hK k (by omega)
    simp only [hopmeshref35_Repeat.l1, List.length_map]
    rw [if_pos (by omega), if_pos (by omega), if_pos (by rw [List.length_map] at hlen; exact hlen), wrap_small (i := (m : Int) + 1) (by omega) (by omega), rd_ofC e1]
    simp only [ofC]
    rw [wrap_small (i := (i : Int) * L) (by omega) (by omega), wrap_small (i := cs[m].s + (i : Int) * L) (by omega) (by omega)]
    rw [map_take_succ _ cs m _ e1, ← List.append_assoc, List.map_append] at hK'
    simp only [Int.natCast_add, Int.cast_ofNat_Int, List.map_cons, List.map_nil] at hK'
    exact hK'
theorem rep_outer (L O oL oO : Int) (t : Nat) (cs : List C5) (ht : t ≤ 512) (hL0 : 0 ≤ L) (hL : L ≤ 512) (hn : cs.length ≤ 512) (hs : ∀ c ∈ cs, 0 ≤ c.s ∧ c.s ≤ 512) :
    ∀ d i : Nat, t - i = d → i ≤ t → From (fun k => hopmeshref35_Repeat.l0 k t i L O (cs.map ofC) oL oO ((repC L cs i).map ofC)) (oL, oO, (repC L cs t).map ofC, 0) := by
  intro d
  induction d with
  | zero =>
    intro i hd hi
    obtain rfl : i = t := by omega
    refine ⟨1, fun k hk => ?_⟩
    obtain ⟨k, rfl⟩ : ∃ q, k = q + 1 := ⟨k - 1, by omega⟩
    simp only [hopmeshref35_Repeat.l0]
    rw [if_neg (by omega)]
  | succ d ih =>
    intro i hd hi
    have h1 := ih (i + 1) (by omega) (by omega)
    simp only [Int.natCast_add, Int.cast_ofNat_Int] at h1
    obtain ⟨K, hK⟩ := rep_inner L O t oL oO cs i (by omega) (by omega) hL0 hL hn hs _ h1 cs.length 0 (by omega) (by omega)
    refine ⟨K + 1, fun k hk => ?_⟩
    obtain ⟨k, rfl⟩ : ∃ q, k = q + 1 := ⟨k - 1, by omega⟩
    simp only [hopmeshref35_Repeat.l0]
    rw [if_pos (by omega)]
    have := hK k (by omega)
    simpa using this
theorem repeat_eq (L O t : Int) (cs : List C5) (hn : cs.length ≤ 1000000) :
    ∃ k, hopmeshref35_Repeat.f k L O (cs.map ofC) t = some ((repR L O cs t).L, (repR L O cs t).O, (repR L O cs t).cs.map ofC, (repR L O cs t).e) := by
  have hf := fun k hk => formed_eq L O cs hn k hk
  unfold repR
  cases hform : formB L O cs
  · refine ⟨cs.length + 9, ?_⟩
    unfold hopmeshref35_Repeat.f
    rw [hf _ (by omega), hform]; rfl
  · have hsz := form_sized hform
    have hs : ∀ c ∈ cs, 0 ≤ c.s ∧ c.s ≤ 512 := fun c hc => by have := form_slot (form_mem hform c hc); omega
    rw [if_neg (by simp)]
    by_cases h1 : t < 1
    · refine ⟨cs.length + 10, ?_⟩
      unfold hopmeshref35_Repeat.f
      rw [hf _ (by omega), hform]
      simp only [Option.bind_some, if_true]
      rw [if_pos h1, if_pos (Or.inl h1)]
      simp [hopmeshref35_Repeat.j0]
    · by_cases h2 : t > 512
      · have h3 : 512 / L < t := by have : (512 : Int) / L ≤ 512 := Int.ediv_le_self L (by omega); omega
        refine ⟨cs.length + 10, ?_⟩
        unfold hopmeshref35_Repeat.f
        rw [hf _ (by omega), hform]
        simp only [Option.bind_some, if_true]
        rw [if_neg h1, if_pos h2, if_pos (Or.inr h3)]
        simp [hopmeshref35_Repeat.j0]
      · have hm := mul_small (a := L) (b := t) (by omega) (by omega) (by omega) (by omega)
        have hdiv : 512 / L < t ↔ 512 < L * t := by rw [Int.ediv_lt_iff_lt_mul (by omega), Int.mul_comm]
        by_cases h3 : 512 < L * t
        · refine ⟨cs.length + 10, ?_⟩
          unfold hopmeshref35_Repeat.f
          rw [hf _ (by omega), hform]
          simp only [Option.bind_some, if_true]
          rw [if_neg h1, if_neg h2, wrap_small (by omega) (by omega), if_pos (Or.inr (hdiv.2 h3))]
          have : decide (L * t > 512) = true := by simpa using h3
          rw [this]
          simp [hopmeshref35_Repeat.j0]
        · have hd : decide (L * t > 512) = false := by simpa using h3
          have hm2 := mul_small (a := (cs.length : Int)) (b := t) (by omega) (by omega) (by omega) (by omega)
          rw [if_neg (by rw [hdiv]; omega)]
          by_cases h4 : 512 < (cs.length : Int) * t
          · refine ⟨cs.length + 10, ?_⟩
            unfold hopmeshref35_Repeat.f
            rw [hf _ (by omega), hform]
            simp only [Option.bind_some, if_true]
            rw [if_neg h1, if_neg h2, wrap_small (by omega) (by omega), hd, if_pos h4]
            simp only [hopmeshref35_Repeat.j0, List.length_map, Bool.false_eq_true, if_false]
            rw [wrap_small (by omega) (by omega), if_pos (by omega)]; rfl
          · rw [if_neg h4]
            obtain ⟨n, rfl⟩ : ∃ n : Nat, t = n := ⟨t.toNat, by omega⟩
            obtain ⟨K, hK⟩ := rep_outer L O (L * n) O n cs (by omega) (by omega) (by omega) (by omega) hs n 0 (by omega) (by omega)
            refine ⟨K + cs.length + 10, ?_⟩
            unfold hopmeshref35_Repeat.f
            rw [hf _ (by omega), hform]
            simp only [Option.bind_some, if_true]
            rw [if_neg h1, if_neg h2, wrap_small (by omega) (by omega), hd]
            simp only [hopmeshref35_Repeat.j0, List.length_map, Bool.false_eq_true, if_false]
            rw [wrap_small (i := (cs.length : Int) * n) (by omega) (by omega), if_neg (by omega), wrap_small (by omega) (by omega)]
            have := hK (K + cs.length + 9) (by omega)
            simpa [repC] using this
end Go.Proofs.YtnddjcadkbjjhaaGreatDoor.PScheduleRepeats
