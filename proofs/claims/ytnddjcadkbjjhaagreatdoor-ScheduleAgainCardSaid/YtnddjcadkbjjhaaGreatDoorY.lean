/-
  CHAPTER 35, PLAIN: the order of cells; where a cell stands among others.
-/
import Derived.Test.YtnddjcadkbjjhaaGreatDoorD
namespace Go.Proofs.YtnddjcadkbjjhaaGreatDoor
open Go.RowKit

theorem cmpC_lt (a b : C5) : cmpC a b < 0 ↔ a.s < b.s ∨ (a.s = b.s ∧ (a.o < b.o ∨ (a.o = b.o ∧ (a.f < b.f ∨ (a.f = b.f ∧ (a.t < b.t ∨ (a.t = b.t ∧ a.w < b.w))))))) := by
  simp only [cmpC, C5.ints, cmpL, cmpI_zero]
  unfold cmpI
  repeat' split
  all_goals omega
theorem cmpC_zero (a b : C5) : cmpC a b = 0 ↔ a = b := by
  have h : cmpC a b = 0 ↔ a.s = b.s ∧ a.o = b.o ∧ a.f = b.f ∧ a.t = b.t ∧ a.w = b.w := by
    simp only [cmpC, C5.ints, cmpL, cmpI_zero]
    unfold cmpI
    repeat' split
    all_goals omega
  rw [h]
  constructor
  · rintro ⟨h1, h2, h3, h4, h5⟩
    cases a; cases b
    simp only at h1 h2 h3 h4 h5
    subst h1 h2 h3 h4 h5; rfl
  · rintro rfl; exact ⟨rfl, rfl, rfl, rfl, rfl⟩
theorem cmpC_trans {a b c : C5} (h1 : cmpC a b < 0) (h2 : cmpC b c < 0) : cmpC a c < 0 := by
  rw [cmpC_lt] at *
  omega
/-- Cells in strict order. -/
def Srt (cs : List C5) : Prop := cs.Pairwise fun a b => cmpC a b < 0
theorem chain_srt (L O : Int) : ∀ (cs : List C5) (p : Option C5), chainB L O p cs = true → Srt cs ∧ ∀ q, p = some q → ∀ z ∈ cs, cmpC q z < 0
  | [], p, _ => ⟨List.Pairwise.nil, fun _ _ _ h => by cases h⟩
  | c :: l, p, h => by
    unfold chainB at h
    simp only [Bool.and_eq_true] at h
    obtain ⟨⟨h1, h2⟩, h3⟩ := h
    obtain ⟨h4, h5⟩ := chain_srt L O l (some c) h3
    refine ⟨List.Pairwise.cons (h5 c rfl) h4, fun q hq z hz => ?_⟩
    subst hq
    have h2 : cmpC q c < 0 := by simpa using h2
    rcases List.mem_cons.1 hz with rfl | hz
    · exact h2
    · exact cmpC_trans h2 (h5 c rfl z hz)
theorem form_srt {L O : Int} {cs : List C5} (h : formB L O cs = true) : Srt cs := by
  unfold formB at h
  simp only [Bool.and_eq_true] at h
  exact (chain_srt L O cs none h.2).1
/-- How many stand before a cell. -/
def posL (x : C5) : List C5 → Nat
  | [] => 0
  | c :: l => if cmpC c x < 0 then posL x l + 1 else 0
theorem posL_le (x : C5) : ∀ cs : List C5, posL x cs ≤ cs.length
  | [] => Nat.le_refl _
  | c :: l => by unfold posL; have := posL_le x l; split <;> simp <;> omega
theorem posL_lo (x : C5) : ∀ (cs : List C5) (t : Nat) (z : C5), cs[t]? = some z → t < posL x cs → cmpC z x < 0
  | [], t, z, h, _ => by simp at h
  | c :: l, t, z, h, ht => by
    unfold posL at ht
    split at ht
    · rename_i hc
      cases t with
      | zero => simp at h; subst h; exact hc
      | succ t => exact posL_lo x l t z (by simpa using h) (by omega)
    · omega
theorem cmpC_ge {c z x : C5} (h1 : cmpC c z < 0) (h2 : ¬ cmpC c x < 0) : ¬ cmpC z x < 0 := fun h => h2 (cmpC_trans h1 h)
theorem posL_hi (x : C5) : ∀ (cs : List C5), Srt cs → ∀ (t : Nat) (z : C5), cs[t]? = some z → posL x cs ≤ t → 0 ≤ cmpC z x
  | [], _, t, z, h, _ => by simp at h
  | c :: l, hs, t, z, h, ht => by
    obtain ⟨h1, h2⟩ := List.pairwise_cons.1 hs
    unfold posL at ht
    split at ht
    · cases t with
      | zero => omega
      | succ t => exact posL_hi x l h2 t z (by simpa using h) (by omega)
    · rename_i hc
      cases t with
      | zero => simp at h; subst h; omega
      | succ t =>
        have hz : z ∈ l := List.mem_of_getElem? (by simpa using h)
        have := cmpC_ge (h1 z hz) hc
        omega
theorem posL_has (x : C5) : ∀ (cs : List C5), Srt cs → (match cs[posL x cs]? with | some z => decide (cmpC z x = 0) | none => false) = decide (x ∈ cs)
  | [], _ => by simp [posL]
  | c :: l, hs => by
    obtain ⟨h1, h2⟩ := List.pairwise_cons.1 hs
    by_cases hc : cmpC c x < 0
    · have ih := posL_has x l h2
      rw [show posL x (c :: l) = posL x l + 1 from by simp [posL, hc], List.getElem?_cons_succ, ih]
      have hne : x ≠ c := fun e => by subst e; have := (cmpC_zero x x).2 rfl; omega
      simp [hne]
    · rw [show posL x (c :: l) = 0 from by simp [posL, hc], List.getElem?_cons_zero]
      show decide (cmpC c x = 0) = _
      rw [decide_eq_decide, cmpC_zero]
      constructor
      · rintro rfl; exact List.mem_cons_self
      · intro hx
        rcases List.mem_cons.1 hx with h | h
        · exact h.symm
        · exact absurd (h1 x h) hc
theorem posL_at {x : C5} {cs : List C5} (hs : Srt cs) (hx : x ∈ cs) : cs[posL x cs]? = some x ∧ posL x cs < cs.length := by
  have h := posL_has x cs hs
  rw [decide_eq_true hx] at h
  split at h
  · rename_i z hz
    have := (cmpC_zero z x).1 (of_decide_eq_true h)
    subst this
    exact ⟨hz, (List.getElem?_eq_some_iff.1 hz).1⟩
  · cases h
end Go.Proofs.YtnddjcadkbjjhaaGreatDoor
