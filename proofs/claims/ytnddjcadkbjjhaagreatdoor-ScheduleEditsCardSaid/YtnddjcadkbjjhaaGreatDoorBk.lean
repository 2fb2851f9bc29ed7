/-
  CHAPTER 35, PLAIN: a cell added, and taken away again.
-/
import Derived.Test.YtnddjcadkbjjhaaGreatDoorDifA
import Derived.Test.YtnddjcadkbjjhaaGreatDoorAddC
namespace Go.Proofs.YtnddjcadkbjjhaaGreatDoor
open Go.RowKit

theorem cmpC_tot {c x : C5} (h1 : ¬ cmpC c x < 0) (h2 : c ≠ x) : cmpC x c < 0 := by
  have h3 : ¬ cmpC c x = 0 := fun e => h2 ((cmpC_zero c x).1 e)
  have h4 : ¬ (c.s = x.s ∧ c.o = x.o ∧ c.f = x.f ∧ c.t = x.t ∧ c.w = x.w) := fun ⟨e1, e2, e3, e4, e5⟩ => h2 (by
    cases c; cases x
    simp only at e1 e2 e3 e4 e5
    subst e1 e2 e3 e4 e5; rfl)
  rw [cmpC_lt] at h1 ⊢
  omega
theorem insP_cons (x c : C5) (l : List C5) : insL (c :: l) (posL x (c :: l)) x = if cmpC c x < 0 then c :: insL l (posL x l) x else x :: c :: l := by
  unfold insL
  by_cases h : cmpC c x < 0 <;> simp [posL, h]
theorem insP_mem (x z : C5) (cs : List C5) : z ∈ insL cs (posL x cs) x ↔ z = x ∨ z ∈ cs := by
  induction cs with
  | nil => simp [insL, posL]
  | cons c l ih =>
    rw [insP_cons]
    split
    · rw [List.mem_cons, ih, List.mem_cons]
      constructor
      · rintro (h | h | h) <;> simp [h]
      · rintro (h | h | h) <;> simp [h]
    · simp
theorem insP_pos (x : C5) (cs : List C5) : posL x (insL cs (posL x cs) x) = posL x cs := by
  have hxx : ¬ cmpC x x < 0 := by have := (cmpC_zero x x).2 rfl; omega
  induction cs with
  | nil => simp [insL, posL, hxx]
  | cons c l ih =>
    rw [insP_cons]
    by_cases h : cmpC c x < 0
    · rw [if_pos h]
      simp only [posL, h, if_true]
      rw [ih]
    · rw [if_neg h]
      simp [posL, h, hxx]
theorem insP_chain (L O : Int) (x : C5) (hx : formedB L O x = true) : ∀ (cs : List C5) (p : Option C5), chainB L O p cs = true → (∀ q, p = some q → cmpC q x < 0) → ¬ x ∈ cs → chainB L O p (insL cs (posL x cs) x) = true
  | [], p, _, hp, _ => by
    show chainB L O p [x] = true
    unfold chainB
    rw [hx]
    cases p with
    | none => rfl
    | some q =>
      have := hp q rfl
      simp [this, chainB]
  | c :: l, p, h, hp, hn => by
    rw [insP_cons]
    unfold chainB at h
    simp only [Bool.and_eq_true] at h
    obtain ⟨⟨h1, h2⟩, h3⟩ := h
    by_cases hc : cmpC c x < 0
    · rw [if_pos hc]
      unfold chainB
      simp only [Bool.and_eq_true]
      exact ⟨⟨h1, h2⟩, insP_chain L O x hx l (some c) h3 (fun q hq => by cases hq; exact hc) (fun h => hn (List.mem_cons_of_mem _ h))⟩
    · rw [if_neg hc]
      have hxc : cmpC x c < 0 := cmpC_tot hc (fun e => hn (by rw [e]; exact List.mem_cons_self))
      unfold chainB
      simp only [Bool.and_eq_true]
      refine ⟨⟨hx, ?_⟩, ?_⟩
      · cases p with
        | none => rfl
        | some q => simpa using hp q rfl
      · unfold chainB
        simp only [Bool.and_eq_true]
        exact ⟨⟨h1, by simpa using hxc⟩, h3⟩
theorem insP_form {L O : Int} {x : C5} {cs : List C5} (h : formB L O cs = true) (hx : formedB L O x = true) (hn : ¬ x ∈ cs) (hl : cs.length ≠ 512) : formB L O (insL cs (posL x cs) x) = true := by
  unfold formB at h ⊢
  simp only [Bool.and_eq_true, decide_eq_true_eq] at h ⊢
  obtain ⟨⟨h1, h2⟩, h3⟩ := h
  refine ⟨⟨h1, ?_⟩, insP_chain L O x hx cs none h3 (fun q hq => by cases hq) hn⟩
  rw [insL_length cs _ x (posL_le x cs)]; omega
theorem keep_none {x : C5} {cs : List C5} : keepL (insL cs (posL x cs) x) cs = [] := by
  unfold keepL
  rw [List.filter_eq_nil_iff]
  intro z hz
  simp [(insP_mem x z cs).2 (Or.inr hz)]
theorem keep_one {x : C5} {cs : List C5} (hn : ¬ x ∈ cs) : keepL cs (insL cs (posL x cs) x) = [x] := by
  unfold keepL insL
  rw [List.filter_append, List.filter_cons]
  have h1 : (cs.take (posL x cs)).filter (fun z => decide (¬ z ∈ cs)) = [] := by
    rw [List.filter_eq_nil_iff]
    intro z hz
    simp [List.mem_of_mem_take hz]
  have h2 : (cs.drop (posL x cs)).filter (fun z => decide (¬ z ∈ cs)) = [] := by
    rw [List.filter_eq_nil_iff]
    intro z hz
    simp [List.mem_of_mem_drop hz]
  rw [h1, h2]
  simp [hn]
theorem del_ins {x : C5} {cs : List C5} : delL (insL cs (posL x cs) x) (posL x (insL cs (posL x cs) x)) = cs := by
  rw [insP_pos]
  have h := posL_le x cs
  have ht : (cs.take (posL x cs)).length = posL x cs := by rw [List.length_take]; omega
  unfold delL insL
  rw [List.take_append_of_le_length (by omega), List.take_of_length_le (by omega), List.drop_append, List.drop_of_length_le (by omega), ht, show posL x cs + 1 - posL x cs = 1 from by omega]
  simp
theorem at_ins {L O : Int} {x : C5} {cs : List C5} (h : formB L O cs = true) (hx : formedB L O x = true) (hn : ¬ x ∈ cs) (hl : cs.length ≠ 512) : x ∈ atR L O (insL cs (posL x cs) x) x.s := by
  have hs := form_slot hx
  have hf := insP_form h hx hn hl
  unfold atR
  rw [hf]
  have hm : x.s % L = x.s := Int.emod_eq_of_lt hs.1 hs.2
  have hi : x ∈ insL cs (posL x cs) x := (insP_mem x x cs).2 (Or.inl rfl)
  rw [if_pos ⟨rfl, hs.1⟩, hm]
  simp [slotC, hi]
end Go.Proofs.YtnddjcadkbjjhaaGreatDoor
