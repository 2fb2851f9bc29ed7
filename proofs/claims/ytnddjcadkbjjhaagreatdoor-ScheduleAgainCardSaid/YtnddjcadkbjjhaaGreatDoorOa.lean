/-
  CHAPTER 35, PLAIN: a repeated schedule has the same cells in each slot, and the same fault (but for a period that does not divide).
-/
import Derived.Test.YtnddjcadkbjjhaaGreatDoorNo
import Derived.Test.YtnddjcadkbjjhaaGreatDoorL
import Derived.Test.YtnddjcadkbjjhaaGreatDoorY
namespace Go.Proofs.YtnddjcadkbjjhaaGreatDoor
open Go.RowKit

def inSlots (L : Int) (cs : List C5) : Prop := ∀ c ∈ cs, 0 ≤ c.s ∧ c.s < L
theorem rep_mem (L : Int) (cs : List C5) (x : C5) : ∀ n, x ∈ repC L cs n ↔ ∃ i, i < n ∧ ∃ c ∈ cs, x = shiftC ((i : Int) * L) c
  | 0 => by simp [repC]
  | n + 1 => by
    unfold repC
    rw [List.mem_append, rep_mem L cs x n, List.mem_map]
    constructor
    · rintro (⟨i, hi, c, hc, e⟩ | ⟨c, hc, e⟩)
      · exact ⟨i, by omega, c, hc, e⟩
      · exact ⟨n, by omega, c, hc, e.symm⟩
    · rintro ⟨i, hi, c, hc, e⟩
      by_cases h : i = n
      · subst h; exact .inr ⟨c, hc, e.symm⟩
      · exact .inl ⟨i, by omega, c, hc, e⟩
theorem mulL {L : Int} (hL : 1 ≤ L) {i j : Nat} (h : i < j) : (i : Int) * L + L ≤ (j : Int) * L := by
  have h1 : ((i : Int) + 1) * L ≤ (j : Int) * L := Int.mul_le_mul_of_nonneg_right (by omega) (by omega)
  rw [Int.add_mul, Int.one_mul] at h1
  exact h1
theorem rep_slots {L : Int} (hL : 1 ≤ L) {cs : List C5} (hs : inSlots L cs) (n : Nat) : inSlots (L * n) (repC L cs n) := by
  intro x hx
  obtain ⟨i, hi, c, hc, rfl⟩ := (rep_mem L cs x n).1 hx
  have h1 := hs c hc
  have h2 := mulL hL hi
  have h3 : (0 : Int) ≤ (i : Int) * L := Int.mul_nonneg (by omega) (by omega)
  rw [Int.mul_comm (L : Int)]
  show 0 ≤ c.s + _ ∧ c.s + _ < _
  omega
/-- A law between cells that a shift does not touch, and that holds between a cell and one of a later slot. -/
theorem rep_pair {L : Int} (hL : 1 ≤ L) {cs : List C5} (hs : inSlots L cs) {R : C5 → C5 → Prop} (hR : ∀ d a b, R (shiftC d a) (shiftC d b) ↔ R a b) (hl : ∀ a b : C5, a.s < b.s → R a b) (n : Nat) : (repC L cs (n + 1)).Pairwise R ↔ cs.Pairwise R := by
  have hmap : ∀ d, (cs.map (shiftC d)).Pairwise R ↔ cs.Pairwise R := fun d => by
    rw [List.pairwise_map]
    constructor
    · exact fun h => h.imp fun h => (hR d _ _).1 h
    · exact fun h => h.imp fun h => (hR d _ _).2 h
  have hcross : ∀ n, ∀ a ∈ repC L cs n, ∀ b ∈ cs.map (shiftC ((n : Int) * L)), R a b := by
    intro n a ha b hb
    obtain ⟨c, hc, rfl⟩ := List.mem_map.1 hb
    have h1 := rep_slots hL hs n a ha
    have h2 := hs c hc
    refine hl _ _ ?_
    rw [Int.mul_comm] at h1
    show a.s < c.s + _
    omega
  induction n with
  | zero =>
    show ([] ++ cs.map _).Pairwise R ↔ _
    rw [List.nil_append]; exact hmap _
  | succ n ih =>
    show (repC L cs (n + 1) ++ cs.map _).Pairwise R ↔ _
    rw [List.pairwise_append]
    exact ⟨fun h => ih.1 h.1, fun h => ⟨ih.2 h, (hmap _).2 h, hcross (n + 1)⟩⟩
theorem shift_cmp (d : Int) (a b : C5) : (cmpC (shiftC d a) (shiftC d b) < 0) ↔ cmpC a b < 0 := by
  rw [cmpC_lt, cmpC_lt]
  simp only [shiftC]
  omega
theorem formB_iff (L O : Int) (cs : List C5) : formB L O cs = true ↔ sizedB L O = true ∧ cs.length ≤ 512 ∧ (∀ c ∈ cs, formedB L O c = true) ∧ Srt cs := by
  constructor
  · intro h
    have h1 := form_mem h
    have h2 := form_srt h
    unfold formB at h
    simp only [Bool.and_eq_true, decide_eq_true_eq] at h
    exact ⟨h.1.1, h.1.2, h1, h2⟩
  · rintro ⟨h1, h2, h3, h4⟩
    have key : ∀ (l : List C5) (p : Option C5), (∀ c ∈ l, formedB L O c = true) → Srt l → (∀ q, p = some q → ∀ z ∈ l, cmpC q z < 0) → chainB L O p l = true := by
      intro l
      induction l with
      | nil => intros; rfl
      | cons c l ih =>
        intro p g1 g2 g3
        unfold chainB
        cases g2 with
        | cons g4 g5 =>
          rw [g1 c List.mem_cons_self, ih (some c) (fun z hz => g1 z (List.mem_cons_of_mem _ hz)) g5 (fun q e z hz => by cases e; exact g4 z hz)]
          cases p with
          | none => rfl
          | some q => simp [g3 q rfl c List.mem_cons_self]
    unfold formB
    rw [h1, key cs none h3 h4 (fun q e => by cases e)]
    simp [h2]
theorem formed_slots {L O : Int} {cs : List C5} (h : ∀ c ∈ cs, formedB L O c = true) : inSlots L cs := fun c hc => form_slot (h c hc)
theorem rep_form {L O : Int} {cs : List C5} {t : Nat} (h : formB L O cs = true) (ht : 1 ≤ t) (hL : L * t ≤ 512) (hn : cs.length * t ≤ 512) : formB (L * t) O (repC L cs t) = true := by
  obtain ⟨h1, h2, h3, h4⟩ := (formB_iff L O cs).1 h
  have h5 := (sizedB_iff L O).1 h1
  have hs := formed_slots h3
  obtain ⟨n, rfl⟩ : ∃ n, t = n + 1 := ⟨t - 1, by omega⟩
  refine (formB_iff _ _ _).2 ⟨(sizedB_iff _ _).2 ⟨?_, hL, h5.2.2⟩, by rw [repC_length]; exact hn, fun c hc => ?_, ?_⟩
  · have := Int.mul_le_mul_of_nonneg_left (a := (1 : Int)) (b := ((n + 1 : Nat) : Int)) (c := L) (by omega) (by omega)
    omega
  · have hc2 := rep_slots h5.1 hs (n + 1) c hc
    obtain ⟨i, hi, z, hz, rfl⟩ := (rep_mem L cs _ _).1 hc
    have := h3 z hz
    unfold formedB placedB at this ⊢
    simp only [Bool.and_eq_true, insB_iff] at this ⊢
    exact ⟨⟨⟨⟨hc2, this.1.1.1.2⟩, this.1.1.2⟩, this.1.2⟩, this.2⟩
  · exact (rep_pair h5.1 hs (R := fun a b => cmpC a b < 0) shift_cmp (fun a b hab => (cmpC_lt a b).2 (.inl hab)) n).2 h4
/-- The cells of a slot of a repeated schedule. -/
theorem rep_slot {L : Int} (hL : 1 ≤ L) {cs : List C5} (hs : inSlots L cs) {i : Nat} {s : Int} (h0 : 0 ≤ s) (h1 : s < L) : ∀ n, i < n → slotC (s + i * L) (repC L cs n) = (slotC s cs).map (shiftC ((i : Int) * L))
  | 0, h => absurd h (by omega)
  | n + 1, h => by
    unfold repC slotC
    rw [List.filter_append]
    by_cases e : i = n
    · subst e
      have e1 : (repC L cs i).filter (fun c => decide (c.s = s + i * L)) = [] := by
        rw [List.filter_eq_nil_iff]
        intro a ha
        have := rep_slots hL hs i a ha
        rw [Int.mul_comm] at this
        simp; omega
      rw [e1, List.nil_append, List.filter_map]
      congr 1
      congr 1
      funext c
      simp [shiftC, Function.comp]
    · have e2 : (cs.map (shiftC ((n : Int) * L))).filter (fun c => decide (c.s = s + i * L)) = [] := by
        rw [List.filter_eq_nil_iff]
        intro a ha
        obtain ⟨c, hc, rfl⟩ := List.mem_map.1 ha
        have h2 := hs c hc
        have h3 := mulL hL (show i < n by omega)
        show ¬ decide (c.s + (n : Int) * L = s + (i : Int) * L) = true
        rw [decide_eq_true_eq]
        omega
      rw [e2, List.append_nil]
      exact rep_slot hL hs h0 h1 n (by omega)
theorem rep_none {L : Int} (hL : 1 ≤ L) {cs : List C5} (hs : inSlots L cs) (n : Nat) {s : Int} (h : L * n ≤ s) : slotC s (repC L cs n) = [] := by
  unfold slotC
  rw [List.filter_eq_nil_iff]
  intro a ha
  have := rep_slots hL hs n a ha
  simp; omega
/-- The two At's: the same cells, but for the slot. -/
theorem rep_at {L O : Int} {cs : List C5} {t : Nat} (h : formB L O cs = true) (ht : 1 ≤ t) (hL : L * t ≤ 512) (hn : cs.length * t ≤ 512) {slot : Int} (h0 : 0 ≤ slot) : ∃ d, atR (L * t) O (repC L cs t) slot = (atR L O cs slot).map (shiftC d) := by
  obtain ⟨h1, h2, h3, h4⟩ := (formB_iff L O cs).1 h
  have h5 := (sizedB_iff L O).1 h1
  have hs := formed_slots h3
  unfold atR
  rw [if_pos ⟨rep_form h ht hL hn, h0⟩, if_pos ⟨h, h0⟩]
  have hLt : 0 < L * t := Int.mul_pos (by omega) (by omega)
  have g1 := Int.emod_nonneg slot (b := L * t) (by omega)
  have g2 := Int.emod_lt_of_pos slot hLt
  have g3 : slot % L = (slot % (L * t)) % L := by rw [Int.emod_emod_of_dvd _ (Int.dvd_mul_right L t)]
  have g4 := Int.emod_nonneg slot (b := L) (by omega)
  have g5 := Int.emod_lt_of_pos slot (b := L) (by omega)
  generalize slot % (L * t) = s at g1 g2 g3
  generalize slot % L = r at g3 g4 g5
  have g6 := Int.mul_ediv_add_emod s L
  have g7 : 0 ≤ s / L := Int.ediv_nonneg g1 (by omega)
  have g8 : s / L < t := Int.ediv_lt_of_lt_mul (by omega) (by rw [Int.mul_comm]; exact g2)
  obtain ⟨i, hi⟩ : ∃ i : Nat, s / L = i := ⟨(s / L).toNat, by omega⟩
  rw [hi] at g6 g8
  have e : s = r + i * L := by rw [Int.mul_comm, g3]; omega
  rw [e]
  exact ⟨_, rep_slot h5.1 hs g4 g5 t (by omega)⟩

/-! the faults -/
theorem cellsR_two (N : NT) (fs : List F6) (L O : Int) : ∀ (l : List C5) (k : Nat) (p : Option C5), (∀ c ∈ l, placedB L O c = true) → Srt (p.toList ++ l) → (cellsR N fs L O k p l).2 = if l.any (lostB N fs) = true then 7 else 0
  | [], _, _, _, _ => by simp [cellsR]
  | c :: r, k, p, h1, h2 => by
    unfold cellsR
    have hp := h1 c List.mem_cons_self
    have hla : lateC p c = false := by
      cases p with
      | none => rfl
      | some q =>
        have : cmpC q c < 0 := by
          cases h2 with
          | cons g _ => exact g c (by simp)
        simp [lateC]; omega
    have h3 : Srt ((some c).toList ++ r) := by
      cases p with
      | none => exact h2
      | some q => cases h2 with | cons _ g => exact g
    have ih := cellsR_two N fs L O r (k + 1) (some c) (fun z hz => h1 z (List.mem_cons_of_mem _ hz)) h3
    cases hl : lostB N fs c
    · have e : cellE N fs L O p c = 0 := by unfold cellE; simp [hp, hl, hla]
      rw [if_pos e, ih]
      simp [hl]
    · have e : cellE N fs L O p c = 7 := by unfold cellE; simp [hp, hl]
      rw [if_neg (by omega), e]
      simp [hl]
theorem rep_lost (N : NT) (fs : List F6) (L : Int) (cs : List C5) (n : Nat) : (repC L cs (n + 1)).any (lostB N fs) = cs.any (lostB N fs) := by
  have hs : ∀ d c, lostB N fs (shiftC d c) = lostB N fs c := fun d c => rfl
  rw [Bool.eq_iff_iff, List.any_eq_true, List.any_eq_true]
  constructor
  · rintro ⟨x, hx, h⟩
    obtain ⟨i, _, c, hc, rfl⟩ := (rep_mem L cs x _).1 hx
    exact ⟨c, hc, h⟩
  · rintro ⟨c, hc, h⟩
    exact ⟨shiftC ((0 : Nat) * L) c, (rep_mem L cs _ _).2 ⟨0, by omega, c, hc, rfl⟩, h⟩
theorem fidx2_nonneg {α : Type} (p : Nat → α → Bool) : ∀ (l : List α) (k : Nat), 0 ≤ fidx2 p k l ↔ ∃ (j : Nat) (x : α), l[j]? = some x ∧ p (k + j) x = true
  | [], k => by simp [fidx2]
  | y :: l, k => by
    unfold fidx2
    by_cases hy : p k y = true
    · rw [if_pos hy]
      exact ⟨fun _ => ⟨0, y, rfl, hy⟩, fun _ => by omega⟩
    · rw [if_neg hy, fidx2_nonneg p l (k + 1)]
      constructor
      · rintro ⟨j, x, h1, h2⟩
        exact ⟨j + 1, x, by simpa using h1, by rw [← h2]; congr 1; omega⟩
      · rintro ⟨j, x, h1, h2⟩
        cases j with
        | zero => simp at h1; subst h1; exact absurd h2 hy
        | succ j => exact ⟨j, x, by simpa using h1, by rw [← h2]; congr 1; omega⟩
/-- A cell that does not share a node with an earlier one of its slot. -/
def apartC (d c : C5) : Prop := ¬ (d.s = c.s ∧ touchB c d = true)
theorem twiceI_iff (cs : List C5) : ¬ 0 ≤ twiceI cs ↔ cs.Pairwise apartC := by
  unfold twiceI
  rw [fidx2_nonneg, List.pairwise_iff_getElem]
  constructor
  · intro h i j hi hj hij hx
    refine h ⟨j, cs[j], List.getElem?_eq_getElem hj, ?_⟩
    rw [Nat.zero_add, twice_iff]
    exact ⟨⟨i, hi⟩, hij, hx.1, hx.2⟩
  · rintro h ⟨j, x, h1, h2⟩
    rw [Nat.zero_add, twice_iff] at h2
    obtain ⟨y, hy, e1, e2⟩ := h2
    obtain ⟨hj, e⟩ := List.getElem?_eq_some_iff.1 h1
    refine h y j y.2 hj hy ⟨?_, ?_⟩
    · rw [e]; exact e1
    · rw [e]; exact e2
theorem rep_twice {L : Int} (hL : 1 ≤ L) {cs : List C5} (hs : inSlots L cs) (n : Nat) : 0 ≤ twiceI (repC L cs (n + 1)) ↔ 0 ≤ twiceI cs := by
  have h := rep_pair hL hs (R := apartC) (fun d a b => by
    unfold apartC
    have e : touchB (shiftC d b) (shiftC d a) = touchB b a := rfl
    rw [e]
    show ¬ (a.s + d = b.s + d ∧ _) ↔ _
    constructor <;> intro h g <;> exact h ⟨by omega, g.2⟩) (fun a b hab h => by omega) n
  rw [← twiceI_iff, ← twiceI_iff] at h
  omega
theorem shareC_slot (q : C5) (cs : List C5) : shareC q cs = (slotC q.s cs).filter fun d => decide (d.o = q.o) := by
  unfold shareC slotC
  rw [List.filter_filter]
  congr 1
  funext d
  rw [Bool.and_comm]
theorem rep_share {L : Int} (hL : 1 ≤ L) {cs : List C5} (hs : inSlots L cs) {i n : Nat} (hi : i < n) {q : C5} (hq : q ∈ cs) : shareC (shiftC ((i : Int) * L) q) (repC L cs n) = (shareC q cs).map (shiftC ((i : Int) * L)) := by
  have h := hs q hq
  rw [shareC_slot, shareC_slot]
  show (slotC (q.s + i * L) _).filter _ = _
  rw [rep_slot hL hs h.1 h.2 n hi, List.filter_map]
  rfl
theorem sumD_map (N : NT) (d x : Int) : ∀ l : List C5, sumD N d (l.map (shiftC x)) = sumD N d l
  | [] => rfl
  | c :: l => by
    show pw N.rows c.f d + pw N.rows c.t d + sumD N d (l.map (shiftC x)) = _
    rw [sumD_map N d x l]; rfl
theorem rep_disturbed {L : Int} (hL : 1 ≤ L) {cs : List C5} (hs : inSlots L cs) (N : NT) {i n : Nat} (hi : i < n) {q : C5} (hq : q ∈ cs) : disturbedB N (repC L cs n) (shiftC ((i : Int) * L) q) = disturbedB N cs q := by
  have h : ∀ d, restD N (repC L cs n) (shiftC ((i : Int) * L) q) d = restD N cs q d := fun d => by
    unfold restD
    rw [rep_share hL hs hi hq, sumD_map]; rfl
  unfold disturbedB
  rw [h, h]; rfl
theorem rep_disturb {L : Int} (hL : 1 ≤ L) {cs : List C5} (hs : inSlots L cs) (N : NT) (n : Nat) : 0 ≤ disturbI N (repC L cs (n + 1)) ↔ 0 ≤ disturbI N cs := by
  unfold disturbI
  rw [fidx2_nonneg, fidx2_nonneg]
  constructor
  · rintro ⟨j, x, h1, h2⟩
    obtain ⟨i, hi, c, hc, rfl⟩ := (rep_mem L cs x _).1 (List.mem_of_getElem? h1)
    obtain ⟨j', hj, e⟩ := List.getElem_of_mem hc
    rw [rep_disturbed hL hs N hi hc] at h2
    exact ⟨j', c, by rw [List.getElem?_eq_getElem hj, e], h2⟩
  · rintro ⟨j, x, h1, h2⟩
    have hc := List.mem_of_getElem? h1
    obtain ⟨j', hj, e⟩ := List.getElem_of_mem ((rep_mem L cs _ (n + 1)).2 ⟨0, by omega, x, hc, rfl⟩)
    exact ⟨j', _, by rw [List.getElem?_eq_getElem hj, e], by rw [rep_disturbed hL hs N (by omega) hc]; exact h2⟩
theorem placed_of {L O : Int} {c : C5} (h : formedB L O c = true) : placedB L O c = true := by
  unfold formedB at h
  simp only [Bool.and_eq_true] at h
  exact h.1.1.1
theorem check_formed (N : NT) (fs : List F6) {L O : Int} {cs : List C5} (h : formB L O cs = true) : (checkR N fs L O cs).2 =
    if netE N ≠ 0 then 1 else if flowsR N.k fs ≠ 0 then 1 else if fs.any (periodB L) = true then 11 else if cs.any (lostB N fs) = true then 7 else if 0 ≤ twiceI cs then 6 else if 0 ≤ disturbI N cs then 16 else 0 := by
  obtain ⟨h1, h2, h3, h4⟩ := (formB_iff L O cs).1 h
  have e1 := cellsR_two N fs L O cs 0 none (fun c hc => placed_of (h3 c hc)) h4
  unfold checkR
  split
  · rfl
  · split
    · rfl
    · rw [if_neg (by rw [h1]; decide)]
      split
      · rfl
      · rw [if_neg (by omega), e1]
        split
        · rw [if_pos (by decide)]; exact e1.trans (if_pos ‹_›)
        · rw [if_neg (by decide)]
          split
          · rfl
          · split <;> rfl
theorem rep_check (N : NT) (fs : List F6) {L O : Int} {cs : List C5} {t : Nat} (h : formB L O cs = true) (ht : 1 ≤ t) (hL : L * t ≤ 512) (hn : cs.length * t ≤ 512) :
    (checkR N fs L O cs).2 = 11 ∨ (checkR N fs L O cs).2 = (checkR N fs (L * t) O (repC L cs t)).2 := by
  have h' := rep_form h ht hL hn
  obtain ⟨h1, h2, h3, h4⟩ := (formB_iff L O cs).1 h
  have h5 := (sizedB_iff L O).1 h1
  have hs := formed_slots h3
  obtain ⟨n, rfl⟩ : ∃ n, t = n + 1 := ⟨t - 1, by omega⟩
  rw [check_formed N fs h, check_formed N fs h', rep_lost]
  by_cases c1 : netE N ≠ 0
  · right; rw [if_pos c1, if_pos c1]
  rw [if_neg c1, if_neg c1]
  by_cases c2 : flowsR N.k fs ≠ 0
  · right; rw [if_pos c2, if_pos c2]
  rw [if_neg c2, if_neg c2]
  by_cases c3 : fs.any (periodB L) = true
  · left; rw [if_pos c3]
  right
  have c4 : ¬ fs.any (periodB (L * ((n + 1 : Nat) : Int))) = true := by
    rw [Bool.not_eq_true, List.any_eq_false] at c3 ⊢
    intro f hf
    have := c3 f hf
    simp only [periodB, bne_iff_ne, ne_eq, Decidable.not_not] at this ⊢
    exact Int.emod_eq_zero_of_dvd (Int.dvd_trans (Int.dvd_of_emod_eq_zero this) (Int.dvd_mul_right _ _))
  have c6 := rep_twice h5.1 hs n
  have c7 := rep_disturb h5.1 hs N n
  rw [if_neg c3, if_neg c4]
  simp only [c6, c7]
end Go.Proofs.YtnddjcadkbjjhaaGreatDoor
