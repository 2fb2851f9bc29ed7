/-
  CHAPTER 35, PLAIN: lines and words of a text, and the numbers of a line.
-/
import Derived.Lib.Split
import Derived.Lib.SplitLaws
import Derived.Lib.AtoiAll
import Derived.Lib.ItoaNum
import Derived.Lib.IndexBytes
namespace Go.Proofs.YtnddjcadkbjjhaaGreatDoor

/-- The parts of a text between the bytes c. -/
def cutL (c : UInt8) : List UInt8 → List (List UInt8)
  | [] => [[]]
  | x :: l => if x = c then [] :: cutL c l else match cutL c l with
    | [] => [[x]]
    | h :: t => (x :: h) :: t
theorem cutL_ne (c : UInt8) (l : List UInt8) : cutL c l ≠ [] := by
  cases l with
  | nil => simp [cutL]
  | cons x l => unfold cutL; split <;> (try split) <;> simp
theorem splitK_hit (c : UInt8) (k : Nat) (l : List UInt8) (i : Nat) (h : Lib.index l [c] = i) : Lib.splitK [c] 0 (k + 1) l = l.take i :: Lib.splitK [c] 0 k (l.drop (i + 1)) := by
  have hm : ¬ (Lib.index l [c] == -1) = true := fun e => by have := beq_iff_eq.1 e; omega
  have e : (Lib.index l [c]).toNat = i := by omega
  rw [Lib.splitK, if_neg hm, e]; rfl
theorem splitK_miss (c : UInt8) (k : Nat) (l : List UInt8) (h : Lib.index l [c] = -1) : Lib.splitK [c] 0 k l = [l] := by
  cases k with
  | zero => rfl
  | succ k => rw [Lib.splitK, if_pos (beq_iff_eq.2 h)]
theorem splitK_cut (c : UInt8) : ∀ l : List UInt8, Lib.splitK [c] 0 (l.count c) l = cutL c l
  | [] => rfl
  | x :: r => by
    have ih := splitK_cut c r
    have hi : Lib.index (x :: r) [c] = Lib.indexByte (x :: r) c := Lib.index_one _ _
    have hr : Lib.index r [c] = Lib.indexByte r c := Lib.index_one _ _
    by_cases hx : x = c
    · subst hx
      have h0 : Lib.index (x :: r) [x] = (0 : Nat) := by rw [hi, Lib.indexByte, if_pos (by simp)]; rfl
      rw [List.count_cons_self, splitK_hit x _ _ 0 h0]
      unfold cutL
      rw [if_pos rfl, ← ih]; rfl
    · have hb : ¬ (x == c) = true := by simpa using hx
      rw [List.count_cons_of_ne hx]
      unfold cutL
      rw [if_neg hx, ← ih]
      rcases Nat.eq_zero_or_pos (r.count c) with hk | hk
      · rw [hk]; rfl
      · obtain ⟨k, hk'⟩ : ∃ k, r.count c = k + 1 := ⟨r.count c - 1, by omega⟩
        rw [hk']
        by_cases hn : Lib.indexByte r c = -1
        · have h1 : Lib.index (x :: r) [c] = -1 := by rw [hi, Lib.indexByte, if_neg hb, if_pos (by simp [hn])]
          rw [splitK_miss c _ _ h1, splitK_miss c _ _ (hr.trans hn)]
        · have hge := Lib.indexByte_ge r c
          obtain ⟨i, hii⟩ : ∃ i : Nat, Lib.indexByte r c = i := ⟨(Lib.indexByte r c).toNat, by omega⟩
          have h1 : Lib.index (x :: r) [c] = ((i + 1 : Nat) : Int) := by rw [hi, Lib.indexByte, if_neg hb, if_neg (by simpa using hn), hii]; rfl
          rw [splitK_hit c _ _ _ h1, splitK_hit c _ _ _ (hr.trans hii)]; rfl

theorem cutL_le (c : UInt8) : ∀ (l p : List UInt8), p ∈ cutL c l → p.length ≤ l.length
  | [], p, h => by simp [cutL] at h; subst h; exact Nat.le_refl _
  | x :: l, p, h => by
    have ih := cutL_le c l
    unfold cutL at h
    split at h
    · rcases List.mem_cons.1 h with rfl | h
      · simp
      · have := ih p h; simp; omega
    · split at h
      · rename_i hn; exact absurd hn (cutL_ne c l)
      · rename_i hd tl hc
        rcases List.mem_cons.1 h with rfl | h
        · have := ih hd (by rw [hc]; exact List.mem_cons_self); simp; omega
        · have := ih p (by rw [hc]; exact List.mem_cons_of_mem _ h); simp; omega

/-- The number of a word of at most four digits, as Go's Itoa would write it. -/
def numW (l : List UInt8) : Option Int :=
  match Lib.atoiAll l with
  | .ok v => if l.length ≤ 4 ∧ Lib.itoa v = l ∧ 0 ≤ v then some v else none
  | _ => none
def numsL : List (List UInt8) → Option (List Int)
  | [] => some []
  | w :: r => match numW w with
    | none => none
    | some x => match numsL r with
      | none => none
      | some xs => some (x :: xs)
/-- The numbers of a line with a word. -/
def readL (l word : List UInt8) (many : Nat) : Option (List Int) :=
  match cutL 32 l with
  | [] => none
  | w :: ws => if ws.length = many ∧ w = word then numsL ws else none
theorem numsL_length : ∀ (ws : List (List UInt8)) (xs : List Int), numsL ws = some xs → xs.length = ws.length
  | [], xs, h => by cases h; rfl
  | w :: r, xs, h => by
    unfold numsL at h
    split at h
    · cases h
    · split at h
      · cases h
      · rename_i ys hy
        cases h
        simp [numsL_length r ys hy]
theorem readL_length {l word : List UInt8} {many : Nat} {xs : List Int} (h : readL l word many = some xs) : xs.length = many := by
  unfold readL at h
  split at h
  · cases h
  · split at h
    · rename_i hh; rw [numsL_length _ _ h, hh.1]
    · cases h
theorem atoi_range {l : List UInt8} {v : Int} (h : Lib.atoiAll l = .ok v) : -9223372036854775808 ≤ v ∧ v ≤ 9223372036854775807 := by
  unfold Lib.atoiAll at h
  split at h
  · cases h
  · simp only at h
    split at h
    · cases h
    · cases h
    · rename_i u hu
      have := Lib.parseMag_lt hu
      split at h
      · cases h
      · split at h
        · cases h
        · cases h
          split <;> omega
end Go.Proofs.YtnddjcadkbjjhaaGreatDoor
