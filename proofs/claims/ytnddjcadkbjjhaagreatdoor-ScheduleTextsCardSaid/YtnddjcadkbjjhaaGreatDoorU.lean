/-
  CHAPTER 35, PLAIN: what Print writes Parse reads, and what Parse reads Print writes.
-/
import Derived.Test.YtnddjcadkbjjhaaGreatDoorH
namespace Go.Proofs.YtnddjcadkbjjhaaGreatDoor
open Go.RowKit

theorem dec_digit (u : Nat) : ∀ c ∈ Lib.decDigits u, 48 ≤ c.toNat ∧ c.toNat ≤ 57 := by
  induction u using Nat.strongRecOn with
  | _ u ih =>
    intro c hc
    rw [Lib.decDigits] at hc
    split at hc
    · simp only [List.mem_singleton] at hc
      subst hc
      rw [UInt8.toNat_ofNat']; omega
    · rcases List.mem_append.1 hc with h | h
      · exact ih (u / 10) (by omega) c h
      · simp only [List.mem_singleton] at h
        subst h
        rw [UInt8.toNat_ofNat']; omega
theorem parse_snoc (d : Nat) (hd : d < 10) (m : Nat) (hm : m < 1844674407370955161) : ∀ (l : List UInt8) (acc : Nat), Lib.parseUint10 acc l = .ok m → Lib.parseUint10 acc (l ++ [UInt8.ofNat (48 + d)]) = .ok (m * 10 + d)
  | [], acc, h => by
    simp only [Lib.parseUint10] at h
    injection h with h
    subst h
    have h8 : (UInt8.ofNat (48 + d)).toNat = 48 + d := by rw [UInt8.toNat_ofNat']; omega
    simp only [List.nil_append, Lib.parseUint10, h8]
    rw [if_pos (by omega), if_neg (by omega), if_neg (by omega)]
    congr 1; omega
  | c :: r, acc, h => by
    simp only [Lib.parseUint10] at h
    rw [List.cons_append, Lib.parseUint10]
    split at h
    · rename_i h1
      rw [if_pos h1]
      split at h
      · cases h
      · rename_i h2
        rw [if_neg h2]
        split at h
        · cases h
        · rename_i h3
          rw [if_neg h3]
          exact parse_snoc d hd m hm r _ h
    · cases h
theorem parse_dec (u : Nat) : u < 1000000000000000000 → Lib.parseUint10 0 (Lib.decDigits u) = .ok u := by
  induction u using Nat.strongRecOn with
  | _ u ih =>
    intro hu
    rw [Lib.decDigits]
    split
    · rename_i h
      have := parse_snoc u h 0 (by omega) [] 0 rfl
      simpa using this
    · rename_i h
      have := parse_snoc (u % 10) (by omega) (u / 10) (by omega) _ 0 (ih (u / 10) (by omega) (by omega))
      rw [this]
      congr 1; omega
theorem dec_ne (u : Nat) : ∃ c r, Lib.decDigits u = c :: r := by
  rw [Lib.decDigits]
  split
  · exact ⟨_, _, rfl⟩
  · cases h : Lib.decDigits (u / 10) with
    | nil => exact ⟨_, _, rfl⟩
    | cons a b => exact ⟨_, _, rfl⟩
theorem dec_le4 (u : Nat) (h : u < 10000) : (Lib.decDigits u).length ≤ 4 := by
  rw [Lib.decDigits_length]
  rcases Nat.lt_or_ge u 10 with h1 | h1
  · rw [Lib.nDigits_small h1]; omega
  rcases Nat.lt_or_ge (u / 10) 10 with h2 | h2
  · rw [Lib.nDigits_big (by omega), Lib.nDigits_small h2]; omega
  rcases Nat.lt_or_ge (u / 10 / 10) 10 with h3 | h3
  · rw [Lib.nDigits_big (by omega), Lib.nDigits_big (by omega), Lib.nDigits_small h3]; omega
  rw [Lib.nDigits_big (by omega), Lib.nDigits_big (by omega), Lib.nDigits_big (by omega), Lib.nDigits_small (by omega)]; omega
theorem numW_dec (u : Nat) (h : u < 10000) : numW (Lib.decDigits u) = some (u : Int) := by
  obtain ⟨c, r, hc⟩ := dec_ne u
  have hd := dec_digit u c (by rw [hc]; exact List.mem_cons_self)
  have hp := parse_dec u (by omega)
  have ha : Lib.atoiAll (Lib.decDigits u) = .ok (u : Int) := by
    rw [hc] at hp ⊢
    unfold Lib.atoiAll
    simp only
    rw [if_neg (by omega)]
    unfold Lib.parseMag
    rw [if_neg (by simp), hp]
    simp only
    rw [if_neg (by omega), if_neg (by omega), if_neg (by omega)]
  unfold numW
  rw [ha]
  simp only
  rw [if_pos ⟨dec_le4 u h, Lib.itoa_nonneg u, by omega⟩]
/-- The parts of a text, joined again. -/
theorem cutL_join (c : UInt8) : ∀ (l h : List UInt8) (r : List (List UInt8)), cutL c l = h :: r → l = h ++ r.flatMap (fun p => c :: p)
  | [], h, r, e => by
    simp only [cutL, List.cons.injEq] at e
    obtain ⟨rfl, rfl⟩ := e; rfl
  | x :: l, h, r, e => by
    unfold cutL at e
    split at e
    · rename_i hx
      simp only [List.cons.injEq] at e
      obtain ⟨rfl, rfl⟩ := e
      cases hc : cutL c l with
      | nil => exact absurd hc (cutL_ne c l)
      | cons a b =>
        have := cutL_join c l a b hc
        rw [List.flatMap_cons, List.nil_append, hx, List.cons_append, ← this]
    · split at e
      · rename_i hc; exact absurd hc (cutL_ne c l)
      · rename_i a b hc
        simp only [List.cons.injEq] at e
        obtain ⟨rfl, rfl⟩ := e
        rw [List.cons_append, ← cutL_join c l a b hc]
theorem cutL_free (c : UInt8) : ∀ (l : List UInt8), (∀ x ∈ l, x ≠ c) → cutL c l = [l]
  | [], _ => rfl
  | x :: l, h => by
    unfold cutL
    rw [if_neg (h x List.mem_cons_self), cutL_free c l fun y hy => h y (List.mem_cons_of_mem _ hy)]
theorem cutL_app (c : UInt8) : ∀ (l m : List UInt8), (∀ x ∈ l, x ≠ c) → cutL c (l ++ c :: m) = l :: cutL c m
  | [], m, _ => by
    exact if_pos rfl
  | x :: l, m, h => by
    rw [List.cons_append, cutL, if_neg (h x List.mem_cons_self), cutL_app c l m fun y hy => h y (List.mem_cons_of_mem _ hy)]
theorem dec_free (u : Nat) (c : UInt8) (hc : c.toNat < 48) : ∀ x ∈ Lib.decDigits u, x ≠ c := fun x hx e => by
  have := dec_digit u x hx
  subst e; omega
/-- A line of numbers, cut at its blanks. -/
theorem cut_words : ∀ (xs : List Int) (w : List UInt8), (∀ x ∈ w, x ≠ 32) → cutL 32 (w ++ wordsL xs) = w :: xs.map fun x => Lib.decDigits x.toNat
  | [], w, h => by
    rw [show wordsL [] = [] from rfl, List.append_nil]
    exact cutL_free 32 w h
  | x :: xs, w, h => by
    rw [show wordsL (x :: xs) = 32 :: (Lib.decDigits x.toNat ++ wordsL xs) from by simp [wordsL], cutL_app 32 w _ h, cut_words xs _ (dec_free _ 32 (by decide))]
    rfl
theorem nums_dec : ∀ (xs : List Int), (∀ x ∈ xs, 0 ≤ x ∧ x < 10000) → numsL (xs.map fun x => Lib.decDigits x.toNat) = some xs
  | [], _ => rfl
  | x :: xs, h => by
    obtain ⟨h0, h1⟩ := h x List.mem_cons_self
    rw [List.map_cons, numsL, numW_dec _ (by omega), nums_dec xs fun y hy => h y (List.mem_cons_of_mem _ hy)]
    simp only
    rw [Int.toNat_of_nonneg h0]
theorem read_line (word : List UInt8) (hw : ∀ x ∈ word, x ≠ 32) (xs : List Int) (hx : ∀ x ∈ xs, 0 ≤ x ∧ x < 10000) : readL (word ++ wordsL xs) word xs.length = some xs := by
  unfold readL
  rw [cut_words xs word hw]
  simp only
  rw [if_pos ⟨by simp, trivial⟩, nums_dec xs hx]
theorem words_free (xs : List Int) : ∀ x ∈ wordsL xs, x ≠ 10 := by
  intro x hx
  unfold wordsL at hx
  obtain ⟨a, _, ha⟩ := List.mem_flatMap.1 hx
  rcases List.mem_cons.1 ha with rfl | h
  · decide
  · exact dec_free _ 10 (by decide) x h
/-- Back: what is read is what stands there. -/
theorem numW_some {w : List UInt8} {x : Int} (h : numW w = some x) : w = Lib.decDigits x.toNat := by
  unfold numW at h
  split at h
  · split at h
    · rename_i v hv hh
      cases h
      have := hh.2.1
      unfold Lib.itoa at this
      rw [if_neg (by omega)] at this
      exact this.symm
    · cases h
  · cases h
theorem numsL_some : ∀ (ws : List (List UInt8)) (xs : List Int), numsL ws = some xs → ws.flatMap (fun p => 32 :: p) = wordsL xs
  | [], xs, h => by cases h; rfl
  | w :: r, xs, h => by
    unfold numsL at h
    split at h
    · cases h
    · rename_i x hx
      split at h
      · cases h
      · rename_i ys hy
        cases h
        rw [List.flatMap_cons, numsL_some r ys hy, numW_some hx]
        rfl
theorem readL_some {l word : List UInt8} {many : Nat} {xs : List Int} (h : readL l word many = some xs) : l = word ++ wordsL xs := by
  unfold readL at h
  split at h
  · cases h
  · rename_i w ws hc
    split at h
    · rename_i hh
      rw [cutL_join 32 l w ws hc, numsL_some ws xs h, hh.2]
    · cases h
theorem lines_back : ∀ (k : Nat) (ls : List (List UInt8)) (L O : Int) (cs : List C5) (L' O' : Int) (cs' : List C5), lines35 (k + 1) ls L O cs = .fine L' O' cs' →
    L' = L ∧ O' = O ∧ ∃ ds, cs' = cs ++ ds ∧ ls.flatMap (fun p => p ++ [10]) = cellsL ds
  | k, [], L, O, cs, L', O', cs', h => by
    simp only [lines35, PEnd.fine.injEq] at h
    obtain ⟨rfl, rfl, rfl⟩ := h
    exact ⟨rfl, rfl, [], by simp, rfl⟩
  | k, l :: r, L, O, cs, L', O', cs', h => by
    rw [lines35] at h
    split at h
    · rename_i a b c d e hr
      obtain ⟨h1, h2, ds, h3, h4⟩ := lines_back (k + 1) r L O _ L' O' cs' h
      refine ⟨h1, h2, ⟨a, b, c, d, e⟩ :: ds, by rw [h3]; simp, ?_⟩
      rw [List.flatMap_cons, h4, readL_some hr]
      rfl
    · cases h
theorem lines_on : ∀ (ds : List C5) (k : Nat) (L O : Int) (cs : List C5), (∀ c ∈ ds, ∀ x ∈ c.ints, 0 ≤ x ∧ x < 10000) →
    lines35 (k + 1) (ds.map fun c => cellL ++ wordsL c.ints) L O cs = .fine L O (cs ++ ds)
  | [], k, L, O, cs, _ => by simp [lines35]
  | d :: ds, k, L, O, cs, h => by
    have hr := read_line cellL (by decide) d.ints (h d List.mem_cons_self)
    rw [List.map_cons, lines35, show readL (cellL ++ wordsL d.ints) cellL 5 = some [d.s, d.o, d.f, d.t, d.w] from hr]
    simp only
    rw [lines_on ds (k + 1) L O _ fun c hc => h c (List.mem_cons_of_mem _ hc)]
    simp
theorem cut_lines (c : UInt8) : ∀ (ls : List (List UInt8)), (∀ l ∈ ls, ∀ x ∈ l, x ≠ c) → cutL c (ls.flatMap fun p => p ++ [c]) = ls ++ [[]]
  | [], _ => rfl
  | l :: r, h => by
    rw [List.flatMap_cons, List.append_assoc, List.singleton_append, cutL_app c l _ (h l List.mem_cons_self), cut_lines c r fun m hm => h m (List.mem_cons_of_mem _ hm)]
    rfl
theorem join_lines (c : UInt8) : ∀ (r : List (List UInt8)) (l : List UInt8), l ++ (r ++ [[]]).flatMap (fun p => c :: p) = (l :: r).flatMap (fun p => p ++ [c])
  | [], l => by simp
  | m :: r, l => by
    have ih := join_lines c r m
    rw [List.flatMap_cons] at ih
    rw [List.cons_append, List.flatMap_cons, List.flatMap_cons, List.append_assoc, List.flatMap_cons, ← ih]
    simp
theorem cell_small {L O : Int} {c : C5} (hL : L ≤ 512) (hO : O ≤ 16) (h : formedB L O c = true) : ∀ x ∈ c.ints, 0 ≤ x ∧ x < 10000 := by
  unfold formedB placedB at h
  simp only [Bool.and_eq_true, insB_iff] at h
  intro x hx
  simp only [C5.ints, List.mem_cons, List.not_mem_nil, or_false] at hx
  omega
theorem parse_print (L O : Int) (cs : List C5) (h : formB L O cs = true) : parseR (printL L O cs) = ⟨L, O, cs, -1, 0⟩ := by
  obtain ⟨h1, h2, h3, h4, _⟩ := form_sized h
  have hm := form_mem h
  have hc : ∀ c ∈ cs, ∀ x ∈ c.ints, 0 ≤ x ∧ x < 10000 := fun c hcs => cell_small h2 h4 (hm c hcs)
  have e : printL L O cs = ((schedL ++ wordsL [L, O]) :: cs.map fun c => cellL ++ wordsL c.ints).flatMap fun p => p ++ [10] := by
    unfold printL cellsL lineL
    rw [List.flatMap_cons, List.flatMap_map]
  have hfree : ∀ l ∈ ((schedL ++ wordsL [L, O]) :: cs.map fun c => cellL ++ wordsL c.ints), ∀ x ∈ l, x ≠ 10 := by
    intro l hl x hx
    rcases List.mem_cons.1 hl with rfl | hl
    · rcases List.mem_append.1 hx with h | h
      · exact (by decide : ∀ x ∈ schedL, x ≠ 10) x h
      · exact words_free _ x h
    · obtain ⟨c, _, rfl⟩ := List.mem_map.1 hl
      rcases List.mem_append.1 hx with h | h
      · exact (by decide : ∀ x ∈ cellL, x ≠ 10) x h
      · exact words_free _ x h
  unfold parseR
  rw [e, cut_lines 10 _ hfree, List.dropLast_concat, lines35, show readL (schedL ++ wordsL [L, O]) schedL 2 = some [L, O] from read_line schedL (by decide) [L, O] (by simp; omega)]
  simp only
  rw [lines_on cs 0 L O [] hc]
  simp only [List.nil_append]
  rw [if_neg (by rw [List.getLast?_concat]; simp), if_pos h]
theorem print_parse (t : List UInt8) (h : (parseR t).e = 0) : formB (parseR t).L (parseR t).O (parseR t).cs = true ∧ printL (parseR t).L (parseR t).O (parseR t).cs = t := by
  unfold parseR at h ⊢
  split at h
  · simp at h
  · rename_i L O cs hl
    split at h
    · simp at h
    · rename_i hn
      split at h
      · rename_i hf
        rw [if_neg hn, if_pos hf]
        refine ⟨hf, ?_⟩
        simp only [not_or, Decidable.not_not] at hn
        obtain ⟨ls, hls⟩ : ∃ ls, cutL 10 t = ls ++ [[]] := by
          rcases List.eq_nil_or_concat (cutL 10 t) with h0 | ⟨ls, z, hz⟩
          · exact absurd h0 (cutL_ne _ _)
          · refine ⟨ls, ?_⟩
            rw [hz, List.concat_eq_append, List.getLast?_concat] at hn
            rw [hz, List.concat_eq_append, Option.some.inj hn.2]
        rw [hls, List.dropLast_concat] at hl
        cases ls with
        | nil => rw [hls] at hn; simp at hn
        | cons l r =>
          rw [lines35] at hl
          split at hl
          · rename_i a b hr
            obtain ⟨rfl, rfl, ds, h3, h4⟩ := lines_back 0 r a b [] L O cs hl
            rw [List.nil_append] at h3
            subst h3
            show printL L O cs = t
            rw [List.cons_append] at hls
            rw [cutL_join 10 t l _ hls, join_lines, List.flatMap_cons, h4, readL_some hr]
            rfl
          · cases hl
      · simp at h
theorem parse_bad (t : List UInt8) (h : (parseR t).e ≠ 0) : (parseR t).cs = [] ∧ (parseR t).L = 0 := by
  unfold parseR at h ⊢
  split at h
  · exact ⟨rfl, rfl⟩
  · split at h
    · rename_i hn; rw [if_pos hn]; exact ⟨rfl, rfl⟩
    · rename_i hn
      rw [if_neg hn]
      split at h
      · simp at h
      · rename_i hf; rw [if_neg hf]; exact ⟨rfl, rfl⟩
end Go.Proofs.YtnddjcadkbjjhaaGreatDoor
