/-
  THE PLAIN ARITHMETIC OF CHAPTER 04, without program or memory: what each function of package power (and of its reference) comes to.
-/
namespace Go.Proofs.YticgdbokflbjaaaDoor.Pm

/-- The table of a decade. -/
def tab : Nat → Int
  | 0 => 1000 | 1 => 1259 | 2 => 1585 | 3 => 1995 | 4 => 2512 | 5 => 3162 | 6 => 3981 | 7 => 5012 | 8 => 6310 | _ => 7943
/-- The table's number times ten to the k. -/
def pw (n : Nat) : Nat → Int
  | 0 => tab (n % 10)
  | k + 1 => pw n k * 10
/-- The power of n decibels. -/
def lev (n : Nat) : Int := pw n (n / 10) / 1000

theorem tab_bound (n : Nat) : 1000 ≤ tab n ∧ tab n ≤ 7943 := by
  unfold tab; split <;> omega
theorem pw_zero (n : Nat) : pw n 0 = tab (n % 10) := rfl
theorem pw_succ (n k : Nat) : pw n (k + 1) = pw n k * 10 := rfl
theorem pw_pos (n k : Nat) : 1000 ≤ pw n k := by
  induction k with
  | zero => exact (tab_bound _).1
  | succ k ih => rw [pw_succ]; omega
theorem pw_up (n k m : Nat) (h : k ≤ m) : pw n k ≤ pw n m := by
  induction m with
  | zero => have : k = 0 := by omega
            subst this; exact Int.le_refl _
  | succ m ih =>
    by_cases e : k = m + 1
    · subst e; exact Int.le_refl _
    · have := ih (by omega); have := pw_pos n m; rw [pw_succ]; omega
theorem pw_bound (n k : Nat) (h : k ≤ 10) : 1000 ≤ pw n k ∧ pw n k ≤ 79430000000000 := by
  refine ⟨pw_pos n k, Int.le_trans (pw_up n k 10 h) ?_⟩
  have := (tab_bound (n % 10)).2
  simp only [pw]; omega

theorem lev_step : ∀ n, n < 108 → lev n ≤ lev (n + 1) := by decide +kernel
theorem lev_strict : ∀ n, n < 108 → 6 ≤ n → lev n < lev (n + 1) := by decide +kernel
theorem lev_zero : lev 0 = 1 := by decide +kernel
theorem lev_last : lev 108 = 63100000000 := by decide +kernel
theorem lev_mono (a b : Nat) (h : a ≤ b) (hb : b ≤ 108) : lev a ≤ lev b := by
  induction b with
  | zero => have : a = 0 := by omega
            subst this; exact Int.le_refl _
  | succ b ih =>
    by_cases e : a = b + 1
    · subst e; exact Int.le_refl _
    · exact Int.le_trans (ih (by omega) (by omega)) (lev_step b (by omega))
theorem lev_bound (n : Nat) (h : n ≤ 108) : 1 ≤ lev n ∧ lev n ≤ 63100000000 := by
  have h0 := lev_mono 0 n (by omega) h
  have h1 := lev_mono n 108 h (by omega)
  rw [lev_zero] at h0; rw [lev_last] at h1; exact ⟨h0, h1⟩

/-- Counting a predicate that is closed downwards. -/
theorem count_down (n : Nat) (q : Nat → Bool) (hd : ∀ a b, a ≤ b → b < n → q b = true → q a = true) :
    (List.range n).countP q ≤ n ∧ ∀ i, i < n → (q i = true ↔ i < (List.range n).countP q) := by
  induction n with
  | zero => exact ⟨by simp, fun i hi => by omega⟩
  | succ n ih =>
    obtain ⟨h1, h2⟩ := ih (fun a b hab hb => hd a b hab (by omega))
    rw [List.range_succ, List.countP_append]
    simp only [List.countP_singleton]
    by_cases hq : q n = true
    · have hall : (List.range n).countP q = n := by
        rcases Nat.lt_or_ge ((List.range n).countP q) n with hlt | hge
        · have := (h2 _ hlt).1 (hd _ n (by omega) (by omega) hq); omega
        · omega
      rw [hall, if_pos hq]
      refine ⟨by omega, fun i hi => ⟨fun _ => hi, fun _ => hd i n (by omega) (by omega) hq⟩⟩
    · rw [if_neg hq]
      refine ⟨by omega, fun i hi => ?_⟩
      by_cases e : i = n
      · subst e
        exact ⟨fun h => absurd h hq, fun h => by omega⟩
      · exact h2 i (by omega)

/-- The decibels of a power of at least one. -/
def dec (p : Int) : Nat := (List.range 109).countP (fun i => !decide (p < lev i)) - 1
theorem dec_count (p : Int) (h : 1 ≤ p) : (List.range 109).countP (fun i => !decide (p < lev i)) = dec p + 1 ∧ dec p ≤ 108 := by
  obtain ⟨h1, h2⟩ := count_down 109 (fun i => !decide (p < lev i)) (fun a b hab hb hq => by
    have := lev_mono a b hab (by omega)
    simp at hq ⊢; omega)
  have := (h2 0 (by omega)).1 (by simp [lev_zero]; omega)
  unfold dec; omega
theorem dec_low (p : Int) (h : 1 ≤ p) : lev (dec p) ≤ p := by
  obtain ⟨h1, h2⟩ := count_down 109 (fun i => !decide (p < lev i)) (fun a b hab hb hq => by
    have := lev_mono a b hab (by omega)
    simp at hq ⊢; omega)
  obtain ⟨hc, hb⟩ := dec_count p h
  have := (h2 (dec p) (by omega)).2 (by omega)
  simp at this; exact this
theorem dec_high (p : Int) (h : 1 ≤ p) (hd : dec p < 108) : p < lev (dec p + 1) := by
  obtain ⟨h1, h2⟩ := count_down 109 (fun i => !decide (p < lev i)) (fun a b hab hb hq => by
    have := lev_mono a b hab (by omega)
    simp at hq ⊢; omega)
  obtain ⟨hc, hb⟩ := dec_count p h
  have := (not_congr (h2 (dec p + 1) (by omega))).2 (by omega)
  simp at this; exact this
theorem dec_le (p : Int) (h : 1 ≤ p) : dec p ≤ 108 := (dec_count p h).2
/-- Below the decibels the next power is not greater. -/
theorem dec_next (p : Int) (h : 1 ≤ p) (k : Nat) (hk : k < dec p) : lev (k + 1) ≤ p :=
  Int.le_trans (lev_mono (k + 1) (dec p) hk (dec_le p h)) (dec_low p h)

def maxP : Int := 68719476736
/-- The results: the value and the error. -/
def isP (n : Int) : Bool := decide (0 ≤ n) && decide (n ≤ 68719476736)
def condB (t n : Int) : Bool := decide (1000 ≤ t) && decide (t ≤ 100000) && decide (1 ≤ n) && decide (n ≤ 68719476736)
theorem isP_iff (n : Int) : isP n = true ↔ 0 ≤ n ∧ n ≤ 68719476736 := by unfold isP; simp
theorem isP_not (n : Int) : isP n = false ↔ n < 0 ∨ 68719476736 < n := by
  rw [← Bool.not_eq_true, isP_iff]; omega
theorem condB_iff (t n : Int) : condB t n = true ↔ 1000 ≤ t ∧ t ≤ 100000 ∧ 1 ≤ n ∧ n ≤ 68719476736 := by unfold condB; simp [and_assoc]
theorem condB_not (t n : Int) : condB t n = false ↔ t < 1000 ∨ 100000 < t ∨ n < 1 ∨ 68719476736 < n := by
  rw [← Bool.not_eq_true, condB_iff]; omega

def levV (n : Int) : Int := if 0 ≤ n ∧ n ≤ 108 then lev n.toNat else 0
def levE (n : Int) : Int := if 0 ≤ n ∧ n ≤ 108 then 0 else 2
def decV (p : Int) : Int := if 1 ≤ p ∧ p ≤ 68719476736 then (dec p : Int) else 0
def decE (p : Int) : Int := if 1 ≤ p ∧ p ≤ 68719476736 then 0 else 2
def sclV (p f : Int) : Int := if isP p = true ∧ 0 ≤ f ∧ f ≤ 1000 then p * f / 1000 else 0
def sclE (p f : Int) : Int := if isP p = true ∧ 0 ≤ f ∧ f ≤ 1000 then 0 else 2

/-- The sum of a list from an accumulator on. -/
def tot : List Int → Int
  | [] => 0
  | x :: l => x + tot l
theorem tot_append (l m : List Int) : tot (l ++ m) = tot l + tot m := by
  induction l with
  | nil => simp [tot]
  | cons x l ih => simp only [List.cons_append, tot, ih]; omega
theorem tot_bound (l : List Int) (h : l.all isP = true) : 0 ≤ tot l ∧ tot l ≤ l.length * 68719476736 := by
  induction l with
  | nil => simp [tot]
  | cons x l ih =>
    simp only [List.all_cons, Bool.and_eq_true] at h
    have h1 := (isP_iff x).1 h.1
    have h2 := ih h.2
    simp only [tot, List.length_cons]
    have e : ((l.length + 1 : Nat) : Int) * 68719476736 = (l.length : Int) * 68719476736 + 68719476736 := by
      rw [Int.natCast_add, Int.add_mul]; simp
    rw [e]; omega
theorem tot_take_succ (l : List Int) (k : Nat) (h : k < l.length) : tot (l.take (k + 1)) = tot (l.take k) + l[k] := by
  rw [List.take_succ_eq_append_getElem h, tot_append]; simp [tot]

def sumV (l : List Int) : Int := if l.length ≤ 64 ∧ l.all isP = true then tot l else 0
def sumE (l : List Int) : Int := if 64 < l.length then 8 else if l.all isP = true then 0 else 2
theorem sumV_bound (l : List Int) : 0 ≤ sumV l ∧ sumV l ≤ 4398046511104 := by
  unfold sumV
  split
  · have := tot_bound l (by simp_all)
    have h : l.length ≤ 64 := by simp_all
    have : (l.length : Int) * 68719476736 ≤ 64 * 68719476736 := Int.mul_le_mul_of_nonneg_right (by omega) (by omega)
    omega
  · omega

def rcvB (s t n i : Int) : Bool := decide (t * (n + i) ≤ 1000 * s)
def rcvV (s t n : Int) (l : List Int) : Bool := if isP s = true ∧ condB t n = true ∧ sumE l = 0 then rcvB s t n (sumV l) else false
def rcvE (s t n : Int) (l : List Int) : Int := if isP s = true ∧ condB t n = true then sumE l else 2
def mrgV (s t n : Int) : Int := if isP s = true ∧ condB t n = true then max (1000 * s / t - n) (-1) else 0
def mrgE (s t n : Int) : Int := if isP s = true ∧ condB t n = true then 0 else 2
def least (t n i : Int) : Int := (t * (n + i) + 999) / 1000
def lstV (t n i : Int) : Int := if condB t n = true ∧ 0 ≤ i ∧ i ≤ 4398046511104 ∧ least t n i ≤ 68719476736 then least t n i else 0
def lstE (t n i : Int) : Int := if condB t n = true ∧ 0 ≤ i ∧ i ≤ 4398046511104 then (if least t n i ≤ 68719476736 then 0 else 8) else 2

theorem prod_bound (t n i : Int) (h : condB t n = true) (h0 : 0 ≤ i) (h1 : i ≤ 4398046511104) : 0 ≤ t * (n + i) ∧ t * (n + i) ≤ 446676598784000000 := by
  obtain ⟨a, b, c, d⟩ := (condB_iff t n).1 h
  constructor
  · exact Int.mul_nonneg (by omega) (by omega)
  · have h2 : t * (n + i) ≤ 100000 * 4466765987840 := Int.mul_le_mul b (by omega) (by omega) (by omega)
    omega
end Go.Proofs.YticgdbokflbjaaaDoor.Pm
