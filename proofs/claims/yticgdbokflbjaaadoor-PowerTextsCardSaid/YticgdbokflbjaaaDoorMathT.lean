/-
  THE PLAIN PART OF PowerTexts: the text of a power, and the power of a text, over lists of bytes.
-/
import Derived.Test.YticgdbokflbjaaaDoorMath
import Derived.Lib.AtoiAll
import Derived.Lib.ItoaNum
import Derived.Lib.SlTrimSet
import Derived.Lib.Strings
namespace Go.Proofs.YticgdbokflbjaaaDoor.Pm
open Go.Lib

def isDig (c : UInt8) : Bool := decide (48 ≤ c.toNat) && decide (c.toNat ≤ 57)
theorem isDig_iff (c : UInt8) : isDig c = true ↔ 48 ≤ c.toNat ∧ c.toNat ≤ 57 := by unfold isDig; simp
/-- The number that digits spell behind acc. -/
def num (acc : Nat) : List UInt8 → Nat
  | [] => acc
  | c :: l => num (acc * 10 + (c.toNat - 48)) l
theorem num_up (l : List UInt8) : ∀ acc, acc ≤ num acc l := by
  induction l with
  | nil => intro acc; exact Nat.le_refl _
  | cons c l ih => intro acc; exact Nat.le_trans (by omega) (ih _)
theorem num_append (l m : List UInt8) : ∀ acc, num acc (l ++ m) = num (num acc l) m := by
  induction l with
  | nil => intro acc; rfl
  | cons c l ih => intro acc; exact ih _
theorem parse_digits (l : List UInt8) : ∀ acc, acc < 18446744073709551616 → l.all isDig = true →
    parseUint10 acc l = if num acc l < 18446744073709551616 then .ok (num acc l) else .range := by
  induction l with
  | nil =>
    intro acc ha _
    rw [parseUint10, if_pos (show num acc [] < 18446744073709551616 from ha)]; rfl
  | cons c l ih =>
    intro acc ha hd
    simp only [List.all_cons, Bool.and_eq_true] at hd
    have hc := (isDig_iff c).1 hd.1
    have hu := num_up l (acc * 10 + (c.toNat - 48))
    have e : num acc (c :: l) = num (acc * 10 + (c.toNat - 48)) l := rfl
    rw [e, parseUint10, if_pos hc]
    have ih' := fun h => ih (acc * 10 + (c.toNat - 48)) h hd.2
    clear ih e
    generalize num (acc * 10 + (c.toNat - 48)) l = r at *
    generalize parseUint10 (acc * 10 + (c.toNat - 48)) l = q at *
    by_cases h1 : 1844674407370955162 ≤ acc
    · rw [if_pos h1, if_neg (by omega)]
    · rw [if_neg h1]
      by_cases h2 : 18446744073709551616 ≤ acc * 10 + (c.toNat - 48)
      · rw [if_pos h2, if_neg (by omega)]
      · rw [if_neg h2]
        exact ih' (by omega)
theorem atoi_digits (l : List UInt8) (hne : l ≠ []) (hd : l.all isDig = true) :
    atoiAll l = if num 0 l < 9223372036854775808 then .ok (num 0 l : Int) else .range := by
  cases l with
  | nil => exact absurd rfl hne
  | cons c r =>
    have hc := (isDig_iff c).1 (by simp only [List.all_cons, Bool.and_eq_true] at hd; exact hd.1)
    unfold atoiAll
    simp only
    rw [if_neg (by omega)]
    unfold parseMag
    rw [if_neg (by simp), parse_digits _ 0 (by omega) hd]
    have e1 : ¬ c.toNat = 45 := by omega
    by_cases h : num 0 (c :: r) < 18446744073709551616
    · rw [if_pos h]
      simp only
      by_cases h2 : num 0 (c :: r) < 9223372036854775808
      · rw [if_neg (by omega), if_neg (by omega), if_pos h2, if_neg e1]
      · rw [if_pos ⟨e1, by omega⟩, if_neg h2]
    · rw [if_neg h, if_neg (by omega)]

/-- Digits that can be read: some, digits all, no leading zero. -/
def lead (d : List UInt8) : Bool := decide (1 < d.length) && (d.head? == some 48)
def good (d : List UInt8) : Bool := !d.isEmpty && d.all isDig && !lead d
def suf (l : List UInt8) : Bool := [32, 100, 66].isSuffixOf l
def body (l : List UInt8) : List UInt8 := l.take (l.length - 3)
def parV (l : List UInt8) : Int := if suf l = true ∧ good (body l) = true then levV (num 0 (body l)) else 0
def parE (l : List UInt8) : Int := if suf l = true ∧ good (body l) = true then levE (num 0 (body l)) else 3
theorem par_no (l : List UInt8) (h : ¬ (suf l = true ∧ good (body l) = true)) : parV l = 0 ∧ parE l = 3 := by
  unfold parV parE; rw [if_neg h, if_neg h]; exact ⟨rfl, rfl⟩
theorem par_yes (l : List UInt8) (h1 : suf l = true) (h2 : good (body l) = true) : parV l = levV (num 0 (body l)) ∧ parE l = levE (num 0 (body l)) := by
  unfold parV parE; rw [if_pos ⟨h1, h2⟩, if_pos ⟨h1, h2⟩]; exact ⟨rfl, rfl⟩
theorem lev_far (n : Int) (h : 108 < n) : levV n = 0 ∧ levE n = 2 := by
  unfold levV levE; rw [if_neg (by omega), if_neg (by omega)]; exact ⟨rfl, rfl⟩
theorem lev_cap (n : Nat) : levV (min n 1000 : Nat) = levV n ∧ levE (min n 1000 : Nat) = levE n := by
  by_cases h : n ≤ 1000
  · rw [Nat.min_eq_left h]; exact ⟨rfl, rfl⟩
  · rw [Nat.min_eq_right (by omega)]
    have h1 := lev_far (1000 : Nat) (by omega)
    have h2 := lev_far n (by omega)
    exact ⟨h1.1.trans h2.1.symm, h1.2.trans h2.2.symm⟩
/-- A suffix, by its last bytes. -/
theorem suf_iff (l : List UInt8) : suf l = true ↔ 3 ≤ l.length ∧ l.drop (l.length - 3) = [32, 100, 66] := by
  unfold suf
  rw [List.isSuffixOf_iff_suffix]
  constructor
  · rintro ⟨t, rfl⟩
    refine ⟨by simp, ?_⟩
    simp
  · rintro ⟨h1, h2⟩
    exact ⟨l.take (l.length - 3), by rw [← h2, List.take_append_drop]⟩
/-- Trimming digits at both ends leaves nothing just where all are digits. -/
def ten : List UInt8 := [48, 49, 50, 51, 52, 53, 54, 55, 56, 57]
theorem ten_dig (c : UInt8) : ten.contains c = isDig c := by
  have h : ∀ n, n < 256 → ten.contains (UInt8.ofNat n) = isDig (UInt8.ofNat n) := by decide +kernel
  have := h c.toNat c.toNat_lt
  rwa [UInt8.ofNat_toNat] at this
theorem drop_nil (p : UInt8 → Bool) (l : List UInt8) : l.dropWhile p = [] ↔ l.all p = true := by
  induction l with
  | nil => simp
  | cons c l ih =>
    rw [List.dropWhile_cons]
    cases h : p c
    · simp [h]
    · simp [h, ih]
theorem drop_all (p : UInt8 → Bool) (l : List UInt8) (h : (l.dropWhile p).all p = true) : l.all p = true := by
  induction l with
  | nil => rfl
  | cons c l ih =>
    rw [List.dropWhile_cons] at h
    cases hp : p c
    · rw [hp] at h; simp only [Bool.false_eq_true, if_false, List.all_cons, hp, Bool.false_and] at h
    · rw [hp] at h; simp only [if_true] at h; simp only [List.all_cons, hp, Bool.true_and]; exact ih h
theorem trim_nil (l : List UInt8) : trimS l ten = [] ↔ l.all isDig = true := by
  have e : (fun x => ten.contains x) = isDig := funext ten_dig
  unfold trimS trimLeftS trimRightS
  rw [e, drop_nil, List.all_reverse]
  constructor
  · intro h; have := drop_all _ _ h; rwa [List.all_reverse] at this
  · intro h
    rw [List.all_eq_true] at h ⊢
    intro x hx
    exact h x (List.mem_reverse.1 ((List.dropWhile_suffix _).subset hx))
/-- The text of decibels, read again. -/
theorem text_reads : ∀ d : Nat, d ≤ 108 → suf (decDigits d ++ [32, 100, 66]) = true ∧ good (body (decDigits d ++ [32, 100, 66])) = true ∧ num 0 (body (decDigits d ++ [32, 100, 66])) = d := by
  intro d hd
  have hb : body (decDigits d ++ [32, 100, 66]) = decDigits d := by
    unfold body; simp
  have hs : suf (decDigits d ++ [32, 100, 66]) = true := by
    unfold suf; rw [List.isSuffixOf_iff_suffix]; exact List.suffix_append _ _
  rw [hb]
  refine ⟨hs, ?_⟩
  have h : ∀ d, d < 109 → good (decDigits d) = true ∧ num 0 (decDigits d) = d := by decide +kernel
  exact h d (by omega)
theorem text_par (d : Nat) (hd : d ≤ 108) : parV (decDigits d ++ [32, 100, 66]) = lev d ∧ parE (decDigits d ++ [32, 100, 66]) = 0 := by
  obtain ⟨h1, h2, h3⟩ := text_reads d hd
  obtain ⟨h4, h5⟩ := par_yes _ h1 h2
  rw [h4, h5, h3]
  unfold levV levE
  rw [if_pos (by omega), if_pos (by omega), Int.toNat_natCast]; exact ⟨rfl, rfl⟩
end Go.Proofs.YticgdbokflbjaaaDoor.Pm
