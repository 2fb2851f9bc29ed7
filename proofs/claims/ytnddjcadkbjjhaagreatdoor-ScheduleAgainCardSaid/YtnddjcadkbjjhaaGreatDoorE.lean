/-
  CHAPTER 35: line.
-/
import Derived.Test.YtnddjcadkbjjhaaGreatDoorD
import Derived.Test.YtnddjcadkbjjhaaGreatDoorShelfI
import Derived.Test.YtnddjcadkbjjhaaGreatDoorShelfB
import Derived.Lib.ItoaLen
namespace Go.Proofs.YtnddjcadkbjjhaaGreatDoor
open Go.RowKit

def dstr (d : Nat) : ByteArray := ⟨(Lib.decDigits d).toArray⟩
theorem size_list (D : ByteArray) : D.size = D.data.toList.length := by rw [Array.length_toList]; rfl
theorem eq_of_list {a b : ByteArray} (h : a.data.toList = b.data.toList) : a = b := by
  cases a; cases b; simp only [ByteArray.mk.injEq]; exact Array.toList_inj.1 h
theorem dstr_list (d : Nat) : (dstr d).data.toList = Lib.decDigits d := by unfold dstr; simp
theorem dstr_size (d : Nat) (h : d < 18446744073709551616) : (dstr d).size ≤ 20 := by
  rw [size_list, dstr_list, Lib.decDigits_length]; exact Lib.nDigits_le20 d h
/-- The table of powers of ten, in every later world. -/
def Tab (w : World) : Prop := ∀ w', Below w.heap.size w w' → Lib.TabIs Tryz.prog w' "internal/strconv.uint64pow10" .u64 Lib.pow10Tab
theorem Tab.later {w w' : World} (h : Tab w) (hb : Below w.heap.size w w') : Tab w' := fun w2 h2 => h w2 (bstep hb h2 (Nat.le_refl _))
/-- What lay below stays, where the world has drawn and blocks have been laid behind. -/
theorem below_grown_own (B : Nat) (w : World) (q : Nat) (os : Array Obj) (hB : B ≤ w.heap.size) : Below B w (Go.Sort.grow (w.drewN q) os) :=
  ⟨rfl, rfl, rfl, by first | (simp [Go.Sort.grow]; done) | (simp [Go.Sort.grow]; omega), fun i hi => by
    show ((w.drewN q).heap ++ os)[i]? = _
    rw [Array.getElem?_append_left (by show i < w.heap.size; omega)]
    rfl⟩
theorem Itoa_any (d : Int) (h0 : 0 ≤ d) (hd : d ≤ 9223372036854775807) (w : World) (ht : Tab w) :
    Calls Tryz.prog 96 #[.int .i64 d] w fun e w' => e = .returned (.string (dstr d.toNat)) ∧ Below w.heap.size w w' := by
  refine (Tryz.strconv_Itoa d (by omega) hd w (ht w (Below.refl _ _))).mono fun e w' ⟨he, q, os, hw⟩ => ⟨?_, ?_⟩
  · rw [he]
    have : Lib.itoa d = Lib.decDigits d.toNat := by unfold Lib.itoa; rw [if_neg (by omega)]
    rw [this]; rfl
  · rw [hw]; exact below_grown_own _ _ _ _ (Nat.le_refl _)
def wordsL (xs : List Int) : List UInt8 := xs.flatMap fun x => 32 :: Lib.decDigits x.toNat
def lineL (word : List UInt8) (xs : List Int) : List UInt8 := word ++ wordsL xs ++ [10]
theorem wordsL_drop (xs : List Int) (k : Nat) (x : Int) (h : xs[k]? = some x) : wordsL (xs.drop k) = 32 :: (Lib.decDigits x.toNat ++ wordsL (xs.drop (k + 1))) := by
  obtain ⟨h1, e1⟩ := List.getElem?_eq_some_iff.1 h
  rw [List.drop_eq_getElem_cons h1, e1]; simp [wordsL]
set_option maxHeartbeats 1600000 in
theorem line_any (W : ByteArray) (hW : W.size ≤ 100) (A : Option Addr) (n c B : Nat) (xs : List Int) (hn : n ≤ 10) (w : World) (hx : Reads w B A n xs) (hB : B ≤ w.heap.size) (hr : ∀ x ∈ xs, 0 ≤ x ∧ x ≤ 1000000) (ht : Tab w) (S : ByteArray) (hS : S.data.toList = lineL W.data.toList xs) :
    Calls Tryz.prog 55 #[.string W, .slice A n c] w fun e w' => e = .returned (.string S) ∧ Below w.heap.size w w' := by
  have HX := Lib.hid hx
  have HR := Lib.hid hr
  have HT := Lib.hid ht
  have HS := Lib.hid hS
  clear hx hr ht hS
  go_enter Tryz.func55, Tryz.ntmps55
  go_wp2
  go_loopw [0, 9] (fun s i wx => ∃ k : Nat, ∃ D : ByteArray, k ≤ n ∧ i = .int .i64 k ∧ s = .string D ∧ D.size ≤ 100 + 21 * k ∧ Below w.heap.size w wx ∧ Hid (D.data.toList ++ wordsL (xs.drop k) = W.data.toList ++ wordsL xs)) (fun _ i _ => n - (intOf i).toNat)
  case atStart => exact ⟨0, W, Nat.zero_le _, rfl, rfl, by omega, Below.refl _ _, Lib.hid rfl⟩
  case round =>
    obtain ⟨k, D, hk, rfl, rfl, hD, hwx, H⟩ := hrel
    by_cases hlt : k < n
    · obtain ⟨b, off, x, rfl, hb, ex, hc⟩ := (HX.out.below (hwx.mono hB)).at_ hlt
      have hxr := HR.out x (List.mem_of_getElem? ex)
      have hd := Lib.hid (wordsL_drop xs k x ex)
      have hds := dstr_size x.toNat (by omega)
      clear ex
      go_wp2_with (go_at_call 96; refine (carry (Itoa_any x hxr.1 (by omega) _ (HT.out.later hwx)) hwx).mono ?_; rintro e w' ⟨rfl, hw2⟩)
      go_roundw
      case rel => exact ⟨k + 1, _, by omega, by go_num, rfl, by have h32 : (⟨#[32]⟩ : ByteArray).size = 1 := rfl; simp only [ByteArray.size_append, h32]; omega, hw2, Lib.hid (by rw [← H.out, hd.out]; simp [dstr_list])⟩
      case measure => simp [intOf]; omega
    · go_wp2
      go_ret
      refine ⟨?_, hwx⟩
      have : D ++ ⟨#[10]⟩ = S := eq_of_list (by
        have h1 := H.out
        rw [List.drop_eq_nil_of_le (by have := HX.out.1; omega), show wordsL [] = [] from rfl, List.append_nil] at h1
        have h2 : (D ++ ⟨#[10]⟩ : ByteArray).data.toList = D.data.toList ++ [10] := by simp
        rw [h2, HS.out, h1]; rfl)
      rw [← this]; rfl
end Go.Proofs.YtnddjcadkbjjhaaGreatDoor
