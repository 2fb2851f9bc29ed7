/-
  THE CONTRACTS, seventh part: texts of powers (Format) and powers of texts (Parse), of the program and of the reference.
-/
import Derived.Test.YticgdbokflbjaaaDoorAwake
import Derived.Test.YticgdbokflbjaaaDoorMathT
import Derived.Test.YticgdbokflbjaaaDoorShelf3
namespace Go.Proofs.YticgdbokflbjaaaDoor
open Go.RowKit

/-- The decimal digits of a number, as a text; and with the unit. -/
def dstr (d : Nat) : ByteArray := ⟨(Lib.decDigits d).toArray⟩
def fmtS (d : Nat) : ByteArray := dstr d ++ ⟨#[32, 100, 66]⟩
theorem fmtS_list (d : Nat) : (fmtS d).data.toList = Lib.decDigits d ++ [32, 100, 66] := by
  unfold fmtS dstr; simp
theorem eq_of_list {a b : ByteArray} (h : a.data.toList = b.data.toList) : a = b := by
  cases a; cases b; simp only [ByteArray.mk.injEq]; exact Array.toList_inj.1 h
theorem enc_dig (m : Nat) : (Utf8.encode (48 + (m : Int) % 10)).data.toList = [UInt8.ofNat (48 + m % 10)] := by
  have e : ((m : Int) % 10) = ((m % 10 : Nat) : Int) := by omega
  rw [e]
  have hlt : m % 10 < 10 := Nat.mod_lt _ (by omega)
  generalize m % 10 = r at hlt
  have : r = 0 ∨ r = 1 ∨ r = 2 ∨ r = 3 ∨ r = 4 ∨ r = 5 ∨ r = 6 ∨ r = 7 ∨ r = 8 ∨ r = 9 := by omega
  rcases this with rfl | rfl | rfl | rfl | rfl | rfl | rfl | rfl | rfl | rfl <;> rfl
/-- What stands ahead of the last digit. -/
def ahead (m : Nat) : List UInt8 := if m < 10 then [] else Lib.decDigits (m / 10)
theorem dec_ahead (m : Nat) : Lib.decDigits m = ahead m ++ [UInt8.ofNat (48 + m % 10)] := by
  unfold ahead
  rw [Lib.decDigits]
  by_cases h : m < 10
  · rw [dif_pos h, if_pos h, Nat.mod_eq_of_lt h]; rfl
  · rw [dif_neg h, if_neg h]
theorem dec_len : ∀ d, d < 109 → (Lib.decDigits d).length ≤ 3 := by decide +kernel
theorem size_list (D : ByteArray) : D.size = D.data.toList.length := by rw [Array.length_toList]; rfl
set_option maxHeartbeats 400000 in
theorem decimal_any (d : Nat) (h : d ≤ 108) (w : World) :
    Calls Tryd.prog 42 #[.int .i64 d] w fun e w' => e = .returned (.string (dstr d)) ∧ w = w' := by
  have h' : (d : Int) ≤ 108 := by omega
  go_enter Tryd.func42, Tryd.ntmps42
  go_wp2
  go_loop [0, 3] (fun n v => ∃ (m : Nat) (D : ByteArray), m ≤ d ∧ n = .int .i64 m ∧ v = .string D ∧ Hid (ahead m ++ D.data.toList = Lib.decDigits d)) (fun n _ => (intOf n).toNat)
  case atStart => exact ⟨d, _, Nat.le_refl _, rfl, rfl, Lib.hid (by rw [enc_dig, ← dec_ahead])⟩
  case round =>
    obtain ⟨m, D, hm, rfl, rfl, HD⟩ := hrel
    by_cases hlt : 10 ≤ (m : Int)
    · have hD : D.size ≤ 3 := by
        have h1 := congrArg List.length HD.out
        have h2 := dec_len d (by omega)
        rw [List.length_append] at h1
        rw [size_list]; omega
      have hE : (Utf8.encode (48 + (m : Int) / 10 % 10)).size ≤ 1 := by
        have e1 : ((m : Int) / 10) = ((m / 10 : Nat) : Int) := by omega
        rw [e1, size_list, enc_dig]; exact Nat.le_refl _
      go_wp2
      go_round
      case rel =>
        refine ⟨m / 10, _, by omega, by go_num, rfl, Lib.hid ?_⟩
        have e1 : ((m : Int) / 10) = ((m / 10 : Nat) : Int) := by omega
        have e2 := enc_dig (m / 10)
        rw [← e1] at e2
        have e3 := HD.out
        unfold ahead at e3
        rw [if_neg (by omega), dec_ahead (m / 10)] at e3
        rw [← e3]
        simp [e2]
      case measure => simp [intOf]; omega
    · go_wp2
      go_ret
      refine ⟨?_, rfl⟩
      have e3 := HD.out
      unfold ahead at e3
      rw [if_pos (by omega)] at e3
      have : D = dstr d := eq_of_list (by unfold dstr; simpa using e3)
      rw [this]; rfl

theorem Itoa_any (d : Nat) (hd : d ≤ 108) (w : World) (htab : Lib.TabIs Tryd.prog w "internal/strconv.uint64pow10" .u64 Lib.pow10Tab) :
    Calls Tryd.prog 41 #[.int .i64 d] w fun e w' => e = .returned (.string (dstr d)) ∧ Below w.heap.size w w' := by
  refine (Tryd.strconv_Itoa d (by omega) (by omega) w htab).mono fun e w' ⟨he, q, os, hw⟩ => ⟨?_, ?_⟩
  · rw [he]
    have : Lib.itoa (d : Int) = Lib.decDigits d := by unfold Lib.itoa; rw [if_neg (by omega), Int.toNat_natCast]
    rw [this]; rfl
  · rw [hw]; exact below_grown_sl _ _ _ _ (Nat.le_refl _)

set_option maxHeartbeats 800000 in
theorem Format_ok (p : Int) (h0 : 1 ≤ p) (h1 : p ≤ 68719476736) (w : World) (htab : ∀ w', Below w.heap.size w w' → Lib.TabIs Tryd.prog w' "internal/strconv.uint64pow10" .u64 Lib.pow10Tab) :
    Calls Tryd.prog 28 #[.int .i64 p] w fun e w' => e = .returned (.tuple #[.string (fmtS (Pm.dec p)), .int .i64 0]) ∧ Below w.heap.size w w' := by
  have hd := Pm.dec_le p h0
  have HT := Lib.hid htab
  have hsz : (dstr (Pm.dec p)).size ≤ 3 := by
    have h2 := dec_len (Pm.dec p) (by omega)
    rw [size_list]; simpa [dstr] using h2
  clear htab
  go_enter Tryd.func28, Tryd.ntmps28
  go_wp2_with (first | (go_at_call 13; refine (Decibels_ok p h0 h1 _).mono ?_; rintro e w' ⟨rfl, hb⟩) | (go_at_call 41; refine (carry (Itoa_any (Pm.dec p) hd _ (HT.out _ hb)) hb).mono ?_; rintro e w' ⟨rfl, hb⟩))
  go_ret2
  exact ⟨rfl, hb⟩
theorem Decibels_bad' (u : Int) (h : ¬ (1 ≤ u ∧ u ≤ 68719476736)) (w : World) :
    Calls Tryd.prog 13 #[.int .i64 u] w fun e w' => e = .returned (.tuple #[.int .i64 0, .int .i64 2]) ∧ Below w.heap.size w w' := by
  have hh := Decibels_any u w
  unfold Pm.decV Pm.decE at hh
  rw [if_neg h, if_neg h] at hh; exact hh
theorem rDecibels_bad' (u : Int) (h : ¬ (1 ≤ u ∧ u ≤ 68719476736)) (w : World) :
    Calls Tryd.prog 15 #[.int .i64 u] w fun e w' => e = .returned (.tuple #[.int .i64 0, .int .i64 2]) ∧ Below w.heap.size w w' := by
  have hh := rDecibels_any u w
  unfold Pm.decV Pm.decE at hh
  rw [if_neg h, if_neg h] at hh; exact hh
set_option maxHeartbeats 800000 in
theorem Format_no (p : Int) (h : Hid (¬ (1 ≤ p ∧ p ≤ 68719476736))) (w : World) :
    Calls Tryd.prog 28 #[.int .i64 p] w fun e w' => e = .returned (.tuple #[.string ⟨#[]⟩, .int .i64 2]) ∧ Below w.heap.size w w' := by
  go_enter Tryd.func28, Tryd.ntmps28
  go_wp2_with (go_at_call 13; refine (Decibels_bad' p h.out _).mono ?_; rintro e w' ⟨rfl, hb⟩)
  go_ret2
  exact ⟨rfl, hb⟩
set_option maxHeartbeats 800000 in
theorem rFormat_ok (p : Int) (h0 : 1 ≤ p) (h1 : p ≤ 68719476736) (w : World) :
    Calls Tryd.prog 29 #[.int .i64 p] w fun e w' => e = .returned (.tuple #[.string (fmtS (Pm.dec p)), .int .i64 0]) ∧ Below w.heap.size w w' := by
  have hd := Pm.dec_le p h0
  have hsz : (dstr (Pm.dec p)).size ≤ 3 := by
    have h2 := dec_len (Pm.dec p) (by omega)
    rw [size_list]; simpa [dstr] using h2
  go_enter Tryd.func29, Tryd.ntmps29
  go_wp2_with (first | (go_at_call 15; refine (rDecibels_ok p h0 h1 _).mono ?_; rintro e w' ⟨rfl, hb⟩) | (go_at_call 42; refine (decimal_any (Pm.dec p) hd _).mono ?_; rintro e w' ⟨rfl, rfl⟩))
  go_ret2
  exact ⟨rfl, hb⟩
set_option maxHeartbeats 800000 in
theorem rFormat_no (p : Int) (h : Hid (¬ (1 ≤ p ∧ p ≤ 68719476736))) (w : World) :
    Calls Tryd.prog 29 #[.int .i64 p] w fun e w' => e = .returned (.tuple #[.string ⟨#[]⟩, .int .i64 2]) ∧ Below w.heap.size w w' := by
  go_enter Tryd.func29, Tryd.ntmps29
  go_wp2_with (go_at_call 15; refine (rDecibels_bad' p h.out _).mono ?_; rintro e w' ⟨rfl, hb⟩)
  go_ret2
  exact ⟨rfl, hb⟩

/-! ### Parse -/
def three : ByteArray := ⟨#[32, 100, 66]⟩
theorem Cut_at (s D : ByteArray) (b : Bool) (hs : s.size ≤ 9223372036854775807) (hD : (⟨(Lib.trimSuffix s.data.toList [32, 100, 66]).toArray⟩ : ByteArray) = D) (hb : Pm.suf s.data.toList = b) (w : World) :
    Calls Tryd.prog 43 #[.string s, .string ⟨#[32, 100, 66]⟩] w fun e w' => e = .returned (.tuple #[.string D, .bool b]) ∧ w = w' := by
  refine (Tryd.strings_CutSuffix s ⟨#[32, 100, 66]⟩ w hs).mono fun e w' ⟨he, hw⟩ => ⟨?_, hw.symm⟩
  rw [he, ← hD, ← hb]; rfl
theorem Trim_at (D T : ByteArray) (hs : D.size ≤ 9223372036854775807) (hT : (⟨(Lib.trimS D.data.toList Pm.ten).toArray⟩ : ByteArray) = T) (w : World) :
    Calls Tryd.prog 44 #[.string D, .string ⟨#[48, 49, 50, 51, 52, 53, 54, 55, 56, 57]⟩] w fun e w' => e = .returned (.string T) ∧ Below w.heap.size w w' := by
  have h := Any.strings_Trim_laid Tryd.lays160 (by kernel_rfl) D ⟨#[48, 49, 50, 51, 52, 53, 54, 55, 56, 57]⟩ w hs (by decide) (ascii_of_all (by decide))
  change Calls Tryd.prog 44 _ _ _ at h
  refine h.mono fun e w' ⟨he, hw⟩ => ⟨?_, hw⟩
  rw [he, ← hT]; rfl
set_option maxHeartbeats 800000 in
theorem Parse_nosuf (s : ByteArray) (hs : s.size ≤ 100) (hb : Hid (Pm.suf s.data.toList = false)) (w : World) :
    Calls Tryd.prog 30 #[.string s] w fun e w' => e = .returned (.tuple #[.int .i64 0, .int .i64 3]) ∧ Below w.heap.size w w' := by
  go_enter Tryd.func30, Tryd.ntmps30
  go_wp2_with (go_at_call 43; refine (Cut_at s _ false (by omega) rfl hb.out _).mono ?_; rintro e w' ⟨rfl, rfl⟩)
  go_ret2
  exact ⟨rfl, Below.refl _ _⟩
set_option maxHeartbeats 800000 in
theorem Parse_none (s D : ByteArray) (hs : s.size ≤ 100) (hb : Hid (Pm.suf s.data.toList = true)) (hD : Hid ((⟨(Lib.trimSuffix s.data.toList [32, 100, 66]).toArray⟩ : ByteArray) = D)) (hE : D.toList.isEmpty = true) (w : World) :
    Calls Tryd.prog 30 #[.string s] w fun e w' => e = .returned (.tuple #[.int .i64 0, .int .i64 3]) ∧ Below w.heap.size w w' := by
  go_enter Tryd.func30, Tryd.ntmps30
  go_wp2_with (go_at_call 43; refine (Cut_at s D true (by omega) hD.out hb.out _).mono ?_; rintro e w' ⟨rfl, rfl⟩)
  go_ret2
  exact ⟨rfl, Below.refl _ _⟩
set_option maxHeartbeats 800000 in
theorem Parse_nodig (s D T : ByteArray) (hs : s.size ≤ 100) (hsD : D.size ≤ 100) (hb : Hid (Pm.suf s.data.toList = true)) (hD : Hid ((⟨(Lib.trimSuffix s.data.toList [32, 100, 66]).toArray⟩ : ByteArray) = D)) (hE : D.toList.isEmpty = false)
    (hT : Hid ((⟨(Lib.trimS D.data.toList Pm.ten).toArray⟩ : ByteArray) = T)) (hTE : T.toList.isEmpty = false) (w : World) :
    Calls Tryd.prog 30 #[.string s] w fun e w' => e = .returned (.tuple #[.int .i64 0, .int .i64 3]) ∧ Below w.heap.size w w' := by
  go_enter Tryd.func30, Tryd.ntmps30
  go_wp2_with (first | (go_at_call 43; refine (Cut_at s D true (by omega) hD.out hb.out _).mono ?_; rintro e w' ⟨rfl, rfl⟩) | (go_at_call 44; refine (Trim_at D T (by omega) hT.out _).mono ?_; rintro e w' ⟨rfl, hbl⟩))
  go_ret2
  exact ⟨rfl, hbl⟩
theorem Atoi_fine (D : ByteArray) (v : Int) (hD : D.size ≤ 100) (h : Lib.atoiAll D.data.toList = .ok v) (w : World) :
    Calls Tryd.prog 45 #[.string D] w fun e w' => e = .returned (.tuple #[.int .i64 v, .nilIface]) ∧ Below w.heap.size w w' := by
  refine (Tryd.strconv_Atoi_ok D (by omega) v h w).mono fun e w' ⟨he, hw⟩ => ⟨he, ?_⟩
  rcases hw with rfl | ⟨t, rfl⟩
  · exact Below.refl _ _
  · exact Lib.bytesWorld_below _ _ _
/-- A number that no int holds: an error that is not nil. -/
def Far (w : World) (e : Ending) (w' : World) : Prop := ∃ x N, e = .returned (.tuple #[.int .i64 x, .iface 80 (.pointer (some ⟨N, 0, none⟩))]) ∧ Below w.heap.size w w'
theorem Atoi_far (D : ByteArray) (hD : D.size ≤ 100) (h : Lib.atoiAll D.data.toList = .range) (w : World) (hv : ∃ tp p, w.var? Tryd.prog "strconv.ErrRange" = some #[.iface tp p]) :
    Calls Tryd.prog 45 #[.string D] w (Far w) := by
  obtain ⟨tp, p, hv⟩ := hv
  exact (Tryd.strconv_Atoi_range_var D (by omega) h tp p w hv).mono fun e w' ⟨N, he, _, _, hw⟩ => ⟨_, N, he, hw⟩
theorem Level_lit (n V E : Int) (hv : Pm.levV n = V) (he : Pm.levE n = E) (w : World) :
    Calls Tryd.prog 12 #[.int .i64 n] w fun e w' => e = .returned (.tuple #[.int .i64 V, .int .i64 E]) ∧ w = w' := by
  subst hv he; exact Level_any n w
theorem rLevel_lit (n V E : Int) (hv : Pm.levV n = V) (he : Pm.levE n = E) (w : World) :
    Calls Tryd.prog 14 #[.int .i64 n] w fun e w' => e = .returned (.tuple #[.int .i64 V, .int .i64 E]) ∧ Below w.heap.size w w' := by
  subst hv he; exact rLevel_any n w
set_option maxHeartbeats 800000 in
theorem Parse_lead (s D T : ByteArray) (hs : s.size ≤ 100) (hsD : D.size ≤ 100) (hb : Hid (Pm.suf s.data.toList = true)) (hD : Hid ((⟨(Lib.trimSuffix s.data.toList [32, 100, 66]).toArray⟩ : ByteArray) = D)) (hE : D.toList.isEmpty = false)
    (hT : Hid ((⟨(Lib.trimS D.data.toList Pm.ten).toArray⟩ : ByteArray) = T)) (hTE : T.toList.isEmpty = true) (h1 : 1 < D.size) (hq : (((D[0]'(by omega)).toNat : Int) == 48) = true) (w : World) :
    Calls Tryd.prog 30 #[.string s] w fun e w' => e = .returned (.tuple #[.int .i64 0, .int .i64 3]) ∧ Below w.heap.size w w' := by
  go_enter Tryd.func30, Tryd.ntmps30
  go_wp2_with (first | (go_at_call 43; refine (Cut_at s D true (by omega) hD.out hb.out _).mono ?_; rintro e w' ⟨rfl, rfl⟩) | (go_at_call 44; refine (Trim_at D T (by omega) hT.out _).mono ?_; rintro e w' ⟨rfl, hbl⟩))
  go_ret2
  exact ⟨rfl, hbl⟩
set_option maxHeartbeats 800000 in
theorem Parse_one (s D T : ByteArray) (hs : s.size ≤ 100) (hsD : D.size ≤ 100) (hb : Hid (Pm.suf s.data.toList = true)) (hD : Hid ((⟨(Lib.trimSuffix s.data.toList [32, 100, 66]).toArray⟩ : ByteArray) = D)) (hE : D.toList.isEmpty = false)
    (hT : Hid ((⟨(Lib.trimS D.data.toList Pm.ten).toArray⟩ : ByteArray) = T)) (hTE : T.toList.isEmpty = true) (h1 : (D.size : Int) ≤ 1) (v V E : Int) (hv : Hid (Lib.atoiAll D.data.toList = .ok v)) (hVE : Hid (Pm.levV v = V ∧ Pm.levE v = E)) (w : World) :
    Calls Tryd.prog 30 #[.string s] w fun e w' => e = .returned (.tuple #[.int .i64 V, .int .i64 E]) ∧ Below w.heap.size w w' := by
  go_enter Tryd.func30, Tryd.ntmps30
  go_wp2_with (first | (go_at_call 43; refine (Cut_at s D true (by omega) hD.out hb.out _).mono ?_; rintro e w' ⟨rfl, rfl⟩) | (go_at_call 44; refine (Trim_at D T (by omega) hT.out _).mono ?_; rintro e w' ⟨rfl, hbl⟩) | (go_at_call 45; refine (carry (Atoi_fine D v hsD hv.out _) hbl).mono ?_; rintro e w' ⟨rfl, hbl⟩) | (go_at_call 12; refine (Level_lit v V E hVE.out.1 hVE.out.2 _).mono ?_; rintro e w' ⟨rfl, rfl⟩))
  go_ret2
  exact ⟨rfl, hbl⟩
set_option maxHeartbeats 800000 in
theorem Parse_more (s D T : ByteArray) (hs : s.size ≤ 100) (hsD : D.size ≤ 100) (hb : Hid (Pm.suf s.data.toList = true)) (hD : Hid ((⟨(Lib.trimSuffix s.data.toList [32, 100, 66]).toArray⟩ : ByteArray) = D)) (hE : D.toList.isEmpty = false)
    (hT : Hid ((⟨(Lib.trimS D.data.toList Pm.ten).toArray⟩ : ByteArray) = T)) (hTE : T.toList.isEmpty = true) (h1 : 1 < D.size) (hq : (((D[0]'(by omega)).toNat : Int) == 48) = false) (v V E : Int) (hv : Hid (Lib.atoiAll D.data.toList = .ok v)) (hVE : Hid (Pm.levV v = V ∧ Pm.levE v = E)) (w : World) :
    Calls Tryd.prog 30 #[.string s] w fun e w' => e = .returned (.tuple #[.int .i64 V, .int .i64 E]) ∧ Below w.heap.size w w' := by
  go_enter Tryd.func30, Tryd.ntmps30
  go_wp2_with (first | (go_at_call 43; refine (Cut_at s D true (by omega) hD.out hb.out _).mono ?_; rintro e w' ⟨rfl, rfl⟩) | (go_at_call 44; refine (Trim_at D T (by omega) hT.out _).mono ?_; rintro e w' ⟨rfl, hbl⟩) | (go_at_call 45; refine (carry (Atoi_fine D v hsD hv.out _) hbl).mono ?_; rintro e w' ⟨rfl, hbl⟩) | (go_at_call 12; refine (Level_lit v V E hVE.out.1 hVE.out.2 _).mono ?_; rintro e w' ⟨rfl, rfl⟩))
  go_ret2
  exact ⟨rfl, hbl⟩
set_option maxHeartbeats 800000 in
theorem Parse_far (s D T : ByteArray) (hs : s.size ≤ 100) (hsD : D.size ≤ 100) (hb : Hid (Pm.suf s.data.toList = true)) (hD : Hid ((⟨(Lib.trimSuffix s.data.toList [32, 100, 66]).toArray⟩ : ByteArray) = D)) (hE : D.toList.isEmpty = false)
    (hT : Hid ((⟨(Lib.trimS D.data.toList Pm.ten).toArray⟩ : ByteArray) = T)) (hTE : T.toList.isEmpty = true) (h1 : 1 < D.size) (hq : (((D[0]'(by omega)).toNat : Int) == 48) = false) (hv : Hid (Lib.atoiAll D.data.toList = .range)) (w : World) (hvar : Hid (∀ w', Below w.heap.size w w' → ∃ tp p, w'.var? Tryd.prog "strconv.ErrRange" = some #[.iface tp p])) :
    Calls Tryd.prog 30 #[.string s] w fun e w' => e = .returned (.tuple #[.int .i64 0, .int .i64 2]) ∧ Below w.heap.size w w' := by
  go_enter Tryd.func30, Tryd.ntmps30
  go_wp2_with (first | (go_at_call 43; refine (Cut_at s D true (by omega) hD.out hb.out _).mono ?_; rintro e w' ⟨rfl, rfl⟩) | (go_at_call 44; refine (Trim_at D T (by omega) hT.out _).mono ?_; rintro e w' ⟨rfl, hbl⟩) | (go_at_call 45; refine (Atoi_far D hsD hv.out _ (hvar.out _ hbl)).mono ?_; rintro e w' ⟨x, N, rfl, hb2⟩))
  go_ret2
  exact ⟨rfl, bstep hbl hb2 (Nat.le_refl _)⟩
end Go.Proofs.YticgdbokflbjaaaDoor
