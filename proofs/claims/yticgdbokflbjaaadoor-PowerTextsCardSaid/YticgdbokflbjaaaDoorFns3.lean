/-
  THE CONTRACTS, third part: sums over a slice of whole numbers, and what stands on them: Received, Margin, Least.
-/
import Derived.Test.YticgdbokflbjaaaDoorFns2
namespace Go.Proofs.YticgdbokflbjaaaDoor
open Go.RowKit

/-- A slice value that reads as a list of ints, nil let in; it lies below block B. -/
def Reads (w : World) (B : Nat) (A : Option Addr) (n : Nat) (xs : List Int) : Prop :=
  xs.length = n ∧ (0 < n → ∃ b off, A = some ⟨b, off, none⟩ ∧ b < B ∧ ∀ j x, xs[j]? = some x → w.cell? ⟨b, off + j, none⟩ = some (.int .i64 x))
section
variable {w w' : World} {B B' n : Nat} {A : Option Addr} {xs : List Int}
theorem Reads.at_ {k : Nat} (h : Reads w B A n xs) (hk : k < n) : ∃ b off x, A = some ⟨b, off, none⟩ ∧ b < B ∧ xs[k]? = some x ∧ w.cell? ⟨b, off + k, none⟩ = some (.int .i64 x) := by
  obtain ⟨b, off, e, hb, hc⟩ := h.2 (by omega)
  have hl : k < xs.length := by have := h.1; omega
  exact ⟨b, off, xs[k], e, hb, List.getElem?_eq_getElem hl, hc k _ (List.getElem?_eq_getElem hl)⟩
theorem Reads.keep (h : Reads w B A n xs) (hk : ∀ p : Addr, p.block < B → w'.cell? p = w.cell? p) : Reads w' B A n xs :=
  ⟨h.1, fun hn => by
    obtain ⟨b, off, e, hb, hc⟩ := h.2 hn
    exact ⟨b, off, e, hb, fun j u hu => (hk ⟨b, off + j, none⟩ hb).trans (hc j u hu)⟩⟩
theorem Reads.below (h : Reads w B A n xs) (hb : Below B w w') : Reads w' B A n xs := h.keep fun _ hp => hb.cell hp
theorem Reads.more (h : Reads w B A n xs) (hB : B ≤ B') : Reads w B' A n xs :=
  ⟨h.1, fun hn => by
    obtain ⟨b, off, e, hb, hc⟩ := h.2 hn
    exact ⟨b, off, e, by omega, hc⟩⟩
theorem Reads.len (h : Reads w B A n xs) : n = xs.length := h.1.symm
end

set_option maxHeartbeats 400000 in
theorem add_ok (A : Option Addr) (n c B : Nat) (xs : List Int) (w : World) (hr : Reads w B A n xs) (hn : n ≤ 64) (ha : xs.all Pm.isP = true) :
    Calls Tryd.prog 38 #[.slice A n c] w fun e w' => e = .returned (.int .i64 (Pm.tot xs)) ∧ w = w' := by
  have hln := hr.1
  have Hb : ∀ k : Nat, k < n → ∀ x, xs[k]? = some x → Pm.tot (xs.take (k + 1)) = Pm.tot (xs.take k) + x ∧ 0 ≤ Pm.tot (xs.take k) ∧ Pm.tot (xs.take k) ≤ 4398046511104 ∧ 0 ≤ x ∧ x ≤ 68719476736 := by
    intro k hk x hx
    have hl : k < xs.length := by omega
    have e : xs[k] = x := by rw [List.getElem?_eq_getElem hl] at hx; exact Option.some.inj hx
    have h1 := Pm.tot_take_succ xs k hl
    rw [e] at h1
    have h2 := Pm.tot_bound (xs.take k) (by rw [List.all_eq_true] at ha ⊢; exact fun y hy => ha y (List.mem_of_mem_take hy))
    have h3 : (xs.take k).length ≤ 64 := by rw [List.length_take]; omega
    have h4 : ((xs.take k).length : Int) * 68719476736 ≤ 64 * 68719476736 := Int.mul_le_mul_of_nonneg_right (by omega) (by omega)
    have h5 := (Pm.isP_iff x).1 (by rw [List.all_eq_true] at ha; exact ha x (e ▸ List.getElem_mem hl))
    exact ⟨h1, h2.1, by omega, h5.1, h5.2⟩
  have HB := Lib.hid Hb
  have HR := Lib.hid hr
  have HL := Lib.hid hln
  clear Hb hr ha hln
  go_enter Tryd.func38, Tryd.ntmps38
  go_wp2
  go_loop [3, 8] (fun v i => ∃ k : Nat, k ≤ n ∧ i = .int .i64 k ∧ v = .int .i64 (Pm.tot (xs.take k))) (fun _ i => n - (intOf i).toNat)
  case atStart => exact ⟨0, Nat.zero_le _, rfl, rfl⟩
  case round =>
    obtain ⟨k, hk, rfl, rfl⟩ := hrel
    by_cases hlt : k < n
    · obtain ⟨b, off, x, rfl, hblk, hx, hc⟩ := HR.out.at_ hlt
      obtain ⟨h1, g1, g2, g3, g4⟩ := HB.out k hlt x hx
      have H1 := Lib.hid h1
      clear h1 hx
      go_wp2
      go_round
      case rel => exact ⟨k + 1, by omega, by go_num, by rw [H1.out]⟩
      case measure => simp [intOf]; omega
    · go_wp2
      go_ret
      have e : k = n := by omega
      exact ⟨ret_int (by subst e; rw [List.take_of_length_le (by have := HL.out; omega)]), rfl⟩

set_option maxHeartbeats 400000 in
theorem Sum_big (A : Option Addr) (n c : Nat) (w : World) (hn : 64 < n) :
    Calls Tryd.prog 19 #[.slice A n c] w fun e w' => e = .returned (.tuple #[.int .i64 0, .int .i64 8]) ∧ w = w' := by
  go_enter Tryd.func19, Tryd.ntmps19
  go_wp2
  go_ret2
  exact ⟨rfl, rfl⟩
set_option maxHeartbeats 400000 in
theorem rSum_big (A : Option Addr) (n c : Nat) (w : World) (hn : 64 < n) :
    Calls Tryd.prog 21 #[.slice A n c] w fun e w' => e = .returned (.tuple #[.int .i64 0, .int .i64 8]) ∧ w = w' := by
  go_enter Tryd.func21, Tryd.ntmps21
  go_wp2
  go_ret2
  exact ⟨rfl, rfl⟩
/-- The first element that is no power, or none. -/
theorem all_take_succ (xs : List Int) (k : Nat) (x : Int) (hx : xs[k]? = some x) : (xs.take (k + 1)).all Pm.isP = ((xs.take k).all Pm.isP && Pm.isP x) := by
  obtain ⟨hl, e⟩ := List.getElem?_eq_some_iff.1 hx
  rw [List.take_succ_eq_append_getElem hl, List.all_append]; simp [e]
theorem sumE_ok (xs : List Int) (h : xs.length ≤ 64) (ha : xs.all Pm.isP = true) : Pm.sumE xs = 0 ∧ Pm.sumV xs = Pm.tot xs := by
  unfold Pm.sumE Pm.sumV
  rw [if_neg (by omega), if_pos ha, if_pos ⟨h, ha⟩]; exact ⟨rfl, rfl⟩
theorem sumE_bad (xs : List Int) (h : xs.length ≤ 64) (ha : xs.all Pm.isP = false) : Pm.sumE xs = 2 ∧ Pm.sumV xs = 0 := by
  unfold Pm.sumE Pm.sumV
  rw [if_neg (by omega), if_neg (by simp [ha]), if_neg (by simp [ha])]; exact ⟨rfl, rfl⟩
theorem sumE_big (xs : List Int) (h : 64 < xs.length) : Pm.sumE xs = 8 ∧ Pm.sumV xs = 0 := by
  unfold Pm.sumE Pm.sumV
  rw [if_pos h, if_neg (by omega)]; exact ⟨rfl, rfl⟩
theorem all_false_of (xs : List Int) (k : Nat) (x : Int) (hx : xs[k]? = some x) (h : Pm.isP x = false) : xs.all Pm.isP = false := by
  obtain ⟨hl, e⟩ := List.getElem?_eq_some_iff.1 hx
  rw [← Bool.not_eq_true, List.all_eq_true]
  intro hh
  have := hh x (e ▸ List.getElem_mem hl)
  rw [h] at this; cases this
def sumRes (xs : List Int) : Ending := .returned (.tuple #[.int .i64 (Pm.sumV xs), .int .i64 (Pm.sumE xs)])
theorem sumRes_ok (xs : List Int) (h : xs.length ≤ 64) (ha : xs.all Pm.isP = true) : .returned (.tuple #[.int .i64 (Pm.tot xs), .int .i64 0]) = sumRes xs := by
  unfold sumRes; rw [(sumE_ok xs h ha).1, (sumE_ok xs h ha).2]
theorem sumRes_bad (xs : List Int) (h : xs.length ≤ 64) (ha : xs.all Pm.isP = false) : .returned (.tuple #[.int .i64 0, .int .i64 2]) = sumRes xs := by
  unfold sumRes; rw [(sumE_bad xs h ha).1, (sumE_bad xs h ha).2]
theorem sumRes_big (xs : List Int) (h : 64 < xs.length) : .returned (.tuple #[.int .i64 0, .int .i64 8]) = sumRes xs := by
  unfold sumRes; rw [(sumE_big xs h).1, (sumE_big xs h).2]

set_option maxHeartbeats 800000 in
theorem Sum_small (A : Option Addr) (n c B : Nat) (xs : List Int) (w : World) (hr : Reads w B A n xs) (hn : n ≤ 64) :
    Calls Tryd.prog 19 #[.slice A n c] w fun e w' => e = sumRes xs ∧ w = w' := by
  have HR := Lib.hid hr
  clear hr
  go_enter Tryd.func19, Tryd.ntmps19
  go_wp2
  go_loop [11] (fun i => ∃ k : Nat, k ≤ n ∧ i = .int .i64 k ∧ Hid ((xs.take k).all Pm.isP = true)) (fun i => n - (intOf i).toNat)
  case atStart => exact ⟨0, Nat.zero_le _, rfl, Lib.hid rfl⟩
  case round =>
    obtain ⟨k, hk, rfl, HA⟩ := hrel
    by_cases hlt : k < n
    · obtain ⟨b, off, x, rfl, hblk, hx, hc⟩ := HR.out.at_ hlt
      have HX := Lib.hid hx
      clear hx
      cases hp : Pm.isP x
      · have HP := Lib.hid hp
        clear hp
        go_wp2_with (go_at_call 33; refine (power_f _ HP.out _).mono ?_; rintro e w' ⟨rfl, rfl⟩)
        go_ret2
        exact ⟨sumRes_bad xs (by have := HR.out.1; omega) (all_false_of xs k x HX.out HP.out), rfl⟩
      · have HP := Lib.hid hp
        clear hp
        go_wp2_with (go_at_call 33; refine (power_t _ HP.out _).mono ?_; rintro e w' ⟨rfl, rfl⟩)
        go_round
        case rel => exact ⟨k + 1, by omega, by go_num, Lib.hid (by rw [all_take_succ xs k x HX.out, HA.out, HP.out]; rfl)⟩
        case measure => simp [intOf]; omega
    · have HA2 : Hid (xs.all Pm.isP = true) := Lib.hid (by
        have h := HA.out
        rwa [List.take_of_length_le (by have := HR.out.1; omega)] at h)
      go_wp2_with (go_at_call 38; refine (add_ok A n c B xs _ HR.out hn HA2.out).mono ?_; rintro e w' ⟨rfl, rfl⟩)
      go_ret2
      exact ⟨sumRes_ok xs (by have := HR.out.1; omega) HA2.out, rfl⟩
theorem Sum_any (A : Option Addr) (n c B : Nat) (xs : List Int) (w : World) (hr : Reads w B A n xs) :
    Calls Tryd.prog 19 #[.slice A n c] w fun e w' => e = sumRes xs ∧ w = w' := by
  by_cases h : 64 < n
  · exact (Sum_big A n c w h).mono fun e w' ⟨h1, h2⟩ => ⟨h1.trans (sumRes_big xs (by have := hr.1; omega)), h2⟩
  · exact Sum_small A n c B xs w hr (by omega)

theorem tot_step (xs : List Int) (n : Nat) (hl : xs.length = n) (hn : n ≤ 64) (k : Nat) (x : Int) (hx : xs[k]? = some x) (ha : (xs.take k).all Pm.isP = true) (hp : Pm.isP x = true) :
    Pm.tot (xs.take (k + 1)) = Pm.tot (xs.take k) + x ∧ 0 ≤ Pm.tot (xs.take k) ∧ Pm.tot (xs.take k) ≤ 4398046511104 ∧ 0 ≤ x ∧ x ≤ 68719476736 := by
  obtain ⟨hlt, e⟩ := List.getElem?_eq_some_iff.1 hx
  have h1 := Pm.tot_take_succ xs k hlt
  rw [e] at h1
  have h2 := Pm.tot_bound (xs.take k) ha
  have h3 : (xs.take k).length ≤ 64 := by rw [List.length_take]; omega
  have h4 : ((xs.take k).length : Int) * 68719476736 ≤ 64 * 68719476736 := Int.mul_le_mul_of_nonneg_right (by omega) (by omega)
  have h5 := (Pm.isP_iff x).1 hp
  exact ⟨h1, h2.1, by omega, h5.1, h5.2⟩
set_option maxHeartbeats 800000 in
theorem rSum_small (A : Option Addr) (n c B : Nat) (xs : List Int) (w : World) (hr : Reads w B A n xs) (hn : n ≤ 64) :
    Calls Tryd.prog 21 #[.slice A n c] w fun e w' => e = sumRes xs ∧ w = w' := by
  have HR := Lib.hid hr
  clear hr
  go_enter Tryd.func21, Tryd.ntmps21
  go_wp2
  go_loop [4, 5] (fun v i => ∃ k : Nat, k ≤ n ∧ i = .int .i64 k ∧ v = .int .i64 (Pm.tot (xs.take k)) ∧ Hid ((xs.take k).all Pm.isP = true)) (fun _ i => n - (intOf i).toNat)
  case atStart => exact ⟨0, Nat.zero_le _, rfl, rfl, Lib.hid rfl⟩
  case round =>
    obtain ⟨k, hk, rfl, rfl, HA⟩ := hrel
    by_cases hlt : k < n
    · obtain ⟨b, off, x, rfl, hblk, hx, hc⟩ := HR.out.at_ hlt
      have HX := Lib.hid hx
      clear hx
      cases hp : Pm.isP x
      · have HP := Lib.hid hp
        clear hp
        go_wp2_with (go_at_call 36; refine (Is_f _ HP.out _).mono ?_; rintro e w' ⟨rfl, rfl⟩)
        go_ret2
        exact ⟨sumRes_bad xs (by have := HR.out.1; omega) (all_false_of xs k x HX.out HP.out), rfl⟩
      · obtain ⟨h1, g1, g2, g3, g4⟩ := tot_step xs n HR.out.1 hn k x HX.out HA.out hp
        have H1 := Lib.hid h1
        have HP := Lib.hid hp
        clear hp h1
        go_wp2_with (go_at_call 36; refine (Is_t _ HP.out _).mono ?_; rintro e w' ⟨rfl, rfl⟩)
        go_round
        case rel => exact ⟨k + 1, by omega, by go_num, by rw [H1.out], Lib.hid (by rw [all_take_succ xs k x HX.out, HA.out, HP.out]; rfl)⟩
        case measure => simp [intOf]; omega
    · have HA2 : Hid (xs.all Pm.isP = true) := Lib.hid (by
        have h := HA.out
        rwa [List.take_of_length_le (by have := HR.out.1; omega)] at h)
      have HT : Hid (xs.take k = xs) := Lib.hid (List.take_of_length_le (by have := HR.out.1; omega))
      go_wp2
      go_ret2
      exact ⟨by rw [← sumRes_ok xs (by have := HR.out.1; omega) HA2.out]; exact ret_two (by rw [HT.out]) rfl, rfl⟩
theorem rSum_any (A : Option Addr) (n c B : Nat) (xs : List Int) (w : World) (hr : Reads w B A n xs) :
    Calls Tryd.prog 21 #[.slice A n c] w fun e w' => e = sumRes xs ∧ w = w' := by
  by_cases h : 64 < n
  · exact (rSum_big A n c w h).mono fun e w' ⟨h1, h2⟩ => ⟨h1.trans (sumRes_big xs (by have := hr.1; omega)), h2⟩
  · exact rSum_small A n c B xs w hr (by omega)

end Go.Proofs.YticgdbokflbjaaaDoor
