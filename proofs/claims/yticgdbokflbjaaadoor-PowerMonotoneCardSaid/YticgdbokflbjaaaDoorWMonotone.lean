/-
  THE WALK OF PowerMonotone, joined: it returns true, whatever the arguments; what lay in memory stays.
-/
import Derived.Test.YticgdbokflbjaaaDoorWMonoB
import Derived.Test.YticgdbokflbjaaaDoorWMonoCa
import Derived.Test.YticgdbokflbjaaaDoorWMonoCb
import Derived.Test.YticgdbokflbjaaaDoorWMonoCc
namespace Go.Proofs.YticgdbokflbjaaaDoor
open Go.RowKit
theorem rcvB_more (s s' t n T T' : Int) (hs : s ≤ s') (hT : T' ≤ T) (ht : 0 ≤ t) (h : Pm.rcvB s t n T = true) : Pm.rcvB s' t n T' = true := by
  unfold Pm.rcvB at h ⊢
  have h1 : t * (n + T') ≤ t * (n + T) := Int.mul_le_mul_of_nonneg_left (by omega) ht
  simp at h ⊢; omega
theorem rcv_off (s t n : Int) (xs : List Int) (h : Pm.rcvE s t n xs ≠ 0) : Pm.rcvV s t n xs = false := by
  cases hv : Pm.rcvV s t n xs
  · rfl
  · exact absurd (rcv_true s t n xs hv).1 h
theorem walk_Monotone (s t n m u : Int) (A : Option Addr) (k c : Nat) (xs : List Int) (w : World) (hr : Reads w w.heap.size A k xs) (h0 : A = none → k = 0) (hu0 : 0 ≤ u) (hu1 : u ≤ 255) :
    Calls Tryd.prog 9 #[.agg #[.int .i64 s, .int .i64 t, .int .i64 n, .slice A k c], .int .i64 m, .int .u8 u] w fun e w' => e = .returned (.bool true) ∧ Below w.heap.size w w' := by
  by_cases hk : 64 < k
  · exact walk_Mono_big s t n m u A k c w hk
  rcases rcvE_cases s t n xs with he | he | he
  · obtain ⟨hp, hc, hl, ha, hv⟩ := rcv_fine s t n xs he
    obtain ⟨t0, t1, n0, n1⟩ := (Pm.condB_iff t n).1 hc
    obtain ⟨s0, s1⟩ := (Pm.isP_iff s).1 hp
    have hlen := hr.1

    by_cases ha1 : m < 0
    ·
      have hsg : Pm.isP s = true := (Pm.isP_iff _).2 (by omega)
      obtain ⟨ge, gv⟩ := rcv_back s t n xs hsg hc hl ha
      rcases Nat.eq_zero_or_pos k with hk0 | hk0
      · 
        cases hV : Pm.rcvV s t n xs
        · exact walk_Mono_a_f0 s t n m u A k c xs w hr (Lib.hid h0) (by omega) _ (by omega) s0 s1 ha1 (Lib.hid ⟨hV, he⟩) (Lib.hid ⟨rfl, ge⟩)
        · have hB : Pm.rcvB s t n (Pm.tot xs) = true := by rw [← hv]; exact hV
          have hG : Pm.rcvV s t n xs = true := by rw [gv]; exact rcvB_more s _ t n _ _ (by omega) (Int.le_refl _) (by omega) hB
          exact walk_Mono_a_t0 s t n m u A k c xs w hr (Lib.hid h0) (by omega) (by omega) s0 s1 ha1 (Lib.hid ⟨hV, he⟩) (Lib.hid ⟨hG, ge⟩)
      · have hq : u % (k : Int) = ((u.toNat % k : Nat) : Int) := by
          obtain ⟨x, rfl⟩ := Int.eq_ofNat_of_zero_le hu0
          rfl
        have hj : u.toNat % k < k := Nat.mod_lt _ hk0
        obtain ⟨ze, zv⟩ := rcv_back s t n (xs.eraseIdx (u.toNat % k)) hp hc (by rw [List.length_eraseIdx]; split <;> omega) (all_erase xs _ ha)
        cases hV : Pm.rcvV s t n xs
        · exact walk_Mono_a_f1 s t n m u A k c xs w hr (Lib.hid h0) (by omega) _ _ hk0 (u.toNat % k) hj (Lib.hid hq) hu0 hu1 (by omega) (by omega) s0 s1 ha1 (Lib.hid ⟨hV, he⟩) (Lib.hid ⟨rfl, ge⟩) (Lib.hid ⟨rfl, ze⟩)
        · have hB : Pm.rcvB s t n (Pm.tot xs) = true := by rw [← hv]; exact hV
          have hG : Pm.rcvV s t n xs = true := by rw [gv]; exact rcvB_more s _ t n _ _ (by omega) (Int.le_refl _) (by omega) hB
          have hZ : Pm.rcvV s t n (xs.eraseIdx (u.toNat % k)) = true := by rw [zv]; exact rcvB_more s _ t n _ _ (Int.le_refl _) (tot_erase xs _ (by omega) ha) (by omega) hB
          exact walk_Mono_a_t1 s t n m u A k c xs w hr (Lib.hid h0) (by omega) hk0 (u.toNat % k) hj (Lib.hid hq) hu0 hu1 (by omega) (by omega) s0 s1 ha1 (Lib.hid ⟨hV, he⟩) (Lib.hid ⟨hG, ge⟩) (Lib.hid ⟨hZ, ze⟩)
    by_cases hb1 : 68719476736 - s < m
    ·
      have hsg : Pm.isP s = true := (Pm.isP_iff _).2 (by omega)
      obtain ⟨ge, gv⟩ := rcv_back s t n xs hsg hc hl ha
      rcases Nat.eq_zero_or_pos k with hk0 | hk0
      · 
        cases hV : Pm.rcvV s t n xs
        · exact walk_Mono_b_f0 s t n m u A k c xs w hr (Lib.hid h0) (by omega) _ (by omega) s0 s1 (by omega) hb1 (Lib.hid ⟨hV, he⟩) (Lib.hid ⟨rfl, ge⟩)
        · have hB : Pm.rcvB s t n (Pm.tot xs) = true := by rw [← hv]; exact hV
          have hG : Pm.rcvV s t n xs = true := by rw [gv]; exact rcvB_more s _ t n _ _ (by omega) (Int.le_refl _) (by omega) hB
          exact walk_Mono_b_t0 s t n m u A k c xs w hr (Lib.hid h0) (by omega) (by omega) s0 s1 (by omega) hb1 (Lib.hid ⟨hV, he⟩) (Lib.hid ⟨hG, ge⟩)
      · have hq : u % (k : Int) = ((u.toNat % k : Nat) : Int) := by
          obtain ⟨x, rfl⟩ := Int.eq_ofNat_of_zero_le hu0
          rfl
        have hj : u.toNat % k < k := Nat.mod_lt _ hk0
        obtain ⟨ze, zv⟩ := rcv_back s t n (xs.eraseIdx (u.toNat % k)) hp hc (by rw [List.length_eraseIdx]; split <;> omega) (all_erase xs _ ha)
        cases hV : Pm.rcvV s t n xs
        · exact walk_Mono_b_f1 s t n m u A k c xs w hr (Lib.hid h0) (by omega) _ _ hk0 (u.toNat % k) hj (Lib.hid hq) hu0 hu1 (by omega) (by omega) s0 s1 (by omega) hb1 (Lib.hid ⟨hV, he⟩) (Lib.hid ⟨rfl, ge⟩) (Lib.hid ⟨rfl, ze⟩)
        · have hB : Pm.rcvB s t n (Pm.tot xs) = true := by rw [← hv]; exact hV
          have hG : Pm.rcvV s t n xs = true := by rw [gv]; exact rcvB_more s _ t n _ _ (by omega) (Int.le_refl _) (by omega) hB
          have hZ : Pm.rcvV s t n (xs.eraseIdx (u.toNat % k)) = true := by rw [zv]; exact rcvB_more s _ t n _ _ (Int.le_refl _) (tot_erase xs _ (by omega) ha) (by omega) hB
          exact walk_Mono_b_t1 s t n m u A k c xs w hr (Lib.hid h0) (by omega) hk0 (u.toNat % k) hj (Lib.hid hq) hu0 hu1 (by omega) (by omega) s0 s1 (by omega) hb1 (Lib.hid ⟨hV, he⟩) (Lib.hid ⟨hG, ge⟩) (Lib.hid ⟨hZ, ze⟩)
    ·
      have hsg : Pm.isP (s + m) = true := (Pm.isP_iff _).2 (by omega)
      obtain ⟨ge, gv⟩ := rcv_back (s + m) t n xs hsg hc hl ha
      rcases Nat.eq_zero_or_pos k with hk0 | hk0
      · 
        cases hV : Pm.rcvV s t n xs
        · exact walk_Mono_c_f0 s t n m u A k c xs w hr (Lib.hid h0) (by omega) _ (by omega) s0 s1 (by omega) (by omega) (Lib.hid ⟨hV, he⟩) (Lib.hid ⟨rfl, ge⟩)
        · have hB : Pm.rcvB s t n (Pm.tot xs) = true := by rw [← hv]; exact hV
          have hG : Pm.rcvV (s + m) t n xs = true := by rw [gv]; exact rcvB_more s _ t n _ _ (by omega) (Int.le_refl _) (by omega) hB
          exact walk_Mono_c_t0 s t n m u A k c xs w hr (Lib.hid h0) (by omega) (by omega) s0 s1 (by omega) (by omega) (Lib.hid ⟨hV, he⟩) (Lib.hid ⟨hG, ge⟩)
      · have hq : u % (k : Int) = ((u.toNat % k : Nat) : Int) := by
          obtain ⟨x, rfl⟩ := Int.eq_ofNat_of_zero_le hu0
          rfl
        have hj : u.toNat % k < k := Nat.mod_lt _ hk0
        obtain ⟨ze, zv⟩ := rcv_back s t n (xs.eraseIdx (u.toNat % k)) hp hc (by rw [List.length_eraseIdx]; split <;> omega) (all_erase xs _ ha)
        cases hV : Pm.rcvV s t n xs
        · exact walk_Mono_c_f1 s t n m u A k c xs w hr (Lib.hid h0) (by omega) _ _ hk0 (u.toNat % k) hj (Lib.hid hq) hu0 hu1 (by omega) (by omega) s0 s1 (by omega) (by omega) (Lib.hid ⟨hV, he⟩) (Lib.hid ⟨rfl, ge⟩) (Lib.hid ⟨rfl, ze⟩)
        · have hB : Pm.rcvB s t n (Pm.tot xs) = true := by rw [← hv]; exact hV
          have hG : Pm.rcvV (s + m) t n xs = true := by rw [gv]; exact rcvB_more s _ t n _ _ (by omega) (Int.le_refl _) (by omega) hB
          have hZ : Pm.rcvV s t n (xs.eraseIdx (u.toNat % k)) = true := by rw [zv]; exact rcvB_more s _ t n _ _ (Int.le_refl _) (tot_erase xs _ (by omega) ha) (by omega) hB
          exact walk_Mono_c_t1 s t n m u A k c xs w hr (Lib.hid h0) (by omega) hk0 (u.toNat % k) hj (Lib.hid hq) hu0 hu1 (by omega) (by omega) s0 s1 (by omega) (by omega) (Lib.hid ⟨hV, he⟩) (Lib.hid ⟨hG, ge⟩) (Lib.hid ⟨hZ, ze⟩)
  · exact walk_Mono_e2 s t n m u A k c xs w hr (Lib.hid h0) (by omega) (Lib.hid ⟨rcv_off s t n xs (by rw [he]; decide), he⟩)
  · exact walk_Mono_e8 s t n m u A k c xs w hr (Lib.hid h0) (by omega) (Lib.hid ⟨rcv_off s t n xs (by rw [he]; decide), he⟩)

end Go.Proofs.YticgdbokflbjaaaDoor
