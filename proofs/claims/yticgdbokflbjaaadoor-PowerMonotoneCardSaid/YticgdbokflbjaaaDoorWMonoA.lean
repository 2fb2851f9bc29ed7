/-
  THE WALK OF PowerMonotone: it returns true, whatever the arguments; what lay in memory stays.
-/
import Derived.Test.YticgdbokflbjaaaDoorFns6
import Derived.Deep.RegionHeld3
namespace Go.Proofs.YticgdbokflbjaaaDoor
open Go.RowKit


theorem Delete_at (g n c j base : Nat) (i : Int) (xs : List Int) (w : World) (hi : Hid (i = j)) (hown : w.ownsRow base 3 1 (.slice (some ⟨g, 0, none⟩) n c) n (xs.map (Value.int .i64))) (hk : j < n) :
    Calls Tryd.prog 27 #[.slice (some ⟨g, 0, none⟩) n c, .int .i64 i, .int .i64 (i + 1)] w fun e w' =>
      e = .returned (.slice (some ⟨g, 0, none⟩) (n - 1 : Nat) c) ∧ Reads w' w'.heap.size (some ⟨g, 0, none⟩) (n - 1) (xs.eraseIdx j) ∧ Below base w w' := by
  rw [hi.out]; exact Delete_own g n c j base xs w hown hk
/-- What is known of a signal that came through without an error. -/
theorem rcv_fine (s t n : Int) (xs : List Int) (h : Pm.rcvE s t n xs = 0) : Pm.isP s = true ∧ Pm.condB t n = true ∧ xs.length ≤ 64 ∧ xs.all Pm.isP = true ∧ Pm.rcvV s t n xs = Pm.rcvB s t n (Pm.tot xs) := by
  unfold Pm.rcvE at h
  split at h
  · next hh =>
    have h2 := h
    unfold Pm.sumE at h
    split at h
    · cases h
    · next hl =>
      split at h
      · next ha =>
        refine ⟨hh.1, hh.2, by omega, ha, ?_⟩
        unfold Pm.rcvV
        rw [if_pos ⟨hh.1, hh.2, h2⟩]
        unfold Pm.sumV
        rw [if_pos ⟨by omega, ha⟩]
      · cases h
  · cases h
theorem rcv_back (s t n : Int) (xs : List Int) (hp : Pm.isP s = true) (hc : Pm.condB t n = true) (hl : xs.length ≤ 64) (ha : xs.all Pm.isP = true) : Pm.rcvE s t n xs = 0 ∧ Pm.rcvV s t n xs = Pm.rcvB s t n (Pm.tot xs) := by
  have hs := sumE_ok xs hl ha
  unfold Pm.rcvE Pm.rcvV
  rw [if_pos ⟨hp, hc⟩, if_pos ⟨hp, hc, hs.1⟩, hs.2]; exact ⟨hs.1, rfl⟩
theorem all_erase (xs : List Int) (j : Nat) (ha : xs.all Pm.isP = true) : (xs.eraseIdx j).all Pm.isP = true := by
  rw [List.all_eq_true] at ha ⊢
  exact fun x hx => ha x (List.mem_of_mem_eraseIdx hx)
theorem tot_erase (xs : List Int) (j : Nat) (hj : j < xs.length) (ha : xs.all Pm.isP = true) : Pm.tot (xs.eraseIdx j) ≤ Pm.tot xs := by
  have e : xs = xs.take j ++ (xs[j] :: xs.drop (j + 1)) := by
    rw [← List.drop_eq_getElem_cons hj, List.take_append_drop]
  have h1 : Pm.tot xs = Pm.tot (xs.take j) + (xs[j] + Pm.tot (xs.drop (j + 1))) := by
    conv => lhs; rw [e]
    rw [Pm.tot_append]; rfl
  have h2 : Pm.tot (xs.eraseIdx j) = Pm.tot (xs.take j) + Pm.tot (xs.drop (j + 1)) := by
    rw [List.eraseIdx_eq_take_drop_succ, Pm.tot_append]
  have h3 := (Pm.isP_iff xs[j]).1 (by rw [List.all_eq_true] at ha; exact ha _ (List.getElem_mem hj))
  omega

end Go.Proofs.YticgdbokflbjaaaDoor
