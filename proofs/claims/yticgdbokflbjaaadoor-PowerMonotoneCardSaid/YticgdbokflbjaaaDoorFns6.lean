/-
  THE CONTRACTS, sixth part: copies of a slice of ints (slices.Clone), and the copy without one element (slices.Delete).
-/
import Derived.Test.YticgdbokflbjaaaDoorAwake
import Derived.Laws.IdiomCopy
import Derived.Laws.OwnMore
import Derived.Lib.LazyBuf
namespace Go.Proofs.YticgdbokflbjaaaDoor
open Go.RowKit

theorem own_reads {w : World} {base g n c : Nat} {xs : List Int} (h : w.ownsRow base 3 1 (.slice (some ⟨g, 0, none⟩) n c) n (xs.map (Value.int .i64))) : Reads w w.heap.size (some ⟨g, 0, none⟩) n xs := by
  have hl : xs.length = n := by simpa using h.1
  refine ⟨hl, fun hn => ⟨g, 0, rfl, ?_, fun j x hx => ?_⟩⟩
  · exact (h.lt g rfl).2
  · have hj : j < n := by have := (List.getElem?_eq_some_iff.1 hx).1; omega
    have := h.cellAt j (by omega)
    rw [Nat.zero_add, this, List.getElem?_map, hx]; rfl

/-- What a call of slices.Clone leaves: a slice of its own that holds the same numbers. -/
def Cloned (w : World) (n : Nat) (xs : List Int) (e : Ending) (w' : World) : Prop :=
  ∃ A c, e = .returned (.slice A n c) ∧ w'.ownsRow w.heap.size 3 1 (.slice A n c) n (xs.map (Value.int .i64)) ∧ Reads w' w'.heap.size A n xs ∧ (0 < n → ∃ g, A = some ⟨g, 0, none⟩) ∧ Below w.heap.size w w'

theorem cloned_of_own {w w' : World} {n : Nat} {xs : List Int} {e : Ending} {v : Value} (he : e = .returned v) (hown : w'.ownsRow w.heap.size 3 1 v n (xs.map (Value.int .i64))) (hnil : v ≠ .slice none 0 0) (hb : Below w.heap.size w w') : Cloned w n xs e w' := by
  rcases hown.2 with ⟨h, _⟩ | ⟨g, cap, cur, h, _⟩
  · exact absurd h hnil
  · subst h
    exact ⟨_, _, he, hown, own_reads hown, fun _ => ⟨g, rfl⟩, hb⟩

theorem Clone_any (A : Option Addr) (n c B : Nat) (xs : List Int) (w : World) (hr : Reads w B A n xs) (hn : n ≤ 1000) (h0 : A = none → n = 0) :
    Calls Tryd.prog 20 #[.slice A n c] w (Cloned w n xs) := by
  rcases Nat.eq_zero_or_pos n with hz | hp
  · subst hz
    have hx : xs = [] := List.eq_nil_of_length_eq_zero hr.1
    subst hx
    cases A with
    | none =>
      refine (Tryd.slices_Clone_int_nil 0 c w).mono fun e w' ⟨he, hw⟩ => ?_
      subst hw
      exact ⟨none, 0, he, World.ownsRow_nil _ _ _ _, ⟨rfl, fun h => absurd h (by omega)⟩, fun h => absurd h (by omega), Below.refl _ _⟩
    | some a =>
      refine (Tryd.slices_Clone_int_zero a c w).mono fun e w' ⟨v, he, hown, hnil, hb⟩ => ?_
      exact cloned_of_own he hown hnil hb
  · obtain ⟨b, off, rfl, hb, hc⟩ := hr.2 hp
    have hl := hr.1
    refine (Tryd.slices_Clone_int b off n c xs w (by omega) (by omega) (fun j hj => ?_)).mono fun e w' ⟨v, he, hown, hnil, hb⟩ => ?_
    · rw [hc j xs[j] (List.getElem?_eq_getElem hj), List.getD_eq_getElem?_getD, List.getElem?_eq_getElem hj]; rfl
    · rw [List.take_of_length_le (by omega)] at hown
      exact cloned_of_own he hown hnil hb

theorem Delete_own (g n c k base : Nat) (xs : List Int) (w : World) (hown : w.ownsRow base 3 1 (.slice (some ⟨g, 0, none⟩) n c) n (xs.map (Value.int .i64))) (hk : k < n) :
    Calls Tryd.prog 27 #[.slice (some ⟨g, 0, none⟩) n c, .int .i64 k, .int .i64 ((k : Int) + 1)] w fun e w' =>
      e = .returned (.slice (some ⟨g, 0, none⟩) (n - 1 : Nat) c) ∧ Reads w' w'.heap.size (some ⟨g, 0, none⟩) (n - 1) (xs.eraseIdx k) ∧ Below base w w' := by
  have hl : xs.length = n := by simpa using hown.1
  have hgb := (hown.lt g rfl)
  have hcell : ∀ j, j < n → ∀ x, xs[j]? = some x → w.cell? ⟨g, j, none⟩ = some (.int .i64 x) := fun j hj x hx => by
    rw [hown.cellAt j (by omega), List.getElem?_map, hx]; rfl
  have hcap : n ≤ c ∧ c ≤ maxLen := by
    rcases hown.2 with ⟨h, _⟩ | ⟨g', cap, cur, h, _, _, h1, h2, _⟩
    · simp at h
    · simp only [Value.slice.injEq] at h
      obtain ⟨_, _, rfl⟩ := h
      exact ⟨h1, h2⟩
  have hmax : maxLen = 9223372036854775807 := rfl
  refine (Tryd.slices_Delete_int_cells g 0 n c k (k + 1) xs w (by omega) hcap.1 (by omega) (by omega) (by omega) (fun j hj => ?_) (fun j _ => by rw [Nat.zero_add]; exact hown.frozenAt j)).mono fun e w' ⟨he, q, hw⟩ => ?_
  · rw [Nat.zero_add, hcell j (by omega) xs[j] (List.getElem?_eq_getElem hj), List.getD_eq_getElem?_getD, List.getElem?_eq_getElem hj]; rfl
  · have e1 : k + 1 - k = 1 := by omega
    have e2 : (n : Int) - ((k + 1 - k : Nat) : Int) = ((n - 1 : Nat) : Int) := by omega
    rw [e1] at he hw
    rw [List.take_of_length_le (Nat.le_of_eq hl)] at hw
    have hlen : (xs.take k ++ xs.drop (k + 1) ++ List.replicate 1 (0 : Int)).length = n := by
      simp only [List.length_append, List.length_take, List.length_drop, List.length_replicate]; omega
    have hin : ∀ j x, (xs.eraseIdx k)[j]? = some x → w'.cell? ⟨g, 0 + j, none⟩ = some (.int .i64 x) := by
      intro j x hx
      have hjl : j < n - 1 := by
        have := (List.getElem?_eq_some_iff.1 hx).1
        rw [List.length_eraseIdx] at this
        rw [if_pos (by omega)] at this; omega
      rw [hw, World.cell?_setCells_in g _ 0 (w.drewN q) (fun i hi => by
        have hi' : i < n := by rw [List.length_map, hlen] at hi; exact hi
        show (w.cell? ⟨g, 0 + i, none⟩).isSome = true
        rw [Nat.zero_add, hcell i hi' xs[i] (List.getElem?_eq_getElem (by omega))]; rfl) j (by rw [List.length_map, hlen]; omega)]
      congr 1
      rw [List.getElem_map]
      congr 1
      have hx2 : (xs.take k ++ xs.drop (k + 1) ++ List.replicate 1 (0 : Int))[j]? = some x := by
        rw [List.getElem?_append_left (by simp only [List.length_append, List.length_take, List.length_drop]; omega), ← List.eraseIdx_eq_take_drop_succ]
        exact hx
      exact (List.getElem?_eq_some_iff.1 hx2).2
    have hbl : Below base w w' := by
      rw [hw]
      exact Go.below_setCells hgb.1 _ _ _ ⟨rfl, rfl, rfl, Nat.le_refl _, fun _ _ => rfl⟩
    refine ⟨he, ⟨?_, fun _ => ⟨g, 0, rfl, Nat.lt_of_lt_of_le hgb.2 hbl.size, hin⟩⟩, hbl⟩
    rw [List.length_eraseIdx, if_pos (by omega)]; omega
theorem Received_lit (s t n : Int) (A : Option Addr) (k c B : Nat) (xs : List Int) (V : Bool) (E : Int) (hv : Pm.rcvV s t n xs = V) (he : Pm.rcvE s t n xs = E) (w : World) (hr : Reads w B A k xs) :
    Calls Tryd.prog 18 #[.int .i64 s, .int .i64 t, .int .i64 n, .slice A k c] w fun e w' => e = .returned (.tuple #[.bool V, .int .i64 E]) ∧ w = w' := by
  subst hv he; exact Received_any s t n A k c B xs w hr
/-- What is received came without an error. -/
theorem rcv_true (s t n : Int) (xs : List Int) (h : Pm.rcvV s t n xs = true) : Pm.rcvE s t n xs = 0 ∧ Pm.isP s = true ∧ Pm.condB t n = true ∧ t * (n + Pm.sumV xs) ≤ 1000 * s := by
  unfold Pm.rcvV at h
  split at h
  · next hh =>
    unfold Pm.rcvE
    rw [if_pos ⟨hh.1, hh.2.1⟩]
    unfold Pm.rcvB at h
    exact ⟨hh.2.2, hh.1, hh.2.1, by simpa using h⟩
  · cases h
theorem rcvE_cases (s t n : Int) (xs : List Int) : Pm.rcvE s t n xs = 0 ∨ Pm.rcvE s t n xs = 2 ∨ Pm.rcvE s t n xs = 8 := by
  unfold Pm.rcvE
  split
  · exact sumE_cases xs
  · exact .inr (.inl rfl)

theorem rReceived_lit (s t n : Int) (A : Option Addr) (k c B : Nat) (xs : List Int) (V : Bool) (E : Int) (hv : Pm.rcvV s t n xs = V) (he : Pm.rcvE s t n xs = E) (w : World) (hr : Reads w B A k xs) :
    Calls Tryd.prog 22 #[.int .i64 s, .int .i64 t, .int .i64 n, .slice A k c] w fun e w' => e = .returned (.tuple #[.bool V, .int .i64 E]) ∧ w = w' := by
  subst hv he; exact rReceived_any s t n A k c B xs w hr

/-- The box of the argument: three numbers and a slice. -/
def Box4 (b : Nat) (s t n : Int) (v : Value) (w : World) : Prop :=
  w.cell? ⟨b, 0, none⟩ = some (.int .i64 s) ∧ w.cell? ⟨b, 1, none⟩ = some (.int .i64 t) ∧ w.cell? ⟨b, 2, none⟩ = some (.int .i64 n) ∧ w.cell? ⟨b, 3, none⟩ = some v
theorem Box4.new (s t n : Int) (v : Value) (w : World) : Box4 w.heap.size s t n v (w.alloc (.cells #[.int .i64 s, .int .i64 t, .int .i64 n, v] 35)) := by
  refine ⟨?_, ?_, ?_, ?_⟩ <;> (rw [World.cell?_alloc_at _ _ _ _ (by simp)]; rfl)
theorem Box4.below {b B : Nat} {s t n : Int} {v : Value} {w w' : World} (h : Box4 b s t n v w) (hb : Below B w w') (hlt : b < B) : Box4 b s t n v w' :=
  ⟨(hb.cell (p := ⟨b, 0, none⟩) hlt).trans h.1, (hb.cell (p := ⟨b, 1, none⟩) hlt).trans h.2.1, (hb.cell (p := ⟨b, 2, none⟩) hlt).trans h.2.2.1, (hb.cell (p := ⟨b, 3, none⟩) hlt).trans h.2.2.2⟩

end Go.Proofs.YticgdbokflbjaaaDoor
