/-
  HOW THE ARGUMENTS OF THIS SEAT'S LAWS ARE READ: a Case (three numbers and a slice of numbers), an array of two numbers.
-/
import Derived.Test.YticgdbokflbjaaaDoorCommon
import Derived.Laws.IdiomArrays
namespace Go.Proofs.YticgdbokflbjaaaDoor
open Go.ChangeShapes Go.WideShapes Go.ChangeAt Go.RowKit Go.Joins
section
variable {H : Type} {enc : TypeId × Value → H} {w : World} {base b0 : Nat} {spare : Nat → Bool} {held : Bool}
theorem cells3 : Tryd.prog.cellsOf 3 = 1 := by kernel_rfl
theorem cells29 : Tryd.prog.cellsOf 29 = 2 := by kernel_rfl
theorem cells35 : Tryd.prog.cellsOf 35 = 4 := by kernel_rfl
set_option maxRecDepth 100000 in
theorem open_case {r : Reach} {v : Value} {d : DataW H} {p : List MemPlace} (hv : Value.okWide Tryd.prog w r b0 35 v) (h : DataW.Trod enc Tryd.prog w base spare held 35 v d p) :
    ∃ s t n A k c xs, v = .agg #[.int .i64 s, .int .i64 t, .int .i64 n, .slice A k c] ∧ Reads w w.heap.size A k xs ∧ (A = none → k = 0) ∧ k ≤ 9223372036854775807 := by
  obtain ⟨v0, v1, v2, v3, y0, y1, y2, y3, m, rfl, _, _, h0, h1, h2, h3⟩ := open_agg4 Tryd.underlying35 (by kernel_rfl) cells35 hv h
  obtain ⟨s, rfl, _, _⟩ := field_int Tryd.underlying3 h0
  obtain ⟨t, rfl, _, _⟩ := field_int Tryd.underlying3 h1
  obtain ⟨n, rfl, _, _⟩ := field_int Tryd.underlying3 h2
  obtain ⟨A, k, c, xs, rfl, hr, hn, hkc, hc⟩ := reads_ints Tryd.underlying32 Tryd.underlying3 cells3 h3
  exact ⟨s, t, n, A, k, c, xs, rfl, hr, hn, Nat.le_trans hkc hc⟩
theorem list2 {α : Type} (l : List α) (h : (⟨l⟩ : Array α).size = 2) : ∃ a b, l = [a, b] := by
  match l, h with
  | [a, b], _ => exact ⟨a, b, rfl⟩
set_option maxRecDepth 100000 in
theorem open_two {r : Reach} {v : Value} {d : DataW H} {p : List MemPlace} (hv : Value.okWide Tryd.prog w r b0 29 v) (h : DataW.Trod enc Tryd.prog w base spare held 29 v d p) :
    ∃ s t, v = .agg #[.int .i64 s, .int .i64 t] := by
  obtain ⟨cs, rfl, hsz, _⟩ : ∃ cs, v = .agg cs ∧ cs.size = Tryd.prog.cellsOf 29 ∧ Row.okWide Tryd.prog w r b0 29 cs := by
    simpa [Value.okWide, Tryd.underlying29] using hv
  rw [cells29] at hsz
  obtain ⟨l⟩ := cs
  obtain ⟨c0, c1, rfl⟩ := list2 l hsz
  obtain ⟨fuel, hf⟩ := h
  obtain ⟨ys, m, _, _, _, _, hel⟩ := DataW.trod_array Tryd.underlying29 hf
  have e0 := hel 0 (by omega)
  have e1 := hel 1 (by omega)
  rw [cells3] at e0 e1
  have f0 : DataW.trod enc Tryd.prog w base spare held m 3 [c0] = ys[0]? := by simpa [Value.cells] using e0
  have f1 : DataW.trod enc Tryd.prog w base spare held m 3 [c1] = ys[1]? := by simpa [Value.cells] using e1
  have hl : ys.length = 2 := by assumption
  obtain ⟨s, rfl, _, _⟩ := field_int Tryd.underlying3 (f0.trans (List.getElem?_eq_getElem (by omega)))
  obtain ⟨t, rfl, _, _⟩ := field_int Tryd.underlying3 (f1.trans (List.getElem?_eq_getElem (by omega)))
  exact ⟨s, t, rfl⟩
end
end Go.Proofs.YticgdbokflbjaaaDoor
