/-
  The law ScheduleBack: its walk joined; a cell that came in, opened.
-/
import Derived.Test.YtnddjcadkbjjhaaGreatDoorCommon
import Derived.Test.YtnddjcadkbjjhaaGreatDoorWBack
namespace Go.Proofs.YtnddjcadkbjjhaaGreatDoor
open Go.RowKit
section
open Go.Joins Go.ChangeShapes Go.WideShapes Go.Deep
variable {H : Type} {enc : TypeId × Value → H} {P : Program} {w : World} {base : Nat} {spare : Nat → Bool} {held : Bool}
theorem open_agg5 {r : Reach} {b0 : Nat} {t : TypeId} {f0 f1 f2 f3 f4 : Field} {v : Value} {d : DataW H} {p : List MemPlace} (hs : P.underlying t = some (.struct #[f0, f1, f2, f3, f4])) (hone : oneCellFields P #[f0, f1, f2, f3, f4] = true) (hC : P.cellsOf t = 5)
    (hv : Value.okWide P w r b0 t v) (h : DataW.Trod enc P w base spare held t v d p) :
    ∃ (v0 v1 v2 v3 v4 : Value) (y0 y1 y2 y3 y4 : DataW H × List MemPlace) (n : Nat), v = .agg #[v0, v1, v2, v3, v4] ∧ d = .agg [y0.1, y1.1, y2.1, y3.1, y4.1] ∧ p = y0.2 ++ (y1.2 ++ (y2.2 ++ (y3.2 ++ y4.2))) ∧
      DataW.trod enc P w base spare held n f0.type [v0] = some y0 ∧ DataW.trod enc P w base spare held n f1.type [v1] = some y1 ∧ DataW.trod enc P w base spare held n f2.type [v2] = some y2 ∧ DataW.trod enc P w base spare held n f3.type [v3] = some y3 ∧ DataW.trod enc P w base spare held n f4.type [v4] = some y4 := by
  obtain ⟨cs, rfl, hsz⟩ := okWide_struct hs hv
  obtain ⟨l⟩ := cs
  match l, hsz.trans hC with
  | [c0, c1, c2, c3, c4], _ =>
    obtain ⟨fuel, hf⟩ := h
    obtain ⟨xs, n, _, hx, _, hlen, hg⟩ := DataW.trod_struct hs hf
    obtain ⟨o0, k0⟩ := hone_of hone 0 f0 rfl
    obtain ⟨o1, k1⟩ := hone_of hone 1 f1 rfl
    obtain ⟨o2, k2⟩ := hone_of hone 2 f2 rfl
    obtain ⟨o3, k3⟩ := hone_of hone 3 f3 rfl
    obtain ⟨o4, k4⟩ := hone_of hone 4 f4 rfl
    match xs, hlen with
    | [y0, y1, y2, y3, y4], _ =>
      simp only [Prod.mk.injEq] at hx
      exact ⟨c0, c1, c2, c3, c4, y0, y1, y2, y3, y4, n, rfl, by simpa using hx.1, by simpa using hx.2, by simpa [Value.cells, o0, k0] using hg 0 f0 rfl, by simpa [Value.cells, o1, k1] using hg 1 f1 rfl, by simpa [Value.cells, o2, k2] using hg 2 f2 rfl, by simpa [Value.cells, o3, k3] using hg 3 f3 rfl, by simpa [Value.cells, o4, k4] using hg 4 f4 rfl⟩


set_option maxRecDepth 100000 in
theorem open_cell {r : Reach} {b0 : Nat} {v : Value} {d : DataW H} {p : List MemPlace} (hv : Value.okWide Tryz.prog w r b0 51 v) (h : DataW.Trod enc Tryz.prog w base spare held 51 v d p) :
    ∃ z : C5, v = .agg #[.int .i64 z.s, .int .i64 z.o, .int .i64 z.f, .int .i64 z.t, .int .i64 z.w] ∧ wfC z := by
  obtain ⟨v0, v1, v2, v3, v4, y0, y1, y2, y3, y4, k, rfl, _, _, t0, t1, t2, t3, t4⟩ := open_agg5 Tryz.underlying51 (by kernel_rfl) (by kernel_rfl) hv h
  obtain ⟨x0, rfl, _, w0⟩ := field_int Tryz.underlying3 t0
  obtain ⟨x1, rfl, _, w1⟩ := field_int Tryz.underlying3 t1
  obtain ⟨x2, rfl, _, w2⟩ := field_int Tryz.underlying3 t2
  obtain ⟨x3, rfl, _, w3⟩ := field_int Tryz.underlying3 t3
  obtain ⟨x4, rfl, _, w4⟩ := field_int Tryz.underlying3 t4
  exact ⟨⟨x0, x1, x2, x3, x4⟩, rfl, inI_of w0, inI_of w1, inI_of w2, inI_of w3, inI_of w4⟩
end
theorem walk_Back (L O : Int) (A : Option Addr) (n c : Nat) (cs : List C5) (x : C5) (hn : n ≤ 9223372036854775807) (hx : wfC x) (w : World) (ht : Tabs w) (hcs : Cells w w.heap.size A n cs) :
    Calls Tryz.prog 10 #[.agg #[.int .i64 L, .int .i64 O, .slice A n c], .agg #[.int .i64 x.s, .int .i64 x.o, .int .i64 x.f, .int .i64 x.t, .int .i64 x.w]] w fun e w' => e = .returned (.bool true) ∧ Below w.heap.size w w' := by
  by_cases h60 : 60 < n
  · exact walk_Back_big L O A n c cs x hn h60 w (Lib.hid ht) (Lib.hid hcs)
  · have hl := hcs.1
    rcases addR_cases L O cs x with ⟨e, he, hR⟩ | ⟨h1, h2, h3, h4, hR⟩
    · exact walk_Back_err L O A n c cs x (by omega) e he (Lib.hid hR) w (Lib.hid ht) (Lib.hid hcs)
    · have hf := insP_form h1 h2 h3 h4
      have hlen := insL_length cs (posL x cs) x (posL_le x cs)
      have hd : difR L O cs L O (insL cs (posL x cs) x) = ([], [x], 0) := by
        unfold difR
        rw [h1, hf, keep_none, keep_one h3]
        simp
      have hr : remR L O (insL cs (posL x cs) x) x = ⟨L, O, cs, 0, 0⟩ := by
        unfold remR
        rw [hf, if_neg (by simp), if_pos ((insP_mem x x cs).2 (Or.inl rfl)), del_ins]
      have hat := at_ins h1 h2 h3 h4
      have hatl : (atR L O (insL cs (posL x cs) x) x.s).length ≤ 1000000 := by
        unfold atR
        split
        · refine Nat.le_trans (List.length_filter_le _ _) ?_
          omega
        · simp
      exact walk_Back_good L O A n c cs x (by omega) _ _ (Lib.hid rfl) (by omega) (Lib.hid hR) (Lib.hid hd) (Lib.hid hr) (Lib.hid hat) (Lib.hid hl) (Lib.hid hx.1) (Lib.hid hatl) w (Lib.hid ht) (Lib.hid hcs)
end Go.Proofs.YtnddjcadkbjjhaaGreatDoor
