/-
  A network and flows that came in, opened.
-/
import Derived.Test.YtnddjcadkbjjhaaGreatDoorCommon
import Derived.Test.YtnddjcadkbjjhaaGreatDoorOb
namespace Go.Proofs.YtnddjcadkbjjhaaGreatDoor
open Go.RowKit Go.WideShapes Go.ChangeShapes
theorem u8_of {x : Int} (h : (Lit.int .u8 x).wf = true) : 0 ≤ x ∧ x ≤ 255 := by
  simp [Lit.wf, IntKind.min, IntKind.max, IntKind.signed, IntKind.bits] at h
  omega
theorem u16_of {x : Int} (h : (Lit.int .u16 x).wf = true) : 0 ≤ x ∧ x ≤ 65535 := by
  simp [Lit.wf, IntKind.min, IntKind.max, IntKind.signed, IntKind.bits] at h
  omega
section
variable {H : Type} {enc : TypeId × Value → H} {P : Program} {w : World} {base : Nat} {spare : Nat → Bool} {held : Bool}
open Go.Deep Go.Joins
/-- A struct of one-cell fields, by value, opened. -/
theorem open_aggs {r : Reach} {b0 : Nat} {t : TypeId} {fs : Array Field} {v : Value} {d : DataW H} {p : List MemPlace} (hs : P.underlying t = some (.struct fs)) (hone : oneCellFields P fs = true) (hC : P.cellsOf t = fs.size)
    (hv : Value.okWide P w r b0 t v) (h : DataW.Trod enc P w base spare held t v d p) :
    ∃ (cs : Array Value) (n : Nat), v = .agg cs ∧ cs.size = fs.size ∧ ∀ (j : Nat) (f : Field), fs[j]? = some f → ∃ (x : Value) (y : DataW H × List MemPlace), cs[j]? = some x ∧ DataW.trod enc P w base spare held n f.type [x] = some y := by
  obtain ⟨cs, rfl, hsz⟩ := okWide_struct hs hv
  obtain ⟨fuel, hf⟩ := h
  obtain ⟨ys, n, _, _, _, hyl, hx⟩ := DataW.trod_struct hs hf
  refine ⟨cs, n, rfl, hsz.trans hC, fun j f hj => ?_⟩
  obtain ⟨ho, hk⟩ := hone_of hone j f hj
  have hjl : j < fs.size := (Array.getElem?_eq_some_iff.1 hj).1
  have h1 := hx j f hj
  rw [ho, hk] at h1
  have hc : cs.size = fs.size := hsz.trans hC
  have hjc : j < cs.size := by omega
  have hjl' : j < cs.toList.length := by simpa using hjc
  have hone' : (((Value.agg cs).cells.toList).drop j).take 1 = [cs[j]] := by
    show ((cs.toList).drop j).take 1 = _
    rw [List.drop_eq_getElem_cons hjl']
    simp
  rw [hone'] at h1
  have hys : ys[j]? = some (ys[j]'(by omega)) := List.getElem?_eq_getElem (by omega)
  exact ⟨_, _, Array.getElem?_eq_getElem hjc, h1.trans hys⟩
theorem array6 {α : Type} {a : Array α} (h : a.size = 6) : ∃ x0 x1 x2 x3 x4 x5, a = #[x0, x1, x2, x3, x4, x5] := by
  obtain ⟨l⟩ := a
  match l, h with
  | [x0, x1, x2, x3, x4, x5], _ => exact ⟨x0, x1, x2, x3, x4, x5, rfl⟩
end
section
variable {H : Type} {enc : TypeId × Value → H} {w : World} {base : Nat} {spare : Nat → Bool} {held : Bool}
open Go.Deep Go.Joins
/-- Ints that came in. -/
theorem open_reads {fuel : Nat} {v : Value} {x : DataW H × List MemPlace} (h : DataW.trod enc Tryz.prog w base spare held fuel 24 [v] = some x) :
    ∃ A n c xs, v = .slice A n c ∧ n ≤ maxLen ∧ Reads w w.heap.size A n xs := by
  rcases open_ints Tryz.underlying24 Tryz.underlying3 (by kernel_rfl) h with ⟨hcs, _⟩ | ⟨a, len, cap, zs, hcs, _, hl, hm, hz, _, hcell, _⟩
  · simp at hcs
    exact ⟨none, 0, 0, [], hcs, Nat.zero_le _, rfl, fun h => absurd h (by omega)⟩
  · simp at hcs
    have hlz : len ≤ zs.length := by rw [hz]; split <;> omega
    refine ⟨some a, len, cap, zs.take len, hcs, by omega, by simp; omega, fun hn => ?_⟩
    obtain ⟨b, off, spot⟩ := a
    have h0 := hcell 0 (by omega)
    have hspot : spot = none := by simpa [Addr.add] using World.cell?_spot h0
    subst hspot
    refine ⟨b, off, rfl, World.block_lt_of_cell? _ _ h0, fun j x hj => ?_⟩
    obtain ⟨hj1, hj2⟩ := List.getElem?_eq_some_iff.1 hj
    rw [List.length_take] at hj1
    rw [List.getElem_take] at hj2
    have := hcell j (by omega)
    rw [List.getD_eq_getElem?_getD, List.getElem?_eq_getElem (by omega), hj2] at this
    simpa only [Go.WideShapes.add_plain, Option.getD_some] using this
theorem open_rows {fuel : Nat} {v : Value} {x : DataW H × List MemPlace} (h : DataW.trod enc Tryz.prog w base spare held fuel 22 [v] = some x) :
    ∃ A n c xs, v = .slice A n c ∧ n ≤ maxLen ∧ RowsW w w.heap.size A n xs := by
  rcases open_slice1 Tryz.underlying22 (by kernel_rfl) h with ⟨hcs, _⟩ | ⟨a, len, cap, m, k, V, D, Pl, hcs, _, hl, hm, hmm, _, hi⟩
  · simp at hcs
    exact ⟨none, 0, 0, [], hcs, Nat.zero_le _, rfl, fun h => absurd h (by omega)⟩
  · simp at hcs
    have hz : ∀ i, i < len → ∃ r : List Int, ∃ A' c', w.cell? (a.add i) = some (.slice A' r.length c') ∧ Reads w w.heap.size A' r.length r ∧ r.length ≤ maxLen := by
      intro i hil
      obtain ⟨h1, h2⟩ := hi i (by rw [hmm]; split <;> omega)
      obtain ⟨A', n', c', xs, hv, hx1, hx2⟩ := open_reads h2
      have hlen := hx2.1
      subst hlen
      exact ⟨xs, A', c', by rw [h1, hv], hx2, hx1⟩
    obtain ⟨rs, hlen, hp⟩ := list_of len hz
    refine ⟨some a, len, cap, rs, hcs, by omega, hlen, fun hn => ?_⟩
    obtain ⟨z, A', c', hz0, _⟩ := hz 0 hn
    obtain ⟨b, off, spot⟩ := a
    have hspot : spot = none := by simpa [Addr.add] using World.cell?_spot hz0
    subst hspot
    refine ⟨b, off, rfl, World.block_lt_of_cell? _ _ hz0, fun j r hj => ?_⟩
    obtain ⟨A', c', h1, h2⟩ := hp j r hj
    exact ⟨A', c', by simpa only [Go.WideShapes.add_plain] using h1, h2⟩
theorem open_links {fuel : Nat} {v : Value} {x : DataW H × List MemPlace} (h : DataW.trod enc Tryz.prog w base spare held fuel 23 [v] = some x) :
    ∃ A n c xs, v = .slice A n c ∧ n ≤ maxLen ∧ Links w w.heap.size A n xs := by
  rcases open_slice_fields Tryz.underlying23 Tryz.underlying135 (by kernel_rfl) (by kernel_rfl) h with ⟨hcs, _⟩ | ⟨a, len, cap, m, D, Pl, hcs, _, hl, hm, hmm, _, hi⟩
  · simp at hcs
    exact ⟨none, 0, 0, [], hcs, Nat.zero_le _, rfl, fun h => absurd h (by omega)⟩
  · simp at hcs
    have hz : ∀ i, i < len → ∃ z : L3, w.cell? (a.add (i * 3)) = some (.int .i64 z.f) ∧ w.cell? (a.add (i * 3 + 1)) = some (.int .i64 z.t) ∧ w.cell? (a.add (i * 3 + 2)) = some (.int .i64 z.l) := by
      intro i hil
      obtain ⟨ys, k, _, _, _, hf⟩ := hi i (by rw [hmm]; split <;> omega)
      obtain ⟨v0, y0, c0, _, t0⟩ := hf 0 _ rfl
      obtain ⟨v1, y1, c1, _, t1⟩ := hf 1 _ rfl
      obtain ⟨v2, y2, c2, _, t2⟩ := hf 2 _ rfl
      obtain ⟨x0, rfl, _, w0⟩ := field_int Tryz.underlying3 t0
      obtain ⟨x1, rfl, _, w1⟩ := field_int Tryz.underlying3 t1
      obtain ⟨x2, rfl, _, w2⟩ := field_int Tryz.underlying3 t2
      exact ⟨⟨x0, x1, x2⟩, c0, c1, c2⟩
    obtain ⟨cs, hlen, hp⟩ := list_of len hz
    refine ⟨some a, len, cap, cs, hcs, by omega, hlen, fun hn => ?_⟩
    obtain ⟨z, hz0⟩ := hz 0 hn
    obtain ⟨b, off, spot⟩ := a
    have hspot : spot = none := by simpa [Addr.add] using World.cell?_spot hz0.1
    subst hspot
    refine ⟨b, off, rfl, World.block_lt_of_cell? _ _ hz0.1, fun j c hj => ?_⟩
    have := hp j c hj
    simpa only [Go.WideShapes.add_plain, Nat.add_assoc] using this
theorem open_flows0 {fuel : Nat} {v : Value} {x : DataW H × List MemPlace} (h : DataW.trod enc Tryz.prog w base spare held fuel 27 [v] = some x) :
    ∃ A n c xs, v = .slice A n c ∧ n ≤ maxLen ∧ Flows w w.heap.size A n xs := by
  rcases open_slice_fields Tryz.underlying27 Tryz.underlying70 (by kernel_rfl) (by kernel_rfl) h with ⟨hcs, _⟩ | ⟨a, len, cap, m, D, Pl, hcs, _, hl, hm, hmm, _, hi⟩
  · simp at hcs
    exact ⟨none, 0, 0, [], hcs, Nat.zero_le _, rfl, fun h => absurd h (by omega)⟩
  · simp at hcs
    have hz : ∀ i, i < len → ∃ z : F6, w.cell? (a.add (i * 6)) = some (.int .i64 z.i) ∧ w.cell? (a.add (i * 6 + 1)) = some (.int .i64 z.f) ∧ w.cell? (a.add (i * 6 + 2)) = some (.int .i64 z.t) ∧ w.cell? (a.add (i * 6 + 3)) = some (.int .i64 z.p) ∧ w.cell? (a.add (i * 6 + 4)) = some (.int .i64 z.h) ∧ w.cell? (a.add (i * 6 + 5)) = some (.int .i64 z.d) := by
      intro i hil
      obtain ⟨ys, k, _, _, _, hf⟩ := hi i (by rw [hmm]; split <;> omega)
      obtain ⟨v0, y0, c0, _, t0⟩ := hf 0 _ rfl
      obtain ⟨v1, y1, c1, _, t1⟩ := hf 1 _ rfl
      obtain ⟨v2, y2, c2, _, t2⟩ := hf 2 _ rfl
      obtain ⟨v3, y3, c3, _, t3⟩ := hf 3 _ rfl
      obtain ⟨v4, y4, c4, _, t4⟩ := hf 4 _ rfl
      obtain ⟨v5, y5, c5, _, t5⟩ := hf 5 _ rfl
      obtain ⟨x0, rfl, _, w0⟩ := field_int Tryz.underlying3 t0
      obtain ⟨x1, rfl, _, w1⟩ := field_int Tryz.underlying3 t1
      obtain ⟨x2, rfl, _, w2⟩ := field_int Tryz.underlying3 t2
      obtain ⟨x3, rfl, _, w3⟩ := field_int Tryz.underlying3 t3
      obtain ⟨x4, rfl, _, w4⟩ := field_int Tryz.underlying3 t4
      obtain ⟨x5, rfl, _, w5⟩ := field_int Tryz.underlying3 t5
      exact ⟨⟨x0, x1, x2, x3, x4, x5⟩, c0, c1, c2, c3, c4, c5⟩
    obtain ⟨cs, hlen, hp⟩ := list_of len hz
    refine ⟨some a, len, cap, cs, hcs, by omega, hlen, fun hn => ?_⟩
    obtain ⟨z, hz0⟩ := hz 0 hn
    obtain ⟨b, off, spot⟩ := a
    have hspot : spot = none := by simpa [Addr.add] using World.cell?_spot hz0.1
    subst hspot
    refine ⟨b, off, rfl, World.block_lt_of_cell? _ _ hz0.1, fun j c hj => ?_⟩
    have := hp j c hj
    simpa only [Go.WideShapes.add_plain, Nat.add_assoc] using this
set_option maxRecDepth 100000 in
/-- Flows that came in. -/
theorem open_flows {r : Reach} {b0 : Nat} {v : Value} {d : DataW H} {p : List MemPlace} (hv : Value.okWide Tryz.prog w r b0 27 v) (h : DataW.Trod enc Tryz.prog w base spare held 27 v d p) :
    ∃ A n c fs, v = .slice A n c ∧ n ≤ maxLen ∧ Flows w w.heap.size A n fs := by
  obtain ⟨fuel, hf⟩ := h
  obtain ⟨A, n, c, rfl⟩ := okWide_slice Tryz.underlying27 hv
  exact open_flows0 hf
set_option maxRecDepth 100000 in
/-- A network that came in. -/
theorem open_net {r : Reach} {b0 : Nat} {v : Value} {d : DataW H} {p : List MemPlace} (hv : Value.okWide Tryz.prog w r b0 26 v) (h : DataW.Trod enc Tryz.prog w base spare held 26 v d p) :
    ∃ N : NT, v = NV N ∧ NetO w w.heap.size N := by
  obtain ⟨cs, n, rfl, hsz, hf⟩ := open_aggs Tryz.underlying26 (by kernel_rfl) (by kernel_rfl) hv h
  obtain ⟨v0, v1, v2, v3, v4, v5, rfl⟩ := array6 hsz
  obtain ⟨_, y0, e0, t0⟩ := hf 0 _ rfl
  obtain ⟨_, y1, e1, t1⟩ := hf 1 _ rfl
  obtain ⟨_, y2, e2, t2⟩ := hf 2 _ rfl
  obtain ⟨_, y3, e3, t3⟩ := hf 3 _ rfl
  obtain ⟨_, y4, e4, t4⟩ := hf 4 _ rfl
  obtain ⟨_, y5, e5, t5⟩ := hf 5 _ rfl
  cases e0; cases e1; cases e2; cases e3; cases e4; cases e5
  obtain ⟨k, rfl, _, _⟩ := field_int Tryz.underlying3 t0
  obtain ⟨Ap, np, cp, rows, rfl, hnp, hR⟩ := open_rows t1
  obtain ⟨z, rfl, _, _⟩ := field_int Tryz.underlying3 t2
  obtain ⟨hh, rfl, _, _⟩ := field_int Tryz.underlying3 t3
  obtain ⟨Al, nl, cl, ls, rfl, hnl, hL⟩ := open_links t4
  obtain ⟨Am, nm, cm, ms, rfl, hnm, hM⟩ := open_reads t5
  exact ⟨{ k := k, z := z, h := hh, Ap := Ap, np := np, cp := cp, Al := Al, nl := nl, cl := cl, Am := Am, nm := nm, cm := cm, rows := rows, ls := ls, ms := ms }, rfl, hR, hL, hM, hnp, hnl, hnm⟩
end
end Go.Proofs.YtnddjcadkbjjhaaGreatDoor
