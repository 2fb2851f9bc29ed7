/-
  CHAPTER 35: order, compare.
-/
import Derived.Test.YtnddjcadkbjjhaaGreatDoorB
import Derived.Deep.RegionHeld3
namespace Go.Proofs.YtnddjcadkbjjhaaGreatDoor
open Go.RowKit

def C5.ints (c : C5) : List Int := [c.s, c.o, c.f, c.t, c.w]
def cmpC (c d : C5) : Int := cmpL c.ints d.ints
/-- A boxed cell. -/
def Box5 (w : World) (b : Nat) (c : C5) : Prop :=
  w.cell? ⟨b, 0, none⟩ = some (.int .i64 c.s) ∧ w.cell? ⟨b, 1, none⟩ = some (.int .i64 c.o) ∧ w.cell? ⟨b, 2, none⟩ = some (.int .i64 c.f) ∧ w.cell? ⟨b, 3, none⟩ = some (.int .i64 c.t) ∧ w.cell? ⟨b, 4, none⟩ = some (.int .i64 c.w)
theorem Box5.below {w w' : World} {b B : Nat} {c : C5} (h : Box5 w b c) (hb : Below B w w') (hB : b < B) : Box5 w' b c := by
  obtain ⟨h0, h1, h2, h3, h4⟩ := h
  exact ⟨(hb.cell (p := ⟨b, 0, none⟩) hB).trans h0, (hb.cell (p := ⟨b, 1, none⟩) hB).trans h1, (hb.cell (p := ⟨b, 2, none⟩) hB).trans h2, (hb.cell (p := ⟨b, 3, none⟩) hB).trans h3, (hb.cell (p := ⟨b, 4, none⟩) hB).trans h4⟩
theorem Box5.new (c : C5) (T : TypeId) (w : World) : Box5 (w.alloc (.cells #[.int .i64 c.s, .int .i64 c.o, .int .i64 c.f, .int .i64 c.t, .int .i64 c.w] T)) w.heap.size c := by
  refine ⟨?_, ?_, ?_, ?_, ?_⟩ <;> simp [go_sem]
theorem Box5.reads {w : World} {b B : Nat} {c : C5} (h : Box5 w b c) (hB : b < B) : Reads w B (some ⟨b, 0, none⟩) 5 c.ints := by
  obtain ⟨h0, h1, h2, h3, h4⟩ := h
  refine ⟨rfl, fun _ => ⟨b, 0, rfl, hB, ?_⟩⟩
  intro j x hx
  match j, hx with
  | 0, hx => cases hx; exact h0
  | 1, hx => cases hx; exact h1
  | 2, hx => cases hx; exact h2
  | 3, hx => cases hx; exact h3
  | 4, hx => cases hx; exact h4

abbrev N51 (c : C5) : Obj := .cells #[.int .i64 c.s, .int .i64 c.o, .int .i64 c.f, .int .i64 c.t, .int .i64 c.w] 51
abbrev N89 (c : C5) : Obj := .cells #[.int .i64 c.s, .int .i64 c.o, .int .i64 c.f, .int .i64 c.t, .int .i64 c.w] 89
set_option maxHeartbeats 800000 in
theorem numbers_exact (c : C5) (w : World) :
    Calls Tryz.prog 56 #[.agg #[.int .i64 c.s, .int .i64 c.o, .int .i64 c.f, .int .i64 c.t, .int .i64 c.w]] w fun r w' => r = .returned (.agg #[.int .i64 c.s, .int .i64 c.o, .int .i64 c.f, .int .i64 c.t, .int .i64 c.w]) ∧ (w.alloc (N51 c)).alloc (N89 c) = w' := by
  go_enter Tryz.func56, Tryz.ntmps56
  go_wp2
  exact bodyPost_ret (v := .agg #[.int .i64 c.s, .int .i64 c.o, .int .i64 c.f, .int .i64 c.t, .int .i64 c.w]) (by simp [results, Tryz.results56, go_sem]) rfl ⟨rfl, rfl⟩
theorem ba {w0 W : World} (h : Below w0.heap.size w0 W) (o : Obj) : Below w0.heap.size w0 (W.alloc o) := h.alloc h.size o
theorem boxes {w0 W : World} {a b : Nat} {c d : C5} (hx : Hid (Box5 w0 a c)) (hy : Hid (Box5 w0 b d)) (ha : a < w0.heap.size) (hb : b < w0.heap.size) (h : Below w0.heap.size w0 W) :
    W.cell? ⟨a, 0, none⟩ = some (.int .i64 c.s) ∧ W.cell? ⟨a, 1, none⟩ = some (.int .i64 c.o) ∧ W.cell? ⟨a, 2, none⟩ = some (.int .i64 c.f) ∧ W.cell? ⟨a, 3, none⟩ = some (.int .i64 c.t) ∧ W.cell? ⟨a, 4, none⟩ = some (.int .i64 c.w) ∧ W.cell? ⟨b, 0, none⟩ = some (.int .i64 d.s) ∧ W.cell? ⟨b, 1, none⟩ = some (.int .i64 d.o) ∧ W.cell? ⟨b, 2, none⟩ = some (.int .i64 d.f) ∧ W.cell? ⟨b, 3, none⟩ = some (.int .i64 d.t) ∧ W.cell? ⟨b, 4, none⟩ = some (.int .i64 d.w) := by
  obtain ⟨a0, a1, a2, a3, a4⟩ := hx.out.below h ha
  obtain ⟨b0, b1, b2, b3, b4⟩ := hy.out.below h hb
  exact ⟨a0, a1, a2, a3, a4, b0, b1, b2, b3, b4⟩
set_option maxHeartbeats 1600000 in
set_option maxRecDepth 100000 in
theorem order_lit (c d : C5) (r : Int) (h : Hid (cmpC c d = r)) (w : World) :
    Calls Tryz.prog 104 #[.agg #[.int .i64 c.s, .int .i64 c.o, .int .i64 c.f, .int .i64 c.t, .int .i64 c.w], .agg #[.int .i64 d.s, .int .i64 d.o, .int .i64 d.f, .int .i64 d.t, .int .i64 d.w], .func (.func 56) #[] #[]] w fun e w' => e = .returned (.int .i64 r) ∧ Below w.heap.size w w' := by
  have hb0 : Below w.heap.size w ((w.alloc (.cells #[.int .i64 c.s, .int .i64 c.o, .int .i64 c.f, .int .i64 c.t, .int .i64 c.w] 51)).alloc (.cells #[.int .i64 d.s, .int .i64 d.o, .int .i64 d.f, .int .i64 d.t, .int .i64 d.w] 51)) := ((Below.refl _ _).alloc (Nat.le_refl _) _).alloc (by simp) _
  have hx0 : Box5 ((w.alloc (.cells #[.int .i64 c.s, .int .i64 c.o, .int .i64 c.f, .int .i64 c.t, .int .i64 c.w] 51)).alloc (.cells #[.int .i64 d.s, .int .i64 d.o, .int .i64 d.f, .int .i64 d.t, .int .i64 d.w] 51)) w.heap.size c := (Box5.new c 51 w).below ((Below.refl _ _).alloc (Nat.le_refl _) _) (by simp)
  have hy0 : Box5 ((w.alloc (.cells #[.int .i64 c.s, .int .i64 c.o, .int .i64 c.f, .int .i64 c.t, .int .i64 c.w] 51)).alloc (.cells #[.int .i64 d.s, .int .i64 d.o, .int .i64 d.f, .int .i64 d.t, .int .i64 d.w] 51)) (w.heap.size + 1) d := by
    have := Box5.new d 51 (w.alloc (.cells #[.int .i64 c.s, .int .i64 c.o, .int .i64 c.f, .int .i64 c.t, .int .i64 c.w] 51))
    simpa using this
  have hs0 : ((w.alloc (.cells #[.int .i64 c.s, .int .i64 c.o, .int .i64 c.f, .int .i64 c.t, .int .i64 c.w] 51)).alloc (.cells #[.int .i64 d.s, .int .i64 d.o, .int .i64 d.f, .int .i64 d.t, .int .i64 d.w] 51)).heap.size = w.heap.size + 2 := by simp
  go_enter Tryz.func104, Tryz.ntmps104
  go_upto_region 10 with fail
  revert hb0 hx0 hy0 hs0
  generalize ((w.alloc (.cells #[.int .i64 c.s, .int .i64 c.o, .int .i64 c.f, .int .i64 c.t, .int .i64 c.w] 51)).alloc (.cells #[.int .i64 d.s, .int .i64 d.o, .int .i64 d.f, .int .i64 d.t, .int .i64 d.w] 51)) = w0
  intro hb0 hx0 hy0 hs0
  go_cut [7, 8] from 9 to 14 (fun v7 v8 wx => ∃ g g', v7 = .pointer (some ⟨g, 0, none⟩) ∧ v8 = .pointer (some ⟨g', 0, none⟩) ∧ g < wx.heap.size ∧ g' < wx.heap.size ∧ Hid (Box5 wx g c) ∧ Hid (Box5 wx g' d) ∧ Below w.heap.size w wx)
  case first =>
    have hx := Lib.hid hx0
    have hy := Lib.hid hy0
    have hxa : w.heap.size < w0.heap.size := by omega
    have hyb : w.heap.size + 1 < w0.heap.size := by omega
    clear hx0 hy0
    go_region_held3 (fun w' => w'.cell? ⟨w.heap.size, 0, none⟩ = some (.int .i64 c.s) ∧ w'.cell? ⟨w.heap.size, 1, none⟩ = some (.int .i64 c.o) ∧ w'.cell? ⟨w.heap.size, 2, none⟩ = some (.int .i64 c.f) ∧ w'.cell? ⟨w.heap.size, 3, none⟩ = some (.int .i64 c.t) ∧ w'.cell? ⟨w.heap.size, 4, none⟩ = some (.int .i64 c.w) ∧ w'.cell? ⟨w.heap.size + 1, 0, none⟩ = some (.int .i64 d.s) ∧ w'.cell? ⟨w.heap.size + 1, 1, none⟩ = some (.int .i64 d.o) ∧ w'.cell? ⟨w.heap.size + 1, 2, none⟩ = some (.int .i64 d.f) ∧ w'.cell? ⟨w.heap.size + 1, 3, none⟩ = some (.int .i64 d.t) ∧ w'.cell? ⟨w.heap.size + 1, 4, none⟩ = some (.int .i64 d.w))
      (first | (refine boxes hx hy hxa hyb ?_; (repeat first | assumption | exact Below.refl _ _ | refine Below.drew ?_ | refine ba ?_ _); done))
      (first
        | (go_at_call_of 56 (C5.s c); refine (numbers_exact c _).mono ?_; rintro e w1 ⟨rfl, rfl⟩)
        | (go_at_call_of 56 (C5.s d); refine (numbers_exact d _).mono ?_; rintro e w2 ⟨rfl, rfl⟩))
    all_goals (go_wp2_with fail; go_meet; refine ⟨_, _, rfl, rfl, ?_, ?_, Lib.hid ⟨?_, ?_, ?_, ?_, ?_⟩, Lib.hid ⟨?_, ?_, ?_, ?_, ?_⟩, hb0.trans (Below.mono (B := w0.heap.size) ?_ (by omega))⟩)
    all_goals first | ((repeat first | assumption | exact Below.refl _ _ | refine Below.drew ?_ | refine ba ?_ _); done) | (simp [hs0, go_sem]; done) | (simp [hs0, go_sem]; omega)
  case rest =>
    obtain ⟨g, g', rfl, rfl, hg, hg', hG, hG', hb⟩ := hcut
    have hc : Hid (Reads wc wc.heap.size (some ⟨g, 0, none⟩) 5 c.ints) := Lib.hid (hG.out.reads hg)
    have hd : Hid (Reads wc wc.heap.size (some ⟨g', 0, none⟩) 5 d.ints) := Lib.hid (hG'.out.reads hg')
    clear hx0 hy0 hb0 hs0 hG hG'
    go_upto_region 4 with fail
    go_region_held3 (fun _ => True) (first | trivial) (first | (go_at_call 141; refine (sliceCompare _ _ 5 5 5 _ _ _ _ _ (by omega) (hc.out.below (Below.refl _ _).drew) (hd.out.below (Below.refl _ _).drew) r h.out).mono ?_; rintro e w' ⟨rfl, rfl⟩))
    go_wp2_with fail
    go_ret
    exact ⟨rfl, hb.drew⟩
set_option maxHeartbeats 800000 in
theorem compare_lit (c d : C5) (r : Int) (h : cmpC c d = r) (w : World) :
    Calls Tryz.prog 68 #[.agg #[.int .i64 c.s, .int .i64 c.o, .int .i64 c.f, .int .i64 c.t, .int .i64 c.w], .agg #[.int .i64 d.s, .int .i64 d.o, .int .i64 d.f, .int .i64 d.t, .int .i64 d.w]] w fun e w' => e = .returned (.int .i64 r) ∧ Below w.heap.size w w' := by
  have h := Lib.hid h
  have hb0 : Below w.heap.size w ((w.alloc (N51 c)).alloc (N51 d)) := ((Below.refl _ _).alloc (Nat.le_refl _) _).alloc (by simp) _
  go_enter Tryz.func68, Tryz.ntmps68
  go_wp2_with (first | (go_at_call 104; refine (carry (order_lit c d r h _) hb0).mono ?_; rintro e w1 ⟨rfl, hb1⟩))
  go_ret
  exact ⟨rfl, hb1⟩
end Go.Proofs.YtnddjcadkbjjhaaGreatDoor
