/-
  CHAPTER 35: twice.
-/
import Derived.Test.YtnddjcadkbjjhaaGreatDoorNi
import Derived.Test.YtnddjcadkbjjhaaGreatDoorI
namespace Go.Proofs.YtnddjcadkbjjhaaGreatDoor
open Go.RowKit Go.Shelf

attribute [local go_sem] Oper.semAt_some
def touchB (c d : C5) : Bool := (c.f == d.f) || (c.f == d.t) || (c.t == d.f) || (c.t == d.t)
/-- Is a node of a cell in an earlier cell of its slot. -/
def twiceB (cs : List C5) (i : Nat) (c : C5) : Bool := (cs.take i).any fun d => decide (d.s = c.s) && touchB c d
theorem twice_iff (cs : List C5) (i : Nat) (c : C5) : twiceB cs i c = true ↔ ∃ x : Fin cs.length, (x : Nat) < i ∧ cs[x].s = c.s ∧ touchB c cs[x] = true := by
  unfold twiceB
  rw [List.any_eq_true]
  constructor
  · rintro ⟨d, hd, h⟩
    obtain ⟨j, hj, rfl⟩ := List.getElem_of_mem hd
    rw [List.length_take] at hj
    rw [List.getElem_take] at h
    simp only [Bool.and_eq_true, decide_eq_true_eq] at h
    exact ⟨⟨j, by omega⟩, by show j < i; omega, h.1, h.2⟩
  · rintro ⟨x, h1, h2, h3⟩
    refine ⟨cs[x], ?_, by rw [decide_eq_true h2, h3]; rfl⟩
    have hx := x.2
    have : cs[(x : Nat)] = (cs.take i)[(x : Nat)]'(by rw [List.length_take]; omega) := by rw [List.getElem_take]
    show cs[(x : Nat)] ∈ _
    rw [this]
    exact List.getElem_mem _
theorem mem_hitsTo {sl : Int} {cs : List C5} {k : Nat} {x : Fin cs.length} (h : x ∈ hitsTo sl cs k) : cs[x].s = sl := by
  unfold hitsTo at h
  simpa using (List.mem_filter.1 h).2
theorem mem_hits (sl : Int) (cs : List C5) (x : Fin cs.length) (h : cs[x].s = sl) : x ∈ hits sl cs := by
  unfold hits hitsTo
  rw [List.take_of_length_le (by simp)]
  exact List.mem_filter.2 ⟨List.mem_finRange x, by simpa using h⟩
abbrev T0 (w : World) (L O : Int) (V : Value) (i : Nat) : World := ((w.alloc (N30 L O V)).alloc (.cells #[.int .i64 i] 3)).alloc (.cells #[.bool false] 4)
theorem T0_all (w : World) (L O : Int) (V : Value) (i : Nat) : Below w.heap.size w (T0 w L O V i) ∧ BoxS (T0 w L O V i) w.heap.size L O V ∧ (T0 w L O V i).cell? ⟨w.heap.size + 1, 0, none⟩ = some (.int .i64 i) ∧ Boxed (T0 w L O V i) (w.heap.size + 1 + 1) 4 (.bool false) ∧ (T0 w L O V i).heap.size = w.heap.size + 3 := by
  have h1 := alloc_below w (N30 L O V)
  have h2 := alloc_below (w.alloc (N30 L O V)) (.cells #[.int .i64 i] 3)
  have h3 := alloc_below ((w.alloc (N30 L O V)).alloc (.cells #[.int .i64 i] 3)) (.cells #[.bool false] 4)
  have hb := Boxed.new ((w.alloc (N30 L O V)).alloc (.cells #[.int .i64 i] 3)) 4 (.bool false)
  rw [World.size_alloc, World.size_alloc] at hb
  exact ⟨bstep (bstep h1 h2 (Nat.le_refl _)) h3 (Nat.le_refl _), (((BoxS.new L O V 30 w).below h2 (by simp)).below h3 (by simp; omega)), by simp [go_sem], hb, by simp⟩
set_option maxHeartbeats 8000000 in
set_option maxRecDepth 100000 in
theorem twice_lit (L O : Int) (A : Option Addr) (c : Nat) (cs : List C5) (i : Nat) (q : C5) (hn : cs.length ≤ 1000000) (hi : i < cs.length) (hq : Hid (cs[i]? = some q)) (r : Bool) (hr : Hid (twiceB cs i q = r)) (w : World) (hcs : Hid (Cells w w.heap.size A cs.length cs)) :
    Calls Tryz.prog 44 #[.agg #[.int .i64 L, .int .i64 O, .slice A cs.length c], .int .i64 i] w fun e w' => e = .returned (.bool r) ∧ Below w.heap.size w w' := by
  obtain ⟨hb0, hS0', hi0', hR0', hz0p⟩ := T0_all w L O (.slice A cs.length c) i
  have hS0 := Lib.hid hS0'
  have hi0 := Lib.hid hi0'
  have hR0 := Lib.hid hR0'
  have hC0 := Lib.hid (hcs.out.below hb0)
  have hz0 := Lib.hid hz0p
  clear hS0' hi0' hR0' hcs hz0p
  unfold T0 at hb0 hS0 hi0 hR0 hC0 hz0
  refine (callsIn_wide (n := 3)).1 (callsIn_of_wp_marks Tryz.func44 rfl trivial ?_ rfl)
  refine wpIn_wide.2 ?_
  simp only [Tryz.ntmps44, List.size_toArray, List.length_cons, List.length_nil, Nat.reduceAdd, Nat.reduceSub, Array.replicate_succ, Array.replicate_zero, List.push_toArray, List.append_toArray, List.nil_append, List.cons_append]
  go_upto_region 1 with fail
  revert hb0 hS0 hi0 hR0 hC0 hz0
  generalize (((w.alloc (N30 L O (.slice A cs.length c))).alloc (.cells #[.int .i64 i] 3)).alloc (.cells #[.bool false] 4)) = w0
  intro hb0 hS0 hi0 hR0 hC0 hz0
  have hz0' := hz0.out
  have hX : w.heap.size + 1 + 1 < w0.heap.size := by omega
  clear hz0'
  obtain ⟨s0, s1, s2⟩ := id hS0.out
  have hic := hi0.out
  obtain ⟨b, off, q', hA, hbq, eq, x0, x1, x2, x3, x4⟩ := hC0.out.at_ hi
  obtain rfl : q = q' := Option.some.inj (hq.out.symm.trans eq)
  subst hA
  clear eq
  have hii0 : (0 : Int) ≤ (i : Int) := by omega
  have hii1 : (i : Int) < (cs.length : Int) := by omega
  have hb1 := alloc_below w0 (N51 q)
  have hX1 := Lib.hid (Box5.new q 51 w0)
  have hz1p : (w0.alloc (N51 q)).heap.size = w0.heap.size + 1 := by simp
  have hz1 := Lib.hid hz1p
  clear hz1p
  have hS1 := Lib.hid (hS0.out.below hb1 (by omega))
  have hi1 := Lib.hid ((hb1.cell (p := ⟨w.heap.size + 1, 0, none⟩) (show w.heap.size + 1 < w0.heap.size by omega)).trans hi0.out)
  have hR1 := Lib.hid (hR0.out.alloc (N51 q))
  have hC1 := Lib.hid (hC0.out.below (hb1.mono (by omega)))
  go_upto_region 2 with fail
  clear s0 s1 s2 hic x0 x1 x2 x3 x4
  revert hb1 hX1 hz1 hS1 hi1 hR1 hC1
  generalize w0.alloc (N51 q) = w1
  intro hb1 hX1 hz1 hS1 hi1 hR1 hC1
  obtain ⟨s0, s1, s2⟩ := id hS1.out
  obtain ⟨x0, x1, x2, x3, x4⟩ := id hX1.out
  go_wp2_with fail
  refine (in_any L O q.s (some ⟨b, off, none⟩) cs.length c _).mono ?_
  rintro e w' ⟨rfl, rfl⟩
  clear s0 s1 s2 x0 x1 x2 x3 x4
  have hz1' := hz1.out
  have hz0' := hz0.out
  have hXl : w0.heap.size < w1.heap.size := by omega
  have h3p : Below w1.heap.size w1 ((w1.alloc (N30 L O (.slice (some ⟨b, off, none⟩) cs.length c))).alloc (.cells #[.int .i64 q.s] 3)) := bstep (alloc_below _ _) (alloc_below _ _) (Nat.le_refl _)
  have hsz3p : ((w1.alloc (N30 L O (.slice (some ⟨b, off, none⟩) cs.length c))).alloc (.cells #[.int .i64 q.s] 3)).heap.size = w1.heap.size + 2 := by simp
  have hS3p : BoxS ((w1.alloc (N30 L O (.slice (some ⟨b, off, none⟩) cs.length c))).alloc (.cells #[.int .i64 q.s] 3)) w1.heap.size L O (.slice (some ⟨b, off, none⟩) cs.length c) := (BoxS.new L O _ 30 w1).below (alloc_below _ _) (by simp)
  have hsl3p : ((w1.alloc (N30 L O (.slice (some ⟨b, off, none⟩) cs.length c))).alloc (.cells #[.int .i64 q.s] 3)).cell? ⟨w1.heap.size + 1, 0, none⟩ = some (.int .i64 q.s) := by
    have := (Boxed.new (w1.alloc (N30 L O (.slice (some ⟨b, off, none⟩) cs.length c))) 3 (.int .i64 q.s)).cell
    rwa [World.size_alloc] at this
  have h3 := Lib.hid h3p
  have hsz3 := Lib.hid hsz3p
  have hS3 := Lib.hid hS3p
  have hsl3 := Lib.hid hsl3p
  clear h3p hsz3p hS3p hsl3p
  have hC3 := Lib.hid (hC1.out.below (h3.out.mono (by omega)))
  have hX3 := Lib.hid (hX1.out.below h3.out hXl)
  have hSa3 := Lib.hid (hS1.out.below h3.out (by omega))
  have hi3 := Lib.hid ((h3.out.cell (p := ⟨w.heap.size + 1, 0, none⟩) (show w.heap.size + 1 < w1.heap.size by omega)).trans hi1.out)
  have hR3 := Lib.hid ((hR1.out.alloc (N30 L O (.slice (some ⟨b, off, none⟩) cs.length c))).alloc (.cells #[.int .i64 q.s] 3))
  revert h3 hsz3 hS3 hsl3 hC3 hX3 hSa3 hi3 hR3
  generalize ((w1.alloc (N30 L O (.slice (some ⟨b, off, none⟩) cs.length c))).alloc (.cells #[.int .i64 q.s] 3)) = W3
  intro h3 hsz3 hS3 hsl3 hC3 hX3 hSa3 hi3 hR3
  have hsz3' := hsz3.out
  have hbw3 := bstep (bstep hb0 hb1 (Nat.le_refl _)) h3.out (Nat.le_refl _)
  have hz1'' := Lib.hid hz1'
  have hz0'' := Lib.hid hz0'
  have hsz3'' := Lib.hid hsz3'
  have hlt1 : w.heap.size + 1 + 1 + 1 + 1 + 1 < W3.heap.size := by omega
  have hlt2 : w1.heap.size + 1 < W3.heap.size := by omega
  have hlt4 : w0.heap.size < W3.heap.size := by omega
  clear hz1' hz0' hsz3'
  go_wp2_with fail
  refine (wpIn_wide (n := 3)).1 ?_
  refine wpIn_rangeFunc_ownG (F := Fence.wide) rfl (by omega) (gf := 102) (lb := #[.pointer (some ⟨w1.heap.size, 0, none⟩), .pointer (some ⟨w1.heap.size + 1, 0, none⟩)]) rfl trivial (enters_of Tryz.func102 (by kernel_rfl) rfl)
    (in_stops Fence.wide 2 trivial rfl (by omega) w1.heap.size (w1.heap.size + 1) W3.heap.size w.heap.size (w.heap.size + 1 + 1) c (some ⟨b, off, none⟩) L O q.s cs hn W3 (by omega) (by omega) (by omega) (by omega) (by omega) (Nat.le_refl _) hS3.out hsl3.out hC3.out)
    (fun h k => h.trans k) (fun W l o o' hl hq hc _ => KB.of_below (belowK_b (Nat.le_refl _) W l o o' hl hq hc ‹_›)) (Below.refl _ _) (fun _ => rfl)
    (fun pre W => (∀ x ∈ pre, ¬ ((x : Nat) < i ∧ touchB q cs[x] = true)) ∧ Below W3.heap.size W3 W)
    (fun cd pre W => cd = .ret ∧ (∃ x ∈ pre, (x : Nat) < i ∧ touchB q cs[x] = true) ∧ W.cell? ⟨w.heap.size + 1 + 1, 0, none⟩ = some (.bool true) ∧ Below w.heap.size w W)
    (fun s A B row hs hg hr => ⟨hs.1, ownFrom_below (β := List (Fin cs.length)) (Nat.le_refl _) (Nat.le_refl _) s A B row hs.2 hg hr⟩)
    (fun cd s A B row hs hg hr => ⟨hs.1, hs.2.1, cell_kept hs.2.2.1 hg (fun r e => (hr r e).2), ownFrom_below (β := List (Fin cs.length)) (Nat.le_refl _) (by omega) s A B row hs.2.2.2 hg hr⟩)
    ⟨by simp, Below.refl _ _⟩
    (fun x => { tmps := #[.agg #[.int .i64 L, .int .i64 O, .slice (some ⟨b, off, none⟩) cs.length c], .int .i64 i, .pointer (some ⟨w.heap.size, 0, none⟩), .pointer (some ⟨w.heap.size + 1, 0, none⟩), .pointer (some ⟨w.heap.size + 1 + 1, 0, none⟩), .pointer (some ⟨w0.heap.size, 0, none⟩), .int .i64 ((x : Nat) : Int), undef, .pointer (some ⟨w.heap.size, 2, none⟩), .slice (some ⟨b, off, none⟩) cs.length c, .int .i64 i, .pointer (some ⟨b, off + i * 5, none⟩), .agg #[.int .i64 q.s, .int .i64 q.o, .int .i64 q.f, .int .i64 q.t, .int .i64 q.w], .agg #[.int .i64 L, .int .i64 O, .slice (some ⟨b, off, none⟩) cs.length c], .pointer (some ⟨w0.heap.size, 0, none⟩), .int .i64 q.s, .func (.func 102) #[] #[.pointer (some ⟨w1.heap.size, 0, none⟩), .pointer (some ⟨w1.heap.size + 1, 0, none⟩)], .int .i64 ((x : Nat) : Int), undef, undef, undef, undef, undef, undef, undef, undef, undef, undef, undef, undef, undef, undef, undef, undef, undef, undef, undef, undef, undef, undef, undef, undef, undef, undef, undef, undef, undef, undef, undef, undef, undef, undef, undef, undef], defers := [] }) ?assign ?body ?done ?stop
  case assign =>
    intro l x W K hK
    gi_wp2
    exact hK
  case body =>
    rintro l pre x W ⟨hp, hB⟩ _
    have hp := Lib.hid hp
    have hs3 := hB.size
    obtain ⟨s0, s1, s2⟩ := hSa3.out.below hB (by omega)
    have hic := (hB.cell (p := ⟨w.heap.size + 1, 0, none⟩) (show w.heap.size + 1 < W3.heap.size by omega)).trans hi3.out
    obtain ⟨q0, q1, q2, q3, q4⟩ := hX3.out.below hB hlt4
    have hcX := (hB.cell (p := ⟨w.heap.size + 1 + 1, 0, none⟩) (show w.heap.size + 1 + 1 < W3.heap.size by omega)).trans hR3.out.cell
    have hfX := (hB.frozen (p := ⟨w.heap.size + 1 + 1, 0, none⟩) (show w.heap.size + 1 + 1 < W3.heap.size by omega)).trans hR3.out.frozen
    obtain ⟨b', off', y, hA, hby, ey, y0, y1, y2, y3, y4⟩ := (hC3.out.below (hB.mono (by omega))).at_ x.2
    cases hA
    have hxy : Hid (cs[x] = y) := Lib.hid (Option.some.inj ((List.getElem?_eq_getElem x.2).symm.trans ey))
    clear ey
    have hj0 : (0 : Int) ≤ ((x : Nat) : Int) := by omega
    have hj1 : ((x : Nat) : Int) < (cs.length : Int) := by omega
    have l0 : w.heap.size < W.heap.size := by omega
    have l1 : w.heap.size + 1 < W.heap.size := by omega
    have l2 : w.heap.size + 1 + 1 < W.heap.size := by omega
    have l3 : w0.heap.size < W.heap.size := by omega
    have n0 : w.heap.size ≠ W.heap.size := by omega
    have n1 : w.heap.size + 1 ≠ W.heap.size := by omega
    have n2 : w.heap.size + 1 + 1 ≠ W.heap.size := by omega
    have n3 : w0.heap.size ≠ W.heap.size := by omega
    have hbw := hbw3.trans (hB.mono (by omega))
    have hgo : ¬ ((x : Nat) < i ∧ touchB q y = true) → KeepsFrom W3.heap.size W (W.alloc (N51 y)) ∧ KB W3.heap.size (w.heap.size + 1 + 1) W (W.alloc (N51 y)) ∧ (∀ z ∈ pre ++ [x], ¬ ((z : Nat) < i ∧ touchB q cs[z] = true)) ∧ Below W3.heap.size W3 (W.alloc (N51 y)) := fun h =>
      ⟨(KeepsOthers.alloc W _).from _, KB.alloc (KB.refl _ _ _) hs3 _, fun z hz => by
        rcases List.mem_append.1 hz with hz | hz
        · exact hp.out z hz
        · rw [List.mem_singleton.1 hz, hxy.out]; exact h, hB.alloc hs3 _⟩
    have hend : (x : Nat) < i ∧ touchB q y = true → (∃ z ∈ pre ++ [x], (z : Nat) < i ∧ touchB q cs[z] = true) ∧ ((W.setCell ⟨w.heap.size + 1 + 1, 0, none⟩ (.bool true)).alloc (N51 y)).cell? ⟨w.heap.size + 1 + 1, 0, none⟩ = some (.bool true) ∧ Below w.heap.size w ((W.setCell ⟨w.heap.size + 1 + 1, 0, none⟩ (.bool true)).alloc (N51 y)) := fun h =>
      ⟨⟨x, by simp, by rw [hxy.out]; exact h⟩, (World.cell?_alloc_lt _ _ ⟨w.heap.size + 1 + 1, 0, none⟩ (by simpa [World.setCell] using l2)).trans (World.cell?_setCell_same' _ _ _ (by rw [hcX]; rfl)), (hbw.setCell (p := ⟨w.heap.size + 1 + 1, 0, none⟩) (by show w.heap.size ≤ w.heap.size + 1 + 1; omega) _).alloc (by simp [World.setCell]; omega) _⟩
    have hgo := Lib.hid hgo
    have hend := Lib.hid hend
    have hs3' := Lib.hid hs3
    clear hB hs3 hbw
    by_cases hki : (x : Nat) < i
    case neg =>
      have hG := Lib.hid (hgo.out (fun h => hki h.1))
      clear hgo hend
      have hkn : decide ((x : Nat) < i) = false := by simpa using hki
      gi_wp2
      exact hG.out
    case pos =>
      have hkn : decide ((x : Nat) < i) = true := by simpa using hki
      cases e0 : (q.f == y.f)
      case true =>
        have hG := Lib.hid (hend.out ⟨hki, by unfold touchB; simp [e0]⟩)
        clear hgo hend
        have hki' := Lib.hid hki
        clear hki
        gi_wp2
        exact ⟨((KeepsOthers.setCell W _ _).trans (KeepsOthers.alloc _ _)).from _, rfl, hG.out⟩
      cases e1 : (q.f == y.t)
      case true =>
        have hG := Lib.hid (hend.out ⟨hki, by unfold touchB; simp [e0, e1]⟩)
        clear hgo hend
        have hki' := Lib.hid hki
        clear hki
        gi_wp2
        exact ⟨((KeepsOthers.setCell W _ _).trans (KeepsOthers.alloc _ _)).from _, rfl, hG.out⟩
      cases e2 : (q.t == y.f)
      case true =>
        have hG := Lib.hid (hend.out ⟨hki, by unfold touchB; simp [e0, e1, e2]⟩)
        clear hgo hend
        have hki' := Lib.hid hki
        clear hki
        gi_wp2
        exact ⟨((KeepsOthers.setCell W _ _).trans (KeepsOthers.alloc _ _)).from _, rfl, hG.out⟩
      cases e3 : (q.t == y.t)
      case true =>
        have hG := Lib.hid (hend.out ⟨hki, by unfold touchB; simp [e0, e1, e2, e3]⟩)
        clear hgo hend
        have hki' := Lib.hid hki
        clear hki
        gi_wp2
        exact ⟨((KeepsOthers.setCell W _ _).trans (KeepsOthers.alloc _ _)).from _, rfl, hG.out⟩
      have hG := Lib.hid (hgo.out (fun h => by have := h.2; unfold touchB at this; simp [e0, e1, e2, e3] at this))
      clear hgo hend
      gi_wp2
      exact hG.out
  case done =>
    rintro D ys W hD rfl ⟨hp, hB⟩ hK
    have hf : twiceB cs i q = false := by
      rw [← Bool.not_eq_true, twice_iff]
      rintro ⟨x, h1, h2, h3⟩
      exact hp x (mem_hits q.s cs x h2) ⟨h1, h3⟩
    obtain rfl : r = false := by rw [← hr.out, hf]
    have hs3 := hB.size
    have hcX := (hB.cell (p := ⟨w.heap.size + 1 + 1, 0, none⟩) (show w.heap.size + 1 + 1 < W3.heap.size by omega)).trans hR3.out.cell
    have hfX := (hB.frozen (p := ⟨w.heap.size + 1 + 1, 0, none⟩) (show w.heap.size + 1 + 1 < W3.heap.size by omega)).trans hR3.out.frozen
    have hp := Lib.hid hp
    have hf := Lib.hid hf
    go_wp2_with fail
    have hK' := (KeepsOthers.setCell W ⟨w.heap.size + 1 + 1, 0, none⟩ (.bool false)).same D _ hK rfl
    refine ⟨by simp, .inl ⟨_, _, rfl, run_takeDeferred hK', ?_⟩⟩
    have hc5 := cell_kept (World.cell?_setCell_same' W ⟨w.heap.size + 1 + 1, 0, none⟩ (.bool false) (by rw [hcX]; rfl)) (grownBy_putObj' _ D (.deferred none)) (fun r e => by cases e; exact ⟨_, hK', rfl⟩)
    refine ⟨.bool false, ?_, rfl, ?_⟩
    · simp [results, Tryz.results44, go_sem, hc5]
    · exact ((hbw3.trans (hB.mono (by omega))).setCell (p := ⟨w.heap.size + 1 + 1, 0, none⟩) (by show w.heap.size ≤ w.heap.size + 1 + 1; omega) _).trans (belowK_b (w := w) (Nat.le_refl _) _ D _ _ (by omega) hK' rfl rfl)
  case stop =>
    rintro D cd pre W hD ⟨k, hk, rfl⟩ ⟨rfl, ⟨x, hx, h1, h2⟩, hcX, hB⟩ hK
    obtain rfl : r = true := by rw [← hr.out, (twice_iff cs i q).2 ⟨x, h1, mem_hitsTo hx, h2⟩]
    gi_wp2
    refine ⟨by simp, .inl ⟨_, _, rfl, run_takeDeferred hK, ?_⟩⟩
    have hc5 := cell_kept hcX (grownBy_putObj' _ D (.deferred none)) (fun r e => by cases e; exact ⟨_, hK, rfl⟩)
    refine ⟨.bool true, ?_, rfl, ?_⟩
    · simp [results, Tryz.results44, go_sem, hc5]
    · exact hB.trans (belowK_b (w := w) (Nat.le_refl _) _ D _ _ (by omega) hK rfl rfl)
end Go.Proofs.YtnddjcadkbjjhaaGreatDoor
