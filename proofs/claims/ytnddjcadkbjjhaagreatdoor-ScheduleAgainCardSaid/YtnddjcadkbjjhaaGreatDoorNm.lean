/-
  CHAPTER 35: disturbed.
-/
import Derived.Test.YtnddjcadkbjjhaaGreatDoorNl
namespace Go.Proofs.YtnddjcadkbjjhaaGreatDoor
open Go.RowKit Go.Shelf

attribute [local go_sem] Oper.semAt_some
abbrev Q0 (w : World) (N : NT) (L O : Int) (V : Value) (i : Nat) : World := ((((w.alloc (ONT N)).alloc (N30 L O V)).alloc (.cells #[.int .i64 (i : Int)] 3)).alloc (.cells #[.slice none 0 0] 28)).alloc (.cells #[.int .i64 0] 3)
theorem Q0_all (w : World) (N : NT) (L O : Int) (V : Value) (i : Nat) : Below w.heap.size w (Q0 w N L O V i) ∧ BoxNT (Q0 w N L O V i) w.heap.size N ∧ BoxS (Q0 w N L O V i) (w.heap.size + 1) L O V ∧ (Q0 w N L O V i).cell? ⟨w.heap.size + 1 + 1, 0, none⟩ = some (.int .i64 i) ∧ Boxed (Q0 w N L O V i) (w.heap.size + 1 + 1 + 1) 28 (.slice none 0 0) ∧ Boxed (Q0 w N L O V i) (w.heap.size + 1 + 1 + 1 + 1) 3 (.int .i64 0) ∧ (Q0 w N L O V i).heap.size = w.heap.size + 5 := by
  obtain ⟨h1, h2, h3, h4⟩ := boxNS w N L O V
  have e2 : ((w.alloc (ONT N)).alloc (N30 L O V)).heap.size = w.heap.size + 1 + 1 := by simp
  have k3 := alloc_below ((w.alloc (ONT N)).alloc (N30 L O V)) (.cells #[.int .i64 (i : Int)] 3)
  have k4 := alloc_below (((w.alloc (ONT N)).alloc (N30 L O V)).alloc (.cells #[.int .i64 (i : Int)] 3)) (.cells #[.slice none 0 0] 28)
  have k5 := alloc_below ((((w.alloc (ONT N)).alloc (N30 L O V)).alloc (.cells #[.int .i64 (i : Int)] 3)).alloc (.cells #[.slice none 0 0] 28)) (.cells #[.int .i64 0] 3)
  have b4 := Boxed.new (((w.alloc (ONT N)).alloc (N30 L O V)).alloc (.cells #[.int .i64 (i : Int)] 3)) 28 (.slice none 0 0)
  have b5 := Boxed.new ((((w.alloc (ONT N)).alloc (N30 L O V)).alloc (.cells #[.int .i64 (i : Int)] 3)).alloc (.cells #[.slice none 0 0] 28)) 3 (.int .i64 0)
  rw [World.size_alloc, World.size_alloc, World.size_alloc] at b4
  rw [World.size_alloc, World.size_alloc, World.size_alloc, World.size_alloc] at b5
  have k345 := bstep (bstep k3 k4 (Nat.le_refl _)) k5 (Nat.le_refl _)
  exact ⟨bstep h1 k345 (Nat.le_refl _), h2.below k345 (Nat.lt_of_succ_lt h4), h3.below k345 h4, by simp [go_sem], b4.alloc _, b5, by simp⟩
/-- What all cells of a list send to a node. -/
def sumD (N : NT) (d : Int) : List C5 → Int
  | [] => 0
  | c :: r => pw N.rows c.f d + pw N.rows c.t d + sumD N d r
theorem sumD_append (N : NT) (d : Int) : ∀ l m : List C5, sumD N d (l ++ m) = sumD N d l + sumD N d m
  | [], m => by simp [sumD]
  | c :: l, m => by simp [sumD, sumD_append N d l m]; omega
theorem distK_far (N : NT) (i : Nat) (d : Int) : ∀ (k : Nat) (l : List C5), i < k → distK N i d k l = sumD N d l
  | _, [], _ => rfl
  | k, c :: r, h => by unfold distK sumD; rw [if_neg (by omega), distK_far N i d (k + 1) r (by omega)]
theorem distK_at (N : NT) (d : Int) : ∀ (k : Nat) (l1 : List C5) (q : C5) (l2 : List C5), distK N (k + l1.length) d k (l1 ++ q :: l2) = sumD N d l1 + sumD N d l2
  | k, [], q, l2 => by show distK N k d k (q :: l2) = _; unfold distK; rw [if_pos rfl, distK_far N k d (k + 1) l2 (by omega)]; simp [sumD]
  | k, c :: l1, q, l2 => by
    have ih := distK_at N d (k + 1) l1 q l2
    show distK N (k + (l1.length + 1)) d k (c :: (l1 ++ q :: l2)) = _
    unfold distK
    rw [if_neg (by omega), show k + (l1.length + 1) = k + 1 + l1.length by omega, ih]
    simp only [sumD]
    omega
/-- What the others of its place send to a node of a cell. -/
def restD (N : NT) (cs : List C5) (q : C5) (d : Int) : Int := sumD N d (shareC q cs) - (pw N.rows q.f d + pw N.rows q.t d)
/-- Has a cell a fault among those of its slot and offset. -/
def disturbedB (N : NT) (cs : List C5) (q : C5) : Bool :=
  !hearsC N (N.ms.getD (findL N.ls q.f q.t).toNat 0) (restD N cs q q.t) || !hearsC N (N.ms.getD (findL N.ls q.t q.f).toNat 0) (restD N cs q q.f)
theorem share_round {W3 W W8 w4 : World} {X1 X2 N0 cap g a : Nat} {o : Obj} {q y : C5} {cs : List C5} {i : Nat} {pre : List (Fin cs.length)} {x : Fin cs.length} {v : Value} (hX1 : X1 < N0) (hX2 : X2 < N0) (hX : X1 < X2) (hz : N0 ≤ W8.heap.size) (hv : Boxed W8 X1 28 v) (ha : Boxed W8 X2 3 (.int .i64 (a : Int)))
    (hrow : W8.ownsRow N0 51 5 v (shareL q cs pre).length ((shareL q cs pre).flatMap C5.cells)) (hg : (W8.alloc o).drew.grownBy w4 v.ownBlock)
    (hown : w4.ownsRow N0 51 5 (.slice (some ⟨g, 0, none⟩) ((shareL q cs pre).length + 1) cap) ((shareL q cs pre).length + 1) ((shareL q cs pre).flatMap C5.cells ++ y.cells))
    (hy : cs[x] = y) (ho : y.o = q.o) (hat : AtP q cs i (pre ++ [x]) a) (hB : Below X1 W3 W8) (hK : KeepsFrom N0 W W8) (hE : KE N0 (fun b => b = X1 ∨ b = X2) W W8) :
    KeepsFrom N0 W (w4.setCell ⟨X1, 0, none⟩ (.slice (some ⟨g, 0, none⟩) ((shareL q cs pre).length + 1) cap)) ∧ KE N0 (fun b => b = X1 ∨ b = X2) W (w4.setCell ⟨X1, 0, none⟩ (.slice (some ⟨g, 0, none⟩) ((shareL q cs pre).length + 1) cap)) ∧
      ((∃ v', Boxed (w4.setCell ⟨X1, 0, none⟩ (.slice (some ⟨g, 0, none⟩) ((shareL q cs pre).length + 1) cap)) X1 28 v' ∧ (w4.setCell ⟨X1, 0, none⟩ (.slice (some ⟨g, 0, none⟩) ((shareL q cs pre).length + 1) cap)).ownsRow N0 51 5 v' (shareL q cs (pre ++ [x])).length ((shareL q cs (pre ++ [x])).flatMap C5.cells) ∧ True) ∧
        (∃ a : Nat, Boxed (w4.setCell ⟨X1, 0, none⟩ (.slice (some ⟨g, 0, none⟩) ((shareL q cs pre).length + 1) cap)) X2 3 (.int .i64 (a : Int)) ∧ AtP q cs i (pre ++ [x]) a) ∧ Below X1 W3 (w4.setCell ⟨X1, 0, none⟩ (.slice (some ⟨g, 0, none⟩) ((shareL q cs pre).length + 1) cap)) ∧ N0 ≤ (w4.setCell ⟨X1, 0, none⟩ (.slice (some ⟨g, 0, none⟩) ((shareL q cs pre).length + 1) cap)).heap.size) := by
  have hg' : (W8.alloc o).grownBy w4 v.ownBlock := ⟨hg.os, hg.tape, hg.output, hg.size, hg.block⟩
  obtain ⟨_, hv2, _, hk2, hb2⟩ := hv.appended (n₀ := X1) (by decide) (own_base hrow (by omega)) (by omega) (Nat.le_refl X1) (own_base hown (by omega)) hg'
  have hbN : Below N0 W8 w4 := ((Below.refl N0 W8).alloc hz o).grown hg' (by simp; omega) (fun j hj => (hrow.lt j hj).1)
  have hsz := hbN.size
  have hsn : shareL q cs (pre ++ [x]) = shareL q cs pre ++ [y] := by rw [shareL_snoc, hy, if_pos ho]
  refine ⟨hK.trans (hk2.from _), (hE.trans (KE.of_below hbN)).set ⟨X1, 0, none⟩ (.inl rfl) _, ⟨_, hv2, ?_, trivial⟩, ⟨a, ?_, hat⟩, hB.trans hb2, by simp [World.setCell]; omega⟩
  · have := ownsRow_setCell_below hown (a := ⟨X1, 0, none⟩) (by show X1 < N0; omega) (.slice (some ⟨g, 0, none⟩) ((shareL q cs pre).length + 1) cap)
    rw [hsn]
    simpa [C5.cells] using this
  · exact (Below.heap_setCell w4 ⟨X1, 0, none⟩ _ X2 (by show X2 ≠ X1; omega)).trans ((hbN.block X2 hX2).trans ha)
theorem shareL_app (q : C5) (cs : List C5) (l m : List (Fin cs.length)) : shareL q cs (l ++ m) = shareL q cs l ++ shareL q cs m := by
  unfold shareL; rw [List.map_append, List.filter_append]
theorem shareL_cons (q : C5) (cs : List C5) (x : Fin cs.length) (m : List (Fin cs.length)) (h : cs[x] = q) : shareL q cs (x :: m) = q :: shareL q cs m := by
  unfold shareL
  rw [List.map_cons, List.filter_cons, h, if_pos (by simp)]
theorem share_at {q : C5} {cs : List C5} {i a : Nat} (hq : cs[i]? = some q) (h : AtP q cs i (hits q.s cs) a) : ∃ l1 l2, shareC q cs = l1 ++ q :: l2 ∧ a = l1.length := by
  obtain ⟨hi, hqe⟩ := List.getElem?_eq_some_iff.1 hq
  rcases h with ⟨h1, _⟩ | ⟨p1, x, p2, h1, h2, h3⟩
  · exact absurd rfl (h1 ⟨i, hi⟩ (mem_hits q.s cs ⟨i, hi⟩ (by show cs[i].s = q.s; rw [hqe])))
  · have hx : cs[x] = q := by
      have : cs[(x : Nat)] = q := by
        rw [← hqe]; congr 1
      exact this
    refine ⟨shareL q cs p1, shareL q cs p2, ?_, h3⟩
    rw [← shareL_hits, h1, shareL_app, shareL_cons q cs x p2 hx]
theorem rest_eq {N : NT} {q : C5} {cs l1 l2 : List C5} {a : Nat} (h : shareC q cs = l1 ++ q :: l2) (ha : a = l1.length) (d : Int) : distK N a d 0 (shareC q cs) = restD N cs q d := by
  unfold restD
  rw [h, ha]
  have e := distK_at N d 0 l1 q l2
  rw [Nat.zero_add] at e
  rw [e, sumD_append]
  simp only [sumD]
  omega
theorem distK_nonneg {N : NT} (hV : NetV N) (i : Nat) (d : Int) : ∀ (k : Nat) (l : List C5), 0 ≤ distK N i d k l
  | _, [] => Int.le_refl _
  | k, c :: r => by
    have ih := distK_nonneg hV i d (k + 1) r
    have h1 := (hV.pw_le c.f d).1
    have h2 := (hV.pw_le c.t d).1
    unfold distK
    split <;> omega
theorem nodesC_share {N : NT} {cs : List C5} (q : C5) (h : nodesC N cs) : nodesC N (shareC q cs) := fun z hz => h z (List.mem_filter.1 hz).1
theorem Dist_I (N : NT) (hv : Hid (netE N = 0)) (hV : Hid (NetV N)) (hsm : N.small) (A : Option Addr) (n c : Nat) (cs : List C5) (hn : n ≤ 1000000) (hcn : Hid (nodesC N cs)) (i : Nat) (d : Int) (hi : i < n) (hd0 : 0 ≤ d) (hd : d < N.k) (R : Int) (hR : Hid (distK N i d 0 cs = R)) (w : World) (hN : Hid (NetM w w.heap.size N)) (hcs : Hid (Cells w w.heap.size A n cs)) :
    Calls Tryz.prog 89 #[.agg #[.int .i64 N.k, .slice N.Ap N.np N.cp, .int .i64 N.z, .int .i64 N.h, .slice N.Al N.nl N.cl, .slice N.Am N.nm N.cm], .slice A n c, .int .i64 i, .int .i64 d] w fun e w' => e = .returned (.int .i64 R) ∧ Below w.heap.size w w' := by
  obtain ⟨k, rfl⟩ : ∃ k : Nat, d = k := ⟨d.toNat, by omega⟩
  exact Dist_lit N hv hV hsm A n c cs hn hcn i k hi hd R hR w hN hcs
set_option maxHeartbeats 16000000 in
set_option maxRecDepth 100000 in
theorem disturbed_lit (N : NT) (hv : Hid (netE N = 0)) (hV : Hid (NetV N)) (hsm : N.small) (L O : Int) (A : Option Addr) (c : Nat) (cs : List C5) (hn : cs.length ≤ 1000) (hcn : Hid (nodesC N cs)) (i : Nat) (q : C5) (hi : i < cs.length) (hq : Hid (cs[i]? = some q)) (ti bi : Nat) (hti : Hid (findL N.ls q.f q.t = ti)) (hbi : Hid (findL N.ls q.t q.f = bi)) (htl : ti < N.nm) (hbl : bi < N.nm) (r : Bool) (hr : Hid (disturbedB N cs q = r)) (w : World) (hNM : Hid (NetM w w.heap.size N)) (hcs : Hid (Cells w w.heap.size A cs.length cs)) :
    Calls Tryz.prog 45 #[.agg #[.int .i64 N.k, .slice N.Ap N.np N.cp, .int .i64 N.z, .int .i64 N.h, .slice N.Al N.nl N.cl, .slice N.Am N.nm N.cm], .agg #[.int .i64 L, .int .i64 O, .slice A cs.length c], .int .i64 i] w fun e w' => e = .returned (.bool r) ∧ Below w.heap.size w w' := by
  obtain ⟨hb0, hN0p, hS0p, hi0p, hO0p, hA0p, hz0p⟩ := Q0_all w N L O (.slice A cs.length c) i
  have hN0 := Lib.hid hN0p
  have hS0 := Lib.hid hS0p
  have hi0 := Lib.hid hi0p
  have hO0 := Lib.hid hO0p
  have hA0 := Lib.hid hA0p
  have hz0 := Lib.hid hz0p
  have hM0 := Lib.hid (hNM.out.below hb0)
  have hC0 := Lib.hid (hcs.out.below hb0)
  clear hN0p hS0p hi0p hO0p hA0p hz0p hcs hNM
  unfold Q0 at hb0 hN0 hS0 hi0 hO0 hA0 hz0 hM0 hC0
  obtain ⟨i0, hif, hj0', hj1', hj2'⟩ := info_parts Tryz.info51
  refine (callsIn_wide (n := 3)).1 (callsIn_of_wp_marks Tryz.func45 rfl trivial ?_ rfl)
  refine wpIn_wide.2 ?_
  simp only [Tryz.ntmps45, List.size_toArray, List.length_cons, List.length_nil, Nat.reduceAdd, Nat.reduceSub, Array.replicate_succ, Array.replicate_zero, List.push_toArray, List.append_toArray, List.nil_append, List.cons_append]
  go_upto_region 3 with fail
  revert hb0 hN0 hS0 hi0 hO0 hA0 hz0 hM0 hC0
  generalize (((((w.alloc (ONT N)).alloc (N30 L O (.slice A cs.length c))).alloc (.cells #[.int .i64 (i : Int)] 3)).alloc (.cells #[.slice none 0 0] 28)).alloc (.cells #[.int .i64 0] 3)) = w0
  intro hb0 hN0 hS0 hi0 hO0 hA0 hz0 hM0 hC0
  have hz0' := hz0.out
  have hl0 : w.heap.size + 1 + 1 + 1 + 1 < w0.heap.size := by omega
  have hz0'' := Lib.hid hz0'
  clear hz0'
  obtain ⟨b, off, q', hA, hbq, eq, x0, x1, x2, x3, x4⟩ := hC0.out.at_ hi
  obtain rfl : q = q' := Option.some.inj (hq.out.symm.trans eq)
  subst hA
  clear eq
  have hii0 : (0 : Int) ≤ (i : Int) := by omega
  have hii1 : (i : Int) < (cs.length : Int) := by omega
  have hx0 := Lib.hid x0
  clear x0 x1 x2 x3 x4
  have hk3 : Hid (∀ W, Below w0.heap.size w0 W → (fun W => W.cell? ⟨w.heap.size + 1, 0, none⟩ = some (.int .i64 L) ∧ W.cell? ⟨w.heap.size + 1, 1, none⟩ = some (.int .i64 O) ∧ W.cell? ⟨w.heap.size + 1, 2, none⟩ = some (.slice (some ⟨b, off, none⟩) cs.length c) ∧ W.cell? ⟨w.heap.size + 1 + 1, 0, none⟩ = some (.int .i64 i) ∧ W.cell? ⟨b, off + i * 5, none⟩ = some (.int .i64 q.s)) W) := Lib.hid (fun W h => by
    obtain ⟨s0, s1, s2⟩ := hS0.out.below h (by omega)
    exact ⟨s0, s1, s2, (h.cell (p := ⟨w.heap.size + 1 + 1, 0, none⟩) (show w.heap.size + 1 + 1 < w0.heap.size by omega)).trans hi0.out, (h.cell (p := ⟨b, _, none⟩) (show b < w0.heap.size by omega)).trans hx0.out⟩)
  refine wp_region_noPanic ?_
  refine wp_region_held_drew (S := (fun W => W.cell? ⟨w.heap.size + 1, 0, none⟩ = some (.int .i64 L) ∧ W.cell? ⟨w.heap.size + 1, 1, none⟩ = some (.int .i64 O) ∧ W.cell? ⟨w.heap.size + 1, 2, none⟩ = some (.slice (some ⟨b, off, none⟩) cs.length c) ∧ W.cell? ⟨w.heap.size + 1 + 1, 0, none⟩ = some (.int .i64 i) ∧ W.cell? ⟨b, off + i * 5, none⟩ = some (.int .i64 q.s))) (by kernel_rfl) (hk3.out _ (Below.refl _ w0).drew) (fun hHeld => ?_)
  refine wpAnyH_take (i := 0) (oi := ?o1) (v := ?hv1) ?hi1 (by kernel_rfl) (by kernel_rfl) (by kernel_rfl) ?hq1 ?hy1 (by assumption) ?hr1
  case hi1 => (simp only [List.getElem?_toArray, List.getElem?_cons_zero]; rfl)
  case hq1 => exact fun _ _ _ h => h
  case hy1 => exact Or.inl ⟨by rfl, by intro w hSw; (try dsimp only at hSw); go_simp; try with_reducible rfl⟩
  simp only [Act.put, List.setIfInBounds_toArray, List.set_cons_zero, List.set_cons_succ]
  refine wpAnyH_take (i := 1) (oi := ?o2) (v := ?hv2) ?hi2 (by kernel_rfl) (by kernel_rfl) (by kernel_rfl) ?hq2 ?hy2 (by assumption) ?hr2
  case hi2 => (simp only [List.getElem?_toArray, List.getElem?_cons_succ, List.getElem?_cons_zero]; rfl)
  case hq2 => exact fun _ _ _ h => h
  case hy2 => exact Or.inl ⟨by rfl, by intro w hSw; (try dsimp only at hSw); go_simp; try with_reducible rfl⟩
  simp only [Act.put, List.setIfInBounds_toArray, List.set_cons_zero, List.set_cons_succ]
  refine wpAnyH_take (i := 2) (oi := ?o3) (v := ?hv3) ?hi3 (by kernel_rfl) (by kernel_rfl) (by kernel_rfl) ?hq3 ?hy3 (by assumption) ?hr3
  case hi3 => (simp only [List.getElem?_toArray, List.getElem?_cons_succ, List.getElem?_cons_zero]; rfl)
  case hq3 => exact fun _ _ _ h => h
  case hy3 => exact Or.inl ⟨by rfl, by intro w hSw; (try dsimp only at hSw); go_simp; try with_reducible rfl⟩
  simp only [Act.put, List.setIfInBounds_toArray, List.set_cons_zero, List.set_cons_succ]
  refine wpAnyH_take (i := 3) (oi := ?o4) (v := ?hv4) ?hi4 (by kernel_rfl) (by kernel_rfl) (by kernel_rfl) ?hq4 ?hy4 (by assumption) ?hr4
  case hi4 => (simp only [List.getElem?_toArray, List.getElem?_cons_succ, List.getElem?_cons_zero]; rfl)
  case hq4 => exact fun _ _ _ h => h
  case hy4 => exact Or.inl ⟨by rfl, by intro w hSw; (try dsimp only at hSw); go_simp; try with_reducible rfl⟩
  simp only [Act.put, List.setIfInBounds_toArray, List.set_cons_zero, List.set_cons_succ]
  refine wpAnyH_take (i := 4) (oi := ?o5) (v := ?hv5) ?hi5 (by kernel_rfl) (by kernel_rfl) (by kernel_rfl) ?hq5 ?hy5 (by assumption) ?hr5
  case hi5 => (simp only [List.getElem?_toArray, List.getElem?_cons_succ, List.getElem?_cons_zero]; rfl)
  case hq5 => exact fun _ _ _ h => h
  case hy5 => exact Or.inl ⟨by rfl, by intro w hSw; (try dsimp only at hSw); go_simp; try with_reducible rfl⟩
  simp only [Act.put, List.setIfInBounds_toArray, List.set_cons_zero, List.set_cons_succ]
  refine wpAnyH_take (i := 5) (oi := ?o6) (v := ?hv6) ?hi6 (by kernel_rfl) (by kernel_rfl) (by kernel_rfl) ?hq6 ?hy6 (by assumption) ?hr6
  case hi6 => (simp only [List.getElem?_toArray, List.getElem?_cons_succ, List.getElem?_cons_zero]; rfl)
  case hq6 => exact fun _ _ _ h => h
  case hy6 => exact Or.inl ⟨by rfl, by intro w hSw; (try dsimp only at hSw); go_simp; try with_reducible rfl⟩
  simp only [Act.put, List.setIfInBounds_toArray, List.set_cons_zero, List.set_cons_succ]
  refine wpAnyH_take (i := 6) (oi := ?o7) (v := ?hv7) ?hi7 (by kernel_rfl) (by kernel_rfl) (by kernel_rfl) ?hq7 ?hy7 (by assumption) ?hr7
  case hi7 => (simp only [List.getElem?_toArray, List.getElem?_cons_succ, List.getElem?_cons_zero]; rfl)
  case hq7 => exact fun _ _ _ h => h
  case hy7 => exact Or.inl ⟨by rfl, by intro w hSw; (try dsimp only at hSw); go_simp; try with_reducible rfl⟩
  simp only [Act.put, List.setIfInBounds_toArray, List.set_cons_zero, List.set_cons_succ]
  refine wpAnyH_ready (rs := [7]) (by kernel_rfl) (by simp) ?_
  refine (AllReadyH.cons (o := ?o8) ?hi8 (fun K hK => ?hr8) AllReadyH.nil)
  case hi8 => (simp only [List.getElem?_toArray, List.getElem?_cons_succ, List.getElem?_cons_zero]; rfl)
  go_simp
  refine (in_any L O q.s (some ⟨b, off, none⟩) cs.length c _).mono ?_
  rintro e w' ⟨rfl, rfl⟩
  go_wp2_with fail
  refine hK.out _ _ ?_ (fun hHeld => ?_)
  · exact hk3.out _ (bstep (Below.refl _ w0).drew (bstep (alloc_below _ _) (alloc_below _ _) (Nat.le_refl _)) (Nat.le_refl _))
  clear hK K
  try simp only [Act.put, List.setIfInBounds_toArray, List.set_cons_zero, List.set_cons_succ]
  refine wpAnyH_done (by kernel_rfl) ?_ _
  refine NoPanic.normal ?_
  go_wp2_with fail
  have h3 : Below w0.heap.size w0 ((w0.alloc (N30 L O (.slice (some ⟨b, off, none⟩) cs.length c))).alloc (.cells #[.int .i64 q.s] 3)).drew := (bstep (alloc_below _ _) (alloc_below _ _) (Nat.le_refl _)).drew
  have hsz3p : (((w0.alloc (N30 L O (.slice (some ⟨b, off, none⟩) cs.length c))).alloc (.cells #[.int .i64 q.s] 3)).drew).heap.size = w0.heap.size + 2 := by simp
  have hS3p : BoxS (((w0.alloc (N30 L O (.slice (some ⟨b, off, none⟩) cs.length c))).alloc (.cells #[.int .i64 q.s] 3)).drew) w0.heap.size L O (.slice (some ⟨b, off, none⟩) cs.length c) := (BoxS.new L O _ 30 w0).below (alloc_below _ _).drew (by simp)
  have hsl3p : (((w0.alloc (N30 L O (.slice (some ⟨b, off, none⟩) cs.length c))).alloc (.cells #[.int .i64 q.s] 3)).drew).cell? ⟨w0.heap.size + 1, 0, none⟩ = some (.int .i64 q.s) := by
    have := (Boxed.new (w0.alloc (N30 L O (.slice (some ⟨b, off, none⟩) cs.length c))) 3 (.int .i64 q.s)).cell
    rwa [World.size_alloc] at this
  have hsz3 := Lib.hid hsz3p
  have hS3 := Lib.hid hS3p
  have hsl3 := Lib.hid hsl3p
  clear hsz3p hS3p hsl3p
  revert h3 hsz3 hS3 hsl3
  generalize ((w0.alloc (N30 L O (.slice (some ⟨b, off, none⟩) cs.length c))).alloc (.cells #[.int .i64 q.s] 3)).drew = W3
  intro h3 hsz3 hS3 hsl3
  have hzz : W3.heap.size = w0.heap.size + 2 := hsz3.out
  have hlt1 : w.heap.size + 1 + 1 + 1 + 1 + 2 < W3.heap.size := by omega
  have hlt2 : w0.heap.size + 1 < W3.heap.size := by omega
  have hlt4 : w.heap.size + 1 + 1 + 1 + 1 < w0.heap.size := by omega
  clear hzz
  have hN3 := Lib.hid (hN0.out.below h3 (by omega))
  have hSa3 := Lib.hid (hS0.out.below h3 (by omega))
  have hi3 := Lib.hid ((h3.cell (p := ⟨w.heap.size + 1 + 1, 0, none⟩) (show w.heap.size + 1 + 1 < w0.heap.size by omega)).trans hi0.out)
  have hO3 : Hid (Boxed W3 (w.heap.size + 1 + 1 + 1) 28 (.slice none 0 0)) := Lib.hid ((h3.block (w.heap.size + 1 + 1 + 1) (by omega)).trans hO0.out)
  have hA3 : Hid (Boxed W3 (w.heap.size + 1 + 1 + 1 + 1) 3 (.int .i64 0)) := Lib.hid ((h3.block (w.heap.size + 1 + 1 + 1 + 1) (by omega)).trans hA0.out)
  have hM3 := Lib.hid (hM0.out.below (h3.mono (by omega)))
  have hC3 := Lib.hid (hC0.out.below (h3.mono (by omega)))
  have hbw3 := bstep hb0 h3 (Nat.le_refl _)
  have hX1 : (w.heap.size + 1 + 1 + 1) < W3.heap.size := by omega
  have hX2 : (w.heap.size + 1 + 1 + 1 + 1) < W3.heap.size := by omega
  refine (wpIn_wide (n := 3)).1 ?_
  refine wpIn_rangeFunc_ownG (F := Fence.wide) rfl (by omega) (gf := 102) (lb := #[.pointer (some ⟨w0.heap.size, 0, none⟩), .pointer (some ⟨w0.heap.size + 1, 0, none⟩)]) rfl trivial (enters_of Tryz.func102 (by kernel_rfl) rfl)
    (in2_stops Fence.wide 2 trivial rfl (by omega) w0.heap.size (w0.heap.size + 1) W3.heap.size w.heap.size c (fun b => b = (w.heap.size + 1 + 1 + 1) ∨ b = (w.heap.size + 1 + 1 + 1 + 1)) (some ⟨b, off, none⟩) L O q.s cs (by omega) W3 (by omega) (by omega) (by omega) (by omega) (by intro b hb; omega) (Nat.le_refl _) hS3.out hsl3.out hC3.out)
    (fun h k => h.trans k) (fun W l o o' hl hq hc _ => KE.of_below (belowK_b (Nat.le_refl _) W l o o' hl hq hc ‹_›)) (Below.refl _ _) (fun _ => rfl)
    (fun pre W => (∃ v, Boxed W (w.heap.size + 1 + 1 + 1) 28 v ∧ W.ownsRow W3.heap.size 51 5 v (shareL q cs pre).length ((shareL q cs pre).flatMap C5.cells) ∧ True) ∧ (∃ a : Nat, Boxed W (w.heap.size + 1 + 1 + 1 + 1) 3 (.int .i64 (a : Int)) ∧ AtP q cs i pre a) ∧ Below (w.heap.size + 1 + 1 + 1) W3 W ∧ W3.heap.size ≤ W.heap.size)
    (fun _ _ _ => False)
    (fun s A B row hs hg hr => ⟨Own.from (holdsRow_own W3.heap.size (w.heap.size + 1 + 1 + 1) 28 51 5 (fun pre : List (Fin cs.length) => (shareL q cs pre).length) (fun pre => (shareL q cs pre).flatMap C5.cells) (fun _ _ => True)) W3.heap.size s A B row hs.1 hg hr,
      (by obtain ⟨a, h1, h2⟩ := hs.2.1; exact ⟨a, h1.kept hg (fun e => by have := (hr _ e.symm).1; omega), h2⟩), ownFrom_below (β := List (Fin cs.length)) (by omega) (by omega) s A B row hs.2.2.1 hg hr, Nat.le_trans hs.2.2.2 hg.size⟩)
    (fun _ _ _ _ _ hs _ _ => hs)
    ⟨⟨_, hO3.out, World.ownsRow_nil _ _ _ _, trivial⟩, ⟨0, hA3.out, .inl ⟨by simp, rfl⟩⟩, Below.refl _ _, Nat.le_refl _⟩
    (fun x => { tmps := #[.agg #[.int .i64 N.k, .slice N.Ap N.np N.cp, .int .i64 N.z, .int .i64 N.h, .slice N.Al N.nl N.cl, .slice N.Am N.nm N.cm], .agg #[.int .i64 L, .int .i64 O, .slice (some ⟨b, off, none⟩) cs.length c], .int .i64 i, .pointer (some ⟨w.heap.size, 0, none⟩), .pointer (some ⟨w.heap.size + 1, 0, none⟩), .pointer (some ⟨w.heap.size + 1 + 1, 0, none⟩), .bool false, .pointer (some ⟨w.heap.size + 1 + 1 + 1, 0, none⟩), .pointer (some ⟨w.heap.size + 1 + 1 + 1 + 1, 0, none⟩), .int .i64 ((x : Nat) : Int), undef, undef, undef, .agg #[.int .i64 L, .int .i64 O, .slice (some ⟨b, off, none⟩) cs.length c], .pointer (some ⟨w.heap.size + 1, 2, none⟩), .slice (some ⟨b, off, none⟩) cs.length c, .int .i64 i, .pointer (some ⟨b, off + i * 5, none⟩), .pointer (some ⟨b, off + i * 5, none⟩), .int .i64 q.s, .func (.func 102) #[] #[.pointer (some ⟨w0.heap.size, 0, none⟩), .pointer (some ⟨w0.heap.size + 1, 0, none⟩)], .int .i64 ((x : Nat) : Int), undef, undef, undef, undef, undef, undef, undef, undef, undef, undef, undef, undef, undef, undef, undef, undef, undef, undef, undef, undef, undef, undef, undef, undef, undef, undef, undef, undef, undef, undef, undef, undef, undef, undef, undef, undef, undef, undef, undef, undef, undef, undef, undef, undef, undef, undef, undef, undef, undef, undef, undef, undef, undef, undef, undef, undef, undef, undef, undef, undef, undef, undef, undef, undef, undef, undef, undef, undef, undef, undef, undef, undef], defers := [] }) ?assign ?body ?done ?stop
  case assign =>
    intro l x W K hK
    gi_wp2
    exact hK
  case body =>
    rintro l pre x W ⟨⟨v, hv, hrow, -⟩, ⟨a, ha, hat⟩, hB, hz⟩ hlp
    have hwX : w.heap.size < (w.heap.size + 1 + 1 + 1) := by omega
    have hSr := Lib.hid (hSa3.out.below hB (by omega))
    have hir := Lib.hid ((hB.cell (p := ⟨w.heap.size + 1 + 1, 0, none⟩) (show w.heap.size + 1 + 1 < (w.heap.size + 1 + 1 + 1) by omega)).trans hi3.out)
    have hCr := hC3.out.below (hB.mono (by omega))
    obtain ⟨b', off', q', hA, hbq', eq', g0, g1, g2, g3, g4⟩ := hCr.at_ hi
    cases hA
    obtain rfl : q = q' := Option.some.inj (hq.out.symm.trans eq')
    obtain ⟨b', off', y, hA, hby, ey, y0, y1, y2, y3, y4⟩ := hCr.at_ x.2
    cases hA
    have hxy : Hid (cs[x] = y) := Lib.hid (Option.some.inj ((List.getElem?_eq_getElem x.2).symm.trans ey))
    have hxi : Hid ((x : Nat) = i → y = q) := Lib.hid (fun h => by rw [h] at ey; exact (Option.some.inj (hq.out.symm.trans ey)).symm)
    have hqo := Lib.hid g1
    have hyr := Lib.hid (And.intro y0 (And.intro y1 (And.intro y2 (And.intro y3 y4))))
    clear ey eq' g0 g1 g2 g3 g4 y0 y1 y2 y3 y4
    have hjl : (x : Nat) < cs.length := x.2
    have hj0 : (0 : Int) ≤ ((x : Nat) : Int) := by omega
    have hj1 : ((x : Nat) : Int) < (cs.length : Int) := by omega
    have hsl := shareL_le q cs pre
    have hk5 : Hid (∀ W', Below (w.heap.size + 1 + 1 + 1) W W' → (fun W' => W'.cell? ⟨w.heap.size + 1, 2, none⟩ = some (.slice (some ⟨b, off, none⟩) cs.length c) ∧ W'.cell? ⟨w.heap.size + 1 + 1, 0, none⟩ = some (.int .i64 i) ∧ W'.cell? ⟨b, off + (x : Nat) * 5 + 1, none⟩ = some (.int .i64 y.o) ∧ W'.cell? ⟨b, off + i * 5 + 1, none⟩ = some (.int .i64 q.o)) W') := Lib.hid (fun W' h => ⟨(hSr.out.below h (by omega)).2.2, (h.cell (p := ⟨w.heap.size + 1 + 1, 0, none⟩) (show w.heap.size + 1 + 1 < (w.heap.size + 1 + 1 + 1) by omega)).trans hir.out, (h.cell (p := ⟨b, _, none⟩) (show b < (w.heap.size + 1 + 1 + 1) by omega)).trans hyr.out.2.1, (h.cell (p := ⟨b, _, none⟩) (show b < (w.heap.size + 1 + 1 + 1) by omega)).trans hqo.out⟩)
    have hv := Lib.hid hv
    have hrow := Lib.hid hrow
    have ha := Lib.hid ha
    have hat := Lib.hid hat
    gi_wp2
    by_cases hyo : y.o = q.o
    · have hne : (y.o != q.o) = false := by simp [hyo]
      have hyo2 := Lib.hid hyo
      clear hyo
      refine wpIn_region_R (S := (fun W' => W'.cell? ⟨w.heap.size + 1, 2, none⟩ = some (.slice (some ⟨b, off, none⟩) cs.length c) ∧ W'.cell? ⟨w.heap.size + 1 + 1, 0, none⟩ = some (.int .i64 i) ∧ W'.cell? ⟨b, off + (x : Nat) * 5 + 1, none⟩ = some (.int .i64 y.o) ∧ W'.cell? ⟨b, off + i * 5 + 1, none⟩ = some (.int .i64 q.o))) (by kernel_rfl) (hk5.out _ (Below.refl _ W).drew) (fun hHeld => ?_)
      refine wpAnyR_take (i := 0) (oi := ?o5001) (v := ?hv5001) (by kernel_rfl) ?hi5001 (by kernel_rfl) (by kernel_rfl) (by kernel_rfl) ?hq5001 ?hy5001 (by assumption) ?hr5001
      case hi5001 => (simp only [List.getElem?_toArray, List.getElem?_cons_zero]; rfl)
      case hq5001 => exact fun _ _ _ h => h
      case hy5001 => exact ⟨Or.inl ⟨by rfl, by intro w hSw; (try dsimp only at hSw); go_simp; try with_reducible rfl⟩, fun _ => rfl⟩
      simp only [Act.put, List.setIfInBounds_toArray, List.set_cons_zero, List.set_cons_succ]
      refine wpAnyR_take (i := 1) (oi := ?o5002) (v := ?hv5002) (by kernel_rfl) ?hi5002 (by kernel_rfl) (by kernel_rfl) (by kernel_rfl) ?hq5002 ?hy5002 (by assumption) ?hr5002
      case hi5002 => (simp only [List.getElem?_toArray, List.getElem?_cons_succ, List.getElem?_cons_zero]; rfl)
      case hq5002 => exact fun _ _ _ h => h
      case hy5002 => exact ⟨Or.inl ⟨by rfl, by intro w hSw; (try dsimp only at hSw); go_simp; try with_reducible rfl⟩, fun _ => rfl⟩
      simp only [Act.put, List.setIfInBounds_toArray, List.set_cons_zero, List.set_cons_succ]
      refine wpAnyR_take (i := 2) (oi := ?o5003) (v := ?hv5003) (by kernel_rfl) ?hi5003 (by kernel_rfl) (by kernel_rfl) (by kernel_rfl) ?hq5003 ?hy5003 (by assumption) ?hr5003
      case hi5003 => (simp only [List.getElem?_toArray, List.getElem?_cons_succ, List.getElem?_cons_zero]; rfl)
      case hq5003 => exact fun _ _ _ h => h
      case hy5003 => exact ⟨Or.inl ⟨by rfl, by intro w hSw; (try dsimp only at hSw); go_simp; try with_reducible rfl⟩, fun _ => rfl⟩
      simp only [Act.put, List.setIfInBounds_toArray, List.set_cons_zero, List.set_cons_succ]
      refine wpAnyR_take (i := 3) (oi := ?o5004) (v := ?hv5004) (by kernel_rfl) ?hi5004 (by kernel_rfl) (by kernel_rfl) (by kernel_rfl) ?hq5004 ?hy5004 (by assumption) ?hr5004
      case hi5004 => (simp only [List.getElem?_toArray, List.getElem?_cons_succ, List.getElem?_cons_zero]; rfl)
      case hq5004 => exact fun _ _ _ h => h
      case hy5004 => exact ⟨Or.inl ⟨by rfl, by intro w hSw; (try dsimp only at hSw); go_simp; try with_reducible rfl⟩, fun _ => rfl⟩
      simp only [Act.put, List.setIfInBounds_toArray, List.set_cons_zero, List.set_cons_succ]
      refine wpAnyR_take (i := 4) (oi := ?o5005) (v := ?hv5005) (by kernel_rfl) ?hi5005 (by kernel_rfl) (by kernel_rfl) (by kernel_rfl) ?hq5005 ?hy5005 (by assumption) ?hr5005
      case hi5005 => (simp only [List.getElem?_toArray, List.getElem?_cons_succ, List.getElem?_cons_zero]; rfl)
      case hq5005 => exact fun _ _ _ h => h
      case hy5005 => exact ⟨Or.inl ⟨by rfl, by intro w hSw; (try dsimp only at hSw); go_simp; try with_reducible rfl⟩, fun _ => rfl⟩
      simp only [Act.put, List.setIfInBounds_toArray, List.set_cons_zero, List.set_cons_succ]
      refine wpAnyR_take (i := 5) (oi := ?o5006) (v := ?hv5006) (by kernel_rfl) ?hi5006 (by kernel_rfl) (by kernel_rfl) (by kernel_rfl) ?hq5006 ?hy5006 (by assumption) ?hr5006
      case hi5006 => (simp only [List.getElem?_toArray, List.getElem?_cons_succ, List.getElem?_cons_zero]; rfl)
      case hq5006 => exact fun _ _ _ h => h
      case hy5006 => exact ⟨Or.inl ⟨by rfl, by intro w hSw; (try dsimp only at hSw); go_simp; try with_reducible rfl⟩, fun _ => rfl⟩
      simp only [Act.put, List.setIfInBounds_toArray, List.set_cons_zero, List.set_cons_succ]
      refine wpAnyR_take (i := 6) (oi := ?o5007) (v := ?hv5007) (by kernel_rfl) ?hi5007 (by kernel_rfl) (by kernel_rfl) (by kernel_rfl) ?hq5007 ?hy5007 (by assumption) ?hr5007
      case hi5007 => (simp only [List.getElem?_toArray, List.getElem?_cons_succ, List.getElem?_cons_zero]; rfl)
      case hq5007 => exact fun _ _ _ h => h
      case hy5007 => exact ⟨Or.inl ⟨by rfl, by intro w hSw; (try dsimp only at hSw); go_simp; try with_reducible rfl⟩, fun _ => rfl⟩
      simp only [Act.put, List.setIfInBounds_toArray, List.set_cons_zero, List.set_cons_succ]
      refine wpAnyR_take (i := 7) (oi := ?o5008) (v := ?hv5008) (by kernel_rfl) ?hi5008 (by kernel_rfl) (by kernel_rfl) (by kernel_rfl) ?hq5008 ?hy5008 (by assumption) ?hr5008
      case hi5008 => (simp only [List.getElem?_toArray, List.getElem?_cons_succ, List.getElem?_cons_zero]; rfl)
      case hq5008 => exact fun _ _ _ h => h
      case hy5008 => exact ⟨Or.inl ⟨by rfl, by intro w hSw; (try dsimp only at hSw); go_simp; try with_reducible rfl⟩, fun _ => rfl⟩
      simp only [Act.put, List.setIfInBounds_toArray, List.set_cons_zero, List.set_cons_succ]
      refine wpAnyR_take (i := 8) (oi := ?o5009) (v := ?hv5009) (by kernel_rfl) ?hi5009 (by kernel_rfl) (by kernel_rfl) (by kernel_rfl) ?hq5009 ?hy5009 (by assumption) ?hr5009
      case hi5009 => (simp only [List.getElem?_toArray, List.getElem?_cons_succ, List.getElem?_cons_zero]; rfl)
      case hq5009 => exact fun _ _ _ h => h
      case hy5009 => exact ⟨Or.inl ⟨by rfl, by intro w hSw; (try dsimp only at hSw); go_simp; try with_reducible rfl⟩, fun _ => rfl⟩
      simp only [Act.put, List.setIfInBounds_toArray, List.set_cons_zero, List.set_cons_succ]
      refine wpAnyR_take (i := 9) (oi := ?o5010) (v := ?hv5010) (by kernel_rfl) ?hi5010 (by kernel_rfl) (by kernel_rfl) (by kernel_rfl) ?hq5010 ?hy5010 (by assumption) ?hr5010
      case hi5010 => (simp only [List.getElem?_toArray, List.getElem?_cons_succ, List.getElem?_cons_zero]; rfl)
      case hq5010 => exact fun _ _ _ h => h
      case hy5010 => exact ⟨Or.inl ⟨by rfl, by intro w hSw; (try dsimp only at hSw); go_simp; try with_reducible rfl⟩, fun _ => rfl⟩
      simp only [Act.put, List.setIfInBounds_toArray, List.set_cons_zero, List.set_cons_succ]
      refine wpAnyR_take (i := 10) (oi := ?o5011) (v := ?hv5011) (by kernel_rfl) ?hi5011 (by kernel_rfl) (by kernel_rfl) (by kernel_rfl) ?hq5011 ?hy5011 (by assumption) ?hr5011
      case hi5011 => (simp only [List.getElem?_toArray, List.getElem?_cons_succ, List.getElem?_cons_zero]; rfl)
      case hq5011 => exact fun _ _ _ h => h
      case hy5011 => exact ⟨Or.inl ⟨by rfl, by intro w hSw; (try dsimp only at hSw); go_simp; try with_reducible rfl⟩, fun _ => rfl⟩
      simp only [Act.put, List.setIfInBounds_toArray, List.set_cons_zero, List.set_cons_succ]
      refine wpAnyR_take (i := 11) (oi := ?o5012) (v := ?hv5012) (by kernel_rfl) ?hi5012 (by kernel_rfl) (by kernel_rfl) (by kernel_rfl) ?hq5012 ?hy5012 (by assumption) ?hr5012
      case hi5012 => (simp only [List.getElem?_toArray, List.getElem?_cons_succ, List.getElem?_cons_zero]; rfl)
      case hq5012 => exact fun _ _ _ h => h
      case hy5012 => exact ⟨Or.inl ⟨by rfl, by intro w hSw; (try dsimp only at hSw); go_simp; try with_reducible rfl⟩, fun _ => rfl⟩
      simp only [Act.put, List.setIfInBounds_toArray, List.set_cons_zero, List.set_cons_succ]
      refine wpAnyR_take (i := 12) (oi := ?o5013) (v := .bool false) (by kernel_rfl) ?hi5013 (by kernel_rfl) (by kernel_rfl) (by kernel_rfl) ?hq5013 ?hy5013 (by assumption) ?hr5013
      case hi5013 => (simp only [List.getElem?_toArray, List.getElem?_cons_succ, List.getElem?_cons_zero]; rfl)
      case hq5013 => exact fun _ _ _ h => h
      case hy5013 => exact ⟨Or.inl ⟨by rfl, by intro w hSw; (try dsimp only at hSw); go_simp; try simp only [hne]; try with_reducible rfl⟩, fun _ => rfl⟩
      simp only [Act.put, List.setIfInBounds_toArray, List.set_cons_zero, List.set_cons_succ]
      refine wpAnyR_done (by kernel_rfl) ?_ _
      have hk8p : ∀ W', Below (w.heap.size + 1 + 1 + 1) W W' → (fun W' => W'.cell? ⟨w.heap.size + 1, 2, none⟩ = some (.slice (some ⟨b, off, none⟩) cs.length c) ∧ W'.cell? ⟨b, off + (x : Nat) * 5, none⟩ = some (.int .i64 y.s) ∧ W'.cell? ⟨b, off + (x : Nat) * 5 + 1, none⟩ = some (.int .i64 y.o) ∧ W'.cell? ⟨b, off + (x : Nat) * 5 + 2, none⟩ = some (.int .i64 y.f) ∧ W'.cell? ⟨b, off + (x : Nat) * 5 + 3, none⟩ = some (.int .i64 y.t) ∧ W'.cell? ⟨b, off + (x : Nat) * 5 + 4, none⟩ = some (.int .i64 y.w)) W' := fun W' h => by
        obtain ⟨e0, e1, e2, e3, e4⟩ := hyr.out
        exact ⟨(hSr.out.below h (by omega)).2.2, (h.cell (p := ⟨b, _, none⟩) (show b < (w.heap.size + 1 + 1 + 1) by omega)).trans e0, (h.cell (p := ⟨b, _, none⟩) (show b < (w.heap.size + 1 + 1 + 1) by omega)).trans e1, (h.cell (p := ⟨b, _, none⟩) (show b < (w.heap.size + 1 + 1 + 1) by omega)).trans e2, (h.cell (p := ⟨b, _, none⟩) (show b < (w.heap.size + 1 + 1 + 1) by omega)).trans e3, (h.cell (p := ⟨b, _, none⟩) (show b < (w.heap.size + 1 + 1 + 1) by omega)).trans e4⟩
      have hk8q := Lib.hid hk8p
      clear hk8p
      obtain ⟨A2, c2, rfl, _, _⟩ := own_cells hrow.out
      have hcv := hv.out.cell
      have hfa := ha.out.frozen
      have hca := ha.out.cell
      have hic := hir.out
      by_cases hxi2 : (x : Nat) = i
      · have hke : (((x : Nat) : Int) == (i : Int)) = true := by simp [hxi2]
        have hat8 : Hid (AtP q cs i (pre ++ [x]) (shareL q cs pre).length) := Lib.hid (AtP.yes hxi2)
        have hxi2' := Lib.hid hxi2
        clear hxi2
        gi_wp2
        clear hcv hfa hca hic
        obtain ⟨W8, hW8⟩ : ∃ W8, W8 = (W.setCell ⟨(w.heap.size + 1 + 1 + 1 + 1), 0, none⟩ (.int .i64 ((shareL q cs pre).length : Int))).drew := ⟨_, rfl⟩
        have hX12 : (w.heap.size + 1 + 1 + 1) ≤ (w.heap.size + 1 + 1 + 1 + 1) := by omega
        have hne12 : (w.heap.size + 1 + 1 + 1) ≠ (w.heap.size + 1 + 1 + 1 + 1) := by omega
        have hW8v : Boxed W8 (w.heap.size + 1 + 1 + 1) 28 (.slice A2 (shareL q cs pre).length c2) := by rw [hW8]; exact (Below.heap_setCell W ⟨(w.heap.size + 1 + 1 + 1 + 1), 0, none⟩ _ (w.heap.size + 1 + 1 + 1) (by show (w.heap.size + 1 + 1 + 1) ≠ (w.heap.size + 1 + 1 + 1 + 1); omega)).trans hv.out
        have hW8a : Boxed W8 (w.heap.size + 1 + 1 + 1 + 1) 3 (.int .i64 ((shareL q cs pre).length : Int)) := by rw [hW8]; exact ha.out.set _
        have hW8r : W8.ownsRow W3.heap.size 51 5 (.slice A2 (shareL q cs pre).length c2) (shareL q cs pre).length ((shareL q cs pre).flatMap C5.cells) := by rw [hW8]; exact (ownsRow_setCell_below hrow.out (a := ⟨(w.heap.size + 1 + 1 + 1 + 1), 0, none⟩) (by show (w.heap.size + 1 + 1 + 1 + 1) < W3.heap.size; omega) _).drew
        have hWW : Below (w.heap.size + 1 + 1 + 1) W W8 := by rw [hW8]; exact ((Below.refl (w.heap.size + 1 + 1 + 1) W).setCell (p := ⟨(w.heap.size + 1 + 1 + 1 + 1), 0, none⟩) (by show (w.heap.size + 1 + 1 + 1) ≤ (w.heap.size + 1 + 1 + 1 + 1); omega) _).drew
        have hW8k : KeepsFrom W3.heap.size W W8 := by rw [hW8]; have h := (KeepsOthers.setCell W ⟨(w.heap.size + 1 + 1 + 1 + 1), 0, none⟩ (.int .i64 ((shareL q cs pre).length : Int))).from W3.heap.size; exact ⟨h.size, h.same⟩
        have hW8e : KE W3.heap.size (fun b => b = (w.heap.size + 1 + 1 + 1) ∨ b = (w.heap.size + 1 + 1 + 1 + 1)) W W8 := by rw [hW8]; have h := (KE.refl W3.heap.size (fun b => b = (w.heap.size + 1 + 1 + 1) ∨ b = (w.heap.size + 1 + 1 + 1 + 1)) W).set ⟨(w.heap.size + 1 + 1 + 1 + 1), 0, none⟩ (.inr rfl) (.int .i64 ((shareL q cs pre).length : Int)); exact ⟨h.1, h.2⟩
        have hz8 : W3.heap.size ≤ W8.heap.size := Nat.le_trans hz hWW.size
        have hB8 := Lib.hid (hB.trans hWW)
        have hv8 := Lib.hid hW8v
        have ha8 := Lib.hid hW8a
        have hrow8 := Lib.hid hW8r
        have hK8 := Lib.hid hW8k
        have hE8 := Lib.hid hW8e
        have hk8 := Lib.hid (fun W' (h : Below (w.heap.size + 1 + 1 + 1) W8 W') => hk8q.out W' (hWW.trans h))
        rw [← hW8]
        clear hW8 hW8v hW8a hW8r hW8k hW8e hWW hB hk8q
        have hc8 := hv8.out.cell
        refine wpIn_region_R (S := (fun W' => W'.cell? ⟨w.heap.size + 1, 2, none⟩ = some (.slice (some ⟨b, off, none⟩) cs.length c) ∧ W'.cell? ⟨b, off + (x : Nat) * 5, none⟩ = some (.int .i64 y.s) ∧ W'.cell? ⟨b, off + (x : Nat) * 5 + 1, none⟩ = some (.int .i64 y.o) ∧ W'.cell? ⟨b, off + (x : Nat) * 5 + 2, none⟩ = some (.int .i64 y.f) ∧ W'.cell? ⟨b, off + (x : Nat) * 5 + 3, none⟩ = some (.int .i64 y.t) ∧ W'.cell? ⟨b, off + (x : Nat) * 5 + 4, none⟩ = some (.int .i64 y.w))) (by kernel_rfl) (hk8.out _ (Below.refl _ W8).drew) (fun hHeld => ?_)
        refine wpAnyR_take (i := 1) (oi := ?o5014) (v := ?hv5014) (by kernel_rfl) ?hi5014 (by kernel_rfl) (by kernel_rfl) (by kernel_rfl) ?hq5014 ?hy5014 (by assumption) ?hr5014
        case hi5014 => (simp only [List.getElem?_toArray, List.getElem?_cons_succ, List.getElem?_cons_zero]; rfl)
        case hq5014 => exact fun _ _ _ h => h
        case hy5014 => exact ⟨Or.inl ⟨by rfl, by intro w hSw; (try dsimp only at hSw); go_simp; try with_reducible rfl⟩, fun _ => rfl⟩
        simp only [Act.put, List.setIfInBounds_toArray, List.set_cons_zero, List.set_cons_succ]
        refine wpAnyR_take (i := 2) (oi := ?o5015) (v := ?hv5015) (by kernel_rfl) ?hi5015 (by kernel_rfl) (by kernel_rfl) (by kernel_rfl) ?hq5015 ?hy5015 (by assumption) ?hr5015
        case hi5015 => (simp only [List.getElem?_toArray, List.getElem?_cons_succ, List.getElem?_cons_zero]; rfl)
        case hq5015 => exact fun _ _ _ h => h
        case hy5015 => exact ⟨Or.inl ⟨by rfl, by intro w hSw; (try dsimp only at hSw); go_simp; try with_reducible rfl⟩, fun _ => rfl⟩
        simp only [Act.put, List.setIfInBounds_toArray, List.set_cons_zero, List.set_cons_succ]
        refine wpAnyR_take (i := 3) (oi := ?o5016) (v := ?hv5016) (by kernel_rfl) ?hi5016 (by kernel_rfl) (by kernel_rfl) (by kernel_rfl) ?hq5016 ?hy5016 (by assumption) ?hr5016
        case hi5016 => (simp only [List.getElem?_toArray, List.getElem?_cons_succ, List.getElem?_cons_zero]; rfl)
        case hq5016 => exact fun _ _ _ h => h
        case hy5016 => exact ⟨Or.inl ⟨by rfl, by intro w hSw; (try dsimp only at hSw); go_simp; try with_reducible rfl⟩, fun _ => rfl⟩
        simp only [Act.put, List.setIfInBounds_toArray, List.set_cons_zero, List.set_cons_succ]
        refine wpAnyR_take (i := 4) (oi := ?o5017) (v := ?hv5017) (by kernel_rfl) ?hi5017 (by kernel_rfl) (by kernel_rfl) (by kernel_rfl) ?hq5017 ?hy5017 (by assumption) ?hr5017
        case hi5017 => (simp only [List.getElem?_toArray, List.getElem?_cons_succ, List.getElem?_cons_zero]; rfl)
        case hq5017 => exact fun _ _ _ h => h
        case hy5017 => exact ⟨Or.inl ⟨by rfl, by intro w hSw; (try dsimp only at hSw); go_simp; try with_reducible rfl⟩, fun _ => rfl⟩
        simp only [Act.put, List.setIfInBounds_toArray, List.set_cons_zero, List.set_cons_succ]
        refine wpAnyR_take (i := 5) (oi := ?o5018) (v := ?hv5018) (by kernel_rfl) ?hi5018 (by kernel_rfl) (by kernel_rfl) (by kernel_rfl) ?hq5018 ?hy5018 (by assumption) ?hr5018
        case hi5018 => (simp only [List.getElem?_toArray, List.getElem?_cons_succ, List.getElem?_cons_zero]; rfl)
        case hq5018 => exact fun _ _ _ h => h
        case hy5018 => exact ⟨Or.inl ⟨by rfl, by intro w hSw; (try dsimp only at hSw); go_simp; try with_reducible rfl⟩, fun _ => rfl⟩
        simp only [Act.put, List.setIfInBounds_toArray, List.set_cons_zero, List.set_cons_succ]
        refine wpAnyR_ready (rs := [0, 6]) (by kernel_rfl) (by simp) ?_
        refine (AllReadyR.cons (o := ?o5026) ?hi5026 (fun K hK => ?hr5026) (AllReadyR.cons (o := ?o5025) ?hi5025 (fun K hK => ?hr5025) AllReadyR.nil))
        case hi5026 => (simp only [List.getElem?_toArray, List.getElem?_cons_zero]; rfl)
        case hi5025 => (simp only [List.getElem?_toArray, List.getElem?_cons_succ, List.getElem?_cons_zero]; rfl)
        case hr5026 =>
          go_simp
          try refine ⟨fun _ h => (by cases h), ?_⟩
          refine hK _ _ ?_ (fun hHeld => ?_)
          · exact hk8.out _ ((Below.refl _ W8).drew)
          clear hK K
          try simp only [Act.put, List.setIfInBounds_toArray, List.set_cons_zero, List.set_cons_succ]
          refine wpAnyR_ready (rs := [6]) (by kernel_rfl) (by simp) ?_
          refine (AllReadyR.cons (o := ?o5021) ?hi5021 (fun K hK => ?hr5021) AllReadyR.nil)
          case hi5021 => (simp only [List.getElem?_toArray, List.getElem?_cons_succ, List.getElem?_cons_zero]; rfl)
          go_simp
          try refine ⟨fun _ h => (by cases h), ?_⟩
          refine hK _ _ ?_ (fun hHeld => ?_)
          · exact hk8.out _ (((Below.refl _ W8).alloc (by omega) _).drew)
          clear hK K
          try simp only [Act.put, List.setIfInBounds_toArray, List.set_cons_zero, List.set_cons_succ]
          refine wpAnyR_ready (rs := [7]) (by kernel_rfl) (by simp) ?_
          refine (AllReadyR.cons (o := ?o5020) ?hi5020 (fun K hK => ?hr5020) AllReadyR.nil)
          case hi5020 => (simp only [List.getElem?_toArray, List.getElem?_cons_succ, List.getElem?_cons_zero]; rfl)
          refine stepIn_append_lies _ (by rfl) _ _ _ (by rfl) W3.heap.size 51 i0 _ 5 40 Tryz.underlying28 hif hj0' hj1' hj2' rfl (by omega) (.slice A2 (shareL q cs pre).length c2) (shareL q cs pre).length ((shareL q cs pre).flatMap C5.cells) (by rfl) ((hrow8.out.alloc _).drew) ⟨W8.heap.size, 0, none⟩ 1 1 [.int .i64 y.s, .int .i64 y.o, .int .i64 y.f, .int .i64 y.t, .int .i64 y.w] (by rfl) (by rfl) (World.news_of_block (cs := #[.int .i64 y.s, .int .i64 y.o, .int .i64 y.f, .int .i64 y.t, .int .i64 y.w]) (t := 51) (fr := (0, 0)) (heap_alloc_new W8 _)) (by simp [Value.oneCell']) (by omega) (by unfold maxLen; omega) (by omega) (by simp; omega) ?_
          intro gg cap w4 hown4 hgrow4
          have hb4 : Below (w.heap.size + 1 + 1 + 1) W8 w4 := ((Below.refl (w.heap.size + 1 + 1 + 1) W8).alloc (by omega) _).drew.grown hgrow4 (by simp; omega) (fun j hj => by have := (hrow8.out.lt j hj).1; omega)
          have hv4 : Boxed w4 (w.heap.size + 1 + 1 + 1) 28 (.slice A2 (shareL q cs pre).length c2) := (hv8.out.alloc _).kept (W := (W8.alloc _).drew) hgrow4 (fun e => by have := (hrow8.out.lt _ e.symm).1; omega)
          have hc4 := hv4.cell
          have hf4 := hv4.frozen
          refine hK _ _ ?_ (fun hHeld => ?_)
          · exact hk8.out _ hb4
          clear hK K
          try simp only [Act.put, List.setIfInBounds_toArray, List.set_cons_zero, List.set_cons_succ]
          refine wpAnyR_ready (rs := [8]) (by kernel_rfl) (by simp) ?_
          refine (AllReadyR.cons (o := ?o5019) ?hi5019 (fun K hK => ?hr5019) AllReadyR.nil)
          case hi5019 => (simp only [List.getElem?_toArray, List.getElem?_cons_succ, List.getElem?_cons_zero]; rfl)
          go_simp
          try refine ⟨fun _ h => (by cases h), ?_⟩
          refine hK _ _ ?_ (fun hHeld => ?_)
          · exact hk8.out _ (hb4.setCell (p := ⟨(w.heap.size + 1 + 1 + 1), 0, none⟩) (Nat.le_refl _) _)
          clear hK K
          try simp only [Act.put, List.setIfInBounds_toArray, List.set_cons_zero, List.set_cons_succ]
          refine wpAnyR_done (by kernel_rfl) ?_ _
          exact share_round hX1 hX2 (by omega) hz8 hv8.out ha8.out hrow8.out hgrow4 hown4 hxy.out hyo2.out hat8.out hB8.out hK8.out hE8.out
        case hr5025 =>
          have hcb := (World.cell?_alloc_lt W8 (N51 y) ⟨(w.heap.size + 1 + 1 + 1), 0, none⟩ hv8.out.lt).trans hc8
          go_simp
          try refine ⟨fun _ h => (by cases h), ?_⟩
          refine hK _ _ ?_ (fun hHeld => ?_)
          · exact hk8.out _ (((Below.refl _ W8).alloc (by omega) _).drew)
          clear hK K
          try simp only [Act.put, List.setIfInBounds_toArray, List.set_cons_zero, List.set_cons_succ]
          refine wpAnyR_ready (rs := [0]) (by kernel_rfl) (by simp) ?_
          refine (AllReadyR.cons (o := ?o5024) ?hi5024 (fun K hK => ?hr5024) AllReadyR.nil)
          case hi5024 => (simp only [List.getElem?_toArray, List.getElem?_cons_zero]; rfl)
          go_simp
          try refine ⟨fun _ h => (by cases h), ?_⟩
          refine hK _ _ ?_ (fun hHeld => ?_)
          · exact hk8.out _ (((Below.refl _ W8).alloc (by omega) _).drew)
          clear hK K
          try simp only [Act.put, List.setIfInBounds_toArray, List.set_cons_zero, List.set_cons_succ]
          refine wpAnyR_ready (rs := [7]) (by kernel_rfl) (by simp) ?_
          refine (AllReadyR.cons (o := ?o5023) ?hi5023 (fun K hK => ?hr5023) AllReadyR.nil)
          case hi5023 => (simp only [List.getElem?_toArray, List.getElem?_cons_succ, List.getElem?_cons_zero]; rfl)
          refine stepIn_append_lies _ (by rfl) _ _ _ (by rfl) W3.heap.size 51 i0 _ 5 40 Tryz.underlying28 hif hj0' hj1' hj2' rfl (by omega) (.slice A2 (shareL q cs pre).length c2) (shareL q cs pre).length ((shareL q cs pre).flatMap C5.cells) (by rfl) ((hrow8.out.alloc _).drew) ⟨W8.heap.size, 0, none⟩ 1 1 [.int .i64 y.s, .int .i64 y.o, .int .i64 y.f, .int .i64 y.t, .int .i64 y.w] (by rfl) (by rfl) (World.news_of_block (cs := #[.int .i64 y.s, .int .i64 y.o, .int .i64 y.f, .int .i64 y.t, .int .i64 y.w]) (t := 51) (fr := (0, 0)) (heap_alloc_new W8 _)) (by simp [Value.oneCell']) (by omega) (by unfold maxLen; omega) (by omega) (by simp; omega) ?_
          intro gg cap w4 hown4 hgrow4
          have hb4 : Below (w.heap.size + 1 + 1 + 1) W8 w4 := ((Below.refl (w.heap.size + 1 + 1 + 1) W8).alloc (by omega) _).drew.grown hgrow4 (by simp; omega) (fun j hj => by have := (hrow8.out.lt j hj).1; omega)
          have hv4 : Boxed w4 (w.heap.size + 1 + 1 + 1) 28 (.slice A2 (shareL q cs pre).length c2) := (hv8.out.alloc _).kept (W := (W8.alloc _).drew) hgrow4 (fun e => by have := (hrow8.out.lt _ e.symm).1; omega)
          have hc4 := hv4.cell
          have hf4 := hv4.frozen
          refine hK _ _ ?_ (fun hHeld => ?_)
          · exact hk8.out _ hb4
          clear hK K
          try simp only [Act.put, List.setIfInBounds_toArray, List.set_cons_zero, List.set_cons_succ]
          refine wpAnyR_ready (rs := [8]) (by kernel_rfl) (by simp) ?_
          refine (AllReadyR.cons (o := ?o5022) ?hi5022 (fun K hK => ?hr5022) AllReadyR.nil)
          case hi5022 => (simp only [List.getElem?_toArray, List.getElem?_cons_succ, List.getElem?_cons_zero]; rfl)
          go_simp
          try refine ⟨fun _ h => (by cases h), ?_⟩
          refine hK _ _ ?_ (fun hHeld => ?_)
          · exact hk8.out _ (hb4.setCell (p := ⟨(w.heap.size + 1 + 1 + 1), 0, none⟩) (Nat.le_refl _) _)
          clear hK K
          try simp only [Act.put, List.setIfInBounds_toArray, List.set_cons_zero, List.set_cons_succ]
          refine wpAnyR_done (by kernel_rfl) ?_ _
          exact share_round hX1 hX2 (by omega) hz8 hv8.out ha8.out hrow8.out hgrow4 hown4 hxy.out hyo2.out hat8.out hB8.out hK8.out hE8.out
      · have hke : (((x : Nat) : Int) == (i : Int)) = false := by simp; omega
        have hat8 : Hid (AtP q cs i (pre ++ [x]) a) := Lib.hid (hat.out.no hxi2)
        have hxi2' := Lib.hid hxi2
        clear hxi2
        gi_wp2
        clear hcv hfa hca hic
        obtain ⟨W8, hW8⟩ : ∃ W8, W8 = W.drew := ⟨_, rfl⟩
        have hW8v : Boxed W8 (w.heap.size + 1 + 1 + 1) 28 (.slice A2 (shareL q cs pre).length c2) := by rw [hW8]; exact hv.out
        have hW8a : Boxed W8 (w.heap.size + 1 + 1 + 1 + 1) 3 (.int .i64 (a : Int)) := by rw [hW8]; exact ha.out
        have hW8r : W8.ownsRow W3.heap.size 51 5 (.slice A2 (shareL q cs pre).length c2) (shareL q cs pre).length ((shareL q cs pre).flatMap C5.cells) := by rw [hW8]; exact hrow.out.drew
        have hWW : Below (w.heap.size + 1 + 1 + 1) W W8 := by rw [hW8]; exact (Below.refl (w.heap.size + 1 + 1 + 1) W).drew
        have hW8k : KeepsFrom W3.heap.size W W8 := by rw [hW8]; exact ⟨Nat.le_refl _, fun _ _ _ h _ => h⟩
        have hW8e : KE W3.heap.size (fun b => b = (w.heap.size + 1 + 1 + 1) ∨ b = (w.heap.size + 1 + 1 + 1 + 1)) W W8 := by rw [hW8]; exact ⟨Nat.le_refl _, fun _ _ _ => rfl⟩
        have hz8 : W3.heap.size ≤ W8.heap.size := Nat.le_trans hz hWW.size
        have hB8 := Lib.hid (hB.trans hWW)
        have hv8 := Lib.hid hW8v
        have ha8 := Lib.hid hW8a
        have hrow8 := Lib.hid hW8r
        have hK8 := Lib.hid hW8k
        have hE8 := Lib.hid hW8e
        have hk8 := Lib.hid (fun W' (h : Below (w.heap.size + 1 + 1 + 1) W8 W') => hk8q.out W' (hWW.trans h))
        rw [← hW8]
        clear hW8 hW8v hW8a hW8r hW8k hW8e hWW hB hk8q
        have hc8 := hv8.out.cell
        refine wpIn_region_R (S := (fun W' => W'.cell? ⟨w.heap.size + 1, 2, none⟩ = some (.slice (some ⟨b, off, none⟩) cs.length c) ∧ W'.cell? ⟨b, off + (x : Nat) * 5, none⟩ = some (.int .i64 y.s) ∧ W'.cell? ⟨b, off + (x : Nat) * 5 + 1, none⟩ = some (.int .i64 y.o) ∧ W'.cell? ⟨b, off + (x : Nat) * 5 + 2, none⟩ = some (.int .i64 y.f) ∧ W'.cell? ⟨b, off + (x : Nat) * 5 + 3, none⟩ = some (.int .i64 y.t) ∧ W'.cell? ⟨b, off + (x : Nat) * 5 + 4, none⟩ = some (.int .i64 y.w))) (by kernel_rfl) (hk8.out _ (Below.refl _ W8).drew) (fun hHeld => ?_)
        refine wpAnyR_take (i := 1) (oi := ?o5027) (v := ?hv5027) (by kernel_rfl) ?hi5027 (by kernel_rfl) (by kernel_rfl) (by kernel_rfl) ?hq5027 ?hy5027 (by assumption) ?hr5027
        case hi5027 => (simp only [List.getElem?_toArray, List.getElem?_cons_succ, List.getElem?_cons_zero]; rfl)
        case hq5027 => exact fun _ _ _ h => h
        case hy5027 => exact ⟨Or.inl ⟨by rfl, by intro w hSw; (try dsimp only at hSw); go_simp; try with_reducible rfl⟩, fun _ => rfl⟩
        simp only [Act.put, List.setIfInBounds_toArray, List.set_cons_zero, List.set_cons_succ]
        refine wpAnyR_take (i := 2) (oi := ?o5028) (v := ?hv5028) (by kernel_rfl) ?hi5028 (by kernel_rfl) (by kernel_rfl) (by kernel_rfl) ?hq5028 ?hy5028 (by assumption) ?hr5028
        case hi5028 => (simp only [List.getElem?_toArray, List.getElem?_cons_succ, List.getElem?_cons_zero]; rfl)
        case hq5028 => exact fun _ _ _ h => h
        case hy5028 => exact ⟨Or.inl ⟨by rfl, by intro w hSw; (try dsimp only at hSw); go_simp; try with_reducible rfl⟩, fun _ => rfl⟩
        simp only [Act.put, List.setIfInBounds_toArray, List.set_cons_zero, List.set_cons_succ]
        refine wpAnyR_take (i := 3) (oi := ?o5029) (v := ?hv5029) (by kernel_rfl) ?hi5029 (by kernel_rfl) (by kernel_rfl) (by kernel_rfl) ?hq5029 ?hy5029 (by assumption) ?hr5029
        case hi5029 => (simp only [List.getElem?_toArray, List.getElem?_cons_succ, List.getElem?_cons_zero]; rfl)
        case hq5029 => exact fun _ _ _ h => h
        case hy5029 => exact ⟨Or.inl ⟨by rfl, by intro w hSw; (try dsimp only at hSw); go_simp; try with_reducible rfl⟩, fun _ => rfl⟩
        simp only [Act.put, List.setIfInBounds_toArray, List.set_cons_zero, List.set_cons_succ]
        refine wpAnyR_take (i := 4) (oi := ?o5030) (v := ?hv5030) (by kernel_rfl) ?hi5030 (by kernel_rfl) (by kernel_rfl) (by kernel_rfl) ?hq5030 ?hy5030 (by assumption) ?hr5030
        case hi5030 => (simp only [List.getElem?_toArray, List.getElem?_cons_succ, List.getElem?_cons_zero]; rfl)
        case hq5030 => exact fun _ _ _ h => h
        case hy5030 => exact ⟨Or.inl ⟨by rfl, by intro w hSw; (try dsimp only at hSw); go_simp; try with_reducible rfl⟩, fun _ => rfl⟩
        simp only [Act.put, List.setIfInBounds_toArray, List.set_cons_zero, List.set_cons_succ]
        refine wpAnyR_take (i := 5) (oi := ?o5031) (v := ?hv5031) (by kernel_rfl) ?hi5031 (by kernel_rfl) (by kernel_rfl) (by kernel_rfl) ?hq5031 ?hy5031 (by assumption) ?hr5031
        case hi5031 => (simp only [List.getElem?_toArray, List.getElem?_cons_succ, List.getElem?_cons_zero]; rfl)
        case hq5031 => exact fun _ _ _ h => h
        case hy5031 => exact ⟨Or.inl ⟨by rfl, by intro w hSw; (try dsimp only at hSw); go_simp; try with_reducible rfl⟩, fun _ => rfl⟩
        simp only [Act.put, List.setIfInBounds_toArray, List.set_cons_zero, List.set_cons_succ]
        refine wpAnyR_ready (rs := [0, 6]) (by kernel_rfl) (by simp) ?_
        refine (AllReadyR.cons (o := ?o5039) ?hi5039 (fun K hK => ?hr5039) (AllReadyR.cons (o := ?o5038) ?hi5038 (fun K hK => ?hr5038) AllReadyR.nil))
        case hi5039 => (simp only [List.getElem?_toArray, List.getElem?_cons_zero]; rfl)
        case hi5038 => (simp only [List.getElem?_toArray, List.getElem?_cons_succ, List.getElem?_cons_zero]; rfl)
        case hr5039 =>
          go_simp
          try refine ⟨fun _ h => (by cases h), ?_⟩
          refine hK _ _ ?_ (fun hHeld => ?_)
          · exact hk8.out _ ((Below.refl _ W8).drew)
          clear hK K
          try simp only [Act.put, List.setIfInBounds_toArray, List.set_cons_zero, List.set_cons_succ]
          refine wpAnyR_ready (rs := [6]) (by kernel_rfl) (by simp) ?_
          refine (AllReadyR.cons (o := ?o5034) ?hi5034 (fun K hK => ?hr5034) AllReadyR.nil)
          case hi5034 => (simp only [List.getElem?_toArray, List.getElem?_cons_succ, List.getElem?_cons_zero]; rfl)
          go_simp
          try refine ⟨fun _ h => (by cases h), ?_⟩
          refine hK _ _ ?_ (fun hHeld => ?_)
          · exact hk8.out _ (((Below.refl _ W8).alloc (by omega) _).drew)
          clear hK K
          try simp only [Act.put, List.setIfInBounds_toArray, List.set_cons_zero, List.set_cons_succ]
          refine wpAnyR_ready (rs := [7]) (by kernel_rfl) (by simp) ?_
          refine (AllReadyR.cons (o := ?o5033) ?hi5033 (fun K hK => ?hr5033) AllReadyR.nil)
          case hi5033 => (simp only [List.getElem?_toArray, List.getElem?_cons_succ, List.getElem?_cons_zero]; rfl)
          refine stepIn_append_lies _ (by rfl) _ _ _ (by rfl) W3.heap.size 51 i0 _ 5 40 Tryz.underlying28 hif hj0' hj1' hj2' rfl (by omega) (.slice A2 (shareL q cs pre).length c2) (shareL q cs pre).length ((shareL q cs pre).flatMap C5.cells) (by rfl) ((hrow8.out.alloc _).drew) ⟨W8.heap.size, 0, none⟩ 1 1 [.int .i64 y.s, .int .i64 y.o, .int .i64 y.f, .int .i64 y.t, .int .i64 y.w] (by rfl) (by rfl) (World.news_of_block (cs := #[.int .i64 y.s, .int .i64 y.o, .int .i64 y.f, .int .i64 y.t, .int .i64 y.w]) (t := 51) (fr := (0, 0)) (heap_alloc_new W8 _)) (by simp [Value.oneCell']) (by omega) (by unfold maxLen; omega) (by omega) (by simp; omega) ?_
          intro gg cap w4 hown4 hgrow4
          have hb4 : Below (w.heap.size + 1 + 1 + 1) W8 w4 := ((Below.refl (w.heap.size + 1 + 1 + 1) W8).alloc (by omega) _).drew.grown hgrow4 (by simp; omega) (fun j hj => by have := (hrow8.out.lt j hj).1; omega)
          have hv4 : Boxed w4 (w.heap.size + 1 + 1 + 1) 28 (.slice A2 (shareL q cs pre).length c2) := (hv8.out.alloc _).kept (W := (W8.alloc _).drew) hgrow4 (fun e => by have := (hrow8.out.lt _ e.symm).1; omega)
          have hc4 := hv4.cell
          have hf4 := hv4.frozen
          refine hK _ _ ?_ (fun hHeld => ?_)
          · exact hk8.out _ hb4
          clear hK K
          try simp only [Act.put, List.setIfInBounds_toArray, List.set_cons_zero, List.set_cons_succ]
          refine wpAnyR_ready (rs := [8]) (by kernel_rfl) (by simp) ?_
          refine (AllReadyR.cons (o := ?o5032) ?hi5032 (fun K hK => ?hr5032) AllReadyR.nil)
          case hi5032 => (simp only [List.getElem?_toArray, List.getElem?_cons_succ, List.getElem?_cons_zero]; rfl)
          go_simp
          try refine ⟨fun _ h => (by cases h), ?_⟩
          refine hK _ _ ?_ (fun hHeld => ?_)
          · exact hk8.out _ (hb4.setCell (p := ⟨(w.heap.size + 1 + 1 + 1), 0, none⟩) (Nat.le_refl _) _)
          clear hK K
          try simp only [Act.put, List.setIfInBounds_toArray, List.set_cons_zero, List.set_cons_succ]
          refine wpAnyR_done (by kernel_rfl) ?_ _
          exact share_round hX1 hX2 (by omega) hz8 hv8.out ha8.out hrow8.out hgrow4 hown4 hxy.out hyo2.out hat8.out hB8.out hK8.out hE8.out
        case hr5038 =>
          have hcb := (World.cell?_alloc_lt W8 (N51 y) ⟨(w.heap.size + 1 + 1 + 1), 0, none⟩ hv8.out.lt).trans hc8
          go_simp
          try refine ⟨fun _ h => (by cases h), ?_⟩
          refine hK _ _ ?_ (fun hHeld => ?_)
          · exact hk8.out _ (((Below.refl _ W8).alloc (by omega) _).drew)
          clear hK K
          try simp only [Act.put, List.setIfInBounds_toArray, List.set_cons_zero, List.set_cons_succ]
          refine wpAnyR_ready (rs := [0]) (by kernel_rfl) (by simp) ?_
          refine (AllReadyR.cons (o := ?o5037) ?hi5037 (fun K hK => ?hr5037) AllReadyR.nil)
          case hi5037 => (simp only [List.getElem?_toArray, List.getElem?_cons_zero]; rfl)
          go_simp
          try refine ⟨fun _ h => (by cases h), ?_⟩
          refine hK _ _ ?_ (fun hHeld => ?_)
          · exact hk8.out _ (((Below.refl _ W8).alloc (by omega) _).drew)
          clear hK K
          try simp only [Act.put, List.setIfInBounds_toArray, List.set_cons_zero, List.set_cons_succ]
          refine wpAnyR_ready (rs := [7]) (by kernel_rfl) (by simp) ?_
          refine (AllReadyR.cons (o := ?o5036) ?hi5036 (fun K hK => ?hr5036) AllReadyR.nil)
          case hi5036 => (simp only [List.getElem?_toArray, List.getElem?_cons_succ, List.getElem?_cons_zero]; rfl)
          refine stepIn_append_lies _ (by rfl) _ _ _ (by rfl) W3.heap.size 51 i0 _ 5 40 Tryz.underlying28 hif hj0' hj1' hj2' rfl (by omega) (.slice A2 (shareL q cs pre).length c2) (shareL q cs pre).length ((shareL q cs pre).flatMap C5.cells) (by rfl) ((hrow8.out.alloc _).drew) ⟨W8.heap.size, 0, none⟩ 1 1 [.int .i64 y.s, .int .i64 y.o, .int .i64 y.f, .int .i64 y.t, .int .i64 y.w] (by rfl) (by rfl) (World.news_of_block (cs := #[.int .i64 y.s, .int .i64 y.o, .int .i64 y.f, .int .i64 y.t, .int .i64 y.w]) (t := 51) (fr := (0, 0)) (heap_alloc_new W8 _)) (by simp [Value.oneCell']) (by omega) (by unfold maxLen; omega) (by omega) (by simp; omega) ?_
          intro gg cap w4 hown4 hgrow4
          have hb4 : Below (w.heap.size + 1 + 1 + 1) W8 w4 := ((Below.refl (w.heap.size + 1 + 1 + 1) W8).alloc (by omega) _).drew.grown hgrow4 (by simp; omega) (fun j hj => by have := (hrow8.out.lt j hj).1; omega)
          have hv4 : Boxed w4 (w.heap.size + 1 + 1 + 1) 28 (.slice A2 (shareL q cs pre).length c2) := (hv8.out.alloc _).kept (W := (W8.alloc _).drew) hgrow4 (fun e => by have := (hrow8.out.lt _ e.symm).1; omega)
          have hc4 := hv4.cell
          have hf4 := hv4.frozen
          refine hK _ _ ?_ (fun hHeld => ?_)
          · exact hk8.out _ hb4
          clear hK K
          try simp only [Act.put, List.setIfInBounds_toArray, List.set_cons_zero, List.set_cons_succ]
          refine wpAnyR_ready (rs := [8]) (by kernel_rfl) (by simp) ?_
          refine (AllReadyR.cons (o := ?o5035) ?hi5035 (fun K hK => ?hr5035) AllReadyR.nil)
          case hi5035 => (simp only [List.getElem?_toArray, List.getElem?_cons_succ, List.getElem?_cons_zero]; rfl)
          go_simp
          try refine ⟨fun _ h => (by cases h), ?_⟩
          refine hK _ _ ?_ (fun hHeld => ?_)
          · exact hk8.out _ (hb4.setCell (p := ⟨(w.heap.size + 1 + 1 + 1), 0, none⟩) (Nat.le_refl _) _)
          clear hK K
          try simp only [Act.put, List.setIfInBounds_toArray, List.set_cons_zero, List.set_cons_succ]
          refine wpAnyR_done (by kernel_rfl) ?_ _
          exact share_round hX1 hX2 (by omega) hz8 hv8.out ha8.out hrow8.out hgrow4 hown4 hxy.out hyo2.out hat8.out hB8.out hK8.out hE8.out
    · have hne : (y.o != q.o) = true := by simpa using hyo
      have hG : KeepsFrom W3.heap.size W W.drew ∧ KE W3.heap.size (fun b => b = (w.heap.size + 1 + 1 + 1) ∨ b = (w.heap.size + 1 + 1 + 1 + 1)) W W.drew ∧ ((∃ v, Boxed W.drew (w.heap.size + 1 + 1 + 1) 28 v ∧ W.drew.ownsRow W3.heap.size 51 5 v (shareL q cs (pre ++ [x])).length ((shareL q cs (pre ++ [x])).flatMap C5.cells) ∧ True) ∧ (∃ a : Nat, Boxed W.drew (w.heap.size + 1 + 1 + 1 + 1) 3 (.int .i64 (a : Int)) ∧ AtP q cs i (pre ++ [x]) a) ∧ Below (w.heap.size + 1 + 1 + 1) W3 W.drew ∧ W3.heap.size ≤ W.drew.heap.size) := by
        refine ⟨⟨Nat.le_refl _, fun _ _ _ h _ => h⟩, ⟨Nat.le_refl _, fun _ _ _ => rfl⟩, ⟨v, hv.out, ?_, trivial⟩, ⟨a, ha.out, hat.out.no (fun h => hyo (by rw [hxi.out h]))⟩, hB.drew, hz⟩
        rw [shareL_snoc, hxy.out, if_neg hyo]
        exact hrow.out.drew
      have hG := Lib.hid hG
      have hyo := Lib.hid hyo
      refine wpIn_region_R (S := (fun W' => W'.cell? ⟨w.heap.size + 1, 2, none⟩ = some (.slice (some ⟨b, off, none⟩) cs.length c) ∧ W'.cell? ⟨w.heap.size + 1 + 1, 0, none⟩ = some (.int .i64 i) ∧ W'.cell? ⟨b, off + (x : Nat) * 5 + 1, none⟩ = some (.int .i64 y.o) ∧ W'.cell? ⟨b, off + i * 5 + 1, none⟩ = some (.int .i64 q.o))) (by kernel_rfl) (hk5.out _ (Below.refl _ W).drew) (fun hHeld => ?_)
      refine wpAnyR_take (i := 0) (oi := ?o5040) (v := ?hv5040) (by kernel_rfl) ?hi5040 (by kernel_rfl) (by kernel_rfl) (by kernel_rfl) ?hq5040 ?hy5040 (by assumption) ?hr5040
      case hi5040 => (simp only [List.getElem?_toArray, List.getElem?_cons_zero]; rfl)
      case hq5040 => exact fun _ _ _ h => h
      case hy5040 => exact ⟨Or.inl ⟨by rfl, by intro w hSw; (try dsimp only at hSw); go_simp; try with_reducible rfl⟩, fun _ => rfl⟩
      simp only [Act.put, List.setIfInBounds_toArray, List.set_cons_zero, List.set_cons_succ]
      refine wpAnyR_take (i := 1) (oi := ?o5041) (v := ?hv5041) (by kernel_rfl) ?hi5041 (by kernel_rfl) (by kernel_rfl) (by kernel_rfl) ?hq5041 ?hy5041 (by assumption) ?hr5041
      case hi5041 => (simp only [List.getElem?_toArray, List.getElem?_cons_succ, List.getElem?_cons_zero]; rfl)
      case hq5041 => exact fun _ _ _ h => h
      case hy5041 => exact ⟨Or.inl ⟨by rfl, by intro w hSw; (try dsimp only at hSw); go_simp; try with_reducible rfl⟩, fun _ => rfl⟩
      simp only [Act.put, List.setIfInBounds_toArray, List.set_cons_zero, List.set_cons_succ]
      refine wpAnyR_take (i := 2) (oi := ?o5042) (v := ?hv5042) (by kernel_rfl) ?hi5042 (by kernel_rfl) (by kernel_rfl) (by kernel_rfl) ?hq5042 ?hy5042 (by assumption) ?hr5042
      case hi5042 => (simp only [List.getElem?_toArray, List.getElem?_cons_succ, List.getElem?_cons_zero]; rfl)
      case hq5042 => exact fun _ _ _ h => h
      case hy5042 => exact ⟨Or.inl ⟨by rfl, by intro w hSw; (try dsimp only at hSw); go_simp; try with_reducible rfl⟩, fun _ => rfl⟩
      simp only [Act.put, List.setIfInBounds_toArray, List.set_cons_zero, List.set_cons_succ]
      refine wpAnyR_take (i := 3) (oi := ?o5043) (v := ?hv5043) (by kernel_rfl) ?hi5043 (by kernel_rfl) (by kernel_rfl) (by kernel_rfl) ?hq5043 ?hy5043 (by assumption) ?hr5043
      case hi5043 => (simp only [List.getElem?_toArray, List.getElem?_cons_succ, List.getElem?_cons_zero]; rfl)
      case hq5043 => exact fun _ _ _ h => h
      case hy5043 => exact ⟨Or.inl ⟨by rfl, by intro w hSw; (try dsimp only at hSw); go_simp; try with_reducible rfl⟩, fun _ => rfl⟩
      simp only [Act.put, List.setIfInBounds_toArray, List.set_cons_zero, List.set_cons_succ]
      refine wpAnyR_take (i := 4) (oi := ?o5044) (v := ?hv5044) (by kernel_rfl) ?hi5044 (by kernel_rfl) (by kernel_rfl) (by kernel_rfl) ?hq5044 ?hy5044 (by assumption) ?hr5044
      case hi5044 => (simp only [List.getElem?_toArray, List.getElem?_cons_succ, List.getElem?_cons_zero]; rfl)
      case hq5044 => exact fun _ _ _ h => h
      case hy5044 => exact ⟨Or.inl ⟨by rfl, by intro w hSw; (try dsimp only at hSw); go_simp; try with_reducible rfl⟩, fun _ => rfl⟩
      simp only [Act.put, List.setIfInBounds_toArray, List.set_cons_zero, List.set_cons_succ]
      refine wpAnyR_take (i := 5) (oi := ?o5045) (v := ?hv5045) (by kernel_rfl) ?hi5045 (by kernel_rfl) (by kernel_rfl) (by kernel_rfl) ?hq5045 ?hy5045 (by assumption) ?hr5045
      case hi5045 => (simp only [List.getElem?_toArray, List.getElem?_cons_succ, List.getElem?_cons_zero]; rfl)
      case hq5045 => exact fun _ _ _ h => h
      case hy5045 => exact ⟨Or.inl ⟨by rfl, by intro w hSw; (try dsimp only at hSw); go_simp; try with_reducible rfl⟩, fun _ => rfl⟩
      simp only [Act.put, List.setIfInBounds_toArray, List.set_cons_zero, List.set_cons_succ]
      refine wpAnyR_take (i := 6) (oi := ?o5046) (v := ?hv5046) (by kernel_rfl) ?hi5046 (by kernel_rfl) (by kernel_rfl) (by kernel_rfl) ?hq5046 ?hy5046 (by assumption) ?hr5046
      case hi5046 => (simp only [List.getElem?_toArray, List.getElem?_cons_succ, List.getElem?_cons_zero]; rfl)
      case hq5046 => exact fun _ _ _ h => h
      case hy5046 => exact ⟨Or.inl ⟨by rfl, by intro w hSw; (try dsimp only at hSw); go_simp; try with_reducible rfl⟩, fun _ => rfl⟩
      simp only [Act.put, List.setIfInBounds_toArray, List.set_cons_zero, List.set_cons_succ]
      refine wpAnyR_take (i := 7) (oi := ?o5047) (v := ?hv5047) (by kernel_rfl) ?hi5047 (by kernel_rfl) (by kernel_rfl) (by kernel_rfl) ?hq5047 ?hy5047 (by assumption) ?hr5047
      case hi5047 => (simp only [List.getElem?_toArray, List.getElem?_cons_succ, List.getElem?_cons_zero]; rfl)
      case hq5047 => exact fun _ _ _ h => h
      case hy5047 => exact ⟨Or.inl ⟨by rfl, by intro w hSw; (try dsimp only at hSw); go_simp; try with_reducible rfl⟩, fun _ => rfl⟩
      simp only [Act.put, List.setIfInBounds_toArray, List.set_cons_zero, List.set_cons_succ]
      refine wpAnyR_take (i := 8) (oi := ?o5048) (v := ?hv5048) (by kernel_rfl) ?hi5048 (by kernel_rfl) (by kernel_rfl) (by kernel_rfl) ?hq5048 ?hy5048 (by assumption) ?hr5048
      case hi5048 => (simp only [List.getElem?_toArray, List.getElem?_cons_succ, List.getElem?_cons_zero]; rfl)
      case hq5048 => exact fun _ _ _ h => h
      case hy5048 => exact ⟨Or.inl ⟨by rfl, by intro w hSw; (try dsimp only at hSw); go_simp; try with_reducible rfl⟩, fun _ => rfl⟩
      simp only [Act.put, List.setIfInBounds_toArray, List.set_cons_zero, List.set_cons_succ]
      refine wpAnyR_take (i := 9) (oi := ?o5049) (v := ?hv5049) (by kernel_rfl) ?hi5049 (by kernel_rfl) (by kernel_rfl) (by kernel_rfl) ?hq5049 ?hy5049 (by assumption) ?hr5049
      case hi5049 => (simp only [List.getElem?_toArray, List.getElem?_cons_succ, List.getElem?_cons_zero]; rfl)
      case hq5049 => exact fun _ _ _ h => h
      case hy5049 => exact ⟨Or.inl ⟨by rfl, by intro w hSw; (try dsimp only at hSw); go_simp; try with_reducible rfl⟩, fun _ => rfl⟩
      simp only [Act.put, List.setIfInBounds_toArray, List.set_cons_zero, List.set_cons_succ]
      refine wpAnyR_take (i := 10) (oi := ?o5050) (v := ?hv5050) (by kernel_rfl) ?hi5050 (by kernel_rfl) (by kernel_rfl) (by kernel_rfl) ?hq5050 ?hy5050 (by assumption) ?hr5050
      case hi5050 => (simp only [List.getElem?_toArray, List.getElem?_cons_succ, List.getElem?_cons_zero]; rfl)
      case hq5050 => exact fun _ _ _ h => h
      case hy5050 => exact ⟨Or.inl ⟨by rfl, by intro w hSw; (try dsimp only at hSw); go_simp; try with_reducible rfl⟩, fun _ => rfl⟩
      simp only [Act.put, List.setIfInBounds_toArray, List.set_cons_zero, List.set_cons_succ]
      refine wpAnyR_take (i := 11) (oi := ?o5051) (v := ?hv5051) (by kernel_rfl) ?hi5051 (by kernel_rfl) (by kernel_rfl) (by kernel_rfl) ?hq5051 ?hy5051 (by assumption) ?hr5051
      case hi5051 => (simp only [List.getElem?_toArray, List.getElem?_cons_succ, List.getElem?_cons_zero]; rfl)
      case hq5051 => exact fun _ _ _ h => h
      case hy5051 => exact ⟨Or.inl ⟨by rfl, by intro w hSw; (try dsimp only at hSw); go_simp; try with_reducible rfl⟩, fun _ => rfl⟩
      simp only [Act.put, List.setIfInBounds_toArray, List.set_cons_zero, List.set_cons_succ]
      refine wpAnyR_take (i := 12) (oi := ?o5052) (v := .bool true) (by kernel_rfl) ?hi5052 (by kernel_rfl) (by kernel_rfl) (by kernel_rfl) ?hq5052 ?hy5052 (by assumption) ?hr5052
      case hi5052 => (simp only [List.getElem?_toArray, List.getElem?_cons_succ, List.getElem?_cons_zero]; rfl)
      case hq5052 => exact fun _ _ _ h => h
      case hy5052 => exact ⟨Or.inl ⟨by rfl, by intro w hSw; (try dsimp only at hSw); go_simp; try simp only [hne]; try with_reducible rfl⟩, fun _ => rfl⟩
      simp only [Act.put, List.setIfInBounds_toArray, List.set_cons_zero, List.set_cons_succ]
      refine wpAnyR_done (by kernel_rfl) ?_ _
      gi_wp2
      exact hG.out
  case done =>
    rintro D ys W hD rfl ⟨⟨v, hvB, hrow, -⟩, ⟨a, haB, hat⟩, hB, hz⟩ hK
    have hDl : D < W.heap.size := (Array.getElem?_eq_some_iff.1 hK).1
    rw [shareL_hits] at hrow
    obtain ⟨l1, l2, hsh, hae⟩ := share_at hq.out hat
    have hal : a < (shareC q cs).length := by rw [hsh, hae]; simp
    have haq : (shareC q cs)[a]? = some q := by rw [hsh, hae]; simp
    have hD1' := fun d => rest_eq (N := N) hsh hae d
    have hshl : (shareC q cs).length ≤ cs.length := List.length_filter_le _ _
    obtain ⟨A2, c2, rfl, _, hC2⟩ := own_cells hrow
    obtain ⟨bs, os, q', hA2, hbs, eq', g0, g1, g2, g3, g4⟩ := hC2.at_ hal
    subst hA2
    obtain rfl : q = q' := Option.some.inj (haq.symm.trans eq')
    have hcv := hvB.cell
    have hca := haB.cell
    have hcs := Lib.hid (nodesC_share q hcn.out)
    have hnq := hcn.out q (List.mem_of_getElem? hq.out)
    have hqf := (insB_iff _ _).1 hnq.1
    have hqt := (insB_iff _ _).1 hnq.2
    have hqf0 := hqf.1
    have hqf1 := hqf.2
    have hqt0 := hqt.1
    have hqt1 := hqt.2
    obtain ⟨D1, hD1e⟩ : ∃ D1, distK N a q.t 0 (shareC q cs) = D1 := ⟨_, rfl⟩
    obtain ⟨D2, hD2e⟩ : ∃ D2, distK N a q.f 0 (shareC q cs) = D2 := ⟨_, rfl⟩
    have hD10 : 0 ≤ D1 := by rw [← hD1e]; exact distK_nonneg hV.out _ _ _ _
    have hD20 : 0 ≤ D2 := by rw [← hD2e]; exact distK_nonneg hV.out _ _ _ _
    have hlm := hV.out.lms
    obtain ⟨m1, hm1e⟩ : ∃ m, N.ms[ti]? = some m := ⟨_, List.getElem?_eq_getElem (by omega)⟩
    obtain ⟨m2, hm2e⟩ : ∃ m, N.ms[bi]? = some m := ⟨_, List.getElem?_eq_getElem (by omega)⟩
    have hm1b := hV.out.mar ti m1 hm1e
    have hm2b := hV.out.mar bi m2 hm2e
    have hm10 := hm1b.1
    have hm11 := hm1b.2
    have hm20 := hm2b.1
    have hm21 := hm2b.2
    have hre : disturbedB N cs q = (!hearsC N m1 D1 || !hearsC N m2 D2) := by
      unfold disturbedB
      rw [hti.out, hbi.out, Int.toNat_natCast, Int.toNat_natCast, ← hD1', ← hD1', hD1e, hD2e]
      simp [List.getD_eq_getElem?_getD, hm1e, hm2e]
    have hrr := Lib.hid (hr.out.symm.trans hre)
    have hD1 := Lib.hid hD1e
    have hD2 := Lib.hid hD2e
    have hm1 := Lib.hid hm1e
    have hm2 := Lib.hid hm2e
    have hsr := Lib.hid hV.out.srt
    have ha0 : (0 : Int) ≤ (a : Int) := by omega
    have ha1 : (a : Int) < ((shareC q cs).length : Int) := by omega
    have ht0 : (0 : Int) ≤ (ti : Int) := by omega
    have ht1 : (ti : Int) < (N.nm : Int) := by omega
    have hbi0 : (0 : Int) ≤ (bi : Int) := by omega
    have hbi1 : (bi : Int) < (N.nm : Int) := by omega
    have hrow := Lib.hid hrow
    have hvL := hvB.lt
    have haL := haB.lt
    have hvB := Lib.hid hvB
    have haB := Lib.hid haB
    have hbW9 := alloc_below W (N51 q)
    have hQ9 := Lib.hid (Box5.new q 51 W)
    have hlW : W.heap.size < (W.alloc (N51 q)).heap.size := by simp
    have hNW := hN3.out.below (hB.mono (show w.heap.size + 1 ≤ (w.heap.size + 1 + 1 + 1) by omega)) (Nat.lt_succ_self _)
    have hN9 := Lib.hid (hNW.below hbW9 (by omega))
    have hM9 := Lib.hid (((hM3.out.below (hB.mono (by omega))).more (show w.heap.size ≤ W.heap.size by omega)).below hbW9)
    have hC9 := Lib.hid ((hC2.below hbW9).more hbW9.size)
    have hv9 : Hid ((W.alloc (N51 q)).cell? ⟨(w.heap.size + 1 + 1 + 1), 0, none⟩ = some (.slice (some ⟨bs, os, none⟩) (shareC q cs).length c2)) := Lib.hid ((World.cell?_alloc_lt W _ ⟨(w.heap.size + 1 + 1 + 1), 0, none⟩ hvL).trans hcv)
    have ha9 : Hid ((W.alloc (N51 q)).cell? ⟨(w.heap.size + 1 + 1 + 1 + 1), 0, none⟩ = some (.int .i64 a)) := Lib.hid ((World.cell?_alloc_lt W _ ⟨(w.heap.size + 1 + 1 + 1 + 1), 0, none⟩ haL).trans hca)
    clear hM3 hM0 hC3 hC0 hsh hae haq eq' hD1' hD1e hD2e hm1e hm2e hre hqf hqt hnq hNW hat hC2
    go_upto_region 10 with fail
    clear hcv hca g0 g1 g2 g3 g4
    revert hbW9 hQ9 hlW hN9 hM9 hC9 hv9 ha9
    generalize W.alloc (N51 q) = W9
    intro hbW9 hQ9 hlW hN9 hM9 hC9 hv9 ha9
    have hM9 := Lib.hid (hM9.out.more (show W.heap.size ≤ W9.heap.size by omega))
    have hwl : w.heap.size < W9.heap.size := by omega
    have hX1l : (w.heap.size + 1 + 1 + 1) < W9.heap.size := by omega
    have hX2l : (w.heap.size + 1 + 1 + 1 + 1) < W9.heap.size := by omega
    have hk10 : Hid (∀ W', Below W9.heap.size W9 W' → (fun W' => W'.cell? ⟨w.heap.size, 0, none⟩ = some (.int .i64 N.k) ∧ W'.cell? ⟨w.heap.size, 1, none⟩ = some (.slice N.Ap N.np N.cp) ∧ W'.cell? ⟨w.heap.size, 2, none⟩ = some (.int .i64 N.z) ∧ W'.cell? ⟨w.heap.size, 3, none⟩ = some (.int .i64 N.h) ∧ W'.cell? ⟨w.heap.size, 4, none⟩ = some (.slice N.Al N.nl N.cl) ∧ W'.cell? ⟨w.heap.size, 5, none⟩ = some (.slice N.Am N.nm N.cm) ∧ W'.cell? ⟨W.heap.size, 0, none⟩ = some (.int .i64 q.s) ∧ W'.cell? ⟨W.heap.size, 1, none⟩ = some (.int .i64 q.o) ∧ W'.cell? ⟨W.heap.size, 2, none⟩ = some (.int .i64 q.f) ∧ W'.cell? ⟨W.heap.size, 3, none⟩ = some (.int .i64 q.t) ∧ W'.cell? ⟨W.heap.size, 4, none⟩ = some (.int .i64 q.w)) W') := Lib.hid (fun W' h => by
      obtain ⟨n0, n1, n2, n3, n4, n5⟩ := hN9.out.below h hwl
      obtain ⟨q0, q1, q2, q3, q4⟩ := hQ9.out.below h hlW
      exact ⟨n0, n1, n2, n3, n4, n5, q0, q1, q2, q3, q4⟩)
    refine wp_region_noPanic ?_
    refine wp_region_held_drew (S := (fun W' => W'.cell? ⟨w.heap.size, 0, none⟩ = some (.int .i64 N.k) ∧ W'.cell? ⟨w.heap.size, 1, none⟩ = some (.slice N.Ap N.np N.cp) ∧ W'.cell? ⟨w.heap.size, 2, none⟩ = some (.int .i64 N.z) ∧ W'.cell? ⟨w.heap.size, 3, none⟩ = some (.int .i64 N.h) ∧ W'.cell? ⟨w.heap.size, 4, none⟩ = some (.slice N.Al N.nl N.cl) ∧ W'.cell? ⟨w.heap.size, 5, none⟩ = some (.slice N.Am N.nm N.cm) ∧ W'.cell? ⟨W.heap.size, 0, none⟩ = some (.int .i64 q.s) ∧ W'.cell? ⟨W.heap.size, 1, none⟩ = some (.int .i64 q.o) ∧ W'.cell? ⟨W.heap.size, 2, none⟩ = some (.int .i64 q.f) ∧ W'.cell? ⟨W.heap.size, 3, none⟩ = some (.int .i64 q.t) ∧ W'.cell? ⟨W.heap.size, 4, none⟩ = some (.int .i64 q.w))) (by kernel_rfl) (hk10.out _ (Below.refl _ W9).drew) (fun hHeld => ?_)
    refine wpAnyH_take (i := 0) (oi := ?o9) (v := ?hv9) ?hi9 (by kernel_rfl) (by kernel_rfl) (by kernel_rfl) ?hq9 ?hy9 (by assumption) ?hr9
    case hi9 => (simp only [List.getElem?_toArray, List.getElem?_cons_zero]; rfl)
    case hq9 => exact fun _ _ _ h => h
    case hy9 => exact Or.inl ⟨by rfl, by intro w hSw; (try dsimp only at hSw); go_simp; try with_reducible rfl⟩
    simp only [Act.put, List.setIfInBounds_toArray, List.set_cons_zero, List.set_cons_succ]
    refine wpAnyH_take (i := 1) (oi := ?o10) (v := ?hv10) ?hi10 (by kernel_rfl) (by kernel_rfl) (by kernel_rfl) ?hq10 ?hy10 (by assumption) ?hr10
    case hi10 => (simp only [List.getElem?_toArray, List.getElem?_cons_succ, List.getElem?_cons_zero]; rfl)
    case hq10 => exact fun _ _ _ h => h
    case hy10 => exact Or.inl ⟨by rfl, by intro w hSw; (try dsimp only at hSw); go_simp; try with_reducible rfl⟩
    simp only [Act.put, List.setIfInBounds_toArray, List.set_cons_zero, List.set_cons_succ]
    refine wpAnyH_take (i := 2) (oi := ?o11) (v := ?hv11) ?hi11 (by kernel_rfl) (by kernel_rfl) (by kernel_rfl) ?hq11 ?hy11 (by assumption) ?hr11
    case hi11 => (simp only [List.getElem?_toArray, List.getElem?_cons_succ, List.getElem?_cons_zero]; rfl)
    case hq11 => exact fun _ _ _ h => h
    case hy11 => exact Or.inl ⟨by rfl, by intro w hSw; (try dsimp only at hSw); go_simp; try with_reducible rfl⟩
    simp only [Act.put, List.setIfInBounds_toArray, List.set_cons_zero, List.set_cons_succ]
    refine wpAnyH_take (i := 3) (oi := ?o12) (v := ?hv12) ?hi12 (by kernel_rfl) (by kernel_rfl) (by kernel_rfl) ?hq12 ?hy12 (by assumption) ?hr12
    case hi12 => (simp only [List.getElem?_toArray, List.getElem?_cons_succ, List.getElem?_cons_zero]; rfl)
    case hq12 => exact fun _ _ _ h => h
    case hy12 => exact Or.inl ⟨by rfl, by intro w hSw; (try dsimp only at hSw); go_simp; try with_reducible rfl⟩
    simp only [Act.put, List.setIfInBounds_toArray, List.set_cons_zero, List.set_cons_succ]
    refine wpAnyH_take (i := 4) (oi := ?o13) (v := ?hv13) ?hi13 (by kernel_rfl) (by kernel_rfl) (by kernel_rfl) ?hq13 ?hy13 (by assumption) ?hr13
    case hi13 => (simp only [List.getElem?_toArray, List.getElem?_cons_succ, List.getElem?_cons_zero]; rfl)
    case hq13 => exact fun _ _ _ h => h
    case hy13 => exact Or.inl ⟨by rfl, by intro w hSw; (try dsimp only at hSw); go_simp; try with_reducible rfl⟩
    simp only [Act.put, List.setIfInBounds_toArray, List.set_cons_zero, List.set_cons_succ]
    refine wpAnyH_take (i := 6) (oi := ?o14) (v := ?hv14) ?hi14 (by kernel_rfl) (by kernel_rfl) (by kernel_rfl) ?hq14 ?hy14 (by assumption) ?hr14
    case hi14 => (simp only [List.getElem?_toArray, List.getElem?_cons_succ, List.getElem?_cons_zero]; rfl)
    case hq14 => exact fun _ _ _ h => h
    case hy14 => exact Or.inl ⟨by rfl, by intro w hSw; (try dsimp only at hSw); go_simp; try with_reducible rfl⟩
    simp only [Act.put, List.setIfInBounds_toArray, List.set_cons_zero, List.set_cons_succ]
    refine wpAnyH_take (i := 7) (oi := ?o15) (v := ?hv15) ?hi15 (by kernel_rfl) (by kernel_rfl) (by kernel_rfl) ?hq15 ?hy15 (by assumption) ?hr15
    case hi15 => (simp only [List.getElem?_toArray, List.getElem?_cons_succ, List.getElem?_cons_zero]; rfl)
    case hq15 => exact fun _ _ _ h => h
    case hy15 => exact Or.inl ⟨by rfl, by intro w hSw; (try dsimp only at hSw); go_simp; try with_reducible rfl⟩
    simp only [Act.put, List.setIfInBounds_toArray, List.set_cons_zero, List.set_cons_succ]
    refine wpAnyH_take (i := 8) (oi := ?o16) (v := ?hv16) ?hi16 (by kernel_rfl) (by kernel_rfl) (by kernel_rfl) ?hq16 ?hy16 (by assumption) ?hr16
    case hi16 => (simp only [List.getElem?_toArray, List.getElem?_cons_succ, List.getElem?_cons_zero]; rfl)
    case hq16 => exact fun _ _ _ h => h
    case hy16 => exact Or.inl ⟨by rfl, by intro w hSw; (try dsimp only at hSw); go_simp; try with_reducible rfl⟩
    simp only [Act.put, List.setIfInBounds_toArray, List.set_cons_zero, List.set_cons_succ]
    refine wpAnyH_take (i := 9) (oi := ?o17) (v := ?hv17) ?hi17 (by kernel_rfl) (by kernel_rfl) (by kernel_rfl) ?hq17 ?hy17 (by assumption) ?hr17
    case hi17 => (simp only [List.getElem?_toArray, List.getElem?_cons_succ, List.getElem?_cons_zero]; rfl)
    case hq17 => exact fun _ _ _ h => h
    case hy17 => exact Or.inl ⟨by rfl, by intro w hSw; (try dsimp only at hSw); go_simp; try with_reducible rfl⟩
    simp only [Act.put, List.setIfInBounds_toArray, List.set_cons_zero, List.set_cons_succ]
    refine wpAnyH_take (i := 10) (oi := ?o18) (v := ?hv18) ?hi18 (by kernel_rfl) (by kernel_rfl) (by kernel_rfl) ?hq18 ?hy18 (by assumption) ?hr18
    case hi18 => (simp only [List.getElem?_toArray, List.getElem?_cons_succ, List.getElem?_cons_zero]; rfl)
    case hq18 => exact fun _ _ _ h => h
    case hy18 => exact Or.inl ⟨by rfl, by intro w hSw; (try dsimp only at hSw); go_simp; try with_reducible rfl⟩
    simp only [Act.put, List.setIfInBounds_toArray, List.set_cons_zero, List.set_cons_succ]
    refine wpAnyH_ready (rs := [5]) (by kernel_rfl) (by simp) ?_
    refine (AllReadyH.cons (o := ?o19) ?hi19 (fun K hK => ?hr19) AllReadyH.nil)
    case hi19 => (simp only [List.getElem?_toArray, List.getElem?_cons_succ, List.getElem?_cons_zero]; rfl)
    go_simp
    refine (Index_lit N q.f q.t ti hti.out hv hsr.out hsm _ (by exact Lib.hid ((hM9.out.below (Below.refl W9.heap.size W9).drew).more ((Below.refl W9.heap.size W9).drew).size))).mono ?_
    rintro e w10 ⟨rfl, hbw10⟩
    have hqw10 : Below W9.heap.size W9 w10 := bstep (Below.refl W9.heap.size W9).drew hbw10 (Nat.le_refl _)
    go_wp2_with fail
    refine hK.out _ _ ?_ (fun hHeld => ?_)
    · exact hk10.out _ hqw10
    clear hK K
    try simp only [Act.put, List.setIfInBounds_toArray, List.set_cons_zero, List.set_cons_succ]
    refine wpAnyH_ready (rs := [11]) (by kernel_rfl) (by simp) ?_
    refine (AllReadyH.cons (o := ?o20) ?hi20 (fun K hK => ?hr20) AllReadyH.nil)
    case hi20 => (simp only [List.getElem?_toArray, List.getElem?_cons_succ, List.getElem?_cons_zero]; rfl)
    go_simp
    refine (Index_lit N q.t q.f bi hbi.out hv hsr.out hsm _ (by exact Lib.hid ((hM9.out.below hqw10).more (hqw10).size))).mono ?_
    rintro e w11 ⟨rfl, hbw11⟩
    have hqw11 : Below W9.heap.size W9 w11 := bstep hqw10 hbw11 (Nat.le_refl _)
    go_wp2_with fail
    refine hK.out _ _ ?_ (fun hHeld => ?_)
    · exact hk10.out _ hqw11
    clear hK K
    try simp only [Act.put, List.setIfInBounds_toArray, List.set_cons_zero, List.set_cons_succ]
    refine wpAnyH_take (i := 12) (oi := ?o21) (v := ?hv21) ?hi21 (by kernel_rfl) (by kernel_rfl) (by kernel_rfl) ?hq21 ?hy21 (by assumption) ?hr21
    case hi21 => (simp only [List.getElem?_toArray, List.getElem?_cons_succ, List.getElem?_cons_zero]; rfl)
    case hq21 => exact fun _ _ _ h => h
    case hy21 => exact Or.inl ⟨by rfl, by intro w hSw; (try dsimp only at hSw); go_simp; try with_reducible rfl⟩
    simp only [Act.put, List.setIfInBounds_toArray, List.set_cons_zero, List.set_cons_succ]
    refine wpAnyH_take (i := 13) (oi := ?o22) (v := ?hv22) ?hi22 (by kernel_rfl) (by kernel_rfl) (by kernel_rfl) ?hq22 ?hy22 (by assumption) ?hr22
    case hi22 => (simp only [List.getElem?_toArray, List.getElem?_cons_succ, List.getElem?_cons_zero]; rfl)
    case hq22 => exact fun _ _ _ h => h
    case hy22 => exact Or.inl ⟨by rfl, by intro w hSw; (try dsimp only at hSw); go_simp; try with_reducible rfl⟩
    simp only [Act.put, List.setIfInBounds_toArray, List.set_cons_zero, List.set_cons_succ]
    refine wpAnyH_done (by kernel_rfl) ?_ _
    refine NoPanic.normal ?_
    go_wp2_with fail
    obtain ⟨bm, om, m1', hAm, hbm, em, mm1⟩ := hM9.out.2.2.at_ htl
    obtain rfl : m1 = m1' := Option.some.inj (hm1.out.symm.trans em)
    obtain ⟨bm', om', m2', hAm2, _, em2, mm2⟩ := hM9.out.2.2.at_ hbl
    obtain rfl : m2 = m2' := Option.some.inj (hm2.out.symm.trans em2)
    obtain ⟨rfl, rfl⟩ : bm = bm' ∧ om = om' := by rw [hAm] at hAm2; cases hAm2; exact ⟨rfl, rfl⟩
    have hAm' := Lib.hid hAm
    have hmm1 := Lib.hid mm1
    have hmm2 := Lib.hid mm2
    clear hAm hAm2 em em2 mm1 mm2
    have hk11 : Hid (∀ W', Below W9.heap.size W9 W' → (fun W' => W'.cell? ⟨w.heap.size, 0, none⟩ = some (.int .i64 N.k) ∧ W'.cell? ⟨w.heap.size, 1, none⟩ = some (.slice N.Ap N.np N.cp) ∧ W'.cell? ⟨w.heap.size, 2, none⟩ = some (.int .i64 N.z) ∧ W'.cell? ⟨w.heap.size, 3, none⟩ = some (.int .i64 N.h) ∧ W'.cell? ⟨w.heap.size, 4, none⟩ = some (.slice N.Al N.nl N.cl) ∧ W'.cell? ⟨w.heap.size, 5, none⟩ = some (.slice (some ⟨bm, om, none⟩) N.nm N.cm) ∧ W'.cell? ⟨W.heap.size, 0, none⟩ = some (.int .i64 q.s) ∧ W'.cell? ⟨W.heap.size, 1, none⟩ = some (.int .i64 q.o) ∧ W'.cell? ⟨W.heap.size, 2, none⟩ = some (.int .i64 q.f) ∧ W'.cell? ⟨W.heap.size, 3, none⟩ = some (.int .i64 q.t) ∧ W'.cell? ⟨W.heap.size, 4, none⟩ = some (.int .i64 q.w) ∧ W'.cell? ⟨bm, om + ti, none⟩ = some (.int .i64 m1) ∧ W'.cell? ⟨bm, om + bi, none⟩ = some (.int .i64 m2) ∧ W'.cell? ⟨(w.heap.size + 1 + 1 + 1), 0, none⟩ = some (.slice (some ⟨bs, os, none⟩) (shareC q cs).length c2) ∧ W'.cell? ⟨(w.heap.size + 1 + 1 + 1 + 1), 0, none⟩ = some (.int .i64 a)) W') := Lib.hid (fun W' h => by
      obtain ⟨n0, n1, n2, n3, n4, n5⟩ := hN9.out.below h hwl
      rw [hAm'.out] at n5
      obtain ⟨q0, q1, q2, q3, q4⟩ := hQ9.out.below h hlW
      exact ⟨n0, n1, n2, n3, n4, n5, q0, q1, q2, q3, q4, (h.cell (p := ⟨bm, _, none⟩) hbm).trans hmm1.out, (h.cell (p := ⟨bm, _, none⟩) hbm).trans hmm2.out, (h.cell (p := ⟨(w.heap.size + 1 + 1 + 1), 0, none⟩) hX1l).trans hv9.out, (h.cell (p := ⟨(w.heap.size + 1 + 1 + 1 + 1), 0, none⟩) hX2l).trans ha9.out⟩)
    cases hh1p : hearsC N m1 D1
    · have hh1 := Lib.hid hh1p
      obtain rfl : r = true := by rw [hrr.out, hh1p]; rfl
      clear hh1p
      refine wp_region_noPanic ?_
      refine wp_region_held_drew (S := (fun W' => W'.cell? ⟨w.heap.size, 0, none⟩ = some (.int .i64 N.k) ∧ W'.cell? ⟨w.heap.size, 1, none⟩ = some (.slice N.Ap N.np N.cp) ∧ W'.cell? ⟨w.heap.size, 2, none⟩ = some (.int .i64 N.z) ∧ W'.cell? ⟨w.heap.size, 3, none⟩ = some (.int .i64 N.h) ∧ W'.cell? ⟨w.heap.size, 4, none⟩ = some (.slice N.Al N.nl N.cl) ∧ W'.cell? ⟨w.heap.size, 5, none⟩ = some (.slice (some ⟨bm, om, none⟩) N.nm N.cm) ∧ W'.cell? ⟨W.heap.size, 0, none⟩ = some (.int .i64 q.s) ∧ W'.cell? ⟨W.heap.size, 1, none⟩ = some (.int .i64 q.o) ∧ W'.cell? ⟨W.heap.size, 2, none⟩ = some (.int .i64 q.f) ∧ W'.cell? ⟨W.heap.size, 3, none⟩ = some (.int .i64 q.t) ∧ W'.cell? ⟨W.heap.size, 4, none⟩ = some (.int .i64 q.w) ∧ W'.cell? ⟨bm, om + ti, none⟩ = some (.int .i64 m1) ∧ W'.cell? ⟨bm, om + bi, none⟩ = some (.int .i64 m2) ∧ W'.cell? ⟨(w.heap.size + 1 + 1 + 1), 0, none⟩ = some (.slice (some ⟨bs, os, none⟩) (shareC q cs).length c2) ∧ W'.cell? ⟨(w.heap.size + 1 + 1 + 1 + 1), 0, none⟩ = some (.int .i64 a))) (by kernel_rfl) (hk11.out _ hqw11.drew) (fun hHeld => ?_)
      refine wpAnyH_take (i := 0) (oi := ?o23) (v := ?hv23) ?hi23 (by kernel_rfl) (by kernel_rfl) (by kernel_rfl) ?hq23 ?hy23 (by assumption) ?hr23
      case hi23 => (simp only [List.getElem?_toArray, List.getElem?_cons_zero]; rfl)
      case hq23 => exact fun _ _ _ h => h
      case hy23 => exact Or.inl ⟨by rfl, by intro w hSw; (try dsimp only at hSw); go_simp; try with_reducible rfl⟩
      simp only [Act.put, List.setIfInBounds_toArray, List.set_cons_zero, List.set_cons_succ]
      refine wpAnyH_take (i := 1) (oi := ?o24) (v := ?hv24) ?hi24 (by kernel_rfl) (by kernel_rfl) (by kernel_rfl) ?hq24 ?hy24 (by assumption) ?hr24
      case hi24 => (simp only [List.getElem?_toArray, List.getElem?_cons_succ, List.getElem?_cons_zero]; rfl)
      case hq24 => exact fun _ _ _ h => h
      case hy24 => exact Or.inl ⟨by rfl, by intro w hSw; (try dsimp only at hSw); go_simp; try with_reducible rfl⟩
      simp only [Act.put, List.setIfInBounds_toArray, List.set_cons_zero, List.set_cons_succ]
      refine wpAnyH_take (i := 2) (oi := ?o25) (v := ?hv25) ?hi25 (by kernel_rfl) (by kernel_rfl) (by kernel_rfl) ?hq25 ?hy25 (by assumption) ?hr25
      case hi25 => (simp only [List.getElem?_toArray, List.getElem?_cons_succ, List.getElem?_cons_zero]; rfl)
      case hq25 => exact fun _ _ _ h => h
      case hy25 => exact Or.inl ⟨by rfl, by intro w hSw; (try dsimp only at hSw); go_simp; try with_reducible rfl⟩
      simp only [Act.put, List.setIfInBounds_toArray, List.set_cons_zero, List.set_cons_succ]
      refine wpAnyH_take (i := 3) (oi := ?o26) (v := ?hv26) ?hi26 (by kernel_rfl) (by kernel_rfl) (by kernel_rfl) ?hq26 ?hy26 (by assumption) ?hr26
      case hi26 => (simp only [List.getElem?_toArray, List.getElem?_cons_succ, List.getElem?_cons_zero]; rfl)
      case hq26 => exact fun _ _ _ h => h
      case hy26 => exact Or.inl ⟨by rfl, by intro w hSw; (try dsimp only at hSw); go_simp; try with_reducible rfl⟩
      simp only [Act.put, List.setIfInBounds_toArray, List.set_cons_zero, List.set_cons_succ]
      refine wpAnyH_take (i := 4) (oi := ?o27) (v := ?hv27) ?hi27 (by kernel_rfl) (by kernel_rfl) (by kernel_rfl) ?hq27 ?hy27 (by assumption) ?hr27
      case hi27 => (simp only [List.getElem?_toArray, List.getElem?_cons_succ, List.getElem?_cons_zero]; rfl)
      case hq27 => exact fun _ _ _ h => h
      case hy27 => exact Or.inl ⟨by rfl, by intro w hSw; (try dsimp only at hSw); go_simp; try with_reducible rfl⟩
      simp only [Act.put, List.setIfInBounds_toArray, List.set_cons_zero, List.set_cons_succ]
      refine wpAnyH_take (i := 5) (oi := ?o28) (v := ?hv28) ?hi28 (by kernel_rfl) (by kernel_rfl) (by kernel_rfl) ?hq28 ?hy28 (by assumption) ?hr28
      case hi28 => (simp only [List.getElem?_toArray, List.getElem?_cons_succ, List.getElem?_cons_zero]; rfl)
      case hq28 => exact fun _ _ _ h => h
      case hy28 => exact Or.inl ⟨by rfl, by intro w hSw; (try dsimp only at hSw); go_simp; try with_reducible rfl⟩
      simp only [Act.put, List.setIfInBounds_toArray, List.set_cons_zero, List.set_cons_succ]
      refine wpAnyH_take (i := 6) (oi := ?o29) (v := ?hv29) ?hi29 (by kernel_rfl) (by kernel_rfl) (by kernel_rfl) ?hq29 ?hy29 (by assumption) ?hr29
      case hi29 => (simp only [List.getElem?_toArray, List.getElem?_cons_succ, List.getElem?_cons_zero]; rfl)
      case hq29 => exact fun _ _ _ h => h
      case hy29 => exact Or.inl ⟨by rfl, by intro w hSw; (try dsimp only at hSw); go_simp; try with_reducible rfl⟩
      simp only [Act.put, List.setIfInBounds_toArray, List.set_cons_zero, List.set_cons_succ]
      refine wpAnyH_take (i := 7) (oi := ?o30) (v := ?hv30) ?hi30 (by kernel_rfl) (by kernel_rfl) (by kernel_rfl) ?hq30 ?hy30 (by assumption) ?hr30
      case hi30 => (simp only [List.getElem?_toArray, List.getElem?_cons_succ, List.getElem?_cons_zero]; rfl)
      case hq30 => exact fun _ _ _ h => h
      case hy30 => exact Or.inl ⟨by rfl, by intro w hSw; (try dsimp only at hSw); go_simp; try with_reducible rfl⟩
      simp only [Act.put, List.setIfInBounds_toArray, List.set_cons_zero, List.set_cons_succ]
      refine wpAnyH_take (i := 8) (oi := ?o31) (v := ?hv31) ?hi31 (by kernel_rfl) (by kernel_rfl) (by kernel_rfl) ?hq31 ?hy31 (by assumption) ?hr31
      case hi31 => (simp only [List.getElem?_toArray, List.getElem?_cons_succ, List.getElem?_cons_zero]; rfl)
      case hq31 => exact fun _ _ _ h => h
      case hy31 => exact Or.inl ⟨by rfl, by intro w hSw; (try dsimp only at hSw); go_simp; try with_reducible rfl⟩
      simp only [Act.put, List.setIfInBounds_toArray, List.set_cons_zero, List.set_cons_succ]
      refine wpAnyH_take (i := 9) (oi := ?o32) (v := ?hv32) ?hi32 (by kernel_rfl) (by kernel_rfl) (by kernel_rfl) ?hq32 ?hy32 (by assumption) ?hr32
      case hi32 => (simp only [List.getElem?_toArray, List.getElem?_cons_succ, List.getElem?_cons_zero]; rfl)
      case hq32 => exact fun _ _ _ h => h
      case hy32 => exact Or.inl ⟨by rfl, by intro w hSw; (try dsimp only at hSw); go_simp; try with_reducible rfl⟩
      simp only [Act.put, List.setIfInBounds_toArray, List.set_cons_zero, List.set_cons_succ]
      refine wpAnyH_take (i := 10) (oi := ?o33) (v := ?hv33) ?hi33 (by kernel_rfl) (by kernel_rfl) (by kernel_rfl) ?hq33 ?hy33 (by assumption) ?hr33
      case hi33 => (simp only [List.getElem?_toArray, List.getElem?_cons_succ, List.getElem?_cons_zero]; rfl)
      case hq33 => exact fun _ _ _ h => h
      case hy33 => exact Or.inl ⟨by rfl, by intro w hSw; (try dsimp only at hSw); go_simp; try with_reducible rfl⟩
      simp only [Act.put, List.setIfInBounds_toArray, List.set_cons_zero, List.set_cons_succ]
      have hc := fun W (hW : Hid (NetM W W.heap.size N)) (hW2 : Hid (Cells W W.heap.size (some ⟨bs, os, none⟩) (shareC q cs).length (shareC q cs))) => Dist_I N hv hV hsm (some ⟨bs, os, none⟩) (shareC q cs).length c2 (shareC q cs) (by omega) hcs.out a q.t hal hqt0 hqt1 D1 hD1 W hW hW2
      simp only [hAm'.out] at hc
      refine wpAnyH_ready (rs := [11]) (by kernel_rfl) (by simp) ?_
      refine (AllReadyH.cons (o := ?o34) ?hi34 (fun K hK => ?hr34) AllReadyH.nil)
      case hi34 => (simp only [List.getElem?_toArray, List.getElem?_cons_succ, List.getElem?_cons_zero]; rfl)
      go_simp
      refine (hc _ (by exact Lib.hid ((hM9.out.below hqw11.drew).more (hqw11.drew).size)) (by exact Lib.hid ((hC9.out.below hqw11.drew).more (hqw11.drew).size))).mono ?_
      rintro e w12 ⟨rfl, hbw12⟩
      have hqw12 : Below W9.heap.size W9 w12 := bstep hqw11.drew hbw12 (Nat.le_refl _)
      go_wp2_with fail
      refine hK.out _ _ ?_ (fun hHeld => ?_)
      · exact hk11.out _ hqw12
      clear hK K
      try simp only [Act.put, List.setIfInBounds_toArray, List.set_cons_zero, List.set_cons_succ]
      clear hc
      have hc := fun W (hW : NetM W W.heap.size N) => Hears_lit N m1 D1 hm10 hm11 hD10 hv.out hV.out hsm false hh1.out W hW
      simp only [hAm'.out] at hc
      refine wpAnyH_ready (rs := [12]) (by kernel_rfl) (by simp) ?_
      refine (AllReadyH.cons (o := ?o35) ?hi35 (fun K hK => ?hr35) AllReadyH.nil)
      case hi35 => (simp only [List.getElem?_toArray, List.getElem?_cons_succ, List.getElem?_cons_zero]; rfl)
      go_simp
      refine (hc _ (by exact ((hM9.out.below hqw12).more (hqw12).size))).mono ?_
      rintro e w13 ⟨rfl, hbw13⟩
      have hqw13 : Below W9.heap.size W9 w13 := bstep hqw12 hbw13 (Nat.le_refl _)
      go_wp2_with fail
      refine hK.out _ _ ?_ (fun hHeld => ?_)
      · exact hk11.out _ hqw13
      clear hK K
      try simp only [Act.put, List.setIfInBounds_toArray, List.set_cons_zero, List.set_cons_succ]
      clear hc
      refine wpAnyH_take (i := 13) (oi := ?o36) (v := ?hv36) ?hi36 (by kernel_rfl) (by kernel_rfl) (by kernel_rfl) ?hq36 ?hy36 (by assumption) ?hr36
      case hi36 => (simp only [List.getElem?_toArray, List.getElem?_cons_succ, List.getElem?_cons_zero]; rfl)
      case hq36 => exact fun _ _ _ h => h
      case hy36 => exact Or.inl ⟨by rfl, by intro w hSw; (try dsimp only at hSw); go_simp; try with_reducible rfl⟩
      simp only [Act.put, List.setIfInBounds_toArray, List.set_cons_zero, List.set_cons_succ]
      refine wpAnyH_take (i := 14) (oi := ?o37) (v := ?hv37) ?hi37 (by kernel_rfl) (by kernel_rfl) (by kernel_rfl) ?hq37 ?hy37 (by assumption) ?hr37
      case hi37 => (simp only [List.getElem?_toArray, List.getElem?_cons_succ, List.getElem?_cons_zero]; rfl)
      case hq37 => exact fun _ _ _ h => h
      case hy37 => exact Or.inl ⟨by rfl, by intro w hSw; (try dsimp only at hSw); go_simp; try with_reducible rfl⟩
      simp only [Act.put, List.setIfInBounds_toArray, List.set_cons_zero, List.set_cons_succ]
      refine wpAnyH_take (i := 15) (oi := ?o38) (v := undef) ?hi38 (by kernel_rfl) (by kernel_rfl) (by kernel_rfl) ?hq38 ?hy38 (by assumption) ?hr38
      case hi38 => (simp only [List.getElem?_toArray, List.getElem?_cons_succ, List.getElem?_cons_zero]; rfl)
      case hq38 => exact fun _ _ _ h => h
      case hy38 => exact Or.inr ⟨by rfl, rfl⟩
      simp only [Act.put, List.setIfInBounds_toArray, List.set_cons_zero, List.set_cons_succ]
      refine wpAnyH_take (i := 16) (oi := ?o39) (v := undef) ?hi39 (by kernel_rfl) (by kernel_rfl) (by kernel_rfl) ?hq39 ?hy39 (by assumption) ?hr39
      case hi39 => (simp only [List.getElem?_toArray, List.getElem?_cons_succ, List.getElem?_cons_zero]; rfl)
      case hq39 => exact fun _ _ _ h => h
      case hy39 => exact Or.inr ⟨by rfl, rfl⟩
      simp only [Act.put, List.setIfInBounds_toArray, List.set_cons_zero, List.set_cons_succ]
      refine wpAnyH_take (i := 17) (oi := ?o40) (v := undef) ?hi40 (by kernel_rfl) (by kernel_rfl) (by kernel_rfl) ?hq40 ?hy40 (by assumption) ?hr40
      case hi40 => (simp only [List.getElem?_toArray, List.getElem?_cons_succ, List.getElem?_cons_zero]; rfl)
      case hq40 => exact fun _ _ _ h => h
      case hy40 => exact Or.inr ⟨by rfl, rfl⟩
      simp only [Act.put, List.setIfInBounds_toArray, List.set_cons_zero, List.set_cons_succ]
      refine wpAnyH_take (i := 18) (oi := ?o41) (v := undef) ?hi41 (by kernel_rfl) (by kernel_rfl) (by kernel_rfl) ?hq41 ?hy41 (by assumption) ?hr41
      case hi41 => (simp only [List.getElem?_toArray, List.getElem?_cons_succ, List.getElem?_cons_zero]; rfl)
      case hq41 => exact fun _ _ _ h => h
      case hy41 => exact Or.inr ⟨by rfl, rfl⟩
      simp only [Act.put, List.setIfInBounds_toArray, List.set_cons_zero, List.set_cons_succ]
      refine wpAnyH_take (i := 19) (oi := ?o42) (v := undef) ?hi42 (by kernel_rfl) (by kernel_rfl) (by kernel_rfl) ?hq42 ?hy42 (by assumption) ?hr42
      case hi42 => (simp only [List.getElem?_toArray, List.getElem?_cons_succ, List.getElem?_cons_zero]; rfl)
      case hq42 => exact fun _ _ _ h => h
      case hy42 => exact Or.inr ⟨by rfl, rfl⟩
      simp only [Act.put, List.setIfInBounds_toArray, List.set_cons_zero, List.set_cons_succ]
      refine wpAnyH_take (i := 20) (oi := ?o43) (v := undef) ?hi43 (by kernel_rfl) (by kernel_rfl) (by kernel_rfl) ?hq43 ?hy43 (by assumption) ?hr43
      case hi43 => (simp only [List.getElem?_toArray, List.getElem?_cons_succ, List.getElem?_cons_zero]; rfl)
      case hq43 => exact fun _ _ _ h => h
      case hy43 => exact Or.inr ⟨by rfl, rfl⟩
      simp only [Act.put, List.setIfInBounds_toArray, List.set_cons_zero, List.set_cons_succ]
      refine wpAnyH_take (i := 21) (oi := ?o44) (v := undef) ?hi44 (by kernel_rfl) (by kernel_rfl) (by kernel_rfl) ?hq44 ?hy44 (by assumption) ?hr44
      case hi44 => (simp only [List.getElem?_toArray, List.getElem?_cons_succ, List.getElem?_cons_zero]; rfl)
      case hq44 => exact fun _ _ _ h => h
      case hy44 => exact Or.inr ⟨by rfl, rfl⟩
      simp only [Act.put, List.setIfInBounds_toArray, List.set_cons_zero, List.set_cons_succ]
      refine wpAnyH_take (i := 22) (oi := ?o45) (v := undef) ?hi45 (by kernel_rfl) (by kernel_rfl) (by kernel_rfl) ?hq45 ?hy45 (by assumption) ?hr45
      case hi45 => (simp only [List.getElem?_toArray, List.getElem?_cons_succ, List.getElem?_cons_zero]; rfl)
      case hq45 => exact fun _ _ _ h => h
      case hy45 => exact Or.inr ⟨by rfl, rfl⟩
      simp only [Act.put, List.setIfInBounds_toArray, List.set_cons_zero, List.set_cons_succ]
      refine wpAnyH_take (i := 23) (oi := ?o46) (v := undef) ?hi46 (by kernel_rfl) (by kernel_rfl) (by kernel_rfl) ?hq46 ?hy46 (by assumption) ?hr46
      case hi46 => (simp only [List.getElem?_toArray, List.getElem?_cons_succ, List.getElem?_cons_zero]; rfl)
      case hq46 => exact fun _ _ _ h => h
      case hy46 => exact Or.inr ⟨by rfl, rfl⟩
      simp only [Act.put, List.setIfInBounds_toArray, List.set_cons_zero, List.set_cons_succ]
      refine wpAnyH_take (i := 24) (oi := ?o47) (v := undef) ?hi47 (by kernel_rfl) (by kernel_rfl) (by kernel_rfl) ?hq47 ?hy47 (by assumption) ?hr47
      case hi47 => (simp only [List.getElem?_toArray, List.getElem?_cons_succ, List.getElem?_cons_zero]; rfl)
      case hq47 => exact fun _ _ _ h => h
      case hy47 => exact Or.inr ⟨by rfl, rfl⟩
      simp only [Act.put, List.setIfInBounds_toArray, List.set_cons_zero, List.set_cons_succ]
      refine wpAnyH_take (i := 25) (oi := ?o48) (v := undef) ?hi48 (by kernel_rfl) (by kernel_rfl) (by kernel_rfl) ?hq48 ?hy48 (by assumption) ?hr48
      case hi48 => (simp only [List.getElem?_toArray, List.getElem?_cons_succ, List.getElem?_cons_zero]; rfl)
      case hq48 => exact fun _ _ _ h => h
      case hy48 => exact Or.inr ⟨by rfl, rfl⟩
      simp only [Act.put, List.setIfInBounds_toArray, List.set_cons_zero, List.set_cons_succ]
      refine wpAnyH_take (i := 26) (oi := ?o49) (v := undef) ?hi49 (by kernel_rfl) (by kernel_rfl) (by kernel_rfl) ?hq49 ?hy49 (by assumption) ?hr49
      case hi49 => (simp only [List.getElem?_toArray, List.getElem?_cons_succ, List.getElem?_cons_zero]; rfl)
      case hq49 => exact fun _ _ _ h => h
      case hy49 => exact Or.inr ⟨by rfl, rfl⟩
      simp only [Act.put, List.setIfInBounds_toArray, List.set_cons_zero, List.set_cons_succ]
      refine wpAnyH_take (i := 27) (oi := ?o50) (v := undef) ?hi50 (by kernel_rfl) (by kernel_rfl) (by kernel_rfl) ?hq50 ?hy50 (by assumption) ?hr50
      case hi50 => (simp only [List.getElem?_toArray, List.getElem?_cons_succ, List.getElem?_cons_zero]; rfl)
      case hq50 => exact fun _ _ _ h => h
      case hy50 => exact Or.inr ⟨by rfl, rfl⟩
      simp only [Act.put, List.setIfInBounds_toArray, List.set_cons_zero, List.set_cons_succ]
      refine wpAnyH_take (i := 28) (oi := ?o51) (v := undef) ?hi51 (by kernel_rfl) (by kernel_rfl) (by kernel_rfl) ?hq51 ?hy51 (by assumption) ?hr51
      case hi51 => (simp only [List.getElem?_toArray, List.getElem?_cons_succ, List.getElem?_cons_zero]; rfl)
      case hq51 => exact fun _ _ _ h => h
      case hy51 => exact Or.inr ⟨by rfl, rfl⟩
      simp only [Act.put, List.setIfInBounds_toArray, List.set_cons_zero, List.set_cons_succ]
      refine wpAnyH_take (i := 29) (oi := ?o52) (v := ?hv52) ?hi52 (by kernel_rfl) (by kernel_rfl) (by kernel_rfl) ?hq52 ?hy52 (by assumption) ?hr52
      case hi52 => (simp only [List.getElem?_toArray, List.getElem?_cons_succ, List.getElem?_cons_zero]; rfl)
      case hq52 => exact fun _ _ _ h => h
      case hy52 => exact Or.inl ⟨by rfl, by intro w hSw; (try dsimp only at hSw); go_simp; try with_reducible rfl⟩
      simp only [Act.put, List.setIfInBounds_toArray, List.set_cons_zero, List.set_cons_succ]
      refine wpAnyH_take (i := 30) (oi := ?o53) (v := ?hv53) ?hi53 (by kernel_rfl) (by kernel_rfl) (by kernel_rfl) ?hq53 ?hy53 (by assumption) ?hr53
      case hi53 => (simp only [List.getElem?_toArray, List.getElem?_cons_succ, List.getElem?_cons_zero]; rfl)
      case hq53 => exact fun _ _ _ h => h
      case hy53 => exact Or.inl ⟨by rfl, by intro w hSw; (try dsimp only at hSw); go_simp; try with_reducible rfl⟩
      simp only [Act.put, List.setIfInBounds_toArray, List.set_cons_zero, List.set_cons_succ]
      refine wpAnyH_done (by kernel_rfl) ?_ _
      refine NoPanic.normal ?_
      go_wp2_with fail
      have hqW : Below W.heap.size W w13 := bstep hbW9 hqw13 (Nat.le_refl _)
      have hK' : w13.heap[D]? = some (.deferred (some [])) := (hqW.block D hDl).trans hK
      refine ⟨by simp, .inl ⟨_, _, rfl, run_takeDeferred hK', ?_⟩⟩
      refine ⟨_, results_tmp rfl _ _ _, rfl, ?_⟩
      exact ((hbw3.trans (hB.mono (by omega))).trans (hqW.mono (by omega))).trans (belowK_b (w := w) (Nat.le_refl _) _ D _ _ (by omega) hK' rfl rfl)
    · have hh1 := Lib.hid hh1p
      obtain ⟨h2, hh2p⟩ : ∃ h2, hearsC N m2 D2 = h2 := ⟨_, rfl⟩
      have hh2 := Lib.hid hh2p
      obtain rfl : r = !h2 := by rw [hrr.out, hh1p, hh2p]; rfl
      clear hh1p hh2p
      refine wp_region_noPanic ?_
      refine wp_region_held_drew (S := (fun W' => W'.cell? ⟨w.heap.size, 0, none⟩ = some (.int .i64 N.k) ∧ W'.cell? ⟨w.heap.size, 1, none⟩ = some (.slice N.Ap N.np N.cp) ∧ W'.cell? ⟨w.heap.size, 2, none⟩ = some (.int .i64 N.z) ∧ W'.cell? ⟨w.heap.size, 3, none⟩ = some (.int .i64 N.h) ∧ W'.cell? ⟨w.heap.size, 4, none⟩ = some (.slice N.Al N.nl N.cl) ∧ W'.cell? ⟨w.heap.size, 5, none⟩ = some (.slice (some ⟨bm, om, none⟩) N.nm N.cm) ∧ W'.cell? ⟨W.heap.size, 0, none⟩ = some (.int .i64 q.s) ∧ W'.cell? ⟨W.heap.size, 1, none⟩ = some (.int .i64 q.o) ∧ W'.cell? ⟨W.heap.size, 2, none⟩ = some (.int .i64 q.f) ∧ W'.cell? ⟨W.heap.size, 3, none⟩ = some (.int .i64 q.t) ∧ W'.cell? ⟨W.heap.size, 4, none⟩ = some (.int .i64 q.w) ∧ W'.cell? ⟨bm, om + ti, none⟩ = some (.int .i64 m1) ∧ W'.cell? ⟨bm, om + bi, none⟩ = some (.int .i64 m2) ∧ W'.cell? ⟨(w.heap.size + 1 + 1 + 1), 0, none⟩ = some (.slice (some ⟨bs, os, none⟩) (shareC q cs).length c2) ∧ W'.cell? ⟨(w.heap.size + 1 + 1 + 1 + 1), 0, none⟩ = some (.int .i64 a))) (by kernel_rfl) (hk11.out _ hqw11.drew) (fun hHeld => ?_)
      refine wpAnyH_take (i := 0) (oi := ?o54) (v := ?hv54) ?hi54 (by kernel_rfl) (by kernel_rfl) (by kernel_rfl) ?hq54 ?hy54 (by assumption) ?hr54
      case hi54 => (simp only [List.getElem?_toArray, List.getElem?_cons_zero]; rfl)
      case hq54 => exact fun _ _ _ h => h
      case hy54 => exact Or.inl ⟨by rfl, by intro w hSw; (try dsimp only at hSw); go_simp; try with_reducible rfl⟩
      simp only [Act.put, List.setIfInBounds_toArray, List.set_cons_zero, List.set_cons_succ]
      refine wpAnyH_take (i := 1) (oi := ?o55) (v := ?hv55) ?hi55 (by kernel_rfl) (by kernel_rfl) (by kernel_rfl) ?hq55 ?hy55 (by assumption) ?hr55
      case hi55 => (simp only [List.getElem?_toArray, List.getElem?_cons_succ, List.getElem?_cons_zero]; rfl)
      case hq55 => exact fun _ _ _ h => h
      case hy55 => exact Or.inl ⟨by rfl, by intro w hSw; (try dsimp only at hSw); go_simp; try with_reducible rfl⟩
      simp only [Act.put, List.setIfInBounds_toArray, List.set_cons_zero, List.set_cons_succ]
      refine wpAnyH_take (i := 2) (oi := ?o56) (v := ?hv56) ?hi56 (by kernel_rfl) (by kernel_rfl) (by kernel_rfl) ?hq56 ?hy56 (by assumption) ?hr56
      case hi56 => (simp only [List.getElem?_toArray, List.getElem?_cons_succ, List.getElem?_cons_zero]; rfl)
      case hq56 => exact fun _ _ _ h => h
      case hy56 => exact Or.inl ⟨by rfl, by intro w hSw; (try dsimp only at hSw); go_simp; try with_reducible rfl⟩
      simp only [Act.put, List.setIfInBounds_toArray, List.set_cons_zero, List.set_cons_succ]
      refine wpAnyH_take (i := 3) (oi := ?o57) (v := ?hv57) ?hi57 (by kernel_rfl) (by kernel_rfl) (by kernel_rfl) ?hq57 ?hy57 (by assumption) ?hr57
      case hi57 => (simp only [List.getElem?_toArray, List.getElem?_cons_succ, List.getElem?_cons_zero]; rfl)
      case hq57 => exact fun _ _ _ h => h
      case hy57 => exact Or.inl ⟨by rfl, by intro w hSw; (try dsimp only at hSw); go_simp; try with_reducible rfl⟩
      simp only [Act.put, List.setIfInBounds_toArray, List.set_cons_zero, List.set_cons_succ]
      refine wpAnyH_take (i := 4) (oi := ?o58) (v := ?hv58) ?hi58 (by kernel_rfl) (by kernel_rfl) (by kernel_rfl) ?hq58 ?hy58 (by assumption) ?hr58
      case hi58 => (simp only [List.getElem?_toArray, List.getElem?_cons_succ, List.getElem?_cons_zero]; rfl)
      case hq58 => exact fun _ _ _ h => h
      case hy58 => exact Or.inl ⟨by rfl, by intro w hSw; (try dsimp only at hSw); go_simp; try with_reducible rfl⟩
      simp only [Act.put, List.setIfInBounds_toArray, List.set_cons_zero, List.set_cons_succ]
      refine wpAnyH_take (i := 5) (oi := ?o59) (v := ?hv59) ?hi59 (by kernel_rfl) (by kernel_rfl) (by kernel_rfl) ?hq59 ?hy59 (by assumption) ?hr59
      case hi59 => (simp only [List.getElem?_toArray, List.getElem?_cons_succ, List.getElem?_cons_zero]; rfl)
      case hq59 => exact fun _ _ _ h => h
      case hy59 => exact Or.inl ⟨by rfl, by intro w hSw; (try dsimp only at hSw); go_simp; try with_reducible rfl⟩
      simp only [Act.put, List.setIfInBounds_toArray, List.set_cons_zero, List.set_cons_succ]
      refine wpAnyH_take (i := 6) (oi := ?o60) (v := ?hv60) ?hi60 (by kernel_rfl) (by kernel_rfl) (by kernel_rfl) ?hq60 ?hy60 (by assumption) ?hr60
      case hi60 => (simp only [List.getElem?_toArray, List.getElem?_cons_succ, List.getElem?_cons_zero]; rfl)
      case hq60 => exact fun _ _ _ h => h
      case hy60 => exact Or.inl ⟨by rfl, by intro w hSw; (try dsimp only at hSw); go_simp; try with_reducible rfl⟩
      simp only [Act.put, List.setIfInBounds_toArray, List.set_cons_zero, List.set_cons_succ]
      refine wpAnyH_take (i := 7) (oi := ?o61) (v := ?hv61) ?hi61 (by kernel_rfl) (by kernel_rfl) (by kernel_rfl) ?hq61 ?hy61 (by assumption) ?hr61
      case hi61 => (simp only [List.getElem?_toArray, List.getElem?_cons_succ, List.getElem?_cons_zero]; rfl)
      case hq61 => exact fun _ _ _ h => h
      case hy61 => exact Or.inl ⟨by rfl, by intro w hSw; (try dsimp only at hSw); go_simp; try with_reducible rfl⟩
      simp only [Act.put, List.setIfInBounds_toArray, List.set_cons_zero, List.set_cons_succ]
      refine wpAnyH_take (i := 8) (oi := ?o62) (v := ?hv62) ?hi62 (by kernel_rfl) (by kernel_rfl) (by kernel_rfl) ?hq62 ?hy62 (by assumption) ?hr62
      case hi62 => (simp only [List.getElem?_toArray, List.getElem?_cons_succ, List.getElem?_cons_zero]; rfl)
      case hq62 => exact fun _ _ _ h => h
      case hy62 => exact Or.inl ⟨by rfl, by intro w hSw; (try dsimp only at hSw); go_simp; try with_reducible rfl⟩
      simp only [Act.put, List.setIfInBounds_toArray, List.set_cons_zero, List.set_cons_succ]
      refine wpAnyH_take (i := 9) (oi := ?o63) (v := ?hv63) ?hi63 (by kernel_rfl) (by kernel_rfl) (by kernel_rfl) ?hq63 ?hy63 (by assumption) ?hr63
      case hi63 => (simp only [List.getElem?_toArray, List.getElem?_cons_succ, List.getElem?_cons_zero]; rfl)
      case hq63 => exact fun _ _ _ h => h
      case hy63 => exact Or.inl ⟨by rfl, by intro w hSw; (try dsimp only at hSw); go_simp; try with_reducible rfl⟩
      simp only [Act.put, List.setIfInBounds_toArray, List.set_cons_zero, List.set_cons_succ]
      refine wpAnyH_take (i := 10) (oi := ?o64) (v := ?hv64) ?hi64 (by kernel_rfl) (by kernel_rfl) (by kernel_rfl) ?hq64 ?hy64 (by assumption) ?hr64
      case hi64 => (simp only [List.getElem?_toArray, List.getElem?_cons_succ, List.getElem?_cons_zero]; rfl)
      case hq64 => exact fun _ _ _ h => h
      case hy64 => exact Or.inl ⟨by rfl, by intro w hSw; (try dsimp only at hSw); go_simp; try with_reducible rfl⟩
      simp only [Act.put, List.setIfInBounds_toArray, List.set_cons_zero, List.set_cons_succ]
      have hc := fun W (hW : Hid (NetM W W.heap.size N)) (hW2 : Hid (Cells W W.heap.size (some ⟨bs, os, none⟩) (shareC q cs).length (shareC q cs))) => Dist_I N hv hV hsm (some ⟨bs, os, none⟩) (shareC q cs).length c2 (shareC q cs) (by omega) hcs.out a q.t hal hqt0 hqt1 D1 hD1 W hW hW2
      simp only [hAm'.out] at hc
      refine wpAnyH_ready (rs := [11]) (by kernel_rfl) (by simp) ?_
      refine (AllReadyH.cons (o := ?o65) ?hi65 (fun K hK => ?hr65) AllReadyH.nil)
      case hi65 => (simp only [List.getElem?_toArray, List.getElem?_cons_succ, List.getElem?_cons_zero]; rfl)
      go_simp
      refine (hc _ (by exact Lib.hid ((hM9.out.below hqw11.drew).more (hqw11.drew).size)) (by exact Lib.hid ((hC9.out.below hqw11.drew).more (hqw11.drew).size))).mono ?_
      rintro e w12 ⟨rfl, hbw12⟩
      have hqw12 : Below W9.heap.size W9 w12 := bstep hqw11.drew hbw12 (Nat.le_refl _)
      go_wp2_with fail
      refine hK.out _ _ ?_ (fun hHeld => ?_)
      · exact hk11.out _ hqw12
      clear hK K
      try simp only [Act.put, List.setIfInBounds_toArray, List.set_cons_zero, List.set_cons_succ]
      clear hc
      have hc := fun W (hW : NetM W W.heap.size N) => Hears_lit N m1 D1 hm10 hm11 hD10 hv.out hV.out hsm true hh1.out W hW
      simp only [hAm'.out] at hc
      refine wpAnyH_ready (rs := [12]) (by kernel_rfl) (by simp) ?_
      refine (AllReadyH.cons (o := ?o66) ?hi66 (fun K hK => ?hr66) AllReadyH.nil)
      case hi66 => (simp only [List.getElem?_toArray, List.getElem?_cons_succ, List.getElem?_cons_zero]; rfl)
      go_simp
      refine (hc _ (by exact ((hM9.out.below hqw12).more (hqw12).size))).mono ?_
      rintro e w13 ⟨rfl, hbw13⟩
      have hqw13 : Below W9.heap.size W9 w13 := bstep hqw12 hbw13 (Nat.le_refl _)
      go_wp2_with fail
      refine hK.out _ _ ?_ (fun hHeld => ?_)
      · exact hk11.out _ hqw13
      clear hK K
      try simp only [Act.put, List.setIfInBounds_toArray, List.set_cons_zero, List.set_cons_succ]
      clear hc
      refine wpAnyH_take (i := 13) (oi := ?o67) (v := ?hv67) ?hi67 (by kernel_rfl) (by kernel_rfl) (by kernel_rfl) ?hq67 ?hy67 (by assumption) ?hr67
      case hi67 => (simp only [List.getElem?_toArray, List.getElem?_cons_succ, List.getElem?_cons_zero]; rfl)
      case hq67 => exact fun _ _ _ h => h
      case hy67 => exact Or.inl ⟨by rfl, by intro w hSw; (try dsimp only at hSw); go_simp; try with_reducible rfl⟩
      simp only [Act.put, List.setIfInBounds_toArray, List.set_cons_zero, List.set_cons_succ]
      refine wpAnyH_take (i := 14) (oi := ?o68) (v := ?hv68) ?hi68 (by kernel_rfl) (by kernel_rfl) (by kernel_rfl) ?hq68 ?hy68 (by assumption) ?hr68
      case hi68 => (simp only [List.getElem?_toArray, List.getElem?_cons_succ, List.getElem?_cons_zero]; rfl)
      case hq68 => exact fun _ _ _ h => h
      case hy68 => exact Or.inl ⟨by rfl, by intro w hSw; (try dsimp only at hSw); go_simp; try with_reducible rfl⟩
      simp only [Act.put, List.setIfInBounds_toArray, List.set_cons_zero, List.set_cons_succ]
      refine wpAnyH_take (i := 15) (oi := ?o69) (v := ?hv69) ?hi69 (by kernel_rfl) (by kernel_rfl) (by kernel_rfl) ?hq69 ?hy69 (by assumption) ?hr69
      case hi69 => (simp only [List.getElem?_toArray, List.getElem?_cons_succ, List.getElem?_cons_zero]; rfl)
      case hq69 => exact fun _ _ _ h => h
      case hy69 => exact Or.inl ⟨by rfl, by intro w hSw; (try dsimp only at hSw); go_simp; try with_reducible rfl⟩
      simp only [Act.put, List.setIfInBounds_toArray, List.set_cons_zero, List.set_cons_succ]
      refine wpAnyH_take (i := 16) (oi := ?o70) (v := ?hv70) ?hi70 (by kernel_rfl) (by kernel_rfl) (by kernel_rfl) ?hq70 ?hy70 (by assumption) ?hr70
      case hi70 => (simp only [List.getElem?_toArray, List.getElem?_cons_succ, List.getElem?_cons_zero]; rfl)
      case hq70 => exact fun _ _ _ h => h
      case hy70 => exact Or.inl ⟨by rfl, by intro w hSw; (try dsimp only at hSw); go_simp; try with_reducible rfl⟩
      simp only [Act.put, List.setIfInBounds_toArray, List.set_cons_zero, List.set_cons_succ]
      refine wpAnyH_take (i := 17) (oi := ?o71) (v := ?hv71) ?hi71 (by kernel_rfl) (by kernel_rfl) (by kernel_rfl) ?hq71 ?hy71 (by assumption) ?hr71
      case hi71 => (simp only [List.getElem?_toArray, List.getElem?_cons_succ, List.getElem?_cons_zero]; rfl)
      case hq71 => exact fun _ _ _ h => h
      case hy71 => exact Or.inl ⟨by rfl, by intro w hSw; (try dsimp only at hSw); go_simp; try with_reducible rfl⟩
      simp only [Act.put, List.setIfInBounds_toArray, List.set_cons_zero, List.set_cons_succ]
      refine wpAnyH_take (i := 18) (oi := ?o72) (v := ?hv72) ?hi72 (by kernel_rfl) (by kernel_rfl) (by kernel_rfl) ?hq72 ?hy72 (by assumption) ?hr72
      case hi72 => (simp only [List.getElem?_toArray, List.getElem?_cons_succ, List.getElem?_cons_zero]; rfl)
      case hq72 => exact fun _ _ _ h => h
      case hy72 => exact Or.inl ⟨by rfl, by intro w hSw; (try dsimp only at hSw); go_simp; try with_reducible rfl⟩
      simp only [Act.put, List.setIfInBounds_toArray, List.set_cons_zero, List.set_cons_succ]
      refine wpAnyH_take (i := 19) (oi := ?o73) (v := ?hv73) ?hi73 (by kernel_rfl) (by kernel_rfl) (by kernel_rfl) ?hq73 ?hy73 (by assumption) ?hr73
      case hi73 => (simp only [List.getElem?_toArray, List.getElem?_cons_succ, List.getElem?_cons_zero]; rfl)
      case hq73 => exact fun _ _ _ h => h
      case hy73 => exact Or.inl ⟨by rfl, by intro w hSw; (try dsimp only at hSw); go_simp; try with_reducible rfl⟩
      simp only [Act.put, List.setIfInBounds_toArray, List.set_cons_zero, List.set_cons_succ]
      refine wpAnyH_take (i := 20) (oi := ?o74) (v := ?hv74) ?hi74 (by kernel_rfl) (by kernel_rfl) (by kernel_rfl) ?hq74 ?hy74 (by assumption) ?hr74
      case hi74 => (simp only [List.getElem?_toArray, List.getElem?_cons_succ, List.getElem?_cons_zero]; rfl)
      case hq74 => exact fun _ _ _ h => h
      case hy74 => exact Or.inl ⟨by rfl, by intro w hSw; (try dsimp only at hSw); go_simp; try with_reducible rfl⟩
      simp only [Act.put, List.setIfInBounds_toArray, List.set_cons_zero, List.set_cons_succ]
      refine wpAnyH_take (i := 21) (oi := ?o75) (v := ?hv75) ?hi75 (by kernel_rfl) (by kernel_rfl) (by kernel_rfl) ?hq75 ?hy75 (by assumption) ?hr75
      case hi75 => (simp only [List.getElem?_toArray, List.getElem?_cons_succ, List.getElem?_cons_zero]; rfl)
      case hq75 => exact fun _ _ _ h => h
      case hy75 => exact Or.inl ⟨by rfl, by intro w hSw; (try dsimp only at hSw); go_simp; try with_reducible rfl⟩
      simp only [Act.put, List.setIfInBounds_toArray, List.set_cons_zero, List.set_cons_succ]
      refine wpAnyH_take (i := 22) (oi := ?o76) (v := ?hv76) ?hi76 (by kernel_rfl) (by kernel_rfl) (by kernel_rfl) ?hq76 ?hy76 (by assumption) ?hr76
      case hi76 => (simp only [List.getElem?_toArray, List.getElem?_cons_succ, List.getElem?_cons_zero]; rfl)
      case hq76 => exact fun _ _ _ h => h
      case hy76 => exact Or.inl ⟨by rfl, by intro w hSw; (try dsimp only at hSw); go_simp; try with_reducible rfl⟩
      simp only [Act.put, List.setIfInBounds_toArray, List.set_cons_zero, List.set_cons_succ]
      refine wpAnyH_take (i := 23) (oi := ?o77) (v := ?hv77) ?hi77 (by kernel_rfl) (by kernel_rfl) (by kernel_rfl) ?hq77 ?hy77 (by assumption) ?hr77
      case hi77 => (simp only [List.getElem?_toArray, List.getElem?_cons_succ, List.getElem?_cons_zero]; rfl)
      case hq77 => exact fun _ _ _ h => h
      case hy77 => exact Or.inl ⟨by rfl, by intro w hSw; (try dsimp only at hSw); go_simp; try with_reducible rfl⟩
      simp only [Act.put, List.setIfInBounds_toArray, List.set_cons_zero, List.set_cons_succ]
      refine wpAnyH_take (i := 24) (oi := ?o78) (v := ?hv78) ?hi78 (by kernel_rfl) (by kernel_rfl) (by kernel_rfl) ?hq78 ?hy78 (by assumption) ?hr78
      case hi78 => (simp only [List.getElem?_toArray, List.getElem?_cons_succ, List.getElem?_cons_zero]; rfl)
      case hq78 => exact fun _ _ _ h => h
      case hy78 => exact Or.inl ⟨by rfl, by intro w hSw; (try dsimp only at hSw); go_simp; try with_reducible rfl⟩
      simp only [Act.put, List.setIfInBounds_toArray, List.set_cons_zero, List.set_cons_succ]
      refine wpAnyH_take (i := 25) (oi := ?o79) (v := ?hv79) ?hi79 (by kernel_rfl) (by kernel_rfl) (by kernel_rfl) ?hq79 ?hy79 (by assumption) ?hr79
      case hi79 => (simp only [List.getElem?_toArray, List.getElem?_cons_succ, List.getElem?_cons_zero]; rfl)
      case hq79 => exact fun _ _ _ h => h
      case hy79 => exact Or.inl ⟨by rfl, by intro w hSw; (try dsimp only at hSw); go_simp; try with_reducible rfl⟩
      simp only [Act.put, List.setIfInBounds_toArray, List.set_cons_zero, List.set_cons_succ]
      have hc := fun W (hW : Hid (NetM W W.heap.size N)) (hW2 : Hid (Cells W W.heap.size (some ⟨bs, os, none⟩) (shareC q cs).length (shareC q cs))) => Dist_I N hv hV hsm (some ⟨bs, os, none⟩) (shareC q cs).length c2 (shareC q cs) (by omega) hcs.out a q.f hal hqf0 hqf1 D2 hD2 W hW hW2
      simp only [hAm'.out] at hc
      refine wpAnyH_ready (rs := [26]) (by kernel_rfl) (by simp) ?_
      refine (AllReadyH.cons (o := ?o80) ?hi80 (fun K hK => ?hr80) AllReadyH.nil)
      case hi80 => (simp only [List.getElem?_toArray, List.getElem?_cons_succ, List.getElem?_cons_zero]; rfl)
      go_simp
      refine (hc _ (by exact Lib.hid ((hM9.out.below hqw13).more (hqw13).size)) (by exact Lib.hid ((hC9.out.below hqw13).more (hqw13).size))).mono ?_
      rintro e w14 ⟨rfl, hbw14⟩
      have hqw14 : Below W9.heap.size W9 w14 := bstep hqw13 hbw14 (Nat.le_refl _)
      go_wp2_with fail
      refine hK.out _ _ ?_ (fun hHeld => ?_)
      · exact hk11.out _ hqw14
      clear hK K
      try simp only [Act.put, List.setIfInBounds_toArray, List.set_cons_zero, List.set_cons_succ]
      clear hc
      have hc := fun W (hW : NetM W W.heap.size N) => Hears_lit N m2 D2 hm20 hm21 hD20 hv.out hV.out hsm h2 hh2.out W hW
      simp only [hAm'.out] at hc
      refine wpAnyH_ready (rs := [27]) (by kernel_rfl) (by simp) ?_
      refine (AllReadyH.cons (o := ?o81) ?hi81 (fun K hK => ?hr81) AllReadyH.nil)
      case hi81 => (simp only [List.getElem?_toArray, List.getElem?_cons_succ, List.getElem?_cons_zero]; rfl)
      go_simp
      refine (hc _ (by exact ((hM9.out.below hqw14).more (hqw14).size))).mono ?_
      rintro e w15 ⟨rfl, hbw15⟩
      have hqw15 : Below W9.heap.size W9 w15 := bstep hqw14 hbw15 (Nat.le_refl _)
      go_wp2_with fail
      refine hK.out _ _ ?_ (fun hHeld => ?_)
      · exact hk11.out _ hqw15
      clear hK K
      try simp only [Act.put, List.setIfInBounds_toArray, List.set_cons_zero, List.set_cons_succ]
      clear hc
      refine wpAnyH_take (i := 28) (oi := ?o82) (v := ?hv82) ?hi82 (by kernel_rfl) (by kernel_rfl) (by kernel_rfl) ?hq82 ?hy82 (by assumption) ?hr82
      case hi82 => (simp only [List.getElem?_toArray, List.getElem?_cons_succ, List.getElem?_cons_zero]; rfl)
      case hq82 => exact fun _ _ _ h => h
      case hy82 => exact Or.inl ⟨by rfl, by intro w hSw; (try dsimp only at hSw); go_simp; try with_reducible rfl⟩
      simp only [Act.put, List.setIfInBounds_toArray, List.set_cons_zero, List.set_cons_succ]
      refine wpAnyH_take (i := 29) (oi := ?o83) (v := ?hv83) ?hi83 (by kernel_rfl) (by kernel_rfl) (by kernel_rfl) ?hq83 ?hy83 (by assumption) ?hr83
      case hi83 => (simp only [List.getElem?_toArray, List.getElem?_cons_succ, List.getElem?_cons_zero]; rfl)
      case hq83 => exact fun _ _ _ h => h
      case hy83 => exact Or.inl ⟨by rfl, by intro w hSw; (try dsimp only at hSw); go_simp; try with_reducible rfl⟩
      simp only [Act.put, List.setIfInBounds_toArray, List.set_cons_zero, List.set_cons_succ]
      refine wpAnyH_take (i := 30) (oi := ?o84) (v := ?hv84) ?hi84 (by kernel_rfl) (by kernel_rfl) (by kernel_rfl) ?hq84 ?hy84 (by assumption) ?hr84
      case hi84 => (simp only [List.getElem?_toArray, List.getElem?_cons_succ, List.getElem?_cons_zero]; rfl)
      case hq84 => exact fun _ _ _ h => h
      case hy84 => exact Or.inl ⟨by rfl, by intro w hSw; (try dsimp only at hSw); go_simp; try with_reducible rfl⟩
      simp only [Act.put, List.setIfInBounds_toArray, List.set_cons_zero, List.set_cons_succ]
      refine wpAnyH_done (by kernel_rfl) ?_ _
      refine NoPanic.normal ?_
      go_wp2_with fail
      have hqW : Below W.heap.size W w15 := bstep hbW9 hqw15 (Nat.le_refl _)
      have hK' : w15.heap[D]? = some (.deferred (some [])) := (hqW.block D hDl).trans hK
      refine ⟨by simp, .inl ⟨_, _, rfl, run_takeDeferred hK', ?_⟩⟩
      refine ⟨_, results_tmp rfl _ _ _, rfl, ?_⟩
      exact ((hbw3.trans (hB.mono (by omega))).trans (hqW.mono (by omega))).trans (belowK_b (w := w) (Nat.le_refl _) _ D _ _ (by omega) hK' rfl rfl)
  case stop =>
    rintro D c pre W _ _ h _
    exact h.elim
end Go.Proofs.YtnddjcadkbjjhaaGreatDoor
