/-
  CHAPTER 35: checkCells.
-/
import Derived.Test.YtnddjcadkbjjhaaGreatDoorNh
namespace Go.Proofs.YtnddjcadkbjjhaaGreatDoor
open Go.RowKit

/-- A cell whose link is not usable, or whose flow is not there. -/
def lostB (N : NT) (fs : List F6) (c : C5) : Bool := !usableI N (findL N.ls c.f c.t) || decide (findF fs c.w < 0)
def lateC (p : Option C5) (c : C5) : Bool := match p with | none => false | some q => decide (0 ≤ cmpC q c)
def cellE (N : NT) (fs : List F6) (L O : Int) (p : Option C5) (c : C5) : Int := if placedB L O c = false then 2 else if lostB N fs c = true then 7 else if lateC p c = true then 5 else 0
/-- The first fault of cells on their own. -/
def cellsR (N : NT) (fs : List F6) (L O : Int) : Nat → Option C5 → List C5 → Int × Int
  | _, _, [] => (-1, 0)
  | k, p, c :: r => if cellE N fs L O p c = 0 then cellsR N fs L O (k + 1) (some c) r else ((k : Int), cellE N fs L O p c)
theorem cellsR_drop (N : NT) (fs : List F6) (L O : Int) (cs : List C5) (k : Nat) (c : C5) (h : cs[k]? = some c) : cellsR N fs L O k (prevAt cs k) (cs.drop k) = if cellE N fs L O (prevAt cs k) c = 0 then cellsR N fs L O (k + 1) (prevAt cs (k + 1)) (cs.drop (k + 1)) else ((k : Int), cellE N fs L O (prevAt cs k) c) := by
  obtain ⟨h1, e1⟩ := List.getElem?_eq_some_iff.1 h
  rw [List.drop_eq_getElem_cons h1, e1]
  show _ = if _ then cellsR N fs L O (k + 1) (cs[k]?) _ else _
  rw [h]; rfl
theorem boxNS (w : World) (N : NT) (L O : Int) (V : Value) : Below w.heap.size w ((w.alloc (ONT N)).alloc (N30 L O V)) ∧ BoxNT ((w.alloc (ONT N)).alloc (N30 L O V)) w.heap.size N ∧ BoxS ((w.alloc (ONT N)).alloc (N30 L O V)) (w.heap.size + 1) L O V ∧ w.heap.size + 1 < ((w.alloc (ONT N)).alloc (N30 L O V)).heap.size := by
  refine ⟨bstep (alloc_below _ _) (alloc_below _ _) (Nat.le_refl _), (BoxNT.new N w).below (alloc_below _ _) (by simp), ?_, by simp⟩
  have := BoxS.new L O V 30 (w.alloc (ONT N))
  rwa [World.size_alloc] at this
set_option maxHeartbeats 8000000 in
set_option maxRecDepth 100000 in
theorem cells_lit (N : NT) (hv : Hid (netE N = 0)) (hV : Hid (NetV N)) (hsm : N.small) (A' : Option Addr) (n' c' : Nat) (fs : List F6) (hn' : n' ≤ 1000000) (L O : Int) (A : Option Addr) (n c : Nat) (cs : List C5) (hn : n ≤ 1000000) (R : Int × Int) (hR : Hid (cellsR N fs L O 0 none cs = R)) (w : World) (hN : Hid (NetM w w.heap.size N)) (hF : Hid (Flows w w.heap.size A' n' fs)) (hcs : Hid (Cells w w.heap.size A n cs)) :
    Calls Tryz.prog 43 #[.agg #[.int .i64 N.k, .slice N.Ap N.np N.cp, .int .i64 N.z, .int .i64 N.h, .slice N.Al N.nl N.cl, .slice N.Am N.nm N.cm], .slice A' n' c', .agg #[.int .i64 L, .int .i64 O, .slice A n c]] w fun e w' => e = .returned (.tuple #[.int .i64 R.1, .int .i64 R.2]) ∧ Below w.heap.size w w' := by
  obtain ⟨hb0, hN0', hS0', hSl0⟩ := boxNS w N L O (.slice A n c)
  have hN0 := Lib.hid hN0'
  have hS0 := Lib.hid hS0'
  have hM0 := Lib.hid ((hN.out.below hb0).more hb0.size)
  have hF0 := Lib.hid ((hF.out.below hb0).more hb0.size)
  have hC0 := Lib.hid ((hcs.out.below hb0).more hb0.size)
  have hl := hcs.out.1
  have hsr := Lib.hid hV.out.srt
  clear hN0' hS0' hN hF hcs
  go_enter Tryz.func43, Tryz.ntmps43
  go_upto_region 1 with fail
  revert hb0 hSl0 hN0 hS0 hM0 hF0 hC0
  generalize (w.alloc (ONT N)).alloc (N30 L O (.slice A n c)) = w1
  intro hb0 hSl0 hN0 hS0 hM0 hF0 hC0
  obtain ⟨s0, s1, s2⟩ := id hS0.out
  go_wp2_with fail
  clear s0 s1 s2
  go_loopw [13] (fun i wx => ∃ k : Nat, k ≤ n ∧ i = .int .i64 k ∧ Below w1.heap.size w1 wx ∧ Hid (cellsR N fs L O k (prevAt cs k) (cs.drop k) = R)) (fun i _ => n - (intOf i).toNat)
  case atStart => exact ⟨0, Nat.zero_le _, rfl, Below.refl _ _, hR⟩
  case round =>
    obtain ⟨k, hk, rfl, hwx, H⟩ := hrel
    by_cases hlt : k < n
    · obtain ⟨b, off, x, hA, hbx, ex, x0, x1, x2, x3, x4⟩ := (hC0.out.below hwx).at_ hlt
      subst hA
      have hd := Lib.hid (cellsR_drop N fs L O cs k x ex)
      have hk0 : (0 : Int) ≤ (k : Int) := by omega
      have hk1 : (k : Int) < (n : Int) := by omega
      have hsz := hwx.size
      have hNlr : w.heap.size < wr.heap.size := by omega
      have hSlr : w.heap.size + 1 < wr.heap.size := by omega
      have hba := alloc_below wr (N51 x)
      have hX5 := Lib.hid (Box5.new x 51 wr)
      have hXl : wr.heap.size < (wr.alloc (N51 x)).heap.size := by simp
      have hNr := hN0.out.below hwx (Nat.lt_of_succ_lt hSl0)
      have hSr := hS0.out.below hwx hSl0
      have hN5 := Lib.hid (hNr.below hba hNlr)
      have hS5 := Lib.hid (hSr.below hba hSlr)
      have hM5 := Lib.hid ((((hM0.out.below hwx).more hwx.size).below hba).more hba.size)
      have hF5 := Lib.hid ((((hF0.out.below hwx).more hwx.size).below hba).more hba.size)
      have hC5 := Lib.hid ((((hC0.out.below hwx).more hwx.size).below hba).more hba.size)
      clear hNr hSr ex
      go_upto_region 4 with fail
      clear x0 x1 x2 x3 x4
      revert hba hX5 hXl hN5 hS5 hM5 hF5 hC5
      generalize wr.alloc (N51 x) = w5
      intro hba hX5 hXl hN5 hS5 hM5 hF5 hC5
      have hNl : w.heap.size < w5.heap.size := by omega
      have hSl : w.heap.size + 1 < w5.heap.size := by omega
      obtain ⟨s0, s1, s2⟩ := id hS5.out
      obtain ⟨n0, n1, n2, n3, n4, n5⟩ := id hN5.out
      obtain ⟨x0, x1, x2, x3, x4⟩ := id hX5.out
      go_wp2_with fail
      cases hpl : placedB L O x
      · have hpl := Lib.hid hpl
        obtain rfl : R = ((k : Int), 2) := by rw [← H.out, hd.out, show cellE N fs L O (prevAt cs k) x = 2 by unfold cellE; rw [if_pos hpl.out]]; rfl
        refine (placed_lit L O _ x false hpl.out _).mono ?_
        rintro e w6 ⟨rfl, hb6⟩
        clear s0 s1 s2 n0 n1 n2 n3 n4 n5 x0 x1 x2 x3 x4
        go_wp2_with fail
        go_ret2
        exact ⟨rfl, bstep hb0 (bstep hwx (bstep hba hb6 (Nat.le_refl _)) (Nat.le_refl _)) (Nat.le_refl _)⟩
      have hpl := Lib.hid hpl
      obtain ⟨ix, hix'⟩ : ∃ ix, findL N.ls x.f x.t = ix := ⟨_, rfl⟩
      have hix := Lib.hid hix'
      clear hix'
      cases hus : usableI N ix
      · have hus := Lib.hid hus
        obtain rfl : R = ((k : Int), 7) := by rw [← H.out, hd.out, show cellE N fs L O (prevAt cs k) x = 7 by unfold cellE lostB; rw [if_neg (by rw [hpl.out]; simp), hix.out, hus.out]; rfl]; rfl
        refine (placed_lit L O _ x true hpl.out _).mono ?_
        rintro e w6 ⟨rfl, hb6⟩
        clear s0 s1 s2 n0 n1 n2 n3 n4 n5 x0 x1 x2 x3 x4
        go_wp2_with fail
        have hk6 : Hid (∀ W, Below w5.heap.size w5 W → (fun W => W.cell? ⟨w.heap.size, 0, none⟩ = some (.int .i64 N.k) ∧ W.cell? ⟨w.heap.size, 1, none⟩ = some (.slice N.Ap N.np N.cp) ∧ W.cell? ⟨w.heap.size, 2, none⟩ = some (.int .i64 N.z) ∧ W.cell? ⟨w.heap.size, 3, none⟩ = some (.int .i64 N.h) ∧ W.cell? ⟨w.heap.size, 4, none⟩ = some (.slice N.Al N.nl N.cl) ∧ W.cell? ⟨w.heap.size, 5, none⟩ = some (.slice N.Am N.nm N.cm) ∧ W.cell? ⟨wr.heap.size, 0, none⟩ = some (.int .i64 x.s) ∧ W.cell? ⟨wr.heap.size, 1, none⟩ = some (.int .i64 x.o) ∧ W.cell? ⟨wr.heap.size, 2, none⟩ = some (.int .i64 x.f) ∧ W.cell? ⟨wr.heap.size, 3, none⟩ = some (.int .i64 x.t) ∧ W.cell? ⟨wr.heap.size, 4, none⟩ = some (.int .i64 x.w)) W) := Lib.hid (fun W h => by
          obtain ⟨a0, a1, a2, a3, a4, a5⟩ := hN5.out.below h hNl
          obtain ⟨e0, e1, e2, e3, e4⟩ := hX5.out.below h hXl
          exact ⟨a0, a1, a2, a3, a4, a5, e0, e1, e2, e3, e4⟩)
        refine wp_region_held_drew (S := (fun W => W.cell? ⟨w.heap.size, 0, none⟩ = some (.int .i64 N.k) ∧ W.cell? ⟨w.heap.size, 1, none⟩ = some (.slice N.Ap N.np N.cp) ∧ W.cell? ⟨w.heap.size, 2, none⟩ = some (.int .i64 N.z) ∧ W.cell? ⟨w.heap.size, 3, none⟩ = some (.int .i64 N.h) ∧ W.cell? ⟨w.heap.size, 4, none⟩ = some (.slice N.Al N.nl N.cl) ∧ W.cell? ⟨w.heap.size, 5, none⟩ = some (.slice N.Am N.nm N.cm) ∧ W.cell? ⟨wr.heap.size, 0, none⟩ = some (.int .i64 x.s) ∧ W.cell? ⟨wr.heap.size, 1, none⟩ = some (.int .i64 x.o) ∧ W.cell? ⟨wr.heap.size, 2, none⟩ = some (.int .i64 x.f) ∧ W.cell? ⟨wr.heap.size, 3, none⟩ = some (.int .i64 x.t) ∧ W.cell? ⟨wr.heap.size, 4, none⟩ = some (.int .i64 x.w))) (by kernel_rfl) (hk6.out _ hb6.drew) (fun hHeld => ?_)
        refine wpAnyH_take (i := 0) (oi := ?o15) (v := ?hv15) ?hi15 (by kernel_rfl) (by kernel_rfl) (by kernel_rfl) ?hq15 ?hy15 (by assumption) ?hr15
        case hi15 => (simp only [List.getElem?_toArray, List.getElem?_cons_zero]; rfl)
        case hq15 => exact fun _ _ _ h => h
        case hy15 => exact Or.inl ⟨by rfl, by intro w hSw; (try dsimp only at hSw); go_simp; try with_reducible rfl⟩
        simp only [Act.put, List.setIfInBounds_toArray, List.set_cons_zero, List.set_cons_succ]
        refine wpAnyH_take (i := 1) (oi := ?o16) (v := ?hv16) ?hi16 (by kernel_rfl) (by kernel_rfl) (by kernel_rfl) ?hq16 ?hy16 (by assumption) ?hr16
        case hi16 => (simp only [List.getElem?_toArray, List.getElem?_cons_succ, List.getElem?_cons_zero]; rfl)
        case hq16 => exact fun _ _ _ h => h
        case hy16 => exact Or.inl ⟨by rfl, by intro w hSw; (try dsimp only at hSw); go_simp; try with_reducible rfl⟩
        simp only [Act.put, List.setIfInBounds_toArray, List.set_cons_zero, List.set_cons_succ]
        refine wpAnyH_take (i := 2) (oi := ?o17) (v := ?hv17) ?hi17 (by kernel_rfl) (by kernel_rfl) (by kernel_rfl) ?hq17 ?hy17 (by assumption) ?hr17
        case hi17 => (simp only [List.getElem?_toArray, List.getElem?_cons_succ, List.getElem?_cons_zero]; rfl)
        case hq17 => exact fun _ _ _ h => h
        case hy17 => exact Or.inl ⟨by rfl, by intro w hSw; (try dsimp only at hSw); go_simp; try with_reducible rfl⟩
        simp only [Act.put, List.setIfInBounds_toArray, List.set_cons_zero, List.set_cons_succ]
        refine wpAnyH_take (i := 3) (oi := ?o18) (v := ?hv18) ?hi18 (by kernel_rfl) (by kernel_rfl) (by kernel_rfl) ?hq18 ?hy18 (by assumption) ?hr18
        case hi18 => (simp only [List.getElem?_toArray, List.getElem?_cons_succ, List.getElem?_cons_zero]; rfl)
        case hq18 => exact fun _ _ _ h => h
        case hy18 => exact Or.inl ⟨by rfl, by intro w hSw; (try dsimp only at hSw); go_simp; try with_reducible rfl⟩
        simp only [Act.put, List.setIfInBounds_toArray, List.set_cons_zero, List.set_cons_succ]
        refine wpAnyH_take (i := 4) (oi := ?o19) (v := ?hv19) ?hi19 (by kernel_rfl) (by kernel_rfl) (by kernel_rfl) ?hq19 ?hy19 (by assumption) ?hr19
        case hi19 => (simp only [List.getElem?_toArray, List.getElem?_cons_succ, List.getElem?_cons_zero]; rfl)
        case hq19 => exact fun _ _ _ h => h
        case hy19 => exact Or.inl ⟨by rfl, by intro w hSw; (try dsimp only at hSw); go_simp; try with_reducible rfl⟩
        simp only [Act.put, List.setIfInBounds_toArray, List.set_cons_zero, List.set_cons_succ]
        refine wpAnyH_take (i := 5) (oi := ?o20) (v := ?hv20) ?hi20 (by kernel_rfl) (by kernel_rfl) (by kernel_rfl) ?hq20 ?hy20 (by assumption) ?hr20
        case hi20 => (simp only [List.getElem?_toArray, List.getElem?_cons_succ, List.getElem?_cons_zero]; rfl)
        case hq20 => exact fun _ _ _ h => h
        case hy20 => exact Or.inl ⟨by rfl, by intro w hSw; (try dsimp only at hSw); go_simp; try with_reducible rfl⟩
        simp only [Act.put, List.setIfInBounds_toArray, List.set_cons_zero, List.set_cons_succ]
        refine wpAnyH_ready (rs := [6]) (by kernel_rfl) (by simp) ?_
        refine (AllReadyH.cons (o := ?o21) ?hi21 (fun K hK => ?hr21) AllReadyH.nil)
        case hi21 => (simp only [List.getElem?_toArray, List.getElem?_cons_succ, List.getElem?_cons_zero]; rfl)
        go_simp
        refine (Index_lit N x.f x.t ix hix.out hv hsr.out hsm _ (by exact ((hM5.out.below hb6.drew).more hb6.drew.size))).mono ?_
        rintro e w7 ⟨rfl, hb7⟩
        have hb7d : Below w5.heap.size w5 w7 := bstep hb6.drew hb7 (Nat.le_refl _)
        go_wp2_with fail
        refine hK.out _ _ ?_ (fun hHeld => ?_)
        · exact hk6.out _ hb7d
        clear hK K
        try simp only [Act.put, List.setIfInBounds_toArray, List.set_cons_zero, List.set_cons_succ]
        refine wpAnyH_ready (rs := [7]) (by kernel_rfl) (by simp) ?_
        refine (AllReadyH.cons (o := ?o22) ?hi22 (fun K hK => ?hr22) AllReadyH.nil)
        case hi22 => (simp only [List.getElem?_toArray, List.getElem?_cons_succ, List.getElem?_cons_zero]; rfl)
        go_simp
        refine (Usable_lit N ix hv.out hV.out hsm false hus.out _ (by exact ((hM5.out.below hb7d).more hb7d.size))).mono ?_
        rintro e w8 ⟨rfl, hb8⟩
        have hb8d : Below w5.heap.size w5 w8 := bstep hb7d hb8 (Nat.le_refl _)
        go_wp2_with fail
        refine hK.out _ _ ?_ (fun hHeld => ?_)
        · exact hk6.out _ hb8d
        clear hK K
        try simp only [Act.put, List.setIfInBounds_toArray, List.set_cons_zero, List.set_cons_succ]
        refine wpAnyH_take (i := 8) (oi := ?o23) (v := ?hv23) ?hi23 (by kernel_rfl) (by kernel_rfl) (by kernel_rfl) ?hq23 ?hy23 (by assumption) ?hr23
        case hi23 => (simp only [List.getElem?_toArray, List.getElem?_cons_succ, List.getElem?_cons_zero]; rfl)
        case hq23 => exact fun _ _ _ h => h
        case hy23 => exact Or.inl ⟨by rfl, by intro w hSw; (try dsimp only at hSw); go_simp; try with_reducible rfl⟩
        simp only [Act.put, List.setIfInBounds_toArray, List.set_cons_zero, List.set_cons_succ]
        refine wpAnyH_take (i := 9) (oi := ?o24) (v := ?hv24) ?hi24 (by kernel_rfl) (by kernel_rfl) (by kernel_rfl) ?hq24 ?hy24 (by assumption) ?hr24
        case hi24 => (simp only [List.getElem?_toArray, List.getElem?_cons_succ, List.getElem?_cons_zero]; rfl)
        case hq24 => exact fun _ _ _ h => h
        case hy24 => exact Or.inl ⟨by rfl, by intro w hSw; (try dsimp only at hSw); go_simp; try with_reducible rfl⟩
        simp only [Act.put, List.setIfInBounds_toArray, List.set_cons_zero, List.set_cons_succ]
        refine wpAnyH_take (i := 10) (oi := ?o25) (v := undef) ?hi25 (by kernel_rfl) (by kernel_rfl) (by kernel_rfl) ?hq25 ?hy25 (by assumption) ?hr25
        case hi25 => (simp only [List.getElem?_toArray, List.getElem?_cons_succ, List.getElem?_cons_zero]; rfl)
        case hq25 => exact fun _ _ _ h => h
        case hy25 => exact Or.inr ⟨by rfl, rfl⟩
        simp only [Act.put, List.setIfInBounds_toArray, List.set_cons_zero, List.set_cons_succ]
        refine wpAnyH_take (i := 11) (oi := ?o26) (v := undef) ?hi26 (by kernel_rfl) (by kernel_rfl) (by kernel_rfl) ?hq26 ?hy26 (by assumption) ?hr26
        case hi26 => (simp only [List.getElem?_toArray, List.getElem?_cons_succ, List.getElem?_cons_zero]; rfl)
        case hq26 => exact fun _ _ _ h => h
        case hy26 => exact Or.inr ⟨by rfl, rfl⟩
        simp only [Act.put, List.setIfInBounds_toArray, List.set_cons_zero, List.set_cons_succ]
        refine wpAnyH_take (i := 12) (oi := ?o27) (v := undef) ?hi27 (by kernel_rfl) (by kernel_rfl) (by kernel_rfl) ?hq27 ?hy27 (by assumption) ?hr27
        case hi27 => (simp only [List.getElem?_toArray, List.getElem?_cons_succ, List.getElem?_cons_zero]; rfl)
        case hq27 => exact fun _ _ _ h => h
        case hy27 => exact Or.inr ⟨by rfl, rfl⟩
        simp only [Act.put, List.setIfInBounds_toArray, List.set_cons_zero, List.set_cons_succ]
        refine wpAnyH_take (i := 13) (oi := ?o28) (v := undef) ?hi28 (by kernel_rfl) (by kernel_rfl) (by kernel_rfl) ?hq28 ?hy28 (by assumption) ?hr28
        case hi28 => (simp only [List.getElem?_toArray, List.getElem?_cons_succ, List.getElem?_cons_zero]; rfl)
        case hq28 => exact fun _ _ _ h => h
        case hy28 => exact Or.inr ⟨by rfl, rfl⟩
        simp only [Act.put, List.setIfInBounds_toArray, List.set_cons_zero, List.set_cons_succ]
        refine wpAnyH_take (i := 14) (oi := ?o29) (v := undef) ?hi29 (by kernel_rfl) (by kernel_rfl) (by kernel_rfl) ?hq29 ?hy29 (by assumption) ?hr29
        case hi29 => (simp only [List.getElem?_toArray, List.getElem?_cons_succ, List.getElem?_cons_zero]; rfl)
        case hq29 => exact fun _ _ _ h => h
        case hy29 => exact Or.inr ⟨by rfl, rfl⟩
        simp only [Act.put, List.setIfInBounds_toArray, List.set_cons_zero, List.set_cons_succ]
        refine wpAnyH_take (i := 15) (oi := ?o30) (v := ?hv30) ?hi30 (by kernel_rfl) (by kernel_rfl) (by kernel_rfl) ?hq30 ?hy30 (by assumption) ?hr30
        case hi30 => (simp only [List.getElem?_toArray, List.getElem?_cons_succ, List.getElem?_cons_zero]; rfl)
        case hq30 => exact fun _ _ _ h => h
        case hy30 => exact Or.inl ⟨by rfl, by intro w hSw; (try dsimp only at hSw); go_simp; try with_reducible rfl⟩
        simp only [Act.put, List.setIfInBounds_toArray, List.set_cons_zero, List.set_cons_succ]
        refine wpAnyH_take (i := 16) (oi := ?o31) (v := ?hv31) ?hi31 (by kernel_rfl) (by kernel_rfl) (by kernel_rfl) ?hq31 ?hy31 (by assumption) ?hr31
        case hi31 => (simp only [List.getElem?_toArray, List.getElem?_cons_succ, List.getElem?_cons_zero]; rfl)
        case hq31 => exact fun _ _ _ h => h
        case hy31 => exact Or.inl ⟨by rfl, by intro w hSw; (try dsimp only at hSw); go_simp; try with_reducible rfl⟩
        simp only [Act.put, List.setIfInBounds_toArray, List.set_cons_zero, List.set_cons_succ]
        refine wpAnyH_done (by kernel_rfl) ?_ _
        go_wp2_with fail
        go_ret2
        exact ⟨rfl, bstep hb0 (bstep hwx (bstep hba hb8d (Nat.le_refl _)) (Nat.le_refl _)) (Nat.le_refl _)⟩
      have hus := Lib.hid hus
      obtain ⟨fx, hfx'⟩ : ∃ fx, findF fs x.w = fx := ⟨_, rfl⟩
      have hfx := Lib.hid hfx'
      clear hfx'
      by_cases hfn : fx < 0
      · have hfd : decide (fx < 0) = true := by simpa using hfn
        obtain rfl : R = ((k : Int), 7) := by rw [← H.out, hd.out, show cellE N fs L O (prevAt cs k) x = 7 by unfold cellE lostB; rw [if_neg (by rw [hpl.out]; simp), hix.out, hus.out, hfx.out, hfd]; rfl]; rfl
        refine (placed_lit L O _ x true hpl.out _).mono ?_
        rintro e w6 ⟨rfl, hb6⟩
        clear s0 s1 s2 n0 n1 n2 n3 n4 n5 x0 x1 x2 x3 x4
        go_wp2_with fail
        have hk6 : Hid (∀ W, Below w5.heap.size w5 W → (fun W => W.cell? ⟨w.heap.size, 0, none⟩ = some (.int .i64 N.k) ∧ W.cell? ⟨w.heap.size, 1, none⟩ = some (.slice N.Ap N.np N.cp) ∧ W.cell? ⟨w.heap.size, 2, none⟩ = some (.int .i64 N.z) ∧ W.cell? ⟨w.heap.size, 3, none⟩ = some (.int .i64 N.h) ∧ W.cell? ⟨w.heap.size, 4, none⟩ = some (.slice N.Al N.nl N.cl) ∧ W.cell? ⟨w.heap.size, 5, none⟩ = some (.slice N.Am N.nm N.cm) ∧ W.cell? ⟨wr.heap.size, 0, none⟩ = some (.int .i64 x.s) ∧ W.cell? ⟨wr.heap.size, 1, none⟩ = some (.int .i64 x.o) ∧ W.cell? ⟨wr.heap.size, 2, none⟩ = some (.int .i64 x.f) ∧ W.cell? ⟨wr.heap.size, 3, none⟩ = some (.int .i64 x.t) ∧ W.cell? ⟨wr.heap.size, 4, none⟩ = some (.int .i64 x.w)) W) := Lib.hid (fun W h => by
          obtain ⟨a0, a1, a2, a3, a4, a5⟩ := hN5.out.below h hNl
          obtain ⟨e0, e1, e2, e3, e4⟩ := hX5.out.below h hXl
          exact ⟨a0, a1, a2, a3, a4, a5, e0, e1, e2, e3, e4⟩)
        refine wp_region_held_drew (S := (fun W => W.cell? ⟨w.heap.size, 0, none⟩ = some (.int .i64 N.k) ∧ W.cell? ⟨w.heap.size, 1, none⟩ = some (.slice N.Ap N.np N.cp) ∧ W.cell? ⟨w.heap.size, 2, none⟩ = some (.int .i64 N.z) ∧ W.cell? ⟨w.heap.size, 3, none⟩ = some (.int .i64 N.h) ∧ W.cell? ⟨w.heap.size, 4, none⟩ = some (.slice N.Al N.nl N.cl) ∧ W.cell? ⟨w.heap.size, 5, none⟩ = some (.slice N.Am N.nm N.cm) ∧ W.cell? ⟨wr.heap.size, 0, none⟩ = some (.int .i64 x.s) ∧ W.cell? ⟨wr.heap.size, 1, none⟩ = some (.int .i64 x.o) ∧ W.cell? ⟨wr.heap.size, 2, none⟩ = some (.int .i64 x.f) ∧ W.cell? ⟨wr.heap.size, 3, none⟩ = some (.int .i64 x.t) ∧ W.cell? ⟨wr.heap.size, 4, none⟩ = some (.int .i64 x.w))) (by kernel_rfl) (hk6.out _ hb6.drew) (fun hHeld => ?_)
        refine wpAnyH_take (i := 0) (oi := ?o32) (v := ?hv32) ?hi32 (by kernel_rfl) (by kernel_rfl) (by kernel_rfl) ?hq32 ?hy32 (by assumption) ?hr32
        case hi32 => (simp only [List.getElem?_toArray, List.getElem?_cons_zero]; rfl)
        case hq32 => exact fun _ _ _ h => h
        case hy32 => exact Or.inl ⟨by rfl, by intro w hSw; (try dsimp only at hSw); go_simp; try with_reducible rfl⟩
        simp only [Act.put, List.setIfInBounds_toArray, List.set_cons_zero, List.set_cons_succ]
        refine wpAnyH_take (i := 1) (oi := ?o33) (v := ?hv33) ?hi33 (by kernel_rfl) (by kernel_rfl) (by kernel_rfl) ?hq33 ?hy33 (by assumption) ?hr33
        case hi33 => (simp only [List.getElem?_toArray, List.getElem?_cons_succ, List.getElem?_cons_zero]; rfl)
        case hq33 => exact fun _ _ _ h => h
        case hy33 => exact Or.inl ⟨by rfl, by intro w hSw; (try dsimp only at hSw); go_simp; try with_reducible rfl⟩
        simp only [Act.put, List.setIfInBounds_toArray, List.set_cons_zero, List.set_cons_succ]
        refine wpAnyH_take (i := 2) (oi := ?o34) (v := ?hv34) ?hi34 (by kernel_rfl) (by kernel_rfl) (by kernel_rfl) ?hq34 ?hy34 (by assumption) ?hr34
        case hi34 => (simp only [List.getElem?_toArray, List.getElem?_cons_succ, List.getElem?_cons_zero]; rfl)
        case hq34 => exact fun _ _ _ h => h
        case hy34 => exact Or.inl ⟨by rfl, by intro w hSw; (try dsimp only at hSw); go_simp; try with_reducible rfl⟩
        simp only [Act.put, List.setIfInBounds_toArray, List.set_cons_zero, List.set_cons_succ]
        refine wpAnyH_take (i := 3) (oi := ?o35) (v := ?hv35) ?hi35 (by kernel_rfl) (by kernel_rfl) (by kernel_rfl) ?hq35 ?hy35 (by assumption) ?hr35
        case hi35 => (simp only [List.getElem?_toArray, List.getElem?_cons_succ, List.getElem?_cons_zero]; rfl)
        case hq35 => exact fun _ _ _ h => h
        case hy35 => exact Or.inl ⟨by rfl, by intro w hSw; (try dsimp only at hSw); go_simp; try with_reducible rfl⟩
        simp only [Act.put, List.setIfInBounds_toArray, List.set_cons_zero, List.set_cons_succ]
        refine wpAnyH_take (i := 4) (oi := ?o36) (v := ?hv36) ?hi36 (by kernel_rfl) (by kernel_rfl) (by kernel_rfl) ?hq36 ?hy36 (by assumption) ?hr36
        case hi36 => (simp only [List.getElem?_toArray, List.getElem?_cons_succ, List.getElem?_cons_zero]; rfl)
        case hq36 => exact fun _ _ _ h => h
        case hy36 => exact Or.inl ⟨by rfl, by intro w hSw; (try dsimp only at hSw); go_simp; try with_reducible rfl⟩
        simp only [Act.put, List.setIfInBounds_toArray, List.set_cons_zero, List.set_cons_succ]
        refine wpAnyH_take (i := 5) (oi := ?o37) (v := ?hv37) ?hi37 (by kernel_rfl) (by kernel_rfl) (by kernel_rfl) ?hq37 ?hy37 (by assumption) ?hr37
        case hi37 => (simp only [List.getElem?_toArray, List.getElem?_cons_succ, List.getElem?_cons_zero]; rfl)
        case hq37 => exact fun _ _ _ h => h
        case hy37 => exact Or.inl ⟨by rfl, by intro w hSw; (try dsimp only at hSw); go_simp; try with_reducible rfl⟩
        simp only [Act.put, List.setIfInBounds_toArray, List.set_cons_zero, List.set_cons_succ]
        refine wpAnyH_ready (rs := [6]) (by kernel_rfl) (by simp) ?_
        refine (AllReadyH.cons (o := ?o38) ?hi38 (fun K hK => ?hr38) AllReadyH.nil)
        case hi38 => (simp only [List.getElem?_toArray, List.getElem?_cons_succ, List.getElem?_cons_zero]; rfl)
        go_simp
        refine (Index_lit N x.f x.t ix hix.out hv hsr.out hsm _ (by exact ((hM5.out.below hb6.drew).more hb6.drew.size))).mono ?_
        rintro e w7 ⟨rfl, hb7⟩
        have hb7d : Below w5.heap.size w5 w7 := bstep hb6.drew hb7 (Nat.le_refl _)
        go_wp2_with fail
        refine hK.out _ _ ?_ (fun hHeld => ?_)
        · exact hk6.out _ hb7d
        clear hK K
        try simp only [Act.put, List.setIfInBounds_toArray, List.set_cons_zero, List.set_cons_succ]
        refine wpAnyH_ready (rs := [7]) (by kernel_rfl) (by simp) ?_
        refine (AllReadyH.cons (o := ?o39) ?hi39 (fun K hK => ?hr39) AllReadyH.nil)
        case hi39 => (simp only [List.getElem?_toArray, List.getElem?_cons_succ, List.getElem?_cons_zero]; rfl)
        go_simp
        refine (Usable_lit N ix hv.out hV.out hsm true hus.out _ (by exact ((hM5.out.below hb7d).more hb7d.size))).mono ?_
        rintro e w8 ⟨rfl, hb8⟩
        have hb8d : Below w5.heap.size w5 w8 := bstep hb7d hb8 (Nat.le_refl _)
        go_wp2_with fail
        refine hK.out _ _ ?_ (fun hHeld => ?_)
        · exact hk6.out _ hb8d
        clear hK K
        try simp only [Act.put, List.setIfInBounds_toArray, List.set_cons_zero, List.set_cons_succ]
        refine wpAnyH_take (i := 8) (oi := ?o40) (v := ?hv40) ?hi40 (by kernel_rfl) (by kernel_rfl) (by kernel_rfl) ?hq40 ?hy40 (by assumption) ?hr40
        case hi40 => (simp only [List.getElem?_toArray, List.getElem?_cons_succ, List.getElem?_cons_zero]; rfl)
        case hq40 => exact fun _ _ _ h => h
        case hy40 => exact Or.inl ⟨by rfl, by intro w hSw; (try dsimp only at hSw); go_simp; try with_reducible rfl⟩
        simp only [Act.put, List.setIfInBounds_toArray, List.set_cons_zero, List.set_cons_succ]
        refine wpAnyH_take (i := 9) (oi := ?o41) (v := ?hv41) ?hi41 (by kernel_rfl) (by kernel_rfl) (by kernel_rfl) ?hq41 ?hy41 (by assumption) ?hr41
        case hi41 => (simp only [List.getElem?_toArray, List.getElem?_cons_succ, List.getElem?_cons_zero]; rfl)
        case hq41 => exact fun _ _ _ h => h
        case hy41 => exact Or.inl ⟨by rfl, by intro w hSw; (try dsimp only at hSw); go_simp; try with_reducible rfl⟩
        simp only [Act.put, List.setIfInBounds_toArray, List.set_cons_zero, List.set_cons_succ]
        refine wpAnyH_take (i := 10) (oi := ?o42) (v := ?hv42) ?hi42 (by kernel_rfl) (by kernel_rfl) (by kernel_rfl) ?hq42 ?hy42 (by assumption) ?hr42
        case hi42 => (simp only [List.getElem?_toArray, List.getElem?_cons_succ, List.getElem?_cons_zero]; rfl)
        case hq42 => exact fun _ _ _ h => h
        case hy42 => exact Or.inl ⟨by rfl, by intro w hSw; (try dsimp only at hSw); go_simp; try with_reducible rfl⟩
        simp only [Act.put, List.setIfInBounds_toArray, List.set_cons_zero, List.set_cons_succ]
        refine wpAnyH_take (i := 11) (oi := ?o43) (v := ?hv43) ?hi43 (by kernel_rfl) (by kernel_rfl) (by kernel_rfl) ?hq43 ?hy43 (by assumption) ?hr43
        case hi43 => (simp only [List.getElem?_toArray, List.getElem?_cons_succ, List.getElem?_cons_zero]; rfl)
        case hq43 => exact fun _ _ _ h => h
        case hy43 => exact Or.inl ⟨by rfl, by intro w hSw; (try dsimp only at hSw); go_simp; try with_reducible rfl⟩
        simp only [Act.put, List.setIfInBounds_toArray, List.set_cons_zero, List.set_cons_succ]
        refine wpAnyH_take (i := 12) (oi := ?o44) (v := ?hv44) ?hi44 (by kernel_rfl) (by kernel_rfl) (by kernel_rfl) ?hq44 ?hy44 (by assumption) ?hr44
        case hi44 => (simp only [List.getElem?_toArray, List.getElem?_cons_succ, List.getElem?_cons_zero]; rfl)
        case hq44 => exact fun _ _ _ h => h
        case hy44 => exact Or.inl ⟨by rfl, by intro w hSw; (try dsimp only at hSw); go_simp; try with_reducible rfl⟩
        simp only [Act.put, List.setIfInBounds_toArray, List.set_cons_zero, List.set_cons_succ]
        refine wpAnyH_ready (rs := [13]) (by kernel_rfl) (by simp) ?_
        refine (AllReadyH.cons (o := ?o45) ?hi45 (fun K hK => ?hr45) AllReadyH.nil)
        case hi45 => (simp only [List.getElem?_toArray, List.getElem?_cons_succ, List.getElem?_cons_zero]; rfl)
        go_simp
        refine (findF_lit A' n' c' fs x.w hn' fx hfx.out _ (by exact ((hF5.out.below hb8d).more hb8d.size))).mono ?_
        rintro e w9 ⟨rfl, hb9⟩
        have hb9d : Below w5.heap.size w5 w9 := bstep hb8d hb9 (Nat.le_refl _)
        go_wp2_with fail
        refine hK.out _ _ ?_ (fun hHeld => ?_)
        · exact hk6.out _ hb9d
        clear hK K
        try simp only [Act.put, List.setIfInBounds_toArray, List.set_cons_zero, List.set_cons_succ]
        refine wpAnyH_take (i := 14) (oi := ?o46) (v := .bool true) ?hi46 (by kernel_rfl) (by kernel_rfl) (by kernel_rfl) ?hq46 ?hy46 (by assumption) ?hr46
        case hi46 => (simp only [List.getElem?_toArray, List.getElem?_cons_succ, List.getElem?_cons_zero]; rfl)
        case hq46 => exact fun _ _ _ h => h
        case hy46 => exact Or.inl ⟨by rfl, by intro w hSw; (try dsimp only at hSw); go_simp; try simp only [hfd]; try with_reducible rfl⟩
        simp only [Act.put, List.setIfInBounds_toArray, List.set_cons_zero, List.set_cons_succ]
        refine wpAnyH_take (i := 15) (oi := ?o47) (v := ?hv47) ?hi47 (by kernel_rfl) (by kernel_rfl) (by kernel_rfl) ?hq47 ?hy47 (by assumption) ?hr47
        case hi47 => (simp only [List.getElem?_toArray, List.getElem?_cons_succ, List.getElem?_cons_zero]; rfl)
        case hq47 => exact fun _ _ _ h => h
        case hy47 => exact Or.inl ⟨by rfl, by intro w hSw; (try dsimp only at hSw); go_simp; try with_reducible rfl⟩
        simp only [Act.put, List.setIfInBounds_toArray, List.set_cons_zero, List.set_cons_succ]
        refine wpAnyH_take (i := 16) (oi := ?o48) (v := ?hv48) ?hi48 (by kernel_rfl) (by kernel_rfl) (by kernel_rfl) ?hq48 ?hy48 (by assumption) ?hr48
        case hi48 => (simp only [List.getElem?_toArray, List.getElem?_cons_succ, List.getElem?_cons_zero]; rfl)
        case hq48 => exact fun _ _ _ h => h
        case hy48 => exact Or.inl ⟨by rfl, by intro w hSw; (try dsimp only at hSw); go_simp; try with_reducible rfl⟩
        simp only [Act.put, List.setIfInBounds_toArray, List.set_cons_zero, List.set_cons_succ]
        refine wpAnyH_done (by kernel_rfl) ?_ _
        go_wp2_with fail
        go_ret2
        exact ⟨rfl, bstep hb0 (bstep hwx (bstep hba hb9d (Nat.le_refl _)) (Nat.le_refl _)) (Nat.le_refl _)⟩
      have hfd : decide (fx < 0) = false := by simpa using hfn
      have hlo : Hid (lostB N fs x = false) := Lib.hid (by unfold lostB; rw [hix.out, hus.out, hfx.out, hfd]; rfl)
      have hfn := Lib.hid hfn
      rcases Nat.eq_zero_or_pos k with hk0' | hk0'
      · have hH : Hid (cellsR N fs L O (k + 1) (prevAt cs (k + 1)) (cs.drop (k + 1)) = R) := Lib.hid (by rw [← H.out, hd.out, if_pos (by unfold cellE; rw [if_neg (by rw [hpl.out]; simp), if_neg (by rw [hlo.out]; simp), if_neg (by rw [hk0']; simp [prevAt, lateC])])])
        have hkn : decide (0 < k) = false := by simp; omega
        clear hk0'
        refine (placed_lit L O _ x true hpl.out _).mono ?_
        rintro e w6 ⟨rfl, hb6⟩
        clear s0 s1 s2 n0 n1 n2 n3 n4 n5 x0 x1 x2 x3 x4
        go_wp2_with fail
        have hk6 : Hid (∀ W, Below w5.heap.size w5 W → (fun W => W.cell? ⟨w.heap.size, 0, none⟩ = some (.int .i64 N.k) ∧ W.cell? ⟨w.heap.size, 1, none⟩ = some (.slice N.Ap N.np N.cp) ∧ W.cell? ⟨w.heap.size, 2, none⟩ = some (.int .i64 N.z) ∧ W.cell? ⟨w.heap.size, 3, none⟩ = some (.int .i64 N.h) ∧ W.cell? ⟨w.heap.size, 4, none⟩ = some (.slice N.Al N.nl N.cl) ∧ W.cell? ⟨w.heap.size, 5, none⟩ = some (.slice N.Am N.nm N.cm) ∧ W.cell? ⟨wr.heap.size, 0, none⟩ = some (.int .i64 x.s) ∧ W.cell? ⟨wr.heap.size, 1, none⟩ = some (.int .i64 x.o) ∧ W.cell? ⟨wr.heap.size, 2, none⟩ = some (.int .i64 x.f) ∧ W.cell? ⟨wr.heap.size, 3, none⟩ = some (.int .i64 x.t) ∧ W.cell? ⟨wr.heap.size, 4, none⟩ = some (.int .i64 x.w)) W) := Lib.hid (fun W h => by
          obtain ⟨a0, a1, a2, a3, a4, a5⟩ := hN5.out.below h hNl
          obtain ⟨e0, e1, e2, e3, e4⟩ := hX5.out.below h hXl
          exact ⟨a0, a1, a2, a3, a4, a5, e0, e1, e2, e3, e4⟩)
        refine wp_region_held_drew (S := (fun W => W.cell? ⟨w.heap.size, 0, none⟩ = some (.int .i64 N.k) ∧ W.cell? ⟨w.heap.size, 1, none⟩ = some (.slice N.Ap N.np N.cp) ∧ W.cell? ⟨w.heap.size, 2, none⟩ = some (.int .i64 N.z) ∧ W.cell? ⟨w.heap.size, 3, none⟩ = some (.int .i64 N.h) ∧ W.cell? ⟨w.heap.size, 4, none⟩ = some (.slice N.Al N.nl N.cl) ∧ W.cell? ⟨w.heap.size, 5, none⟩ = some (.slice N.Am N.nm N.cm) ∧ W.cell? ⟨wr.heap.size, 0, none⟩ = some (.int .i64 x.s) ∧ W.cell? ⟨wr.heap.size, 1, none⟩ = some (.int .i64 x.o) ∧ W.cell? ⟨wr.heap.size, 2, none⟩ = some (.int .i64 x.f) ∧ W.cell? ⟨wr.heap.size, 3, none⟩ = some (.int .i64 x.t) ∧ W.cell? ⟨wr.heap.size, 4, none⟩ = some (.int .i64 x.w))) (by kernel_rfl) (hk6.out _ hb6.drew) (fun hHeld => ?_)
        refine wpAnyH_take (i := 0) (oi := ?o49) (v := ?hv49) ?hi49 (by kernel_rfl) (by kernel_rfl) (by kernel_rfl) ?hq49 ?hy49 (by assumption) ?hr49
        case hi49 => (simp only [List.getElem?_toArray, List.getElem?_cons_zero]; rfl)
        case hq49 => exact fun _ _ _ h => h
        case hy49 => exact Or.inl ⟨by rfl, by intro w hSw; (try dsimp only at hSw); go_simp; try with_reducible rfl⟩
        simp only [Act.put, List.setIfInBounds_toArray, List.set_cons_zero, List.set_cons_succ]
        refine wpAnyH_take (i := 1) (oi := ?o50) (v := ?hv50) ?hi50 (by kernel_rfl) (by kernel_rfl) (by kernel_rfl) ?hq50 ?hy50 (by assumption) ?hr50
        case hi50 => (simp only [List.getElem?_toArray, List.getElem?_cons_succ, List.getElem?_cons_zero]; rfl)
        case hq50 => exact fun _ _ _ h => h
        case hy50 => exact Or.inl ⟨by rfl, by intro w hSw; (try dsimp only at hSw); go_simp; try with_reducible rfl⟩
        simp only [Act.put, List.setIfInBounds_toArray, List.set_cons_zero, List.set_cons_succ]
        refine wpAnyH_take (i := 2) (oi := ?o51) (v := ?hv51) ?hi51 (by kernel_rfl) (by kernel_rfl) (by kernel_rfl) ?hq51 ?hy51 (by assumption) ?hr51
        case hi51 => (simp only [List.getElem?_toArray, List.getElem?_cons_succ, List.getElem?_cons_zero]; rfl)
        case hq51 => exact fun _ _ _ h => h
        case hy51 => exact Or.inl ⟨by rfl, by intro w hSw; (try dsimp only at hSw); go_simp; try with_reducible rfl⟩
        simp only [Act.put, List.setIfInBounds_toArray, List.set_cons_zero, List.set_cons_succ]
        refine wpAnyH_take (i := 3) (oi := ?o52) (v := ?hv52) ?hi52 (by kernel_rfl) (by kernel_rfl) (by kernel_rfl) ?hq52 ?hy52 (by assumption) ?hr52
        case hi52 => (simp only [List.getElem?_toArray, List.getElem?_cons_succ, List.getElem?_cons_zero]; rfl)
        case hq52 => exact fun _ _ _ h => h
        case hy52 => exact Or.inl ⟨by rfl, by intro w hSw; (try dsimp only at hSw); go_simp; try with_reducible rfl⟩
        simp only [Act.put, List.setIfInBounds_toArray, List.set_cons_zero, List.set_cons_succ]
        refine wpAnyH_take (i := 4) (oi := ?o53) (v := ?hv53) ?hi53 (by kernel_rfl) (by kernel_rfl) (by kernel_rfl) ?hq53 ?hy53 (by assumption) ?hr53
        case hi53 => (simp only [List.getElem?_toArray, List.getElem?_cons_succ, List.getElem?_cons_zero]; rfl)
        case hq53 => exact fun _ _ _ h => h
        case hy53 => exact Or.inl ⟨by rfl, by intro w hSw; (try dsimp only at hSw); go_simp; try with_reducible rfl⟩
        simp only [Act.put, List.setIfInBounds_toArray, List.set_cons_zero, List.set_cons_succ]
        refine wpAnyH_take (i := 5) (oi := ?o54) (v := ?hv54) ?hi54 (by kernel_rfl) (by kernel_rfl) (by kernel_rfl) ?hq54 ?hy54 (by assumption) ?hr54
        case hi54 => (simp only [List.getElem?_toArray, List.getElem?_cons_succ, List.getElem?_cons_zero]; rfl)
        case hq54 => exact fun _ _ _ h => h
        case hy54 => exact Or.inl ⟨by rfl, by intro w hSw; (try dsimp only at hSw); go_simp; try with_reducible rfl⟩
        simp only [Act.put, List.setIfInBounds_toArray, List.set_cons_zero, List.set_cons_succ]
        refine wpAnyH_ready (rs := [6]) (by kernel_rfl) (by simp) ?_
        refine (AllReadyH.cons (o := ?o55) ?hi55 (fun K hK => ?hr55) AllReadyH.nil)
        case hi55 => (simp only [List.getElem?_toArray, List.getElem?_cons_succ, List.getElem?_cons_zero]; rfl)
        go_simp
        refine (Index_lit N x.f x.t ix hix.out hv hsr.out hsm _ (by exact ((hM5.out.below hb6.drew).more hb6.drew.size))).mono ?_
        rintro e w7 ⟨rfl, hb7⟩
        have hb7d : Below w5.heap.size w5 w7 := bstep hb6.drew hb7 (Nat.le_refl _)
        go_wp2_with fail
        refine hK.out _ _ ?_ (fun hHeld => ?_)
        · exact hk6.out _ hb7d
        clear hK K
        try simp only [Act.put, List.setIfInBounds_toArray, List.set_cons_zero, List.set_cons_succ]
        refine wpAnyH_ready (rs := [7]) (by kernel_rfl) (by simp) ?_
        refine (AllReadyH.cons (o := ?o56) ?hi56 (fun K hK => ?hr56) AllReadyH.nil)
        case hi56 => (simp only [List.getElem?_toArray, List.getElem?_cons_succ, List.getElem?_cons_zero]; rfl)
        go_simp
        refine (Usable_lit N ix hv.out hV.out hsm true hus.out _ (by exact ((hM5.out.below hb7d).more hb7d.size))).mono ?_
        rintro e w8 ⟨rfl, hb8⟩
        have hb8d : Below w5.heap.size w5 w8 := bstep hb7d hb8 (Nat.le_refl _)
        go_wp2_with fail
        refine hK.out _ _ ?_ (fun hHeld => ?_)
        · exact hk6.out _ hb8d
        clear hK K
        try simp only [Act.put, List.setIfInBounds_toArray, List.set_cons_zero, List.set_cons_succ]
        refine wpAnyH_take (i := 8) (oi := ?o57) (v := ?hv57) ?hi57 (by kernel_rfl) (by kernel_rfl) (by kernel_rfl) ?hq57 ?hy57 (by assumption) ?hr57
        case hi57 => (simp only [List.getElem?_toArray, List.getElem?_cons_succ, List.getElem?_cons_zero]; rfl)
        case hq57 => exact fun _ _ _ h => h
        case hy57 => exact Or.inl ⟨by rfl, by intro w hSw; (try dsimp only at hSw); go_simp; try with_reducible rfl⟩
        simp only [Act.put, List.setIfInBounds_toArray, List.set_cons_zero, List.set_cons_succ]
        refine wpAnyH_take (i := 9) (oi := ?o58) (v := ?hv58) ?hi58 (by kernel_rfl) (by kernel_rfl) (by kernel_rfl) ?hq58 ?hy58 (by assumption) ?hr58
        case hi58 => (simp only [List.getElem?_toArray, List.getElem?_cons_succ, List.getElem?_cons_zero]; rfl)
        case hq58 => exact fun _ _ _ h => h
        case hy58 => exact Or.inl ⟨by rfl, by intro w hSw; (try dsimp only at hSw); go_simp; try with_reducible rfl⟩
        simp only [Act.put, List.setIfInBounds_toArray, List.set_cons_zero, List.set_cons_succ]
        refine wpAnyH_take (i := 10) (oi := ?o59) (v := ?hv59) ?hi59 (by kernel_rfl) (by kernel_rfl) (by kernel_rfl) ?hq59 ?hy59 (by assumption) ?hr59
        case hi59 => (simp only [List.getElem?_toArray, List.getElem?_cons_succ, List.getElem?_cons_zero]; rfl)
        case hq59 => exact fun _ _ _ h => h
        case hy59 => exact Or.inl ⟨by rfl, by intro w hSw; (try dsimp only at hSw); go_simp; try with_reducible rfl⟩
        simp only [Act.put, List.setIfInBounds_toArray, List.set_cons_zero, List.set_cons_succ]
        refine wpAnyH_take (i := 11) (oi := ?o60) (v := ?hv60) ?hi60 (by kernel_rfl) (by kernel_rfl) (by kernel_rfl) ?hq60 ?hy60 (by assumption) ?hr60
        case hi60 => (simp only [List.getElem?_toArray, List.getElem?_cons_succ, List.getElem?_cons_zero]; rfl)
        case hq60 => exact fun _ _ _ h => h
        case hy60 => exact Or.inl ⟨by rfl, by intro w hSw; (try dsimp only at hSw); go_simp; try with_reducible rfl⟩
        simp only [Act.put, List.setIfInBounds_toArray, List.set_cons_zero, List.set_cons_succ]
        refine wpAnyH_take (i := 12) (oi := ?o61) (v := ?hv61) ?hi61 (by kernel_rfl) (by kernel_rfl) (by kernel_rfl) ?hq61 ?hy61 (by assumption) ?hr61
        case hi61 => (simp only [List.getElem?_toArray, List.getElem?_cons_succ, List.getElem?_cons_zero]; rfl)
        case hq61 => exact fun _ _ _ h => h
        case hy61 => exact Or.inl ⟨by rfl, by intro w hSw; (try dsimp only at hSw); go_simp; try with_reducible rfl⟩
        simp only [Act.put, List.setIfInBounds_toArray, List.set_cons_zero, List.set_cons_succ]
        refine wpAnyH_ready (rs := [13]) (by kernel_rfl) (by simp) ?_
        refine (AllReadyH.cons (o := ?o62) ?hi62 (fun K hK => ?hr62) AllReadyH.nil)
        case hi62 => (simp only [List.getElem?_toArray, List.getElem?_cons_succ, List.getElem?_cons_zero]; rfl)
        go_simp
        refine (findF_lit A' n' c' fs x.w hn' fx hfx.out _ (by exact ((hF5.out.below hb8d).more hb8d.size))).mono ?_
        rintro e w9 ⟨rfl, hb9⟩
        have hb9d : Below w5.heap.size w5 w9 := bstep hb8d hb9 (Nat.le_refl _)
        go_wp2_with fail
        refine hK.out _ _ ?_ (fun hHeld => ?_)
        · exact hk6.out _ hb9d
        clear hK K
        try simp only [Act.put, List.setIfInBounds_toArray, List.set_cons_zero, List.set_cons_succ]
        refine wpAnyH_take (i := 14) (oi := ?o63) (v := .bool false) ?hi63 (by kernel_rfl) (by kernel_rfl) (by kernel_rfl) ?hq63 ?hy63 (by assumption) ?hr63
        case hi63 => (simp only [List.getElem?_toArray, List.getElem?_cons_succ, List.getElem?_cons_zero]; rfl)
        case hq63 => exact fun _ _ _ h => h
        case hy63 => exact Or.inl ⟨by rfl, by intro w hSw; (try dsimp only at hSw); go_simp; try simp only [hfd]; try with_reducible rfl⟩
        simp only [Act.put, List.setIfInBounds_toArray, List.set_cons_zero, List.set_cons_succ]
        refine wpAnyH_take (i := 15) (oi := ?o64) (v := ?hv64) ?hi64 (by kernel_rfl) (by kernel_rfl) (by kernel_rfl) ?hq64 ?hy64 (by assumption) ?hr64
        case hi64 => (simp only [List.getElem?_toArray, List.getElem?_cons_succ, List.getElem?_cons_zero]; rfl)
        case hq64 => exact fun _ _ _ h => h
        case hy64 => exact Or.inl ⟨by rfl, by intro w hSw; (try dsimp only at hSw); go_simp; try with_reducible rfl⟩
        simp only [Act.put, List.setIfInBounds_toArray, List.set_cons_zero, List.set_cons_succ]
        refine wpAnyH_take (i := 16) (oi := ?o65) (v := ?hv65) ?hi65 (by kernel_rfl) (by kernel_rfl) (by kernel_rfl) ?hq65 ?hy65 (by assumption) ?hr65
        case hi65 => (simp only [List.getElem?_toArray, List.getElem?_cons_succ, List.getElem?_cons_zero]; rfl)
        case hq65 => exact fun _ _ _ h => h
        case hy65 => exact Or.inl ⟨by rfl, by intro w hSw; (try dsimp only at hSw); go_simp; try with_reducible rfl⟩
        simp only [Act.put, List.setIfInBounds_toArray, List.set_cons_zero, List.set_cons_succ]
        refine wpAnyH_done (by kernel_rfl) ?_ _
        go_wp2_with fail
        refine wp_region_held_drew (S := (fun _ => True)) (by kernel_rfl) (trivial) (fun hHeld => ?_)
        refine wpAnyH_take (i := 0) (oi := ?o1) (v := ?hv1) ?hi1 (by kernel_rfl) (by kernel_rfl) (by kernel_rfl) ?hq1 ?hy1 (by assumption) ?hr1
        case hi1 => (simp only [List.getElem?_toArray, List.getElem?_cons_zero]; rfl)
        case hq1 => exact fun _ _ _ h => h
        case hy1 => exact Or.inl ⟨by rfl, by intro w hSw; (try dsimp only at hSw); go_simp; try with_reducible rfl⟩
        simp only [Act.put, List.setIfInBounds_toArray, List.set_cons_zero, List.set_cons_succ]
        refine wpAnyH_take (i := 1) (oi := ?o2) (v := .bool false) ?hi2 (by kernel_rfl) (by kernel_rfl) (by kernel_rfl) ?hq2 ?hy2 (by assumption) ?hr2
        case hi2 => (simp only [List.getElem?_toArray, List.getElem?_cons_succ, List.getElem?_cons_zero]; rfl)
        case hq2 => exact fun _ _ _ h => h
        case hy2 => exact Or.inl ⟨by rfl, by intro w hSw; (try dsimp only at hSw); go_simp; try simp only [hkn]; try with_reducible rfl⟩
        simp only [Act.put, List.setIfInBounds_toArray, List.set_cons_zero, List.set_cons_succ]
        refine wpAnyH_take (i := 2) (oi := ?o3) (v := ?hv3) ?hi3 (by kernel_rfl) (by kernel_rfl) (by kernel_rfl) ?hq3 ?hy3 (by assumption) ?hr3
        case hi3 => (simp only [List.getElem?_toArray, List.getElem?_cons_succ, List.getElem?_cons_zero]; rfl)
        case hq3 => exact fun _ _ _ h => h
        case hy3 => exact Or.inl ⟨by rfl, by intro w hSw; (try dsimp only at hSw); go_simp; try with_reducible rfl⟩
        simp only [Act.put, List.setIfInBounds_toArray, List.set_cons_zero, List.set_cons_succ]
        refine wpAnyH_take (i := 3) (oi := ?o4) (v := undef) ?hi4 (by kernel_rfl) (by kernel_rfl) (by kernel_rfl) ?hq4 ?hy4 (by assumption) ?hr4
        case hi4 => (simp only [List.getElem?_toArray, List.getElem?_cons_succ, List.getElem?_cons_zero]; rfl)
        case hq4 => exact fun _ _ _ h => h
        case hy4 => exact Or.inr ⟨by rfl, rfl⟩
        simp only [Act.put, List.setIfInBounds_toArray, List.set_cons_zero, List.set_cons_succ]
        refine wpAnyH_take (i := 4) (oi := ?o5) (v := undef) ?hi5 (by kernel_rfl) (by kernel_rfl) (by kernel_rfl) ?hq5 ?hy5 (by assumption) ?hr5
        case hi5 => (simp only [List.getElem?_toArray, List.getElem?_cons_succ, List.getElem?_cons_zero]; rfl)
        case hq5 => exact fun _ _ _ h => h
        case hy5 => exact Or.inr ⟨by rfl, rfl⟩
        simp only [Act.put, List.setIfInBounds_toArray, List.set_cons_zero, List.set_cons_succ]
        refine wpAnyH_take (i := 5) (oi := ?o6) (v := undef) ?hi6 (by kernel_rfl) (by kernel_rfl) (by kernel_rfl) ?hq6 ?hy6 (by assumption) ?hr6
        case hi6 => (simp only [List.getElem?_toArray, List.getElem?_cons_succ, List.getElem?_cons_zero]; rfl)
        case hq6 => exact fun _ _ _ h => h
        case hy6 => exact Or.inr ⟨by rfl, rfl⟩
        simp only [Act.put, List.setIfInBounds_toArray, List.set_cons_zero, List.set_cons_succ]
        refine wpAnyH_take (i := 6) (oi := ?o7) (v := undef) ?hi7 (by kernel_rfl) (by kernel_rfl) (by kernel_rfl) ?hq7 ?hy7 (by assumption) ?hr7
        case hi7 => (simp only [List.getElem?_toArray, List.getElem?_cons_succ, List.getElem?_cons_zero]; rfl)
        case hq7 => exact fun _ _ _ h => h
        case hy7 => exact Or.inr ⟨by rfl, rfl⟩
        simp only [Act.put, List.setIfInBounds_toArray, List.set_cons_zero, List.set_cons_succ]
        refine wpAnyH_take (i := 7) (oi := ?o8) (v := undef) ?hi8 (by kernel_rfl) (by kernel_rfl) (by kernel_rfl) ?hq8 ?hy8 (by assumption) ?hr8
        case hi8 => (simp only [List.getElem?_toArray, List.getElem?_cons_succ, List.getElem?_cons_zero]; rfl)
        case hq8 => exact fun _ _ _ h => h
        case hy8 => exact Or.inr ⟨by rfl, rfl⟩
        simp only [Act.put, List.setIfInBounds_toArray, List.set_cons_zero, List.set_cons_succ]
        refine wpAnyH_take (i := 8) (oi := ?o9) (v := undef) ?hi9 (by kernel_rfl) (by kernel_rfl) (by kernel_rfl) ?hq9 ?hy9 (by assumption) ?hr9
        case hi9 => (simp only [List.getElem?_toArray, List.getElem?_cons_succ, List.getElem?_cons_zero]; rfl)
        case hq9 => exact fun _ _ _ h => h
        case hy9 => exact Or.inr ⟨by rfl, rfl⟩
        simp only [Act.put, List.setIfInBounds_toArray, List.set_cons_zero, List.set_cons_succ]
        refine wpAnyH_take (i := 9) (oi := ?o10) (v := undef) ?hi10 (by kernel_rfl) (by kernel_rfl) (by kernel_rfl) ?hq10 ?hy10 (by assumption) ?hr10
        case hi10 => (simp only [List.getElem?_toArray, List.getElem?_cons_succ, List.getElem?_cons_zero]; rfl)
        case hq10 => exact fun _ _ _ h => h
        case hy10 => exact Or.inr ⟨by rfl, rfl⟩
        simp only [Act.put, List.setIfInBounds_toArray, List.set_cons_zero, List.set_cons_succ]
        refine wpAnyH_take (i := 10) (oi := ?o11) (v := undef) ?hi11 (by kernel_rfl) (by kernel_rfl) (by kernel_rfl) ?hq11 ?hy11 (by assumption) ?hr11
        case hi11 => (simp only [List.getElem?_toArray, List.getElem?_cons_succ, List.getElem?_cons_zero]; rfl)
        case hq11 => exact fun _ _ _ h => h
        case hy11 => exact Or.inr ⟨by rfl, rfl⟩
        simp only [Act.put, List.setIfInBounds_toArray, List.set_cons_zero, List.set_cons_succ]
        refine wpAnyH_take (i := 11) (oi := ?o12) (v := undef) ?hi12 (by kernel_rfl) (by kernel_rfl) (by kernel_rfl) ?hq12 ?hy12 (by assumption) ?hr12
        case hi12 => (simp only [List.getElem?_toArray, List.getElem?_cons_succ, List.getElem?_cons_zero]; rfl)
        case hq12 => exact fun _ _ _ h => h
        case hy12 => exact Or.inr ⟨by rfl, rfl⟩
        simp only [Act.put, List.setIfInBounds_toArray, List.set_cons_zero, List.set_cons_succ]
        refine wpAnyH_take (i := 12) (oi := ?o13) (v := ?hv13) ?hi13 (by kernel_rfl) (by kernel_rfl) (by kernel_rfl) ?hq13 ?hy13 (by assumption) ?hr13
        case hi13 => (simp only [List.getElem?_toArray, List.getElem?_cons_succ, List.getElem?_cons_zero]; rfl)
        case hq13 => exact fun _ _ _ h => h
        case hy13 => exact Or.inl ⟨by rfl, by intro w hSw; (try dsimp only at hSw); go_simp; try with_reducible rfl⟩
        simp only [Act.put, List.setIfInBounds_toArray, List.set_cons_zero, List.set_cons_succ]
        refine wpAnyH_take (i := 13) (oi := ?o14) (v := ?hv14) ?hi14 (by kernel_rfl) (by kernel_rfl) (by kernel_rfl) ?hq14 ?hy14 (by assumption) ?hr14
        case hi14 => (simp only [List.getElem?_toArray, List.getElem?_cons_succ, List.getElem?_cons_zero]; rfl)
        case hq14 => exact fun _ _ _ h => h
        case hy14 => exact Or.inl ⟨by rfl, by intro w hSw; (try dsimp only at hSw); go_simp; try with_reducible rfl⟩
        simp only [Act.put, List.setIfInBounds_toArray, List.set_cons_zero, List.set_cons_succ]
        refine wpAnyH_done (by kernel_rfl) ?_ _
        go_wp2_with fail
        go_roundw
        case rel => exact ⟨k + 1, by omega, by go_num, bstep hwx (bstep hba hb9d.drew (Nat.le_refl _)) (Nat.le_refl _), hH⟩
        case measure => simp [intOf]; omega
      obtain ⟨m, hm⟩ : ∃ m, k = m + 1 := ⟨k - 1, by omega⟩
      have hmn : m < n := by omega
      have hbz : b < w5.heap.size := by omega
      obtain ⟨b', off', q, hA', hbq, eq_, q0⟩ := (hC5.out.at_ hmn)
      cases hA'
      have hQ5 : Hid (Row5 w5 b (off + m * 5) q) := Lib.hid q0
      have hpv : Hid (prevAt cs k = some q) := Lib.hid (by rw [hm]; exact eq_)
      have hsub : IntKind.i64.wrap ((k : Int) - 1) = (m : Int) := by rw [IntWalk.i64_in _ (by omega)]; omega
      have hwm : IntKind.i64.wrap (m : Int) = (m : Int) := IntWalk.i64_in _ (by omega)
      have hm0 : (0 : Int) ≤ (m : Int) := by omega
      have hm1 : (m : Int) < (n : Int) := by omega
      have hkn : decide (0 < k) = true := by simp; omega
      clear q0 eq_ hm hk0'
      by_cases hlt0 : 0 ≤ cmpC q x
      · have hcmp : decide (0 ≤ cmpC q x) = true := by simpa using hlt0
        obtain rfl : R = ((k : Int), 5) := by rw [← H.out, hd.out, show cellE N fs L O (prevAt cs k) x = 5 by unfold cellE; rw [if_neg (by rw [hpl.out]; simp), if_neg (by rw [hlo.out]; simp), hpv.out, if_pos (by simpa [lateC] using hlt0)]]; rfl
        have hlt0 := Lib.hid hlt0
        refine (placed_lit L O _ x true hpl.out _).mono ?_
        rintro e w6 ⟨rfl, hb6⟩
        clear s0 s1 s2 n0 n1 n2 n3 n4 n5 x0 x1 x2 x3 x4
        go_wp2_with fail
        have hk6 : Hid (∀ W, Below w5.heap.size w5 W → (fun W => W.cell? ⟨w.heap.size, 0, none⟩ = some (.int .i64 N.k) ∧ W.cell? ⟨w.heap.size, 1, none⟩ = some (.slice N.Ap N.np N.cp) ∧ W.cell? ⟨w.heap.size, 2, none⟩ = some (.int .i64 N.z) ∧ W.cell? ⟨w.heap.size, 3, none⟩ = some (.int .i64 N.h) ∧ W.cell? ⟨w.heap.size, 4, none⟩ = some (.slice N.Al N.nl N.cl) ∧ W.cell? ⟨w.heap.size, 5, none⟩ = some (.slice N.Am N.nm N.cm) ∧ W.cell? ⟨wr.heap.size, 0, none⟩ = some (.int .i64 x.s) ∧ W.cell? ⟨wr.heap.size, 1, none⟩ = some (.int .i64 x.o) ∧ W.cell? ⟨wr.heap.size, 2, none⟩ = some (.int .i64 x.f) ∧ W.cell? ⟨wr.heap.size, 3, none⟩ = some (.int .i64 x.t) ∧ W.cell? ⟨wr.heap.size, 4, none⟩ = some (.int .i64 x.w)) W) := Lib.hid (fun W h => by
          obtain ⟨a0, a1, a2, a3, a4, a5⟩ := hN5.out.below h hNl
          obtain ⟨e0, e1, e2, e3, e4⟩ := hX5.out.below h hXl
          exact ⟨a0, a1, a2, a3, a4, a5, e0, e1, e2, e3, e4⟩)
        refine wp_region_held_drew (S := (fun W => W.cell? ⟨w.heap.size, 0, none⟩ = some (.int .i64 N.k) ∧ W.cell? ⟨w.heap.size, 1, none⟩ = some (.slice N.Ap N.np N.cp) ∧ W.cell? ⟨w.heap.size, 2, none⟩ = some (.int .i64 N.z) ∧ W.cell? ⟨w.heap.size, 3, none⟩ = some (.int .i64 N.h) ∧ W.cell? ⟨w.heap.size, 4, none⟩ = some (.slice N.Al N.nl N.cl) ∧ W.cell? ⟨w.heap.size, 5, none⟩ = some (.slice N.Am N.nm N.cm) ∧ W.cell? ⟨wr.heap.size, 0, none⟩ = some (.int .i64 x.s) ∧ W.cell? ⟨wr.heap.size, 1, none⟩ = some (.int .i64 x.o) ∧ W.cell? ⟨wr.heap.size, 2, none⟩ = some (.int .i64 x.f) ∧ W.cell? ⟨wr.heap.size, 3, none⟩ = some (.int .i64 x.t) ∧ W.cell? ⟨wr.heap.size, 4, none⟩ = some (.int .i64 x.w))) (by kernel_rfl) (hk6.out _ hb6.drew) (fun hHeld => ?_)
        refine wpAnyH_take (i := 0) (oi := ?o66) (v := ?hv66) ?hi66 (by kernel_rfl) (by kernel_rfl) (by kernel_rfl) ?hq66 ?hy66 (by assumption) ?hr66
        case hi66 => (simp only [List.getElem?_toArray, List.getElem?_cons_zero]; rfl)
        case hq66 => exact fun _ _ _ h => h
        case hy66 => exact Or.inl ⟨by rfl, by intro w hSw; (try dsimp only at hSw); go_simp; try with_reducible rfl⟩
        simp only [Act.put, List.setIfInBounds_toArray, List.set_cons_zero, List.set_cons_succ]
        refine wpAnyH_take (i := 1) (oi := ?o67) (v := ?hv67) ?hi67 (by kernel_rfl) (by kernel_rfl) (by kernel_rfl) ?hq67 ?hy67 (by assumption) ?hr67
        case hi67 => (simp only [List.getElem?_toArray, List.getElem?_cons_succ, List.getElem?_cons_zero]; rfl)
        case hq67 => exact fun _ _ _ h => h
        case hy67 => exact Or.inl ⟨by rfl, by intro w hSw; (try dsimp only at hSw); go_simp; try with_reducible rfl⟩
        simp only [Act.put, List.setIfInBounds_toArray, List.set_cons_zero, List.set_cons_succ]
        refine wpAnyH_take (i := 2) (oi := ?o68) (v := ?hv68) ?hi68 (by kernel_rfl) (by kernel_rfl) (by kernel_rfl) ?hq68 ?hy68 (by assumption) ?hr68
        case hi68 => (simp only [List.getElem?_toArray, List.getElem?_cons_succ, List.getElem?_cons_zero]; rfl)
        case hq68 => exact fun _ _ _ h => h
        case hy68 => exact Or.inl ⟨by rfl, by intro w hSw; (try dsimp only at hSw); go_simp; try with_reducible rfl⟩
        simp only [Act.put, List.setIfInBounds_toArray, List.set_cons_zero, List.set_cons_succ]
        refine wpAnyH_take (i := 3) (oi := ?o69) (v := ?hv69) ?hi69 (by kernel_rfl) (by kernel_rfl) (by kernel_rfl) ?hq69 ?hy69 (by assumption) ?hr69
        case hi69 => (simp only [List.getElem?_toArray, List.getElem?_cons_succ, List.getElem?_cons_zero]; rfl)
        case hq69 => exact fun _ _ _ h => h
        case hy69 => exact Or.inl ⟨by rfl, by intro w hSw; (try dsimp only at hSw); go_simp; try with_reducible rfl⟩
        simp only [Act.put, List.setIfInBounds_toArray, List.set_cons_zero, List.set_cons_succ]
        refine wpAnyH_take (i := 4) (oi := ?o70) (v := ?hv70) ?hi70 (by kernel_rfl) (by kernel_rfl) (by kernel_rfl) ?hq70 ?hy70 (by assumption) ?hr70
        case hi70 => (simp only [List.getElem?_toArray, List.getElem?_cons_succ, List.getElem?_cons_zero]; rfl)
        case hq70 => exact fun _ _ _ h => h
        case hy70 => exact Or.inl ⟨by rfl, by intro w hSw; (try dsimp only at hSw); go_simp; try with_reducible rfl⟩
        simp only [Act.put, List.setIfInBounds_toArray, List.set_cons_zero, List.set_cons_succ]
        refine wpAnyH_take (i := 5) (oi := ?o71) (v := ?hv71) ?hi71 (by kernel_rfl) (by kernel_rfl) (by kernel_rfl) ?hq71 ?hy71 (by assumption) ?hr71
        case hi71 => (simp only [List.getElem?_toArray, List.getElem?_cons_succ, List.getElem?_cons_zero]; rfl)
        case hq71 => exact fun _ _ _ h => h
        case hy71 => exact Or.inl ⟨by rfl, by intro w hSw; (try dsimp only at hSw); go_simp; try with_reducible rfl⟩
        simp only [Act.put, List.setIfInBounds_toArray, List.set_cons_zero, List.set_cons_succ]
        refine wpAnyH_ready (rs := [6]) (by kernel_rfl) (by simp) ?_
        refine (AllReadyH.cons (o := ?o72) ?hi72 (fun K hK => ?hr72) AllReadyH.nil)
        case hi72 => (simp only [List.getElem?_toArray, List.getElem?_cons_succ, List.getElem?_cons_zero]; rfl)
        go_simp
        refine (Index_lit N x.f x.t ix hix.out hv hsr.out hsm _ (by exact ((hM5.out.below hb6.drew).more hb6.drew.size))).mono ?_
        rintro e w7 ⟨rfl, hb7⟩
        have hb7d : Below w5.heap.size w5 w7 := bstep hb6.drew hb7 (Nat.le_refl _)
        go_wp2_with fail
        refine hK.out _ _ ?_ (fun hHeld => ?_)
        · exact hk6.out _ hb7d
        clear hK K
        try simp only [Act.put, List.setIfInBounds_toArray, List.set_cons_zero, List.set_cons_succ]
        refine wpAnyH_ready (rs := [7]) (by kernel_rfl) (by simp) ?_
        refine (AllReadyH.cons (o := ?o73) ?hi73 (fun K hK => ?hr73) AllReadyH.nil)
        case hi73 => (simp only [List.getElem?_toArray, List.getElem?_cons_succ, List.getElem?_cons_zero]; rfl)
        go_simp
        refine (Usable_lit N ix hv.out hV.out hsm true hus.out _ (by exact ((hM5.out.below hb7d).more hb7d.size))).mono ?_
        rintro e w8 ⟨rfl, hb8⟩
        have hb8d : Below w5.heap.size w5 w8 := bstep hb7d hb8 (Nat.le_refl _)
        go_wp2_with fail
        refine hK.out _ _ ?_ (fun hHeld => ?_)
        · exact hk6.out _ hb8d
        clear hK K
        try simp only [Act.put, List.setIfInBounds_toArray, List.set_cons_zero, List.set_cons_succ]
        refine wpAnyH_take (i := 8) (oi := ?o74) (v := ?hv74) ?hi74 (by kernel_rfl) (by kernel_rfl) (by kernel_rfl) ?hq74 ?hy74 (by assumption) ?hr74
        case hi74 => (simp only [List.getElem?_toArray, List.getElem?_cons_succ, List.getElem?_cons_zero]; rfl)
        case hq74 => exact fun _ _ _ h => h
        case hy74 => exact Or.inl ⟨by rfl, by intro w hSw; (try dsimp only at hSw); go_simp; try with_reducible rfl⟩
        simp only [Act.put, List.setIfInBounds_toArray, List.set_cons_zero, List.set_cons_succ]
        refine wpAnyH_take (i := 9) (oi := ?o75) (v := ?hv75) ?hi75 (by kernel_rfl) (by kernel_rfl) (by kernel_rfl) ?hq75 ?hy75 (by assumption) ?hr75
        case hi75 => (simp only [List.getElem?_toArray, List.getElem?_cons_succ, List.getElem?_cons_zero]; rfl)
        case hq75 => exact fun _ _ _ h => h
        case hy75 => exact Or.inl ⟨by rfl, by intro w hSw; (try dsimp only at hSw); go_simp; try with_reducible rfl⟩
        simp only [Act.put, List.setIfInBounds_toArray, List.set_cons_zero, List.set_cons_succ]
        refine wpAnyH_take (i := 10) (oi := ?o76) (v := ?hv76) ?hi76 (by kernel_rfl) (by kernel_rfl) (by kernel_rfl) ?hq76 ?hy76 (by assumption) ?hr76
        case hi76 => (simp only [List.getElem?_toArray, List.getElem?_cons_succ, List.getElem?_cons_zero]; rfl)
        case hq76 => exact fun _ _ _ h => h
        case hy76 => exact Or.inl ⟨by rfl, by intro w hSw; (try dsimp only at hSw); go_simp; try with_reducible rfl⟩
        simp only [Act.put, List.setIfInBounds_toArray, List.set_cons_zero, List.set_cons_succ]
        refine wpAnyH_take (i := 11) (oi := ?o77) (v := ?hv77) ?hi77 (by kernel_rfl) (by kernel_rfl) (by kernel_rfl) ?hq77 ?hy77 (by assumption) ?hr77
        case hi77 => (simp only [List.getElem?_toArray, List.getElem?_cons_succ, List.getElem?_cons_zero]; rfl)
        case hq77 => exact fun _ _ _ h => h
        case hy77 => exact Or.inl ⟨by rfl, by intro w hSw; (try dsimp only at hSw); go_simp; try with_reducible rfl⟩
        simp only [Act.put, List.setIfInBounds_toArray, List.set_cons_zero, List.set_cons_succ]
        refine wpAnyH_take (i := 12) (oi := ?o78) (v := ?hv78) ?hi78 (by kernel_rfl) (by kernel_rfl) (by kernel_rfl) ?hq78 ?hy78 (by assumption) ?hr78
        case hi78 => (simp only [List.getElem?_toArray, List.getElem?_cons_succ, List.getElem?_cons_zero]; rfl)
        case hq78 => exact fun _ _ _ h => h
        case hy78 => exact Or.inl ⟨by rfl, by intro w hSw; (try dsimp only at hSw); go_simp; try with_reducible rfl⟩
        simp only [Act.put, List.setIfInBounds_toArray, List.set_cons_zero, List.set_cons_succ]
        refine wpAnyH_ready (rs := [13]) (by kernel_rfl) (by simp) ?_
        refine (AllReadyH.cons (o := ?o79) ?hi79 (fun K hK => ?hr79) AllReadyH.nil)
        case hi79 => (simp only [List.getElem?_toArray, List.getElem?_cons_succ, List.getElem?_cons_zero]; rfl)
        go_simp
        refine (findF_lit A' n' c' fs x.w hn' fx hfx.out _ (by exact ((hF5.out.below hb8d).more hb8d.size))).mono ?_
        rintro e w9 ⟨rfl, hb9⟩
        have hb9d : Below w5.heap.size w5 w9 := bstep hb8d hb9 (Nat.le_refl _)
        go_wp2_with fail
        refine hK.out _ _ ?_ (fun hHeld => ?_)
        · exact hk6.out _ hb9d
        clear hK K
        try simp only [Act.put, List.setIfInBounds_toArray, List.set_cons_zero, List.set_cons_succ]
        refine wpAnyH_take (i := 14) (oi := ?o80) (v := .bool false) ?hi80 (by kernel_rfl) (by kernel_rfl) (by kernel_rfl) ?hq80 ?hy80 (by assumption) ?hr80
        case hi80 => (simp only [List.getElem?_toArray, List.getElem?_cons_succ, List.getElem?_cons_zero]; rfl)
        case hq80 => exact fun _ _ _ h => h
        case hy80 => exact Or.inl ⟨by rfl, by intro w hSw; (try dsimp only at hSw); go_simp; try simp only [hfd]; try with_reducible rfl⟩
        simp only [Act.put, List.setIfInBounds_toArray, List.set_cons_zero, List.set_cons_succ]
        refine wpAnyH_take (i := 15) (oi := ?o81) (v := ?hv81) ?hi81 (by kernel_rfl) (by kernel_rfl) (by kernel_rfl) ?hq81 ?hy81 (by assumption) ?hr81
        case hi81 => (simp only [List.getElem?_toArray, List.getElem?_cons_succ, List.getElem?_cons_zero]; rfl)
        case hq81 => exact fun _ _ _ h => h
        case hy81 => exact Or.inl ⟨by rfl, by intro w hSw; (try dsimp only at hSw); go_simp; try with_reducible rfl⟩
        simp only [Act.put, List.setIfInBounds_toArray, List.set_cons_zero, List.set_cons_succ]
        refine wpAnyH_take (i := 16) (oi := ?o82) (v := ?hv82) ?hi82 (by kernel_rfl) (by kernel_rfl) (by kernel_rfl) ?hq82 ?hy82 (by assumption) ?hr82
        case hi82 => (simp only [List.getElem?_toArray, List.getElem?_cons_succ, List.getElem?_cons_zero]; rfl)
        case hq82 => exact fun _ _ _ h => h
        case hy82 => exact Or.inl ⟨by rfl, by intro w hSw; (try dsimp only at hSw); go_simp; try with_reducible rfl⟩
        simp only [Act.put, List.setIfInBounds_toArray, List.set_cons_zero, List.set_cons_succ]
        refine wpAnyH_done (by kernel_rfl) ?_ _
        go_wp2_with fail
        have hk8 : Hid (∀ W, Below w5.heap.size w5 W → (fun W => W.cell? ⟨w.heap.size + 1, 0, none⟩ = some (.int .i64 L) ∧ W.cell? ⟨w.heap.size + 1, 1, none⟩ = some (.int .i64 O) ∧ W.cell? ⟨w.heap.size + 1, 2, none⟩ = some (.slice (some ⟨b, off, none⟩) n c) ∧ W.cell? ⟨wr.heap.size, 0, none⟩ = some (.int .i64 x.s) ∧ W.cell? ⟨wr.heap.size, 1, none⟩ = some (.int .i64 x.o) ∧ W.cell? ⟨wr.heap.size, 2, none⟩ = some (.int .i64 x.f) ∧ W.cell? ⟨wr.heap.size, 3, none⟩ = some (.int .i64 x.t) ∧ W.cell? ⟨wr.heap.size, 4, none⟩ = some (.int .i64 x.w) ∧ W.cell? ⟨b, off + m * 5, none⟩ = some (.int .i64 q.s) ∧ W.cell? ⟨b, off + m * 5 + 1, none⟩ = some (.int .i64 q.o) ∧ W.cell? ⟨b, off + m * 5 + 2, none⟩ = some (.int .i64 q.f) ∧ W.cell? ⟨b, off + m * 5 + 3, none⟩ = some (.int .i64 q.t) ∧ W.cell? ⟨b, off + m * 5 + 4, none⟩ = some (.int .i64 q.w)) W) := Lib.hid (fun W h => by
          obtain ⟨a0, a1, a2⟩ := hS5.out.below h hSl
          obtain ⟨e0, e1, e2, e3, e4⟩ := hX5.out.below h hXl
          obtain ⟨g0, g1, g2, g3, g4⟩ := hQ5.out.below h hbz
          exact ⟨a0, a1, a2, e0, e1, e2, e3, e4, g0, g1, g2, g3, g4⟩)
        refine wp_region_held_drew (S := (fun W => W.cell? ⟨w.heap.size + 1, 0, none⟩ = some (.int .i64 L) ∧ W.cell? ⟨w.heap.size + 1, 1, none⟩ = some (.int .i64 O) ∧ W.cell? ⟨w.heap.size + 1, 2, none⟩ = some (.slice (some ⟨b, off, none⟩) n c) ∧ W.cell? ⟨wr.heap.size, 0, none⟩ = some (.int .i64 x.s) ∧ W.cell? ⟨wr.heap.size, 1, none⟩ = some (.int .i64 x.o) ∧ W.cell? ⟨wr.heap.size, 2, none⟩ = some (.int .i64 x.f) ∧ W.cell? ⟨wr.heap.size, 3, none⟩ = some (.int .i64 x.t) ∧ W.cell? ⟨wr.heap.size, 4, none⟩ = some (.int .i64 x.w) ∧ W.cell? ⟨b, off + m * 5, none⟩ = some (.int .i64 q.s) ∧ W.cell? ⟨b, off + m * 5 + 1, none⟩ = some (.int .i64 q.o) ∧ W.cell? ⟨b, off + m * 5 + 2, none⟩ = some (.int .i64 q.f) ∧ W.cell? ⟨b, off + m * 5 + 3, none⟩ = some (.int .i64 q.t) ∧ W.cell? ⟨b, off + m * 5 + 4, none⟩ = some (.int .i64 q.w))) (by kernel_rfl) (hk8.out _ hb9d.drew) (fun hHeld => ?_)
        refine wpAnyH_take (i := 0) (oi := ?o83) (v := ?hv83) ?hi83 (by kernel_rfl) (by kernel_rfl) (by kernel_rfl) ?hq83 ?hy83 (by assumption) ?hr83
        case hi83 => (simp only [List.getElem?_toArray, List.getElem?_cons_zero]; rfl)
        case hq83 => exact fun _ _ _ h => h
        case hy83 => exact Or.inl ⟨by rfl, by intro w hSw; (try dsimp only at hSw); go_simp; try with_reducible rfl⟩
        simp only [Act.put, List.setIfInBounds_toArray, List.set_cons_zero, List.set_cons_succ]
        refine wpAnyH_take (i := 1) (oi := ?o84) (v := .bool true) ?hi84 (by kernel_rfl) (by kernel_rfl) (by kernel_rfl) ?hq84 ?hy84 (by assumption) ?hr84
        case hi84 => (simp only [List.getElem?_toArray, List.getElem?_cons_succ, List.getElem?_cons_zero]; rfl)
        case hq84 => exact fun _ _ _ h => h
        case hy84 => exact Or.inl ⟨by rfl, by intro w hSw; (try dsimp only at hSw); go_simp; try simp only [hkn]; try with_reducible rfl⟩
        simp only [Act.put, List.setIfInBounds_toArray, List.set_cons_zero, List.set_cons_succ]
        refine wpAnyH_take (i := 2) (oi := ?o85) (v := ?hv85) ?hi85 (by kernel_rfl) (by kernel_rfl) (by kernel_rfl) ?hq85 ?hy85 (by assumption) ?hr85
        case hi85 => (simp only [List.getElem?_toArray, List.getElem?_cons_succ, List.getElem?_cons_zero]; rfl)
        case hq85 => exact fun _ _ _ h => h
        case hy85 => exact Or.inl ⟨by rfl, by intro w hSw; (try dsimp only at hSw); go_simp; try with_reducible rfl⟩
        simp only [Act.put, List.setIfInBounds_toArray, List.set_cons_zero, List.set_cons_succ]
        refine wpAnyH_take (i := 3) (oi := ?o86) (v := ?hv86) ?hi86 (by kernel_rfl) (by kernel_rfl) (by kernel_rfl) ?hq86 ?hy86 (by assumption) ?hr86
        case hi86 => (simp only [List.getElem?_toArray, List.getElem?_cons_succ, List.getElem?_cons_zero]; rfl)
        case hq86 => exact fun _ _ _ h => h
        case hy86 => exact Or.inl ⟨by rfl, by intro w hSw; (try dsimp only at hSw); go_simp; try with_reducible rfl⟩
        simp only [Act.put, List.setIfInBounds_toArray, List.set_cons_zero, List.set_cons_succ]
        refine wpAnyH_take (i := 4) (oi := ?o87) (v := ?hv87) ?hi87 (by kernel_rfl) (by kernel_rfl) (by kernel_rfl) ?hq87 ?hy87 (by assumption) ?hr87
        case hi87 => (simp only [List.getElem?_toArray, List.getElem?_cons_succ, List.getElem?_cons_zero]; rfl)
        case hq87 => exact fun _ _ _ h => h
        case hy87 => exact Or.inl ⟨by rfl, by intro w hSw; (try dsimp only at hSw); go_simp; try with_reducible rfl⟩
        simp only [Act.put, List.setIfInBounds_toArray, List.set_cons_zero, List.set_cons_succ]
        refine wpAnyH_take (i := 5) (oi := ?o88) (v := ?hv88) ?hi88 (by kernel_rfl) (by kernel_rfl) (by kernel_rfl) ?hq88 ?hy88 (by assumption) ?hr88
        case hi88 => (simp only [List.getElem?_toArray, List.getElem?_cons_succ, List.getElem?_cons_zero]; rfl)
        case hq88 => exact fun _ _ _ h => h
        case hy88 => exact Or.inl ⟨by rfl, by intro w hSw; (try dsimp only at hSw); go_simp; try with_reducible rfl⟩
        simp only [Act.put, List.setIfInBounds_toArray, List.set_cons_zero, List.set_cons_succ]
        refine wpAnyH_take (i := 6) (oi := ?o89) (v := .int .i64 (m : Int)) ?hi89 (by kernel_rfl) (by kernel_rfl) (by kernel_rfl) ?hq89 ?hy89 (by assumption) ?hr89
        case hi89 => (simp only [List.getElem?_toArray, List.getElem?_cons_succ, List.getElem?_cons_zero]; rfl)
        case hq89 => exact fun _ _ _ h => h
        case hy89 => exact Or.inl ⟨by rfl, by intro w hSw; (try dsimp only at hSw); go_simp; try simp only [hsub, hwm]; try with_reducible rfl⟩
        simp only [Act.put, List.setIfInBounds_toArray, List.set_cons_zero, List.set_cons_succ]
        refine wpAnyH_take (i := 7) (oi := ?o90) (v := ?hv90) ?hi90 (by kernel_rfl) (by kernel_rfl) (by kernel_rfl) ?hq90 ?hy90 (by assumption) ?hr90
        case hi90 => (simp only [List.getElem?_toArray, List.getElem?_cons_succ, List.getElem?_cons_zero]; rfl)
        case hq90 => exact fun _ _ _ h => h
        case hy90 => exact Or.inl ⟨by rfl, by intro w hSw; (try dsimp only at hSw); go_simp; try with_reducible rfl⟩
        simp only [Act.put, List.setIfInBounds_toArray, List.set_cons_zero, List.set_cons_succ]
        refine wpAnyH_take (i := 8) (oi := ?o91) (v := ?hv91) ?hi91 (by kernel_rfl) (by kernel_rfl) (by kernel_rfl) ?hq91 ?hy91 (by assumption) ?hr91
        case hi91 => (simp only [List.getElem?_toArray, List.getElem?_cons_succ, List.getElem?_cons_zero]; rfl)
        case hq91 => exact fun _ _ _ h => h
        case hy91 => exact Or.inl ⟨by rfl, by intro w hSw; (try dsimp only at hSw); go_simp; try with_reducible rfl⟩
        simp only [Act.put, List.setIfInBounds_toArray, List.set_cons_zero, List.set_cons_succ]
        refine wpAnyH_take (i := 9) (oi := ?o92) (v := ?hv92) ?hi92 (by kernel_rfl) (by kernel_rfl) (by kernel_rfl) ?hq92 ?hy92 (by assumption) ?hr92
        case hi92 => (simp only [List.getElem?_toArray, List.getElem?_cons_succ, List.getElem?_cons_zero]; rfl)
        case hq92 => exact fun _ _ _ h => h
        case hy92 => exact Or.inl ⟨by rfl, by intro w hSw; (try dsimp only at hSw); go_simp; try with_reducible rfl⟩
        simp only [Act.put, List.setIfInBounds_toArray, List.set_cons_zero, List.set_cons_succ]
        refine wpAnyH_ready (rs := [10]) (by kernel_rfl) (by simp) ?_
        refine (AllReadyH.cons (o := ?o93) ?hi93 (fun K hK => ?hr93) AllReadyH.nil)
        case hi93 => (simp only [List.getElem?_toArray, List.getElem?_cons_succ, List.getElem?_cons_zero]; rfl)
        go_simp
        refine (compare_lit q x _ rfl _).mono ?_
        rintro e w10 ⟨rfl, hb10⟩
        have hb10d : Below w5.heap.size w5 w10 := bstep hb9d.drew hb10 (Nat.le_refl _)
        go_wp2_with fail
        refine hK.out _ _ ?_ (fun hHeld => ?_)
        · exact hk8.out _ hb10d
        clear hK K
        try simp only [Act.put, List.setIfInBounds_toArray, List.set_cons_zero, List.set_cons_succ]
        refine wpAnyH_take (i := 11) (oi := ?o94) (v := .bool true) ?hi94 (by kernel_rfl) (by kernel_rfl) (by kernel_rfl) ?hq94 ?hy94 (by assumption) ?hr94
        case hi94 => (simp only [List.getElem?_toArray, List.getElem?_cons_succ, List.getElem?_cons_zero]; rfl)
        case hq94 => exact fun _ _ _ h => h
        case hy94 => exact Or.inl ⟨by rfl, by intro w hSw; (try dsimp only at hSw); go_simp; try simp only [hcmp]; try with_reducible rfl⟩
        simp only [Act.put, List.setIfInBounds_toArray, List.set_cons_zero, List.set_cons_succ]
        refine wpAnyH_take (i := 12) (oi := ?o95) (v := ?hv95) ?hi95 (by kernel_rfl) (by kernel_rfl) (by kernel_rfl) ?hq95 ?hy95 (by assumption) ?hr95
        case hi95 => (simp only [List.getElem?_toArray, List.getElem?_cons_succ, List.getElem?_cons_zero]; rfl)
        case hq95 => exact fun _ _ _ h => h
        case hy95 => exact Or.inl ⟨by rfl, by intro w hSw; (try dsimp only at hSw); go_simp; try with_reducible rfl⟩
        simp only [Act.put, List.setIfInBounds_toArray, List.set_cons_zero, List.set_cons_succ]
        refine wpAnyH_take (i := 13) (oi := ?o96) (v := ?hv96) ?hi96 (by kernel_rfl) (by kernel_rfl) (by kernel_rfl) ?hq96 ?hy96 (by assumption) ?hr96
        case hi96 => (simp only [List.getElem?_toArray, List.getElem?_cons_succ, List.getElem?_cons_zero]; rfl)
        case hq96 => exact fun _ _ _ h => h
        case hy96 => exact Or.inl ⟨by rfl, by intro w hSw; (try dsimp only at hSw); go_simp; try with_reducible rfl⟩
        simp only [Act.put, List.setIfInBounds_toArray, List.set_cons_zero, List.set_cons_succ]
        refine wpAnyH_done (by kernel_rfl) ?_ _
        go_wp2_with fail
        go_ret2
        exact ⟨rfl, bstep hb0 (bstep hwx (bstep hba hb10d (Nat.le_refl _)) (Nat.le_refl _)) (Nat.le_refl _)⟩
      · have hcmp : decide (0 ≤ cmpC q x) = false := by simpa using hlt0
        have hH : Hid (cellsR N fs L O (k + 1) (prevAt cs (k + 1)) (cs.drop (k + 1)) = R) := Lib.hid (by rw [← H.out, hd.out, if_pos (by unfold cellE; rw [if_neg (by rw [hpl.out]; simp), if_neg (by rw [hlo.out]; simp), hpv.out, if_neg (by simpa [lateC] using hlt0)])])
        have hlt0 := Lib.hid hlt0
        refine (placed_lit L O _ x true hpl.out _).mono ?_
        rintro e w6 ⟨rfl, hb6⟩
        clear s0 s1 s2 n0 n1 n2 n3 n4 n5 x0 x1 x2 x3 x4
        go_wp2_with fail
        have hk6 : Hid (∀ W, Below w5.heap.size w5 W → (fun W => W.cell? ⟨w.heap.size, 0, none⟩ = some (.int .i64 N.k) ∧ W.cell? ⟨w.heap.size, 1, none⟩ = some (.slice N.Ap N.np N.cp) ∧ W.cell? ⟨w.heap.size, 2, none⟩ = some (.int .i64 N.z) ∧ W.cell? ⟨w.heap.size, 3, none⟩ = some (.int .i64 N.h) ∧ W.cell? ⟨w.heap.size, 4, none⟩ = some (.slice N.Al N.nl N.cl) ∧ W.cell? ⟨w.heap.size, 5, none⟩ = some (.slice N.Am N.nm N.cm) ∧ W.cell? ⟨wr.heap.size, 0, none⟩ = some (.int .i64 x.s) ∧ W.cell? ⟨wr.heap.size, 1, none⟩ = some (.int .i64 x.o) ∧ W.cell? ⟨wr.heap.size, 2, none⟩ = some (.int .i64 x.f) ∧ W.cell? ⟨wr.heap.size, 3, none⟩ = some (.int .i64 x.t) ∧ W.cell? ⟨wr.heap.size, 4, none⟩ = some (.int .i64 x.w)) W) := Lib.hid (fun W h => by
          obtain ⟨a0, a1, a2, a3, a4, a5⟩ := hN5.out.below h hNl
          obtain ⟨e0, e1, e2, e3, e4⟩ := hX5.out.below h hXl
          exact ⟨a0, a1, a2, a3, a4, a5, e0, e1, e2, e3, e4⟩)
        refine wp_region_held_drew (S := (fun W => W.cell? ⟨w.heap.size, 0, none⟩ = some (.int .i64 N.k) ∧ W.cell? ⟨w.heap.size, 1, none⟩ = some (.slice N.Ap N.np N.cp) ∧ W.cell? ⟨w.heap.size, 2, none⟩ = some (.int .i64 N.z) ∧ W.cell? ⟨w.heap.size, 3, none⟩ = some (.int .i64 N.h) ∧ W.cell? ⟨w.heap.size, 4, none⟩ = some (.slice N.Al N.nl N.cl) ∧ W.cell? ⟨w.heap.size, 5, none⟩ = some (.slice N.Am N.nm N.cm) ∧ W.cell? ⟨wr.heap.size, 0, none⟩ = some (.int .i64 x.s) ∧ W.cell? ⟨wr.heap.size, 1, none⟩ = some (.int .i64 x.o) ∧ W.cell? ⟨wr.heap.size, 2, none⟩ = some (.int .i64 x.f) ∧ W.cell? ⟨wr.heap.size, 3, none⟩ = some (.int .i64 x.t) ∧ W.cell? ⟨wr.heap.size, 4, none⟩ = some (.int .i64 x.w))) (by kernel_rfl) (hk6.out _ hb6.drew) (fun hHeld => ?_)
        refine wpAnyH_take (i := 0) (oi := ?o97) (v := ?hv97) ?hi97 (by kernel_rfl) (by kernel_rfl) (by kernel_rfl) ?hq97 ?hy97 (by assumption) ?hr97
        case hi97 => (simp only [List.getElem?_toArray, List.getElem?_cons_zero]; rfl)
        case hq97 => exact fun _ _ _ h => h
        case hy97 => exact Or.inl ⟨by rfl, by intro w hSw; (try dsimp only at hSw); go_simp; try with_reducible rfl⟩
        simp only [Act.put, List.setIfInBounds_toArray, List.set_cons_zero, List.set_cons_succ]
        refine wpAnyH_take (i := 1) (oi := ?o98) (v := ?hv98) ?hi98 (by kernel_rfl) (by kernel_rfl) (by kernel_rfl) ?hq98 ?hy98 (by assumption) ?hr98
        case hi98 => (simp only [List.getElem?_toArray, List.getElem?_cons_succ, List.getElem?_cons_zero]; rfl)
        case hq98 => exact fun _ _ _ h => h
        case hy98 => exact Or.inl ⟨by rfl, by intro w hSw; (try dsimp only at hSw); go_simp; try with_reducible rfl⟩
        simp only [Act.put, List.setIfInBounds_toArray, List.set_cons_zero, List.set_cons_succ]
        refine wpAnyH_take (i := 2) (oi := ?o99) (v := ?hv99) ?hi99 (by kernel_rfl) (by kernel_rfl) (by kernel_rfl) ?hq99 ?hy99 (by assumption) ?hr99
        case hi99 => (simp only [List.getElem?_toArray, List.getElem?_cons_succ, List.getElem?_cons_zero]; rfl)
        case hq99 => exact fun _ _ _ h => h
        case hy99 => exact Or.inl ⟨by rfl, by intro w hSw; (try dsimp only at hSw); go_simp; try with_reducible rfl⟩
        simp only [Act.put, List.setIfInBounds_toArray, List.set_cons_zero, List.set_cons_succ]
        refine wpAnyH_take (i := 3) (oi := ?o100) (v := ?hv100) ?hi100 (by kernel_rfl) (by kernel_rfl) (by kernel_rfl) ?hq100 ?hy100 (by assumption) ?hr100
        case hi100 => (simp only [List.getElem?_toArray, List.getElem?_cons_succ, List.getElem?_cons_zero]; rfl)
        case hq100 => exact fun _ _ _ h => h
        case hy100 => exact Or.inl ⟨by rfl, by intro w hSw; (try dsimp only at hSw); go_simp; try with_reducible rfl⟩
        simp only [Act.put, List.setIfInBounds_toArray, List.set_cons_zero, List.set_cons_succ]
        refine wpAnyH_take (i := 4) (oi := ?o101) (v := ?hv101) ?hi101 (by kernel_rfl) (by kernel_rfl) (by kernel_rfl) ?hq101 ?hy101 (by assumption) ?hr101
        case hi101 => (simp only [List.getElem?_toArray, List.getElem?_cons_succ, List.getElem?_cons_zero]; rfl)
        case hq101 => exact fun _ _ _ h => h
        case hy101 => exact Or.inl ⟨by rfl, by intro w hSw; (try dsimp only at hSw); go_simp; try with_reducible rfl⟩
        simp only [Act.put, List.setIfInBounds_toArray, List.set_cons_zero, List.set_cons_succ]
        refine wpAnyH_take (i := 5) (oi := ?o102) (v := ?hv102) ?hi102 (by kernel_rfl) (by kernel_rfl) (by kernel_rfl) ?hq102 ?hy102 (by assumption) ?hr102
        case hi102 => (simp only [List.getElem?_toArray, List.getElem?_cons_succ, List.getElem?_cons_zero]; rfl)
        case hq102 => exact fun _ _ _ h => h
        case hy102 => exact Or.inl ⟨by rfl, by intro w hSw; (try dsimp only at hSw); go_simp; try with_reducible rfl⟩
        simp only [Act.put, List.setIfInBounds_toArray, List.set_cons_zero, List.set_cons_succ]
        refine wpAnyH_ready (rs := [6]) (by kernel_rfl) (by simp) ?_
        refine (AllReadyH.cons (o := ?o103) ?hi103 (fun K hK => ?hr103) AllReadyH.nil)
        case hi103 => (simp only [List.getElem?_toArray, List.getElem?_cons_succ, List.getElem?_cons_zero]; rfl)
        go_simp
        refine (Index_lit N x.f x.t ix hix.out hv hsr.out hsm _ (by exact ((hM5.out.below hb6.drew).more hb6.drew.size))).mono ?_
        rintro e w7 ⟨rfl, hb7⟩
        have hb7d : Below w5.heap.size w5 w7 := bstep hb6.drew hb7 (Nat.le_refl _)
        go_wp2_with fail
        refine hK.out _ _ ?_ (fun hHeld => ?_)
        · exact hk6.out _ hb7d
        clear hK K
        try simp only [Act.put, List.setIfInBounds_toArray, List.set_cons_zero, List.set_cons_succ]
        refine wpAnyH_ready (rs := [7]) (by kernel_rfl) (by simp) ?_
        refine (AllReadyH.cons (o := ?o104) ?hi104 (fun K hK => ?hr104) AllReadyH.nil)
        case hi104 => (simp only [List.getElem?_toArray, List.getElem?_cons_succ, List.getElem?_cons_zero]; rfl)
        go_simp
        refine (Usable_lit N ix hv.out hV.out hsm true hus.out _ (by exact ((hM5.out.below hb7d).more hb7d.size))).mono ?_
        rintro e w8 ⟨rfl, hb8⟩
        have hb8d : Below w5.heap.size w5 w8 := bstep hb7d hb8 (Nat.le_refl _)
        go_wp2_with fail
        refine hK.out _ _ ?_ (fun hHeld => ?_)
        · exact hk6.out _ hb8d
        clear hK K
        try simp only [Act.put, List.setIfInBounds_toArray, List.set_cons_zero, List.set_cons_succ]
        refine wpAnyH_take (i := 8) (oi := ?o105) (v := ?hv105) ?hi105 (by kernel_rfl) (by kernel_rfl) (by kernel_rfl) ?hq105 ?hy105 (by assumption) ?hr105
        case hi105 => (simp only [List.getElem?_toArray, List.getElem?_cons_succ, List.getElem?_cons_zero]; rfl)
        case hq105 => exact fun _ _ _ h => h
        case hy105 => exact Or.inl ⟨by rfl, by intro w hSw; (try dsimp only at hSw); go_simp; try with_reducible rfl⟩
        simp only [Act.put, List.setIfInBounds_toArray, List.set_cons_zero, List.set_cons_succ]
        refine wpAnyH_take (i := 9) (oi := ?o106) (v := ?hv106) ?hi106 (by kernel_rfl) (by kernel_rfl) (by kernel_rfl) ?hq106 ?hy106 (by assumption) ?hr106
        case hi106 => (simp only [List.getElem?_toArray, List.getElem?_cons_succ, List.getElem?_cons_zero]; rfl)
        case hq106 => exact fun _ _ _ h => h
        case hy106 => exact Or.inl ⟨by rfl, by intro w hSw; (try dsimp only at hSw); go_simp; try with_reducible rfl⟩
        simp only [Act.put, List.setIfInBounds_toArray, List.set_cons_zero, List.set_cons_succ]
        refine wpAnyH_take (i := 10) (oi := ?o107) (v := ?hv107) ?hi107 (by kernel_rfl) (by kernel_rfl) (by kernel_rfl) ?hq107 ?hy107 (by assumption) ?hr107
        case hi107 => (simp only [List.getElem?_toArray, List.getElem?_cons_succ, List.getElem?_cons_zero]; rfl)
        case hq107 => exact fun _ _ _ h => h
        case hy107 => exact Or.inl ⟨by rfl, by intro w hSw; (try dsimp only at hSw); go_simp; try with_reducible rfl⟩
        simp only [Act.put, List.setIfInBounds_toArray, List.set_cons_zero, List.set_cons_succ]
        refine wpAnyH_take (i := 11) (oi := ?o108) (v := ?hv108) ?hi108 (by kernel_rfl) (by kernel_rfl) (by kernel_rfl) ?hq108 ?hy108 (by assumption) ?hr108
        case hi108 => (simp only [List.getElem?_toArray, List.getElem?_cons_succ, List.getElem?_cons_zero]; rfl)
        case hq108 => exact fun _ _ _ h => h
        case hy108 => exact Or.inl ⟨by rfl, by intro w hSw; (try dsimp only at hSw); go_simp; try with_reducible rfl⟩
        simp only [Act.put, List.setIfInBounds_toArray, List.set_cons_zero, List.set_cons_succ]
        refine wpAnyH_take (i := 12) (oi := ?o109) (v := ?hv109) ?hi109 (by kernel_rfl) (by kernel_rfl) (by kernel_rfl) ?hq109 ?hy109 (by assumption) ?hr109
        case hi109 => (simp only [List.getElem?_toArray, List.getElem?_cons_succ, List.getElem?_cons_zero]; rfl)
        case hq109 => exact fun _ _ _ h => h
        case hy109 => exact Or.inl ⟨by rfl, by intro w hSw; (try dsimp only at hSw); go_simp; try with_reducible rfl⟩
        simp only [Act.put, List.setIfInBounds_toArray, List.set_cons_zero, List.set_cons_succ]
        refine wpAnyH_ready (rs := [13]) (by kernel_rfl) (by simp) ?_
        refine (AllReadyH.cons (o := ?o110) ?hi110 (fun K hK => ?hr110) AllReadyH.nil)
        case hi110 => (simp only [List.getElem?_toArray, List.getElem?_cons_succ, List.getElem?_cons_zero]; rfl)
        go_simp
        refine (findF_lit A' n' c' fs x.w hn' fx hfx.out _ (by exact ((hF5.out.below hb8d).more hb8d.size))).mono ?_
        rintro e w9 ⟨rfl, hb9⟩
        have hb9d : Below w5.heap.size w5 w9 := bstep hb8d hb9 (Nat.le_refl _)
        go_wp2_with fail
        refine hK.out _ _ ?_ (fun hHeld => ?_)
        · exact hk6.out _ hb9d
        clear hK K
        try simp only [Act.put, List.setIfInBounds_toArray, List.set_cons_zero, List.set_cons_succ]
        refine wpAnyH_take (i := 14) (oi := ?o111) (v := .bool false) ?hi111 (by kernel_rfl) (by kernel_rfl) (by kernel_rfl) ?hq111 ?hy111 (by assumption) ?hr111
        case hi111 => (simp only [List.getElem?_toArray, List.getElem?_cons_succ, List.getElem?_cons_zero]; rfl)
        case hq111 => exact fun _ _ _ h => h
        case hy111 => exact Or.inl ⟨by rfl, by intro w hSw; (try dsimp only at hSw); go_simp; try simp only [hfd]; try with_reducible rfl⟩
        simp only [Act.put, List.setIfInBounds_toArray, List.set_cons_zero, List.set_cons_succ]
        refine wpAnyH_take (i := 15) (oi := ?o112) (v := ?hv112) ?hi112 (by kernel_rfl) (by kernel_rfl) (by kernel_rfl) ?hq112 ?hy112 (by assumption) ?hr112
        case hi112 => (simp only [List.getElem?_toArray, List.getElem?_cons_succ, List.getElem?_cons_zero]; rfl)
        case hq112 => exact fun _ _ _ h => h
        case hy112 => exact Or.inl ⟨by rfl, by intro w hSw; (try dsimp only at hSw); go_simp; try with_reducible rfl⟩
        simp only [Act.put, List.setIfInBounds_toArray, List.set_cons_zero, List.set_cons_succ]
        refine wpAnyH_take (i := 16) (oi := ?o113) (v := ?hv113) ?hi113 (by kernel_rfl) (by kernel_rfl) (by kernel_rfl) ?hq113 ?hy113 (by assumption) ?hr113
        case hi113 => (simp only [List.getElem?_toArray, List.getElem?_cons_succ, List.getElem?_cons_zero]; rfl)
        case hq113 => exact fun _ _ _ h => h
        case hy113 => exact Or.inl ⟨by rfl, by intro w hSw; (try dsimp only at hSw); go_simp; try with_reducible rfl⟩
        simp only [Act.put, List.setIfInBounds_toArray, List.set_cons_zero, List.set_cons_succ]
        refine wpAnyH_done (by kernel_rfl) ?_ _
        go_wp2_with fail
        have hk8 : Hid (∀ W, Below w5.heap.size w5 W → (fun W => W.cell? ⟨w.heap.size + 1, 0, none⟩ = some (.int .i64 L) ∧ W.cell? ⟨w.heap.size + 1, 1, none⟩ = some (.int .i64 O) ∧ W.cell? ⟨w.heap.size + 1, 2, none⟩ = some (.slice (some ⟨b, off, none⟩) n c) ∧ W.cell? ⟨wr.heap.size, 0, none⟩ = some (.int .i64 x.s) ∧ W.cell? ⟨wr.heap.size, 1, none⟩ = some (.int .i64 x.o) ∧ W.cell? ⟨wr.heap.size, 2, none⟩ = some (.int .i64 x.f) ∧ W.cell? ⟨wr.heap.size, 3, none⟩ = some (.int .i64 x.t) ∧ W.cell? ⟨wr.heap.size, 4, none⟩ = some (.int .i64 x.w) ∧ W.cell? ⟨b, off + m * 5, none⟩ = some (.int .i64 q.s) ∧ W.cell? ⟨b, off + m * 5 + 1, none⟩ = some (.int .i64 q.o) ∧ W.cell? ⟨b, off + m * 5 + 2, none⟩ = some (.int .i64 q.f) ∧ W.cell? ⟨b, off + m * 5 + 3, none⟩ = some (.int .i64 q.t) ∧ W.cell? ⟨b, off + m * 5 + 4, none⟩ = some (.int .i64 q.w)) W) := Lib.hid (fun W h => by
          obtain ⟨a0, a1, a2⟩ := hS5.out.below h hSl
          obtain ⟨e0, e1, e2, e3, e4⟩ := hX5.out.below h hXl
          obtain ⟨g0, g1, g2, g3, g4⟩ := hQ5.out.below h hbz
          exact ⟨a0, a1, a2, e0, e1, e2, e3, e4, g0, g1, g2, g3, g4⟩)
        refine wp_region_held_drew (S := (fun W => W.cell? ⟨w.heap.size + 1, 0, none⟩ = some (.int .i64 L) ∧ W.cell? ⟨w.heap.size + 1, 1, none⟩ = some (.int .i64 O) ∧ W.cell? ⟨w.heap.size + 1, 2, none⟩ = some (.slice (some ⟨b, off, none⟩) n c) ∧ W.cell? ⟨wr.heap.size, 0, none⟩ = some (.int .i64 x.s) ∧ W.cell? ⟨wr.heap.size, 1, none⟩ = some (.int .i64 x.o) ∧ W.cell? ⟨wr.heap.size, 2, none⟩ = some (.int .i64 x.f) ∧ W.cell? ⟨wr.heap.size, 3, none⟩ = some (.int .i64 x.t) ∧ W.cell? ⟨wr.heap.size, 4, none⟩ = some (.int .i64 x.w) ∧ W.cell? ⟨b, off + m * 5, none⟩ = some (.int .i64 q.s) ∧ W.cell? ⟨b, off + m * 5 + 1, none⟩ = some (.int .i64 q.o) ∧ W.cell? ⟨b, off + m * 5 + 2, none⟩ = some (.int .i64 q.f) ∧ W.cell? ⟨b, off + m * 5 + 3, none⟩ = some (.int .i64 q.t) ∧ W.cell? ⟨b, off + m * 5 + 4, none⟩ = some (.int .i64 q.w))) (by kernel_rfl) (hk8.out _ hb9d.drew) (fun hHeld => ?_)
        refine wpAnyH_take (i := 0) (oi := ?o114) (v := ?hv114) ?hi114 (by kernel_rfl) (by kernel_rfl) (by kernel_rfl) ?hq114 ?hy114 (by assumption) ?hr114
        case hi114 => (simp only [List.getElem?_toArray, List.getElem?_cons_zero]; rfl)
        case hq114 => exact fun _ _ _ h => h
        case hy114 => exact Or.inl ⟨by rfl, by intro w hSw; (try dsimp only at hSw); go_simp; try with_reducible rfl⟩
        simp only [Act.put, List.setIfInBounds_toArray, List.set_cons_zero, List.set_cons_succ]
        refine wpAnyH_take (i := 1) (oi := ?o115) (v := .bool true) ?hi115 (by kernel_rfl) (by kernel_rfl) (by kernel_rfl) ?hq115 ?hy115 (by assumption) ?hr115
        case hi115 => (simp only [List.getElem?_toArray, List.getElem?_cons_succ, List.getElem?_cons_zero]; rfl)
        case hq115 => exact fun _ _ _ h => h
        case hy115 => exact Or.inl ⟨by rfl, by intro w hSw; (try dsimp only at hSw); go_simp; try simp only [hkn]; try with_reducible rfl⟩
        simp only [Act.put, List.setIfInBounds_toArray, List.set_cons_zero, List.set_cons_succ]
        refine wpAnyH_take (i := 2) (oi := ?o116) (v := ?hv116) ?hi116 (by kernel_rfl) (by kernel_rfl) (by kernel_rfl) ?hq116 ?hy116 (by assumption) ?hr116
        case hi116 => (simp only [List.getElem?_toArray, List.getElem?_cons_succ, List.getElem?_cons_zero]; rfl)
        case hq116 => exact fun _ _ _ h => h
        case hy116 => exact Or.inl ⟨by rfl, by intro w hSw; (try dsimp only at hSw); go_simp; try with_reducible rfl⟩
        simp only [Act.put, List.setIfInBounds_toArray, List.set_cons_zero, List.set_cons_succ]
        refine wpAnyH_take (i := 3) (oi := ?o117) (v := ?hv117) ?hi117 (by kernel_rfl) (by kernel_rfl) (by kernel_rfl) ?hq117 ?hy117 (by assumption) ?hr117
        case hi117 => (simp only [List.getElem?_toArray, List.getElem?_cons_succ, List.getElem?_cons_zero]; rfl)
        case hq117 => exact fun _ _ _ h => h
        case hy117 => exact Or.inl ⟨by rfl, by intro w hSw; (try dsimp only at hSw); go_simp; try with_reducible rfl⟩
        simp only [Act.put, List.setIfInBounds_toArray, List.set_cons_zero, List.set_cons_succ]
        refine wpAnyH_take (i := 4) (oi := ?o118) (v := ?hv118) ?hi118 (by kernel_rfl) (by kernel_rfl) (by kernel_rfl) ?hq118 ?hy118 (by assumption) ?hr118
        case hi118 => (simp only [List.getElem?_toArray, List.getElem?_cons_succ, List.getElem?_cons_zero]; rfl)
        case hq118 => exact fun _ _ _ h => h
        case hy118 => exact Or.inl ⟨by rfl, by intro w hSw; (try dsimp only at hSw); go_simp; try with_reducible rfl⟩
        simp only [Act.put, List.setIfInBounds_toArray, List.set_cons_zero, List.set_cons_succ]
        refine wpAnyH_take (i := 5) (oi := ?o119) (v := ?hv119) ?hi119 (by kernel_rfl) (by kernel_rfl) (by kernel_rfl) ?hq119 ?hy119 (by assumption) ?hr119
        case hi119 => (simp only [List.getElem?_toArray, List.getElem?_cons_succ, List.getElem?_cons_zero]; rfl)
        case hq119 => exact fun _ _ _ h => h
        case hy119 => exact Or.inl ⟨by rfl, by intro w hSw; (try dsimp only at hSw); go_simp; try with_reducible rfl⟩
        simp only [Act.put, List.setIfInBounds_toArray, List.set_cons_zero, List.set_cons_succ]
        refine wpAnyH_take (i := 6) (oi := ?o120) (v := .int .i64 (m : Int)) ?hi120 (by kernel_rfl) (by kernel_rfl) (by kernel_rfl) ?hq120 ?hy120 (by assumption) ?hr120
        case hi120 => (simp only [List.getElem?_toArray, List.getElem?_cons_succ, List.getElem?_cons_zero]; rfl)
        case hq120 => exact fun _ _ _ h => h
        case hy120 => exact Or.inl ⟨by rfl, by intro w hSw; (try dsimp only at hSw); go_simp; try simp only [hsub, hwm]; try with_reducible rfl⟩
        simp only [Act.put, List.setIfInBounds_toArray, List.set_cons_zero, List.set_cons_succ]
        refine wpAnyH_take (i := 7) (oi := ?o121) (v := ?hv121) ?hi121 (by kernel_rfl) (by kernel_rfl) (by kernel_rfl) ?hq121 ?hy121 (by assumption) ?hr121
        case hi121 => (simp only [List.getElem?_toArray, List.getElem?_cons_succ, List.getElem?_cons_zero]; rfl)
        case hq121 => exact fun _ _ _ h => h
        case hy121 => exact Or.inl ⟨by rfl, by intro w hSw; (try dsimp only at hSw); go_simp; try with_reducible rfl⟩
        simp only [Act.put, List.setIfInBounds_toArray, List.set_cons_zero, List.set_cons_succ]
        refine wpAnyH_take (i := 8) (oi := ?o122) (v := ?hv122) ?hi122 (by kernel_rfl) (by kernel_rfl) (by kernel_rfl) ?hq122 ?hy122 (by assumption) ?hr122
        case hi122 => (simp only [List.getElem?_toArray, List.getElem?_cons_succ, List.getElem?_cons_zero]; rfl)
        case hq122 => exact fun _ _ _ h => h
        case hy122 => exact Or.inl ⟨by rfl, by intro w hSw; (try dsimp only at hSw); go_simp; try with_reducible rfl⟩
        simp only [Act.put, List.setIfInBounds_toArray, List.set_cons_zero, List.set_cons_succ]
        refine wpAnyH_take (i := 9) (oi := ?o123) (v := ?hv123) ?hi123 (by kernel_rfl) (by kernel_rfl) (by kernel_rfl) ?hq123 ?hy123 (by assumption) ?hr123
        case hi123 => (simp only [List.getElem?_toArray, List.getElem?_cons_succ, List.getElem?_cons_zero]; rfl)
        case hq123 => exact fun _ _ _ h => h
        case hy123 => exact Or.inl ⟨by rfl, by intro w hSw; (try dsimp only at hSw); go_simp; try with_reducible rfl⟩
        simp only [Act.put, List.setIfInBounds_toArray, List.set_cons_zero, List.set_cons_succ]
        refine wpAnyH_ready (rs := [10]) (by kernel_rfl) (by simp) ?_
        refine (AllReadyH.cons (o := ?o124) ?hi124 (fun K hK => ?hr124) AllReadyH.nil)
        case hi124 => (simp only [List.getElem?_toArray, List.getElem?_cons_succ, List.getElem?_cons_zero]; rfl)
        go_simp
        refine (compare_lit q x _ rfl _).mono ?_
        rintro e w10 ⟨rfl, hb10⟩
        have hb10d : Below w5.heap.size w5 w10 := bstep hb9d.drew hb10 (Nat.le_refl _)
        go_wp2_with fail
        refine hK.out _ _ ?_ (fun hHeld => ?_)
        · exact hk8.out _ hb10d
        clear hK K
        try simp only [Act.put, List.setIfInBounds_toArray, List.set_cons_zero, List.set_cons_succ]
        refine wpAnyH_take (i := 11) (oi := ?o125) (v := .bool false) ?hi125 (by kernel_rfl) (by kernel_rfl) (by kernel_rfl) ?hq125 ?hy125 (by assumption) ?hr125
        case hi125 => (simp only [List.getElem?_toArray, List.getElem?_cons_succ, List.getElem?_cons_zero]; rfl)
        case hq125 => exact fun _ _ _ h => h
        case hy125 => exact Or.inl ⟨by rfl, by intro w hSw; (try dsimp only at hSw); go_simp; try simp only [hcmp]; try with_reducible rfl⟩
        simp only [Act.put, List.setIfInBounds_toArray, List.set_cons_zero, List.set_cons_succ]
        refine wpAnyH_take (i := 12) (oi := ?o126) (v := ?hv126) ?hi126 (by kernel_rfl) (by kernel_rfl) (by kernel_rfl) ?hq126 ?hy126 (by assumption) ?hr126
        case hi126 => (simp only [List.getElem?_toArray, List.getElem?_cons_succ, List.getElem?_cons_zero]; rfl)
        case hq126 => exact fun _ _ _ h => h
        case hy126 => exact Or.inl ⟨by rfl, by intro w hSw; (try dsimp only at hSw); go_simp; try with_reducible rfl⟩
        simp only [Act.put, List.setIfInBounds_toArray, List.set_cons_zero, List.set_cons_succ]
        refine wpAnyH_take (i := 13) (oi := ?o127) (v := ?hv127) ?hi127 (by kernel_rfl) (by kernel_rfl) (by kernel_rfl) ?hq127 ?hy127 (by assumption) ?hr127
        case hi127 => (simp only [List.getElem?_toArray, List.getElem?_cons_succ, List.getElem?_cons_zero]; rfl)
        case hq127 => exact fun _ _ _ h => h
        case hy127 => exact Or.inl ⟨by rfl, by intro w hSw; (try dsimp only at hSw); go_simp; try with_reducible rfl⟩
        simp only [Act.put, List.setIfInBounds_toArray, List.set_cons_zero, List.set_cons_succ]
        refine wpAnyH_done (by kernel_rfl) ?_ _
        go_wp2_with fail
        go_roundw
        case rel => exact ⟨k + 1, by omega, by go_num, bstep hwx (bstep hba hb10d (Nat.le_refl _)) (Nat.le_refl _), hH⟩
        case measure => simp [intOf]; omega
    · obtain rfl : R = (-1, 0) := by rw [← H.out, List.drop_eq_nil_of_le (by omega)]; rfl
      go_wp2_with fail
      go_ret2
      exact ⟨rfl, bstep hb0 hwx (Nat.le_refl _)⟩
end Go.Proofs.YtnddjcadkbjjhaaGreatDoor
