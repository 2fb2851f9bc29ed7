/-
  CHAPTER 35, NETWORKS: checkPower, compare, checkLink.
-/
import Derived.Test.YtnddjcadkbjjhaaGreatDoorNa
namespace Go.Proofs.YtnddjcadkbjjhaaGreatDoor
open Go.RowKit

def outB (x : Int) : Bool := decide (x < 0) || decide (68719476736 < x)
def lenB (k : Int) (r : List Int) : Bool := (r.length : Int) != k
def powE (N : NT) : Int := if ((N.np : Int) != N.k) = true then 1 else if N.rows.any (lenB N.k) = true then 1 else if N.rows.any (fun r => r.any outB) = true then 2 else 0
set_option maxHeartbeats 400000 in
theorem out_lit (x : Int) (b : Bool) (h : outB x = b) (w : World) : Calls Tryz.prog 112 #[.int .i64 x] w fun e w' => e = .returned (.bool b) ∧ Below w.heap.size w w' := by
  subst h
  by_cases h0 : x < 0
  · have e : outB x = true := by unfold outB; simp [h0]
    rw [e]
    clear e
    go_enter Tryz.func112, Tryz.ntmps112
    go_wp2
    go_ret
    exact ⟨rfl, Below.refl _ _⟩
  · have e : outB x = decide (68719476736 < x) := by unfold outB; simp [h0]
    rw [e]
    clear e
    go_enter Tryz.func112, Tryz.ntmps112
    go_wp2
    go_ret
    exact ⟨rfl, Below.refl _ _⟩
set_option maxHeartbeats 400000 in
theorem len_lit (k : Int) (A : Option Addr) (x : List Int) (c b : Nat) (r : Bool) (h : lenB k x = r) (w : World) (hb : w.cell? ⟨b, 0, none⟩ = some (.int .i64 k)) : Calls Tryz.prog 111 #[.slice A x.length c, .pointer (some ⟨b, 0, none⟩)] w fun e w' => e = .returned (.bool r) ∧ Below w.heap.size w w' := by
  unfold lenB at h
  go_enter Tryz.func111, Tryz.ntmps111
  go_wp2
  go_ret
  exact ⟨rfl, Below.refl _ _⟩
set_option maxHeartbeats 400000 in
theorem outs_lit (A : Option Addr) (x : List Int) (c b : Nat) (hn : x.length ≤ 1000000) (r : Bool) (h : x.any outB = r) (w : World) (hb : w.cell? ⟨b, 0, none⟩ = some (.func (.func 112) #[] #[])) (hx : Reads w w.heap.size A x.length x) : Calls Tryz.prog 113 #[.slice A x.length c, .pointer (some ⟨b, 0, none⟩)] w fun e w' => e = .returned (.bool r) ∧ Below w.heap.size w w' := by
  have h := Lib.hid h
  have hx := Lib.hid hx
  go_enter Tryz.func113, Tryz.ntmps113
  go_wp2_with fail
  refine (has114_112 A x.length c x outB hn r h _ hx (Lib.hid fun wx y b _ _ hb => out_lit y b hb wx)).mono ?_
  rintro e w2 ⟨rfl, hb2⟩
  go_wp2_with fail
  go_ret
  exact ⟨rfl, hb2⟩
set_option maxHeartbeats 1600000 in
set_option maxRecDepth 100000 in
theorem pow_1 (N : NT) (_hs : N.np ≤ 1000000) (h0 : ((N.np : Int) != N.k) = true) (w : World) (hN : Hid (NetM w w.heap.size N)) :
    Calls Tryz.prog 80 #[.agg #[.int .i64 N.k, .slice N.Ap N.np N.cp, .int .i64 N.z, .int .i64 N.h, .slice N.Al N.nl N.cl, .slice N.Am N.nm N.cm]] w fun e w' => e = .returned (.int .i64 1) ∧ Below w.heap.size w w' := by
  have hb0 := alloc_below w (ONT N)
  have hB0 := Lib.hid (BoxNT.new N w)
  have hl0 : w.heap.size < (w.alloc (ONT N)).heap.size := by simp
  have hR0 := Lib.hid ((hN.out.1.below hb0).more hb0.size)
  clear hN
  go_enter Tryz.func80, Tryz.ntmps80
  go_wp2_with fail
  go_ret
  exact ⟨rfl, hb0⟩
set_option maxHeartbeats 1600000 in
set_option maxRecDepth 100000 in
theorem pow_2 (N : NT) (hs : N.np ≤ 1000000) (h0 : ((N.np : Int) != N.k) = false) (h1 : Hid (N.rows.any (lenB N.k) = true)) (w : World) (hN : Hid (NetM w w.heap.size N)) :
    Calls Tryz.prog 80 #[.agg #[.int .i64 N.k, .slice N.Ap N.np N.cp, .int .i64 N.z, .int .i64 N.h, .slice N.Al N.nl N.cl, .slice N.Am N.nm N.cm]] w fun e w' => e = .returned (.int .i64 1) ∧ Below w.heap.size w w' := by
  have hb0 := alloc_below w (ONT N)
  have hB0 := Lib.hid (BoxNT.new N w)
  have hl0 : w.heap.size < (w.alloc (ONT N)).heap.size := by simp
  have hR0 := Lib.hid ((hN.out.1.below hb0).more hb0.size)
  clear hN
  go_enter Tryz.func80, Tryz.ntmps80
  go_wp2_with fail
  revert hb0 hB0 hl0 hR0
  generalize w.alloc (ONT N) = w0
  intro hb0 hB0 hl0 hR0
  refine (has110_111 (.pointer (some ⟨w.heap.size, 0, none⟩)) N.Ap N.np N.cp N.rows (lenB N.k) hs true h1 _ hR0 (Lib.hid fun wx A' c' y b hwx _ _ _ hb => len_lit N.k A' y c' w.heap.size b hb wx (hB0.out.below hwx hl0).1)).mono ?_
  rintro e w1 ⟨rfl, hb1⟩
  have hbw1 := bstep hb0 hb1 (Nat.le_refl _)
  go_wp2_with fail
  go_ret
  exact ⟨rfl, hbw1⟩
set_option maxHeartbeats 1600000 in
set_option maxRecDepth 100000 in
theorem pow_3 (N : NT) (hs : N.np ≤ 1000000) (h0 : ((N.np : Int) != N.k) = false) (h1 : Hid (N.rows.any (lenB N.k) = false)) (h2 : Hid (N.rows.any (fun r => r.any outB) = true)) (w : World) (hN : Hid (NetM w w.heap.size N)) :
    Calls Tryz.prog 80 #[.agg #[.int .i64 N.k, .slice N.Ap N.np N.cp, .int .i64 N.z, .int .i64 N.h, .slice N.Al N.nl N.cl, .slice N.Am N.nm N.cm]] w fun e w' => e = .returned (.int .i64 2) ∧ Below w.heap.size w w' := by
  have hb0 := alloc_below w (ONT N)
  have hB0 := Lib.hid (BoxNT.new N w)
  have hl0 : w.heap.size < (w.alloc (ONT N)).heap.size := by simp
  have hR0 := Lib.hid ((hN.out.1.below hb0).more hb0.size)
  clear hN
  go_enter Tryz.func80, Tryz.ntmps80
  go_wp2_with fail
  revert hb0 hB0 hl0 hR0
  generalize w.alloc (ONT N) = w0
  intro hb0 hB0 hl0 hR0
  refine (has110_111 (.pointer (some ⟨w.heap.size, 0, none⟩)) N.Ap N.np N.cp N.rows (lenB N.k) hs false h1 _ hR0 (Lib.hid fun wx A' c' y b hwx _ _ _ hb => len_lit N.k A' y c' w.heap.size b hb wx (hB0.out.below hwx hl0).1)).mono ?_
  rintro e w1 ⟨rfl, hb1⟩
  have hbw1 := bstep hb0 hb1 (Nat.le_refl _)
  have hB1 := Lib.hid (hB0.out.below hb1 hl0)
  have hR1 := Lib.hid ((hR0.out.below hb1).more hb1.size)
  obtain ⟨n0, n1, n2, n3, n4, n5⟩ := id hB1.out
  have hbv := alloc_below w1 (.cells #[.func (.func 112) #[] #[]] 124)
  have hl1 : w1.heap.size < (w1.alloc (.cells #[.func (.func 112) #[] #[]] 124)).heap.size := by simp
  have hv : (w1.alloc (.cells #[.func (.func 112) #[] #[]] 124)).cell? ⟨w1.heap.size, 0, none⟩ = some (.func (.func 112) #[] #[]) := by simp [go_sem]
  have hR2 := Lib.hid ((hR1.out.below hbv).more hbv.size)
  have hl0' := Nat.lt_of_lt_of_le hl0 hb1.size
  have hv := Lib.hid hv
  go_wp2_with fail
  revert hbv hl1 hR2 hv
  generalize w1.alloc (.cells #[.func (.func 112) #[] #[]] 124) = w2
  intro hbv hl1 hR2 hv
  refine (has110_113 (.pointer (some ⟨w1.heap.size, 0, none⟩)) N.Ap N.np N.cp N.rows (fun r => r.any outB) hs true h2 _ hR2 (Lib.hid fun wx A' c' y b hwx _ hy hyn hb => outs_lit A' y c' w1.heap.size hyn b hb wx ((hwx.cell (p := ⟨w1.heap.size, 0, none⟩) hl1).trans hv.out) hy)).mono ?_
  rintro e w3 ⟨rfl, hb3⟩
  go_wp2_with fail
  go_ret
  exact ⟨rfl, bstep (bstep hbw1 hbv (Nat.le_refl _)) hb3 (Nat.le_refl _)⟩
set_option maxHeartbeats 1600000 in
set_option maxRecDepth 100000 in
theorem pow_4 (N : NT) (hs : N.np ≤ 1000000) (h0 : ((N.np : Int) != N.k) = false) (h1 : Hid (N.rows.any (lenB N.k) = false)) (h2 : Hid (N.rows.any (fun r => r.any outB) = false)) (w : World) (hN : Hid (NetM w w.heap.size N)) :
    Calls Tryz.prog 80 #[.agg #[.int .i64 N.k, .slice N.Ap N.np N.cp, .int .i64 N.z, .int .i64 N.h, .slice N.Al N.nl N.cl, .slice N.Am N.nm N.cm]] w fun e w' => e = .returned (.int .i64 0) ∧ Below w.heap.size w w' := by
  have hb0 := alloc_below w (ONT N)
  have hB0 := Lib.hid (BoxNT.new N w)
  have hl0 : w.heap.size < (w.alloc (ONT N)).heap.size := by simp
  have hR0 := Lib.hid ((hN.out.1.below hb0).more hb0.size)
  clear hN
  go_enter Tryz.func80, Tryz.ntmps80
  go_wp2_with fail
  revert hb0 hB0 hl0 hR0
  generalize w.alloc (ONT N) = w0
  intro hb0 hB0 hl0 hR0
  refine (has110_111 (.pointer (some ⟨w.heap.size, 0, none⟩)) N.Ap N.np N.cp N.rows (lenB N.k) hs false h1 _ hR0 (Lib.hid fun wx A' c' y b hwx _ _ _ hb => len_lit N.k A' y c' w.heap.size b hb wx (hB0.out.below hwx hl0).1)).mono ?_
  rintro e w1 ⟨rfl, hb1⟩
  have hbw1 := bstep hb0 hb1 (Nat.le_refl _)
  have hB1 := Lib.hid (hB0.out.below hb1 hl0)
  have hR1 := Lib.hid ((hR0.out.below hb1).more hb1.size)
  obtain ⟨n0, n1, n2, n3, n4, n5⟩ := id hB1.out
  have hbv := alloc_below w1 (.cells #[.func (.func 112) #[] #[]] 124)
  have hl1 : w1.heap.size < (w1.alloc (.cells #[.func (.func 112) #[] #[]] 124)).heap.size := by simp
  have hv : (w1.alloc (.cells #[.func (.func 112) #[] #[]] 124)).cell? ⟨w1.heap.size, 0, none⟩ = some (.func (.func 112) #[] #[]) := by simp [go_sem]
  have hR2 := Lib.hid ((hR1.out.below hbv).more hbv.size)
  have hl0' := Nat.lt_of_lt_of_le hl0 hb1.size
  have hv := Lib.hid hv
  go_wp2_with fail
  revert hbv hl1 hR2 hv
  generalize w1.alloc (.cells #[.func (.func 112) #[] #[]] 124) = w2
  intro hbv hl1 hR2 hv
  refine (has110_113 (.pointer (some ⟨w1.heap.size, 0, none⟩)) N.Ap N.np N.cp N.rows (fun r => r.any outB) hs false h2 _ hR2 (Lib.hid fun wx A' c' y b hwx _ hy hyn hb => outs_lit A' y c' w1.heap.size hyn b hb wx ((hwx.cell (p := ⟨w1.heap.size, 0, none⟩) hl1).trans hv.out) hy)).mono ?_
  rintro e w3 ⟨rfl, hb3⟩
  go_wp2_with fail
  go_ret
  exact ⟨rfl, bstep (bstep hbw1 hbv (Nat.le_refl _)) hb3 (Nat.le_refl _)⟩
theorem pow_lit (N : NT) (hs : N.np ≤ 1000000) (r : Int) (hr : powE N = r) (w : World) (hN : NetM w w.heap.size N) :
    Calls Tryz.prog 80 #[.agg #[.int .i64 N.k, .slice N.Ap N.np N.cp, .int .i64 N.z, .int .i64 N.h, .slice N.Al N.nl N.cl, .slice N.Am N.nm N.cm]] w fun e w' => e = .returned (.int .i64 r) ∧ Below w.heap.size w w' := by
  subst hr
  unfold powE
  cases h0 : ((N.np : Int) != N.k)
  · rw [if_neg (by simp)]
    cases h1 : N.rows.any (lenB N.k)
    · rw [if_neg (by simp)]
      cases h2 : N.rows.any (fun r => r.any outB)
      · rw [if_neg (by simp)]
        exact pow_4 N hs h0 (Lib.hid h1) (Lib.hid h2) w (Lib.hid hN)
      · rw [if_pos rfl]
        exact pow_3 N hs h0 (Lib.hid h1) (Lib.hid h2) w (Lib.hid hN)
    · rw [if_pos rfl]
      exact pow_2 N hs h0 (Lib.hid h1) w (Lib.hid hN)
  · rw [if_pos rfl]
    exact pow_1 N hs h0 w (Lib.hid hN)
def orI (c d : Int) : Int := if c = 0 then d else c
set_option maxHeartbeats 400000 in
theorem or_lit (c d r : Int) (h : Hid (orI c d = r)) (b : Nat) (w : World) (h0 : w.cell? ⟨b, 0, none⟩ = some (.int .i64 c)) (h1 : w.cell? ⟨b, 1, none⟩ = some (.int .i64 d)) :
    Calls Tryz.prog 146 #[.slice (some ⟨b, 0, none⟩) 2 2] w fun e w' => e = .returned (.int .i64 r) ∧ w = w' := by
  go_enter Tryz.func146, Tryz.ntmps146
  go_wp2_with fail
  go_loop [8] (fun i => ∃ k : Nat, k ≤ 2 ∧ i = .int .i64 k ∧ Hid ((1 ≤ k → c = 0) ∧ (2 ≤ k → d = 0))) (fun i => 2 - (intOf i).toNat)
  case atStart => exact ⟨0, Nat.zero_le _, rfl, Lib.hid ⟨fun h => by omega, fun h => by omega⟩⟩
  case round =>
    obtain ⟨k, hk, rfl, H⟩ := hrel
    rcases (show k = 0 ∨ k = 1 ∨ k = 2 by omega) with rfl | rfl | rfl
    · by_cases hc : c = 0
      · have hc1 : (c != 0) = false := by simp [hc]
        have hc := Lib.hid hc
        go_wp2_with fail
        go_round
        case rel => exact ⟨1, by omega, by go_num, Lib.hid ⟨fun _ => hc.out, fun h => by omega⟩⟩
        case measure => simp [intOf]
      · have hc1 : (c != 0) = true := by simp [hc]
        have hc := Lib.hid hc
        go_wp2_with fail
        go_ret
        exact ⟨ret_int (by rw [← h.out]; unfold orI; rw [if_neg hc.out]), rfl⟩
    · have hc0 := Lib.hid (H.out.1 (Nat.le_refl _))
      by_cases hd : d = 0
      · have hd1 : (d != 0) = false := by simp [hd]
        have hd := Lib.hid hd
        go_wp2_with fail
        go_round
        case rel => exact ⟨2, by omega, by go_num, Lib.hid ⟨fun _ => hc0.out, fun _ => hd.out⟩⟩
        case measure => simp [intOf]
      · have hd1 : (d != 0) = true := by simp [hd]
        have hd := Lib.hid hd
        go_wp2_with fail
        go_ret
        exact ⟨ret_int (by rw [← h.out]; unfold orI; rw [if_pos hc0.out]), rfl⟩
    · have hc0 := Lib.hid (H.out.1 (by omega))
      have hd0 := Lib.hid (H.out.2 (by omega))
      go_wp2_with fail
      go_ret
      exact ⟨ret_int (by rw [← h.out]; unfold orI; rw [if_pos hc0.out, hd0.out]), rfl⟩
def cmpLk (a b : L3) : Int := orI (cmpI a.f b.f) (cmpI a.t b.t)
theorem twoL3 (a b : L3) (w : World) : Below w.heap.size w ((w.alloc (OL3 a)).alloc (OL3 b)) ∧ BoxL3 ((w.alloc (OL3 a)).alloc (OL3 b)) w.heap.size a ∧ BoxL3 ((w.alloc (OL3 a)).alloc (OL3 b)) (w.heap.size + 1) b ∧ w.heap.size + 1 < ((w.alloc (OL3 a)).alloc (OL3 b)).heap.size := by
  refine ⟨bstep (alloc_below _ _) (alloc_below _ _) (Nat.le_refl _), (BoxL3.new a w).below (alloc_below _ _) (by simp), ?_, by simp⟩
  have := BoxL3.new b (w.alloc (OL3 a))
  rwa [World.size_alloc] at this
set_option maxHeartbeats 1600000 in
set_option maxRecDepth 100000 in
theorem cmpLk_lit (a b : L3) (r : Int) (h : Hid (cmpLk a b = r)) (w : World) :
    Calls Tryz.prog 116 #[.agg #[.int .i64 a.f, .int .i64 a.t, .int .i64 a.l], .agg #[.int .i64 b.f, .int .i64 b.t, .int .i64 b.l]] w fun e w' => e = .returned (.int .i64 r) ∧ Below w.heap.size w w' := by
  obtain ⟨hb, hA, hB, hs⟩ := twoL3 a b w
  have hA := Lib.hid hA
  have hB := Lib.hid hB
  have h : Hid (orI (cmpI a.f b.f) (cmpI a.t b.t) = r) := h
  go_enter Tryz.func116, Tryz.ntmps116
  go_upto_region 13 with fail
  revert hb hs hA hB
  generalize (w.alloc (OL3 a)).alloc (OL3 b) = w1
  intro hb hs hA hB
  have hk : Hid (∀ W, Below w1.heap.size w1 W → (fun W => W.cell? ⟨w.heap.size, 0, none⟩ = some (.int .i64 a.f) ∧ W.cell? ⟨w.heap.size, 1, none⟩ = some (.int .i64 a.t) ∧ W.cell? ⟨w.heap.size, 2, none⟩ = some (.int .i64 a.l) ∧ W.cell? ⟨w.heap.size + 1, 0, none⟩ = some (.int .i64 b.f) ∧ W.cell? ⟨w.heap.size + 1, 1, none⟩ = some (.int .i64 b.t) ∧ W.cell? ⟨w.heap.size + 1, 2, none⟩ = some (.int .i64 b.l)) W) := Lib.hid (fun W h => by
    obtain ⟨a0, a1, a2⟩ := hA.out.below h (Nat.lt_of_succ_lt hs)
    obtain ⟨b0, b1, b2⟩ := hB.out.below h hs
    exact ⟨a0, a1, a2, b0, b1, b2⟩)
  refine wp_region_held_drew (S := (fun W => W.cell? ⟨w.heap.size, 0, none⟩ = some (.int .i64 a.f) ∧ W.cell? ⟨w.heap.size, 1, none⟩ = some (.int .i64 a.t) ∧ W.cell? ⟨w.heap.size, 2, none⟩ = some (.int .i64 a.l) ∧ W.cell? ⟨w.heap.size + 1, 0, none⟩ = some (.int .i64 b.f) ∧ W.cell? ⟨w.heap.size + 1, 1, none⟩ = some (.int .i64 b.t) ∧ W.cell? ⟨w.heap.size + 1, 2, none⟩ = some (.int .i64 b.l))) (by kernel_rfl) (hk.out _ (Below.refl _ w1).drew) (fun hHeld => ?_)
  refine wpAnyH_take (i := 0) (oi := ?o1) (v := ?hv1) ?hi1 (by kernel_rfl) (by kernel_rfl) (by kernel_rfl) ?hq1 ?hy1 (by assumption) ?hr1
  case hi1 => (simp only [List.getElem?_toArray, List.getElem?_cons_zero]; rfl)
  case hq1 => exact fun _ _ _ h => h
  case hy1 => exact Or.inl ⟨by rfl, by intro w hSw; (try dsimp only at hSw); go_simp; try with_reducible rfl⟩
  simp only [Act.put, List.setIfInBounds_toArray, List.set_cons_zero, List.set_cons_succ]
  refine wpAnyH_take (i := 1) (oi := ?o2) (v := ?hv2) ?hi2 (by kernel_rfl) (by kernel_rfl) (by kernel_rfl) ?hq2 ?hy2 (by assumption) ?hr2
  case hi2 => (simp only [List.getElem?_toArray, List.getElem?_cons_succ, List.getElem?_cons_zero]; rfl)
  case hq2 => exact fun _ _ _ h => h
  case hy2 => exact Or.inl ⟨by rfl, by intro w hSw; (try dsimp only at hSw); go_simp; try with_reducible rfl⟩
  simp only [Act.put, List.setIfInBounds_toArray, List.set_cons_zero, List.set_cons_succ]
  refine wpAnyH_take (i := 2) (oi := ?o3) (v := ?hv3) ?hi3 (by kernel_rfl) (by kernel_rfl) (by kernel_rfl) ?hq3 ?hy3 (by assumption) ?hr3
  case hi3 => (simp only [List.getElem?_toArray, List.getElem?_cons_succ, List.getElem?_cons_zero]; rfl)
  case hq3 => exact fun _ _ _ h => h
  case hy3 => exact Or.inl ⟨by rfl, by intro w hSw; (try dsimp only at hSw); go_simp; try with_reducible rfl⟩
  simp only [Act.put, List.setIfInBounds_toArray, List.set_cons_zero, List.set_cons_succ]
  refine wpAnyH_take (i := 3) (oi := ?o4) (v := ?hv4) ?hi4 (by kernel_rfl) (by kernel_rfl) (by kernel_rfl) ?hq4 ?hy4 (by assumption) ?hr4
  case hi4 => (simp only [List.getElem?_toArray, List.getElem?_cons_succ, List.getElem?_cons_zero]; rfl)
  case hq4 => exact fun _ _ _ h => h
  case hy4 => exact Or.inl ⟨by rfl, by intro w hSw; (try dsimp only at hSw); go_simp; try with_reducible rfl⟩
  simp only [Act.put, List.setIfInBounds_toArray, List.set_cons_zero, List.set_cons_succ]
  refine wpAnyH_take (i := 5) (oi := ?o5) (v := ?hv5) ?hi5 (by kernel_rfl) (by kernel_rfl) (by kernel_rfl) ?hq5 ?hy5 (by assumption) ?hr5
  case hi5 => (simp only [List.getElem?_toArray, List.getElem?_cons_succ, List.getElem?_cons_zero]; rfl)
  case hq5 => exact fun _ _ _ h => h
  case hy5 => exact Or.inl ⟨by rfl, by intro w hSw; (try dsimp only at hSw); go_simp; try with_reducible rfl⟩
  simp only [Act.put, List.setIfInBounds_toArray, List.set_cons_zero, List.set_cons_succ]
  refine wpAnyH_take (i := 6) (oi := ?o6) (v := ?hv6) ?hi6 (by kernel_rfl) (by kernel_rfl) (by kernel_rfl) ?hq6 ?hy6 (by assumption) ?hr6
  case hi6 => (simp only [List.getElem?_toArray, List.getElem?_cons_succ, List.getElem?_cons_zero]; rfl)
  case hq6 => exact fun _ _ _ h => h
  case hy6 => exact Or.inl ⟨by rfl, by intro w hSw; (try dsimp only at hSw); go_simp; try with_reducible rfl⟩
  simp only [Act.put, List.setIfInBounds_toArray, List.set_cons_zero, List.set_cons_succ]
  refine wpAnyH_take (i := 7) (oi := ?o7) (v := ?hv7) ?hi7 (by kernel_rfl) (by kernel_rfl) (by kernel_rfl) ?hq7 ?hy7 (by assumption) ?hr7
  case hi7 => (simp only [List.getElem?_toArray, List.getElem?_cons_succ, List.getElem?_cons_zero]; rfl)
  case hq7 => exact fun _ _ _ h => h
  case hy7 => exact Or.inl ⟨by rfl, by intro w hSw; (try dsimp only at hSw); go_simp; try with_reducible rfl⟩
  simp only [Act.put, List.setIfInBounds_toArray, List.set_cons_zero, List.set_cons_succ]
  refine wpAnyH_take (i := 8) (oi := ?o8) (v := ?hv8) ?hi8 (by kernel_rfl) (by kernel_rfl) (by kernel_rfl) ?hq8 ?hy8 (by assumption) ?hr8
  case hi8 => (simp only [List.getElem?_toArray, List.getElem?_cons_succ, List.getElem?_cons_zero]; rfl)
  case hq8 => exact fun _ _ _ h => h
  case hy8 => exact Or.inl ⟨by rfl, by intro w hSw; (try dsimp only at hSw); go_simp; try with_reducible rfl⟩
  simp only [Act.put, List.setIfInBounds_toArray, List.set_cons_zero, List.set_cons_succ]
  refine wpAnyH_ready (rs := [4]) (by kernel_rfl) (by simp) ?_
  refine (AllReadyH.cons (o := ?o9) ?hi9 (fun K hK => ?hr9) AllReadyH.nil)
  case hi9 => (simp only [List.getElem?_toArray, List.getElem?_cons_succ, List.getElem?_cons_zero]; rfl)
  go_simp
  refine (Compare_lit a.f b.f _ rfl _).mono ?_
  rintro e w' ⟨rfl, rfl⟩
  go_wp2_with fail
  refine hK.out _ _ ?_ (fun hHeld => ?_)
  · exact hk.out _ (Below.refl _ w1).drew
  clear hK K
  try simp only [Act.put, List.setIfInBounds_toArray, List.set_cons_zero, List.set_cons_succ]
  refine wpAnyH_ready (rs := [9]) (by kernel_rfl) (by simp) ?_
  refine (AllReadyH.cons (o := ?o10) ?hi10 (fun K hK => ?hr10) AllReadyH.nil)
  case hi10 => (simp only [List.getElem?_toArray, List.getElem?_cons_succ, List.getElem?_cons_zero]; rfl)
  go_simp
  refine (Compare_lit a.t b.t _ rfl _).mono ?_
  rintro e w' ⟨rfl, rfl⟩
  go_wp2_with fail
  refine hK.out _ _ ?_ (fun hHeld => ?_)
  · exact hk.out _ (Below.refl _ w1).drew
  clear hK K
  try simp only [Act.put, List.setIfInBounds_toArray, List.set_cons_zero, List.set_cons_succ]
  refine wpAnyH_ready (rs := [10]) (by kernel_rfl) (by simp) ?_
  refine (AllReadyH.cons (o := ?o11) ?hi11 (fun K hK => ?hr11) AllReadyH.nil)
  case hi11 => (simp only [List.getElem?_toArray, List.getElem?_cons_succ, List.getElem?_cons_zero]; rfl)
  go_simp
  refine hK.out _ _ ?_ (fun hHeld => ?_)
  · exact hk.out _ (((Below.refl _ w1).alloc (Nat.le_refl _) _).drew)
  clear hK K
  try simp only [Act.put, List.setIfInBounds_toArray, List.set_cons_zero, List.set_cons_succ]
  refine wpAnyH_ready (rs := [11]) (by kernel_rfl) (by simp) ?_
  refine (AllReadyH.cons (o := ?o12) ?hi12 (fun K hK => ?hr12) AllReadyH.nil)
  case hi12 => (simp only [List.getElem?_toArray, List.getElem?_cons_succ, List.getElem?_cons_zero]; rfl)
  go_simp
  refine (or_lit _ _ r h w1.heap.size _ (by simp [go_sem]) (by simp [go_sem])).mono ?_
  rintro e w' ⟨rfl, rfl⟩
  go_wp2_with fail
  refine hK.out _ _ ?_ (fun hHeld => ?_)
  · exact hk.out _ (((Below.refl _ w1).alloc (Nat.le_refl _) _).drew)
  clear hK K
  try simp only [Act.put, List.setIfInBounds_toArray, List.set_cons_zero, List.set_cons_succ]
  refine wpAnyH_take (i := 12) (oi := ?o13) (v := ?hv13) ?hi13 (by kernel_rfl) (by kernel_rfl) (by kernel_rfl) ?hq13 ?hy13 (by assumption) ?hr13
  case hi13 => (simp only [List.getElem?_toArray, List.getElem?_cons_succ, List.getElem?_cons_zero]; rfl)
  case hq13 => exact fun _ _ _ h => h
  case hy13 => exact Or.inl ⟨by rfl, by intro w hSw; (try dsimp only at hSw); go_simp; try with_reducible rfl⟩
  simp only [Act.put, List.setIfInBounds_toArray, List.set_cons_zero, List.set_cons_succ]
  refine wpAnyH_done (by kernel_rfl) ?_ _
  go_wp2_with fail
  go_ret
  exact ⟨rfl, bstep hb (((Below.refl _ w1).alloc (Nat.le_refl _) _).drew) (Nat.le_refl _)⟩
end Go.Proofs.YtnddjcadkbjjhaaGreatDoor
