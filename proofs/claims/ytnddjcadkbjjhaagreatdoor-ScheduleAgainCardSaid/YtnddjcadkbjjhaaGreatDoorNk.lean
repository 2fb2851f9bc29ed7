/-
  CHAPTER 35: conflict.Disturbance.
-/
import Derived.Test.YtnddjcadkbjjhaaGreatDoorNj
namespace Go.Proofs.YtnddjcadkbjjhaaGreatDoor
open Go.RowKit

set_option maxHeartbeats 800000 in
theorem isNode_lit (k x : Int) (v1 v2 v3 v4 v5 : Value) (r : Bool) (h : insB x k = r) (w : World) : Calls Tryz.prog 123 #[.agg #[.int .i64 k, v1, v2, v3, v4, v5], .int .i64 x] w fun e w' => e = .returned (.bool r) ∧ Below w.heap.size w w' := by
  subst h
  by_cases h0 : 0 ≤ x
  · have e : insB x k = decide (x < k) := by unfold insB; simp [h0]
    rw [e]
    clear e
    go_enter Tryz.func123, Tryz.ntmps123
    go_wp2
    go_ret
    exact ⟨rfl, alloc_below _ _⟩
  · have e : insB x k = false := by unfold insB; simp [h0]
    rw [e]
    clear e
    go_enter Tryz.func123, Tryz.ntmps123
    go_wp2
    go_ret
    exact ⟨rfl, alloc_below _ _⟩
/-- An end of a cell that is no node. -/
def noneB (N : NT) (c : C5) : Bool := !insB c.f N.k || !insB c.t N.k
set_option maxHeartbeats 1600000 in
theorem none_lit (N : NT) (c : C5) (b : Nat) (r : Bool) (h : Hid (noneB N c = r)) (w : World) (hB : Hid (BoxNT w b N)) (hl : b < w.heap.size) : Calls Tryz.prog 122 #[.agg #[.int .i64 c.s, .int .i64 c.o, .int .i64 c.f, .int .i64 c.t, .int .i64 c.w], .pointer (some ⟨b, 0, none⟩)] w fun e w' => e = .returned (.bool r) ∧ Below w.heap.size w w' := by
  have hb0 := alloc_below w (N51 c)
  have hB0 := Lib.hid (hB.out.below hb0 hl)
  have hX0 := Lib.hid (Box5.new c 51 w)
  have hl0 : w.heap.size < (w.alloc (N51 c)).heap.size := by simp
  have hlb := Nat.lt_trans hl hl0
  cases h1 : insB c.f N.k
  · obtain rfl : r = true := by rw [← h.out]; unfold noneB; rw [h1]; rfl
    have h1 := Lib.hid h1
    go_enter Tryz.func122, Tryz.ntmps122
    go_upto_region 1 with fail
    revert hb0 hB0 hX0 hl0 hlb
    generalize w.alloc (N51 c) = w0
    intro hb0 hB0 hX0 hl0 hlb
    obtain ⟨n0, n1, n2, n3, n4, n5⟩ := id hB0.out
    obtain ⟨x0, x1, x2, x3, x4⟩ := id hX0.out
    go_wp2_with fail
    refine (isNode_lit N.k c.f _ _ _ _ _ false h1.out _).mono ?_
    rintro e w1 ⟨rfl, hb1⟩
    go_wp2_with fail
    go_ret
    exact ⟨rfl, bstep hb0 hb1 (Nat.le_refl _)⟩
  · obtain rfl : r = !insB c.t N.k := by rw [← h.out]; unfold noneB; rw [h1]; rfl
    have h1 := Lib.hid h1
    clear h
    cases h2 : insB c.t N.k
    all_goals
      have h2' := Lib.hid h2
      clear h2
      go_enter Tryz.func122, Tryz.ntmps122
      go_upto_region 1 with fail
      revert hb0 hB0 hX0 hl0 hlb
      generalize w.alloc (N51 c) = w0
      intro hb0 hB0 hX0 hl0 hlb
      obtain ⟨n0, n1, n2, n3, n4, n5⟩ := id hB0.out
      obtain ⟨x0, x1, x2, x3, x4⟩ := id hX0.out
      go_wp2_with fail
      refine (isNode_lit N.k c.f _ _ _ _ _ true h1.out _).mono ?_
      rintro e w1 ⟨rfl, hb1⟩
      clear n0 n1 n2 n3 n4 n5 x0 x1 x2 x3 x4
      obtain ⟨n0, n1, n2, n3, n4, n5⟩ := hB0.out.below hb1 hlb
      obtain ⟨x0, x1, x2, x3, x4⟩ := hX0.out.below hb1 hl0
      go_wp2_with fail
      refine (isNode_lit N.k c.t _ _ _ _ _ _ h2'.out _).mono ?_
      rintro e w2 ⟨rfl, hb2⟩
      go_wp2_with fail
      go_ret
      exact ⟨rfl, bstep (bstep hb0 hb1 (Nat.le_refl _)) hb2 (Nat.le_refl _)⟩
/-- The disturbance of a cell: what all others send. -/
def distK (N : NT) (i : Nat) (d : Int) : Nat → List C5 → Int
  | _, [] => 0
  | k, c :: r => (if k = i then 0 else pw N.rows c.f d + pw N.rows c.t d) + distK N i d (k + 1) r
theorem distK_drop (N : NT) (i : Nat) (d : Int) (cs : List C5) (k : Nat) (c : C5) (h : cs[k]? = some c) : distK N i d k (cs.drop k) = (if k = i then 0 else pw N.rows c.f d + pw N.rows c.t d) + distK N i d (k + 1) (cs.drop (k + 1)) := by
  obtain ⟨h1, e1⟩ := List.getElem?_eq_some_iff.1 h
  rw [List.drop_eq_getElem_cons h1, e1]; rfl
def nodesC (N : NT) (cs : List C5) : Prop := ∀ c ∈ cs, insB c.f N.k = true ∧ insB c.t N.k = true
theorem pw_at {N : NT} (hV : NetV N) (a d : Nat) (ha : (a : Int) < N.k) (hd : (d : Int) < N.k) : ∃ row p, N.rows[a]? = some row ∧ row[d]? = some p ∧ pw N.rows a d = p ∧ 0 ≤ p ∧ p ≤ 68719476736 ∧ row.length ≤ 32 ∧ a < N.np ∧ d < row.length := by
  have h1 := hV.lrows
  have h2 := hV.np
  have h3 := hV.k32
  obtain ⟨row, hr⟩ : ∃ row, N.rows[a]? = some row := ⟨_, List.getElem?_eq_getElem (by omega)⟩
  have h4 := hV.rl row (List.mem_of_getElem? hr)
  obtain ⟨p, hp⟩ : ∃ p, row[d]? = some p := ⟨_, List.getElem?_eq_getElem (by omega)⟩
  have h5 := hV.pr row (List.mem_of_getElem? hr) p (List.mem_of_getElem? hp)
  refine ⟨row, p, hr, hp, ?_, h5.1, h5.2, by omega, by omega, by omega⟩
  unfold pw
  simp [List.getD_eq_getElem?_getD, hr, hp]
set_option maxHeartbeats 8000000 in
set_option maxRecDepth 100000 in
theorem dist_lit (N : NT) (hV : Hid (NetV N)) (A : Option Addr) (n c : Nat) (cs : List C5) (hn : n ≤ 1000000) (hcn : Hid (nodesC N cs)) (i d : Nat) (hd : (d : Int) < N.k) (R : Int) (hR : Hid (distK N i d 0 cs = R)) (w : World) (hN : Hid (NetM w w.heap.size N)) (hcs : Hid (Cells w w.heap.size A n cs)) :
    Calls Tryz.prog 125 #[.agg #[.int .i64 N.k, .slice N.Ap N.np N.cp, .int .i64 N.z, .int .i64 N.h, .slice N.Al N.nl N.cl, .slice N.Am N.nm N.cm], .slice A n c, .int .i64 i, .int .i64 d] w fun e w' => e = .returned (.int .i64 R) ∧ Below w.heap.size w w' := by
  have hb0 := alloc_below w (ONT N)
  have hB0 := Lib.hid (BoxNT.new N w)
  have hl0 : w.heap.size < (w.alloc (ONT N)).heap.size := by simp
  have hM0 := Lib.hid ((hN.out.below hb0).more hb0.size)
  have hC0 := Lib.hid ((hcs.out.below hb0).more hb0.size)
  have hl := hcs.out.1
  have hk32 := hV.out.k32
  clear hN hcs
  go_enter Tryz.func125, Tryz.ntmps125
  go_upto_region 1 with fail
  revert hb0 hB0 hl0 hM0 hC0
  generalize w.alloc (ONT N) = w0
  intro hb0 hB0 hl0 hM0 hC0
  go_wp2_with fail
  go_loopw [9, 16] (fun s j wx => ∃ (k : Nat) (S : Int), k ≤ n ∧ j = .int .i64 k ∧ s = .int .i64 S ∧ 0 ≤ S ∧ S ≤ k * 137438953472 ∧ Below w0.heap.size w0 wx ∧ Hid (S + distK N i d k (cs.drop k) = R)) (fun _ j _ => n - (intOf j).toNat)
  case atStart => exact ⟨0, 0, Nat.zero_le _, rfl, rfl, by omega, by omega, Below.refl _ _, Lib.hid (by rw [Int.zero_add]; exact hR.out)⟩
  case round =>
    obtain ⟨k, S0, hk, rfl, rfl, hS0, hS1, hwx, H⟩ := hrel
    by_cases hlt : k < n
    · obtain ⟨b, off, y, hA, hby, ey, y0, y1, y2, y3, y4⟩ := (hC0.out.below hwx).at_ hlt
      subst hA
      have hd1 := Lib.hid (distK_drop N i d cs k y ey)
      have hnc := hcn.out y (List.mem_of_getElem? ey)
      have hk0 : (0 : Int) ≤ (k : Int) := by omega
      have hk1 : (k : Int) < (n : Int) := by omega
      clear ey
      obtain ⟨ys, yo, yf, yt, yw⟩ := y
      simp only at hd1 hnc y0 y1 y2 y3 y4
      have hf := (insB_iff _ _).1 hnc.1
      have ht := (insB_iff _ _).1 hnc.2
      obtain ⟨a, rfl⟩ : ∃ a : Nat, yf = a := ⟨yf.toNat, by omega⟩
      obtain ⟨b2, rfl⟩ : ∃ b2 : Nat, yt = b2 := ⟨yt.toNat, by omega⟩
      have hsz := hwx.size
      have hba := alloc_below wr (.cells #[.int .i64 ys, .int .i64 yo, .int .i64 (a : Int), .int .i64 (b2 : Int), .int .i64 yw] 51)
      by_cases hki : k = i
      · have hH : Hid (S0 + distK N i d (k + 1) (cs.drop (k + 1)) = R) := Lib.hid (by have := H.out; rw [hd1.out, if_pos hki, Int.zero_add] at this; exact this)
        have hke : ((k : Int) == (i : Int)) = true := by simp [hki]
        have hki' := Lib.hid hki
        clear hki hnc hf ht
        go_wp2_with fail
        go_roundw
        case rel => exact ⟨k + 1, S0, by omega, by go_num, rfl, hS0, by omega, bstep hwx hba (Nat.le_refl _), hH⟩
        case measure => simp [intOf]; omega
      · obtain ⟨rowa, pa, hra, hpa, hpwa, hpa0, hpa1, hrla, hrowaa, hrowad⟩ := pw_at hV.out a d (by omega) hd
        obtain ⟨rowb, pb, hrb, hpb, hpwb, hpb0, hpb1, hrlb, hrowba, hrowbd⟩ := pw_at hV.out b2 d (by omega) hd
        have hH : Hid (S0 + pa + pb + distK N i d (k + 1) (cs.drop (k + 1)) = R) := Lib.hid (by have := H.out; rw [hd1.out, if_neg hki, hpwa, hpwb] at this; omega)
        have hke : ((k : Int) == (i : Int)) = false := by simp; omega
        have hrowa := Lib.hid hra
        have hrowb := Lib.hid hrb
        have hpa := Lib.hid hpa
        have hpb := Lib.hid hpb
        have hina := Lib.hid hnc.1
        have hinb2 := Lib.hid hnc.2
        have hki' := Lib.hid hki
        have ha0 : (0 : Int) ≤ (a : Int) := by omega
        have ha1 : (a : Int) < (N.np : Int) := by omega
        have hb20 : (0 : Int) ≤ (b2 : Int) := by omega
        have hb21 : (b2 : Int) < (N.np : Int) := by omega
        have hd0 : (0 : Int) ≤ (d : Int) := by omega
        have hda : (d : Int) < (rowa.length : Int) := by omega
        have hdb : (d : Int) < (rowb.length : Int) := by omega
        clear hki hnc hf ht hpwa hpwb hra hrb
        have hbs := bstep hba (alloc_below (wr.alloc (.cells #[.int .i64 ys, .int .i64 yo, .int .i64 (a : Int), .int .i64 (b2 : Int), .int .i64 yw] 51)) (.cells #[.int .i64 (a : Int), .int .i64 (b2 : Int)] 3)) (Nat.le_refl _)
        have hcAp : ((wr.alloc (.cells #[.int .i64 ys, .int .i64 yo, .int .i64 (a : Int), .int .i64 (b2 : Int), .int .i64 yw] 51)).alloc (.cells #[.int .i64 (a : Int), .int .i64 (b2 : Int)] 3)).cell? ⟨wr.heap.size + 1, 0, none⟩ = some (.int .i64 a) := by simp [go_sem]
        have hcBp : ((wr.alloc (.cells #[.int .i64 ys, .int .i64 yo, .int .i64 (a : Int), .int .i64 (b2 : Int), .int .i64 yw] 51)).alloc (.cells #[.int .i64 (a : Int), .int .i64 (b2 : Int)] 3)).cell? ⟨wr.heap.size + 1, 1, none⟩ = some (.int .i64 b2) := by simp [go_sem]
        have hlw : wr.heap.size + 1 < ((wr.alloc (.cells #[.int .i64 ys, .int .i64 yo, .int .i64 (a : Int), .int .i64 (b2 : Int), .int .i64 yw] 51)).alloc (.cells #[.int .i64 (a : Int), .int .i64 (b2 : Int)] 3)).heap.size := by simp
        have hcA := Lib.hid hcAp
        have hcB := Lib.hid hcBp
        clear hcAp hcBp
        go_wp2_with fail
        clear y0 y1 y2 y3 y4
        revert hbs hcA hcB hlw
        generalize (wr.alloc (.cells #[.int .i64 ys, .int .i64 yo, .int .i64 (a : Int), .int .i64 (b2 : Int), .int .i64 yw] 51)).alloc (.cells #[.int .i64 (a : Int), .int .i64 (b2 : Int)] 3) = w6
        intro hbs hlw hcA hcB
        have hw6 := bstep hwx hbs (Nat.le_refl _)
        clear H hd1
        obtain ⟨wo, hwo⟩ : ∃ wo, wo = wr := ⟨_, rfl⟩
        rw [← hwo] at hbs hcA hcB hlw hwx hsz ⊢
        clear hwo
        go_loopw [9, 30] (fun s j wx => ∃ (m : Nat) (S : Int), m ≤ 2 ∧ j = .int .i64 m ∧ s = .int .i64 S ∧ 0 ≤ S ∧ S ≤ S0 + m * 68719476736 ∧ Below w6.heap.size w6 wx ∧ Hid (S = S0 + (if 1 ≤ m then pa else 0) + (if 2 ≤ m then pb else 0))) (fun _ j _ => 2 - (intOf j).toNat)
        case atStart => exact ⟨0, S0, by omega, rfl, rfl, hS0, by omega, Below.refl _ _, Lib.hid (by simp)⟩
        case round =>
          obtain ⟨m, S, hm, rfl, rfl, hSa, hSb, hwx2, HS⟩ := hrel
          have hwr := bstep hw6 hwx2 (Nat.le_refl _)
          have hBr := Lib.hid (hB0.out.below hwr hl0)
          have hMr := Lib.hid ((hM0.out.below hwr).more hwr.size)
          have hlr := Nat.lt_of_lt_of_le hl0 hwr.size
          have cA := (hwx2.cell (p := ⟨wo.heap.size + 1, 0, none⟩) hlw).trans hcA.out
          have cB := (hwx2.cell (p := ⟨wo.heap.size + 1, 1, none⟩) hlw).trans hcB.out
          rcases (show m = 0 ∨ m = 1 ∨ m = 2 by omega) with rfl | rfl | rfl
          · have hSSp : S = S0 := by have := HS.out; simpa using this
            have hSS := Lib.hid hSSp
            clear hSSp
            obtain ⟨bp, op, row', Ar, cr, hAp, hbp, er, r0, hRr, _⟩ := hMr.out.1.at_ hrowaa
            obtain rfl : rowa = row' := Option.some.inj (hrowa.out.symm.trans er)
            obtain ⟨br, or, p', hAr, hbr2, ep, p0⟩ := hRr.at_ hrowad
            obtain rfl : pa = p' := Option.some.inj (hpa.out.symm.trans ep)
            obtain ⟨n0, n1, n2, n3, n4, n5⟩ := id hBr.out
            rw [hAr] at r0
            rw [hAp] at n1
            clear hAp er hAr ep hRr
            go_wp2_with fail
            refine (isNode_lit N.k a _ _ _ _ _ true hina.out _).mono ?_
            rintro e w8 ⟨rfl, hb8⟩
            have n1' := (hb8.cell (p := ⟨w.heap.size, 1, none⟩) hlr).trans n1
            have r0' := (hb8.cell (p := ⟨bp, _, none⟩) hbp).trans r0
            have p0' := (hb8.cell (p := ⟨br, _, none⟩) hbr2).trans p0
            clear n0 n1 n2 n3 n4 n5 r0 p0 cA cB
            go_wp2_with fail
            go_roundw
            case rel => exact ⟨0 + 1, S + pa, by omega, by go_num, rfl, by omega, by omega, bstep hwx2 hb8 (Nat.le_refl _), Lib.hid (by rw [hSS.out]; simp)⟩
            case measure => simp [intOf]
          · have hSSp : S = S0 + pa := by have := HS.out; simpa using this
            have hSS := Lib.hid hSSp
            clear hSSp
            obtain ⟨bp, op, row', Ar, cr, hAp, hbp, er, r0, hRr, _⟩ := hMr.out.1.at_ hrowba
            obtain rfl : rowb = row' := Option.some.inj (hrowb.out.symm.trans er)
            obtain ⟨br, or, p', hAr, hbr2, ep, p0⟩ := hRr.at_ hrowbd
            obtain rfl : pb = p' := Option.some.inj (hpb.out.symm.trans ep)
            obtain ⟨n0, n1, n2, n3, n4, n5⟩ := id hBr.out
            rw [hAr] at r0
            rw [hAp] at n1
            clear hAp er hAr ep hRr
            go_wp2_with fail
            refine (isNode_lit N.k b2 _ _ _ _ _ true hinb2.out _).mono ?_
            rintro e w8 ⟨rfl, hb8⟩
            have n1' := (hb8.cell (p := ⟨w.heap.size, 1, none⟩) hlr).trans n1
            have r0' := (hb8.cell (p := ⟨bp, _, none⟩) hbp).trans r0
            have p0' := (hb8.cell (p := ⟨br, _, none⟩) hbr2).trans p0
            clear n0 n1 n2 n3 n4 n5 r0 p0 cA cB
            go_wp2_with fail
            go_roundw
            case rel => exact ⟨1 + 1, S + pb, by omega, by go_num, rfl, by omega, by omega, bstep hwx2 hb8 (Nat.le_refl _), Lib.hid (by rw [hSS.out]; simp)⟩
            case measure => simp [intOf]
          · have hSS : S = S0 + pa + pb := by have := HS.out; simpa using this
            have hH2 : Hid (S + distK N i d (k + 1) (cs.drop (k + 1)) = R) := Lib.hid (by rw [hSS]; exact hH.out)
            clear hSS cA cB
            go_wp2_with fail
            go_roundw
            case rel => exact ⟨k + 1, S, by omega, by go_num, rfl, hSa, by omega, hwr, hH2⟩
            case measure => simp [intOf]; omega
    · have hre : Hid (S0 = R) := Lib.hid (by have := H.out; rw [List.drop_eq_nil_of_le (by omega)] at this; simpa [distK] using this)
      go_wp2_with fail
      go_ret
      exact ⟨ret_int hre.out, bstep hb0 hwx (Nat.le_refl _)⟩
set_option maxHeartbeats 4000000 in
set_option maxRecDepth 100000 in
/-- conflict.Disturbance, of a valid network and cells between nodes. -/
theorem Dist_lit (N : NT) (hv : Hid (netE N = 0)) (hV : Hid (NetV N)) (hsm : N.small) (A : Option Addr) (n c : Nat) (cs : List C5) (hn : n ≤ 1000000) (hcn : Hid (nodesC N cs)) (i d : Nat) (hi : i < n) (hd : (d : Int) < N.k) (R : Int) (hR : Hid (distK N i d 0 cs = R)) (w : World) (hN : Hid (NetM w w.heap.size N)) (hcs : Hid (Cells w w.heap.size A n cs)) :
    Calls Tryz.prog 89 #[.agg #[.int .i64 N.k, .slice N.Ap N.np N.cp, .int .i64 N.z, .int .i64 N.h, .slice N.Al N.nl N.cl, .slice N.Am N.nm N.cm], .slice A n c, .int .i64 i, .int .i64 d] w fun e w' => e = .returned (.int .i64 R) ∧ Below w.heap.size w w' := by
  have hb0 := alloc_below w (ONT N)
  have hB0 := Lib.hid (BoxNT.new N w)
  have hl0 : w.heap.size < (w.alloc (ONT N)).heap.size := by simp
  have hM0 := Lib.hid ((hN.out.below hb0).more hb0.size)
  have hC0 := Lib.hid ((hcs.out.below hb0).more hb0.size)
  have hd0 : Hid (insB (d : Int) N.k = true) := Lib.hid ((insB_iff _ _).2 ⟨by omega, hd⟩)
  have hany : Hid (cs.any (noneB N) = false) := Lib.hid (by
    rw [← Bool.not_eq_true, List.any_eq_true]
    rintro ⟨z, hz, h⟩
    obtain ⟨h1, h2⟩ := hcn.out z hz
    unfold noneB at h
    rw [h1, h2] at h
    cases h)
  have hi0 : (0 : Int) ≤ (i : Int) := by omega
  have hi1 : (i : Int) < (n : Int) := by omega
  clear hN hcs
  go_enter Tryz.func89, Tryz.ntmps89
  go_upto_region 1 with fail
  revert hb0 hB0 hl0 hM0 hC0
  generalize w.alloc (ONT N) = w0
  intro hb0 hB0 hl0 hM0 hC0
  obtain ⟨n0, n1, n2, n3, n4, n5⟩ := id hB0.out
  go_wp2_with fail
  refine (net_lit N hsm 0 hv.out _ hM0.out).mono ?_
  rintro e w1 ⟨rfl, hb1⟩
  have hB1 := Lib.hid (hB0.out.below hb1 hl0)
  have hl1 := Nat.lt_of_lt_of_le hl0 hb1.size
  have hM1 := Lib.hid ((hM0.out.below hb1).more hb1.size)
  have hC1 := Lib.hid ((hC0.out.below hb1).more hb1.size)
  have hw1 := bstep hb0 hb1 (Nat.le_refl _)
  clear n0 n1 n2 n3 n4 n5 hB0 hM0 hC0
  obtain ⟨n0, n1, n2, n3, n4, n5⟩ := id hB1.out
  go_wp2_with fail
  refine (isNode_lit N.k d _ _ _ _ _ true hd0.out _).mono ?_
  rintro e w2 ⟨rfl, hb2⟩
  have hB2 := Lib.hid (hB1.out.below hb2 hl1)
  have hl2 := Nat.lt_of_lt_of_le hl1 hb2.size
  have hM2 := Lib.hid ((hM1.out.below hb2).more hb2.size)
  have hC2 := Lib.hid ((hC1.out.below hb2).more hb2.size)
  have hw2 := bstep hw1 hb2 (Nat.le_refl _)
  clear n0 n1 n2 n3 n4 n5 hB1 hM1 hC1
  go_wp2_with fail
  refine (has124_122 (.pointer (some ⟨w.heap.size, 0, none⟩)) A n c cs (noneB N) hn false hany _ hC2 (Lib.hid fun wx y b hwx _ hb => none_lit N y w.heap.size b (Lib.hid hb) wx (Lib.hid (hB2.out.below hwx hl2)) (Nat.lt_of_lt_of_le hl2 hwx.size))).mono ?_
  rintro e w3 ⟨rfl, hb3⟩
  have hB3 := Lib.hid (hB2.out.below hb3 hl2)
  have hM3 := Lib.hid ((hM2.out.below hb3).more hb3.size)
  have hC3 := Lib.hid ((hC2.out.below hb3).more hb3.size)
  have hw3 := bstep hw2 hb3 (Nat.le_refl _)
  obtain ⟨n0, n1, n2, n3, n4, n5⟩ := id hB3.out
  go_wp2_with fail
  refine (dist_lit N hV A n c cs hn hcn i d hd R hR _ hM3 hC3).mono ?_
  rintro e w4 ⟨rfl, hb4⟩
  go_wp2_with fail
  go_ret
  exact ⟨rfl, bstep hw3 hb4 (Nat.le_refl _)⟩
end Go.Proofs.YtnddjcadkbjjhaaGreatDoor
