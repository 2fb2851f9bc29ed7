/-
  CHAPTER 35: slices.BinarySearchFunc at cells.
-/
import Derived.Test.YtnddjcadkbjjhaaGreatDoorD
namespace Go.Proofs.YtnddjcadkbjjhaaGreatDoor
open Go.RowKit

theorem keepE {w0 W : World} {g b o : Nat} {x z : C5} (hx : Hid (Box5 w0 g x))
    (hz : Hid (w0.cell? ⟨b, o, none⟩ = some (.int .i64 z.s) ∧ w0.cell? ⟨b, o + 1, none⟩ = some (.int .i64 z.o) ∧ w0.cell? ⟨b, o + 2, none⟩ = some (.int .i64 z.f) ∧ w0.cell? ⟨b, o + 3, none⟩ = some (.int .i64 z.t) ∧ w0.cell? ⟨b, o + 4, none⟩ = some (.int .i64 z.w)))
    (hg : g < w0.heap.size) (hb : b < w0.heap.size) (h : Below w0.heap.size w0 W) :
    W.cell? ⟨g, 0, none⟩ = some (.int .i64 x.s) ∧ W.cell? ⟨g, 1, none⟩ = some (.int .i64 x.o) ∧ W.cell? ⟨g, 2, none⟩ = some (.int .i64 x.f) ∧ W.cell? ⟨g, 3, none⟩ = some (.int .i64 x.t) ∧ W.cell? ⟨g, 4, none⟩ = some (.int .i64 x.w) ∧
    W.cell? ⟨b, o, none⟩ = some (.int .i64 z.s) ∧ W.cell? ⟨b, o + 1, none⟩ = some (.int .i64 z.o) ∧ W.cell? ⟨b, o + 2, none⟩ = some (.int .i64 z.f) ∧ W.cell? ⟨b, o + 3, none⟩ = some (.int .i64 z.t) ∧ W.cell? ⟨b, o + 4, none⟩ = some (.int .i64 z.w) := by
  obtain ⟨a0, a1, a2, a3, a4⟩ := hx.out.below h hg
  obtain ⟨b0, b1, b2, b3, b4⟩ := hz.out
  exact ⟨a0, a1, a2, a3, a4, (h.cell (p := ⟨b, _, none⟩) hb).trans b0, (h.cell (p := ⟨b, _, none⟩) hb).trans b1, (h.cell (p := ⟨b, _, none⟩) hb).trans b2, (h.cell (p := ⟨b, _, none⟩) hb).trans b3, (h.cell (p := ⟨b, _, none⟩) hb).trans b4⟩
set_option maxHeartbeats 4000000 in
set_option maxRecDepth 100000 in
theorem search_any (x : C5) (A : Option Addr) (n c : Nat) (cs : List C5) (cnt : Nat) (hn : n ≤ 1000000) (hcnt : cnt ≤ n) (hlo : Hid (∀ t z, cs[t]? = some z → t < cnt → cmpC z x < 0)) (hhi : Hid (∀ t z, cs[t]? = some z → cnt ≤ t → 0 ≤ cmpC z x))
    (found : Bool) (hf : Hid ((match cs[cnt]? with | some z => decide (cmpC z x = 0) | none => false) = found)) (w : World) (hcs : Hid (Cells w w.heap.size A n cs)) :
    Calls Tryz.prog 67 #[.slice A n c, .agg #[.int .i64 x.s, .int .i64 x.o, .int .i64 x.f, .int .i64 x.t, .int .i64 x.w], .func (.func 68) #[] #[]] w fun e w' => e = .returned (.tuple #[.int .i64 cnt, .bool found]) ∧ Below w.heap.size w w' := by
  have hb0 : Below w.heap.size w (w.alloc (N51 x)) := (Below.refl _ _).alloc (Nat.le_refl _) _
  have hX0 := Lib.hid (Box5.new x 51 w)
  have hl := hcs.out.1
  have hz0 : w.heap.size < (w.alloc (N51 x)).heap.size := by simp
  have hC0 := Lib.hid (hcs.out.below hb0)
  go_enter Tryz.func67, Tryz.ntmps67
  go_upto_region 3 with fail
  revert hb0 hX0 hz0 hC0
  generalize w.alloc (N51 x) = w1
  intro hb0 hX0 hz0 hC0
  go_loopw [9, 10] (fun i j wx => ∃ lo hi : Nat, i = .int .i64 lo ∧ j = .int .i64 hi ∧ lo ≤ cnt ∧ cnt ≤ hi ∧ hi ≤ n ∧ Below w1.heap.size w1 wx) (fun i j _ => (intOf j).toNat - (intOf i).toNat)
  case atStart => exact ⟨0, n, rfl, rfl, Nat.zero_le _, hcnt, Nat.le_refl _, Below.refl _ _⟩
  case round =>
    obtain ⟨lo, hi, rfl, rfl, h1, h2, h3, hwx⟩ := hrel
    have hs1 := hwx.size
    have hzr : w.heap.size < wr.heap.size := by omega
    have hXr := Lib.hid (hX0.out.below hwx hz0)
    have hCr := Lib.hid (hC0.out.below (hwx.mono (by omega)))
    by_cases hlt : lo < hi
    · obtain ⟨m, hm⟩ : ∃ m, (lo + hi) / 2 = m := ⟨_, rfl⟩
      have hmn : m < n := by omega
      obtain ⟨b, off, z, rfl, hbx, ez, hz⟩ := hCr.out.at_ hmn
      have hZ := Lib.hid hz
      have hbr : b < wr.heap.size := by omega
      have hmi : ((lo : Int) + (hi : Int)) / 2 = (m : Int) := by omega
      have hmt : (((lo : Int) + (hi : Int)) / 2).toNat = m := by omega
      have hm0 : (0 : Int) ≤ ((lo : Int) + (hi : Int)) / 2 := by omega
      have hm1 : ((lo : Int) + (hi : Int)) / 2 < (n : Int) := by omega
      go_upto_region 8 with fail
      obtain ⟨r, hr⟩ : ∃ r, cmpC z x = r := ⟨_, rfl⟩
      by_cases hneg : r < 0
      · have hcl : m < cnt := by
          rcases Nat.lt_or_ge m cnt with h | h
          · exact h
          · have := hhi.out m z ez h; omega
        have hr := Lib.hid hr
        refine wp_region_held_drew (S := (fun w' => w'.cell? ⟨w.heap.size, 0, none⟩ = some (.int .i64 x.s) ∧ w'.cell? ⟨w.heap.size, 1, none⟩ = some (.int .i64 x.o) ∧ w'.cell? ⟨w.heap.size, 2, none⟩ = some (.int .i64 x.f) ∧ w'.cell? ⟨w.heap.size, 3, none⟩ = some (.int .i64 x.t) ∧ w'.cell? ⟨w.heap.size, 4, none⟩ = some (.int .i64 x.w) ∧ w'.cell? ⟨b, off + m * 5, none⟩ = some (.int .i64 z.s) ∧ w'.cell? ⟨b, off + m * 5 + 1, none⟩ = some (.int .i64 z.o) ∧ w'.cell? ⟨b, off + m * 5 + 2, none⟩ = some (.int .i64 z.f) ∧ w'.cell? ⟨b, off + m * 5 + 3, none⟩ = some (.int .i64 z.t) ∧ w'.cell? ⟨b, off + m * 5 + 4, none⟩ = some (.int .i64 z.w))) (by kernel_rfl) ?_ (fun hHeld => ?_)
        · (refine keepE hXr hZ hzr hbr ?_; (repeat first | assumption | exact Below.refl _ _ | refine Below.drew ?_ | refine ba ?_ _))
        refine wpAnyH_take (i := 0) (oi := ?o33) (v := ?hv33) ?hi33 (by kernel_rfl) (by kernel_rfl) (by kernel_rfl) ?hq33 ?hy33 (by assumption) ?hr33
        case hi33 => (simp only [List.getElem?_toArray, List.getElem?_cons_zero]; rfl)
        case hq33 => exact fun _ _ _ h => h
        case hy33 => exact Or.inl ⟨by rfl, by intro w hSw; (try dsimp only at hSw); go_simp; try with_reducible rfl⟩
        simp only [Act.put, List.setIfInBounds_toArray, List.set_cons_zero, List.set_cons_succ]
        refine wpAnyH_take (i := 1) (oi := ?o34) (v := ?hv34) ?hi34 (by kernel_rfl) (by kernel_rfl) (by kernel_rfl) ?hq34 ?hy34 (by assumption) ?hr34
        case hi34 => (simp only [List.getElem?_toArray, List.getElem?_cons_succ, List.getElem?_cons_zero]; rfl)
        case hq34 => exact fun _ _ _ h => h
        case hy34 => exact Or.inl ⟨by rfl, by intro w hSw; (try dsimp only at hSw); go_simp; try with_reducible rfl⟩
        simp only [Act.put, List.setIfInBounds_toArray, List.set_cons_zero, List.set_cons_succ]
        refine wpAnyH_take (i := 2) (oi := ?o35) (v := ?hv35) ?hi35 (by kernel_rfl) (by kernel_rfl) (by kernel_rfl) ?hq35 ?hy35 (by assumption) ?hr35
        case hi35 => (simp only [List.getElem?_toArray, List.getElem?_cons_succ, List.getElem?_cons_zero]; rfl)
        case hq35 => exact fun _ _ _ h => h
        case hy35 => exact Or.inl ⟨by rfl, by intro w hSw; (try dsimp only at hSw); go_simp; try with_reducible rfl⟩
        simp only [Act.put, List.setIfInBounds_toArray, List.set_cons_zero, List.set_cons_succ]
        refine wpAnyH_take (i := 3) (oi := ?o36) (v := .pointer (some ⟨b, off + m * 5, none⟩)) ?hi36 (by kernel_rfl) (by kernel_rfl) (by kernel_rfl) ?hq36 ?hy36 (by assumption) ?hr36
        case hi36 => (simp only [List.getElem?_toArray, List.getElem?_cons_succ, List.getElem?_cons_zero]; rfl)
        case hq36 => exact fun _ _ _ h => h
        case hy36 => exact Or.inl ⟨by rfl, by intro w hSw; (try dsimp only at hSw); go_simp; try simp only [hmt, hmi]; try with_reducible rfl⟩
        simp only [Act.put, List.setIfInBounds_toArray, List.set_cons_zero, List.set_cons_succ]
        refine wpAnyH_take (i := 4) (oi := ?o37) (v := ?hv37) ?hi37 (by kernel_rfl) (by kernel_rfl) (by kernel_rfl) ?hq37 ?hy37 (by assumption) ?hr37
        case hi37 => (simp only [List.getElem?_toArray, List.getElem?_cons_succ, List.getElem?_cons_zero]; rfl)
        case hq37 => exact fun _ _ _ h => h
        case hy37 => exact Or.inl ⟨by rfl, by intro w hSw; (try dsimp only at hSw); go_simp; try with_reducible rfl⟩
        simp only [Act.put, List.setIfInBounds_toArray, List.set_cons_zero, List.set_cons_succ]
        refine wpAnyH_take (i := 5) (oi := ?o38) (v := ?hv38) ?hi38 (by kernel_rfl) (by kernel_rfl) (by kernel_rfl) ?hq38 ?hy38 (by assumption) ?hr38
        case hi38 => (simp only [List.getElem?_toArray, List.getElem?_cons_succ, List.getElem?_cons_zero]; rfl)
        case hq38 => exact fun _ _ _ h => h
        case hy38 => exact Or.inl ⟨by rfl, by intro w hSw; (try dsimp only at hSw); go_simp; try with_reducible rfl⟩
        simp only [Act.put, List.setIfInBounds_toArray, List.set_cons_zero, List.set_cons_succ]
        refine wpAnyH_ready (rs := [6]) (by kernel_rfl) (by simp) ?_
        refine AllReadyH.cons (o := ?o39) ?hi39 (fun K hK => ?hr39) AllReadyH.nil
        case hi39 => (simp only [List.getElem?_toArray, List.getElem?_cons_succ, List.getElem?_cons_zero]; rfl)
        go_simp
        refine (carry (w0 := wr) (compare_lit z x r hr.out _) ?_).mono ?_
        · (repeat first | assumption | exact Below.refl _ _ | refine Below.drew ?_ | refine ba ?_ _)
        rintro e w7 ⟨rfl, hb7⟩
        go_wp2_with fail
        refine hK.out _ _ ?_ (fun hHeld => ?_)
        · (refine keepE hXr hZ hzr hbr ?_; (repeat first | assumption | exact Below.refl _ _ | refine Below.drew ?_ | refine ba ?_ _))
        clear hK K
        try simp only [Act.put, List.setIfInBounds_toArray, List.set_cons_zero, List.set_cons_succ]
        refine wpAnyH_take (i := 7) (oi := ?o40) (v := ?hv40) ?hi40 (by kernel_rfl) (by kernel_rfl) (by kernel_rfl) ?hq40 ?hy40 (by assumption) ?hr40
        case hi40 => (simp only [List.getElem?_toArray, List.getElem?_cons_succ, List.getElem?_cons_zero]; rfl)
        case hq40 => exact fun _ _ _ h => h
        case hy40 => exact Or.inl ⟨by rfl, by intro w hSw; (try dsimp only at hSw); go_simp; try with_reducible rfl⟩
        simp only [Act.put, List.setIfInBounds_toArray, List.set_cons_zero, List.set_cons_succ]
        refine wpAnyH_done (by kernel_rfl) ?_ _
        go_wp2_with fail
        go_roundw
        case measure => simp [intOf]; omega
        case rel => exact ⟨m + 1, hi, by first | rfl | (congr 1; omega), rfl, by omega, h2, h3, bstep hwx hb7 (Nat.le_refl _)⟩
      · have hcl : cnt ≤ m := by
          rcases Nat.lt_or_ge m cnt with h | h
          · have := hlo.out m z ez h; omega
          · exact h
        have hr := Lib.hid hr
        refine wp_region_held_drew (S := (fun w' => w'.cell? ⟨w.heap.size, 0, none⟩ = some (.int .i64 x.s) ∧ w'.cell? ⟨w.heap.size, 1, none⟩ = some (.int .i64 x.o) ∧ w'.cell? ⟨w.heap.size, 2, none⟩ = some (.int .i64 x.f) ∧ w'.cell? ⟨w.heap.size, 3, none⟩ = some (.int .i64 x.t) ∧ w'.cell? ⟨w.heap.size, 4, none⟩ = some (.int .i64 x.w) ∧ w'.cell? ⟨b, off + m * 5, none⟩ = some (.int .i64 z.s) ∧ w'.cell? ⟨b, off + m * 5 + 1, none⟩ = some (.int .i64 z.o) ∧ w'.cell? ⟨b, off + m * 5 + 2, none⟩ = some (.int .i64 z.f) ∧ w'.cell? ⟨b, off + m * 5 + 3, none⟩ = some (.int .i64 z.t) ∧ w'.cell? ⟨b, off + m * 5 + 4, none⟩ = some (.int .i64 z.w))) (by kernel_rfl) ?_ (fun hHeld => ?_)
        · (refine keepE hXr hZ hzr hbr ?_; (repeat first | assumption | exact Below.refl _ _ | refine Below.drew ?_ | refine ba ?_ _))
        refine wpAnyH_take (i := 0) (oi := ?o41) (v := ?hv41) ?hi41 (by kernel_rfl) (by kernel_rfl) (by kernel_rfl) ?hq41 ?hy41 (by assumption) ?hr41
        case hi41 => (simp only [List.getElem?_toArray, List.getElem?_cons_zero]; rfl)
        case hq41 => exact fun _ _ _ h => h
        case hy41 => exact Or.inl ⟨by rfl, by intro w hSw; (try dsimp only at hSw); go_simp; try with_reducible rfl⟩
        simp only [Act.put, List.setIfInBounds_toArray, List.set_cons_zero, List.set_cons_succ]
        refine wpAnyH_take (i := 1) (oi := ?o42) (v := ?hv42) ?hi42 (by kernel_rfl) (by kernel_rfl) (by kernel_rfl) ?hq42 ?hy42 (by assumption) ?hr42
        case hi42 => (simp only [List.getElem?_toArray, List.getElem?_cons_succ, List.getElem?_cons_zero]; rfl)
        case hq42 => exact fun _ _ _ h => h
        case hy42 => exact Or.inl ⟨by rfl, by intro w hSw; (try dsimp only at hSw); go_simp; try with_reducible rfl⟩
        simp only [Act.put, List.setIfInBounds_toArray, List.set_cons_zero, List.set_cons_succ]
        refine wpAnyH_take (i := 2) (oi := ?o43) (v := ?hv43) ?hi43 (by kernel_rfl) (by kernel_rfl) (by kernel_rfl) ?hq43 ?hy43 (by assumption) ?hr43
        case hi43 => (simp only [List.getElem?_toArray, List.getElem?_cons_succ, List.getElem?_cons_zero]; rfl)
        case hq43 => exact fun _ _ _ h => h
        case hy43 => exact Or.inl ⟨by rfl, by intro w hSw; (try dsimp only at hSw); go_simp; try with_reducible rfl⟩
        simp only [Act.put, List.setIfInBounds_toArray, List.set_cons_zero, List.set_cons_succ]
        refine wpAnyH_take (i := 3) (oi := ?o44) (v := .pointer (some ⟨b, off + m * 5, none⟩)) ?hi44 (by kernel_rfl) (by kernel_rfl) (by kernel_rfl) ?hq44 ?hy44 (by assumption) ?hr44
        case hi44 => (simp only [List.getElem?_toArray, List.getElem?_cons_succ, List.getElem?_cons_zero]; rfl)
        case hq44 => exact fun _ _ _ h => h
        case hy44 => exact Or.inl ⟨by rfl, by intro w hSw; (try dsimp only at hSw); go_simp; try simp only [hmt, hmi]; try with_reducible rfl⟩
        simp only [Act.put, List.setIfInBounds_toArray, List.set_cons_zero, List.set_cons_succ]
        refine wpAnyH_take (i := 4) (oi := ?o45) (v := ?hv45) ?hi45 (by kernel_rfl) (by kernel_rfl) (by kernel_rfl) ?hq45 ?hy45 (by assumption) ?hr45
        case hi45 => (simp only [List.getElem?_toArray, List.getElem?_cons_succ, List.getElem?_cons_zero]; rfl)
        case hq45 => exact fun _ _ _ h => h
        case hy45 => exact Or.inl ⟨by rfl, by intro w hSw; (try dsimp only at hSw); go_simp; try with_reducible rfl⟩
        simp only [Act.put, List.setIfInBounds_toArray, List.set_cons_zero, List.set_cons_succ]
        refine wpAnyH_take (i := 5) (oi := ?o46) (v := ?hv46) ?hi46 (by kernel_rfl) (by kernel_rfl) (by kernel_rfl) ?hq46 ?hy46 (by assumption) ?hr46
        case hi46 => (simp only [List.getElem?_toArray, List.getElem?_cons_succ, List.getElem?_cons_zero]; rfl)
        case hq46 => exact fun _ _ _ h => h
        case hy46 => exact Or.inl ⟨by rfl, by intro w hSw; (try dsimp only at hSw); go_simp; try with_reducible rfl⟩
        simp only [Act.put, List.setIfInBounds_toArray, List.set_cons_zero, List.set_cons_succ]
        refine wpAnyH_ready (rs := [6]) (by kernel_rfl) (by simp) ?_
        refine AllReadyH.cons (o := ?o47) ?hi47 (fun K hK => ?hr47) AllReadyH.nil
        case hi47 => (simp only [List.getElem?_toArray, List.getElem?_cons_succ, List.getElem?_cons_zero]; rfl)
        go_simp
        refine (carry (w0 := wr) (compare_lit z x r hr.out _) ?_).mono ?_
        · (repeat first | assumption | exact Below.refl _ _ | refine Below.drew ?_ | refine ba ?_ _)
        rintro e w7 ⟨rfl, hb7⟩
        go_wp2_with fail
        refine hK.out _ _ ?_ (fun hHeld => ?_)
        · (refine keepE hXr hZ hzr hbr ?_; (repeat first | assumption | exact Below.refl _ _ | refine Below.drew ?_ | refine ba ?_ _))
        clear hK K
        try simp only [Act.put, List.setIfInBounds_toArray, List.set_cons_zero, List.set_cons_succ]
        refine wpAnyH_take (i := 7) (oi := ?o48) (v := ?hv48) ?hi48 (by kernel_rfl) (by kernel_rfl) (by kernel_rfl) ?hq48 ?hy48 (by assumption) ?hr48
        case hi48 => (simp only [List.getElem?_toArray, List.getElem?_cons_succ, List.getElem?_cons_zero]; rfl)
        case hq48 => exact fun _ _ _ h => h
        case hy48 => exact Or.inl ⟨by rfl, by intro w hSw; (try dsimp only at hSw); go_simp; try with_reducible rfl⟩
        simp only [Act.put, List.setIfInBounds_toArray, List.set_cons_zero, List.set_cons_succ]
        refine wpAnyH_done (by kernel_rfl) ?_ _
        go_wp2_with fail
        go_roundw
        case measure => simp [intOf]; omega
        case rel => exact ⟨lo, m, rfl, rfl, h1, hcl, by omega, bstep hwx hb7 (Nat.le_refl _)⟩
    · obtain rfl : lo = cnt := by omega
      go_upto_region 2 with fail
      by_cases hin : lo < n
      · obtain ⟨b, off, z, rfl, hbx, ez, hz⟩ := hCr.out.at_ hin
        have hZ := Lib.hid hz
        have hbr : b < wr.heap.size := by omega
        obtain ⟨r, hr⟩ : ∃ r, cmpC z x = r := ⟨_, rfl⟩
        have hff : found = decide (r = 0) := by rw [← hf.out, ez, ← hr]
        subst hff
        have hr := Lib.hid hr
        refine wp_region_held_drew (S := (fun w' => w'.cell? ⟨w.heap.size, 0, none⟩ = some (.int .i64 x.s) ∧ w'.cell? ⟨w.heap.size, 1, none⟩ = some (.int .i64 x.o) ∧ w'.cell? ⟨w.heap.size, 2, none⟩ = some (.int .i64 x.f) ∧ w'.cell? ⟨w.heap.size, 3, none⟩ = some (.int .i64 x.t) ∧ w'.cell? ⟨w.heap.size, 4, none⟩ = some (.int .i64 x.w) ∧ w'.cell? ⟨b, off + lo * 5, none⟩ = some (.int .i64 z.s) ∧ w'.cell? ⟨b, off + lo * 5 + 1, none⟩ = some (.int .i64 z.o) ∧ w'.cell? ⟨b, off + lo * 5 + 2, none⟩ = some (.int .i64 z.f) ∧ w'.cell? ⟨b, off + lo * 5 + 3, none⟩ = some (.int .i64 z.t) ∧ w'.cell? ⟨b, off + lo * 5 + 4, none⟩ = some (.int .i64 z.w))) (by kernel_rfl) ?_ (fun hHeld => ?_)
        · (refine keepE hXr hZ hzr hbr ?_; (repeat first | assumption | exact Below.refl _ _ | refine Below.drew ?_ | refine ba ?_ _))
        refine wpAnyH_take (i := 0) (oi := ?o1) (v := ?hv1) ?hi1 (by kernel_rfl) (by kernel_rfl) (by kernel_rfl) ?hq1 ?hy1 (by assumption) ?hr1
        case hi1 => (simp only [List.getElem?_toArray, List.getElem?_cons_zero]; rfl)
        case hq1 => exact fun _ _ _ h => h
        case hy1 => exact Or.inl ⟨by rfl, by intro w hSw; (try dsimp only at hSw); go_simp; try with_reducible rfl⟩
        simp only [Act.put, List.setIfInBounds_toArray, List.set_cons_zero, List.set_cons_succ]
        refine wpAnyH_take (i := 1) (oi := ?o2) (v := ?hv2) ?hi2 (by kernel_rfl) (by kernel_rfl) (by kernel_rfl) ?hq2 ?hy2 (by assumption) ?hr2
        case hi2 => (simp only [List.getElem?_toArray, List.getElem?_cons_succ, List.getElem?_cons_zero]; rfl)
        case hq2 => exact fun _ _ _ h => h
        case hy2 => exact Or.inl ⟨by rfl, by intro w hSw; (try dsimp only at hSw); go_simp; try with_reducible rfl⟩
        simp only [Act.put, List.setIfInBounds_toArray, List.set_cons_zero, List.set_cons_succ]
        refine wpAnyH_take (i := 2) (oi := ?o3) (v := ?hv3) ?hi3 (by kernel_rfl) (by kernel_rfl) (by kernel_rfl) ?hq3 ?hy3 (by assumption) ?hr3
        case hi3 => (simp only [List.getElem?_toArray, List.getElem?_cons_succ, List.getElem?_cons_zero]; rfl)
        case hq3 => exact fun _ _ _ h => h
        case hy3 => exact Or.inl ⟨by rfl, by intro w hSw; (try dsimp only at hSw); go_simp; try with_reducible rfl⟩
        simp only [Act.put, List.setIfInBounds_toArray, List.set_cons_zero, List.set_cons_succ]
        refine wpAnyH_take (i := 3) (oi := ?o4) (v := ?hv4) ?hi4 (by kernel_rfl) (by kernel_rfl) (by kernel_rfl) ?hq4 ?hy4 (by assumption) ?hr4
        case hi4 => (simp only [List.getElem?_toArray, List.getElem?_cons_succ, List.getElem?_cons_zero]; rfl)
        case hq4 => exact fun _ _ _ h => h
        case hy4 => exact Or.inl ⟨by rfl, by intro w hSw; (try dsimp only at hSw); go_simp; try with_reducible rfl⟩
        simp only [Act.put, List.setIfInBounds_toArray, List.set_cons_zero, List.set_cons_succ]
        refine wpAnyH_take (i := 4) (oi := ?o5) (v := ?hv5) ?hi5 (by kernel_rfl) (by kernel_rfl) (by kernel_rfl) ?hq5 ?hy5 (by assumption) ?hr5
        case hi5 => (simp only [List.getElem?_toArray, List.getElem?_cons_succ, List.getElem?_cons_zero]; rfl)
        case hq5 => exact fun _ _ _ h => h
        case hy5 => exact Or.inl ⟨by rfl, by intro w hSw; (try dsimp only at hSw); go_simp; try with_reducible rfl⟩
        simp only [Act.put, List.setIfInBounds_toArray, List.set_cons_zero, List.set_cons_succ]
        refine wpAnyH_take (i := 5) (oi := ?o6) (v := ?hv6) ?hi6 (by kernel_rfl) (by kernel_rfl) (by kernel_rfl) ?hq6 ?hy6 (by assumption) ?hr6
        case hi6 => (simp only [List.getElem?_toArray, List.getElem?_cons_succ, List.getElem?_cons_zero]; rfl)
        case hq6 => exact fun _ _ _ h => h
        case hy6 => exact Or.inl ⟨by rfl, by intro w hSw; (try dsimp only at hSw); go_simp; try with_reducible rfl⟩
        simp only [Act.put, List.setIfInBounds_toArray, List.set_cons_zero, List.set_cons_succ]
        refine wpAnyH_take (i := 6) (oi := ?o7) (v := ?hv7) ?hi7 (by kernel_rfl) (by kernel_rfl) (by kernel_rfl) ?hq7 ?hy7 (by assumption) ?hr7
        case hi7 => (simp only [List.getElem?_toArray, List.getElem?_cons_succ, List.getElem?_cons_zero]; rfl)
        case hq7 => exact fun _ _ _ h => h
        case hy7 => exact Or.inl ⟨by rfl, by intro w hSw; (try dsimp only at hSw); go_simp; try with_reducible rfl⟩
        simp only [Act.put, List.setIfInBounds_toArray, List.set_cons_zero, List.set_cons_succ]
        refine wpAnyH_take (i := 7) (oi := ?o8) (v := ?hv8) ?hi8 (by kernel_rfl) (by kernel_rfl) (by kernel_rfl) ?hq8 ?hy8 (by assumption) ?hr8
        case hi8 => (simp only [List.getElem?_toArray, List.getElem?_cons_succ, List.getElem?_cons_zero]; rfl)
        case hq8 => exact fun _ _ _ h => h
        case hy8 => exact Or.inl ⟨by rfl, by intro w hSw; (try dsimp only at hSw); go_simp; try with_reducible rfl⟩
        simp only [Act.put, List.setIfInBounds_toArray, List.set_cons_zero, List.set_cons_succ]
        refine wpAnyH_take (i := 8) (oi := ?o9) (v := .pointer (some ⟨b, off + lo * 5, none⟩)) ?hi9 (by kernel_rfl) (by kernel_rfl) (by kernel_rfl) ?hq9 ?hy9 (by assumption) ?hr9
        case hi9 => (simp only [List.getElem?_toArray, List.getElem?_cons_succ, List.getElem?_cons_zero]; rfl)
        case hq9 => exact fun _ _ _ h => h
        case hy9 => exact Or.inl ⟨by rfl, by intro w hSw; (try dsimp only at hSw); go_simp; skip; try with_reducible rfl⟩
        simp only [Act.put, List.setIfInBounds_toArray, List.set_cons_zero, List.set_cons_succ]
        refine wpAnyH_take (i := 9) (oi := ?o10) (v := ?hv10) ?hi10 (by kernel_rfl) (by kernel_rfl) (by kernel_rfl) ?hq10 ?hy10 (by assumption) ?hr10
        case hi10 => (simp only [List.getElem?_toArray, List.getElem?_cons_succ, List.getElem?_cons_zero]; rfl)
        case hq10 => exact fun _ _ _ h => h
        case hy10 => exact Or.inl ⟨by rfl, by intro w hSw; (try dsimp only at hSw); go_simp; try with_reducible rfl⟩
        simp only [Act.put, List.setIfInBounds_toArray, List.set_cons_zero, List.set_cons_succ]
        refine wpAnyH_take (i := 10) (oi := ?o11) (v := ?hv11) ?hi11 (by kernel_rfl) (by kernel_rfl) (by kernel_rfl) ?hq11 ?hy11 (by assumption) ?hr11
        case hi11 => (simp only [List.getElem?_toArray, List.getElem?_cons_succ, List.getElem?_cons_zero]; rfl)
        case hq11 => exact fun _ _ _ h => h
        case hy11 => exact Or.inl ⟨by rfl, by intro w hSw; (try dsimp only at hSw); go_simp; try with_reducible rfl⟩
        simp only [Act.put, List.setIfInBounds_toArray, List.set_cons_zero, List.set_cons_succ]
        refine wpAnyH_ready (rs := [11]) (by kernel_rfl) (by simp) ?_
        refine AllReadyH.cons (o := ?o12) ?hi12 (fun K hK => ?hr12) AllReadyH.nil
        case hi12 => (simp only [List.getElem?_toArray, List.getElem?_cons_succ, List.getElem?_cons_zero]; rfl)
        go_simp
        refine (carry (w0 := wr) (compare_lit z x r hr.out _) ?_).mono ?_
        · (repeat first | assumption | exact Below.refl _ _ | refine Below.drew ?_ | refine ba ?_ _)
        rintro e w7 ⟨rfl, hb7⟩
        go_wp2_with fail
        refine hK.out _ _ ?_ (fun hHeld => ?_)
        · (refine keepE hXr hZ hzr hbr ?_; (repeat first | assumption | exact Below.refl _ _ | refine Below.drew ?_ | refine ba ?_ _))
        clear hK K
        try simp only [Act.put, List.setIfInBounds_toArray, List.set_cons_zero, List.set_cons_succ]
        refine wpAnyH_take (i := 12) (oi := ?o13) (v := ?hv13) ?hi13 (by kernel_rfl) (by kernel_rfl) (by kernel_rfl) ?hq13 ?hy13 (by assumption) ?hr13
        case hi13 => (simp only [List.getElem?_toArray, List.getElem?_cons_succ, List.getElem?_cons_zero]; rfl)
        case hq13 => exact fun _ _ _ h => h
        case hy13 => exact Or.inl ⟨by rfl, by intro w hSw; (try dsimp only at hSw); go_simp; try with_reducible rfl⟩
        simp only [Act.put, List.setIfInBounds_toArray, List.set_cons_zero, List.set_cons_succ]
        refine wpAnyH_take (i := 13) (oi := ?o14) (v := ?hv14) ?hi14 (by kernel_rfl) (by kernel_rfl) (by kernel_rfl) ?hq14 ?hy14 (by assumption) ?hr14
        case hi14 => (simp only [List.getElem?_toArray, List.getElem?_cons_succ, List.getElem?_cons_zero]; rfl)
        case hq14 => exact fun _ _ _ h => h
        case hy14 => exact Or.inl ⟨by rfl, by intro w hSw; (try dsimp only at hSw); go_simp; try with_reducible rfl⟩
        simp only [Act.put, List.setIfInBounds_toArray, List.set_cons_zero, List.set_cons_succ]
        refine wpAnyH_take (i := 14) (oi := ?o15) (v := ?hv15) ?hi15 (by kernel_rfl) (by kernel_rfl) (by kernel_rfl) ?hq15 ?hy15 (by assumption) ?hr15
        case hi15 => (simp only [List.getElem?_toArray, List.getElem?_cons_succ, List.getElem?_cons_zero]; rfl)
        case hq15 => exact fun _ _ _ h => h
        case hy15 => exact Or.inl ⟨by rfl, by intro w hSw; (try dsimp only at hSw); go_simp; try with_reducible rfl⟩
        simp only [Act.put, List.setIfInBounds_toArray, List.set_cons_zero, List.set_cons_succ]
        refine wpAnyH_take (i := 15) (oi := ?o16) (v := ?hv16) ?hi16 (by kernel_rfl) (by kernel_rfl) (by kernel_rfl) ?hq16 ?hy16 (by assumption) ?hr16
        case hi16 => (simp only [List.getElem?_toArray, List.getElem?_cons_succ, List.getElem?_cons_zero]; rfl)
        case hq16 => exact fun _ _ _ h => h
        case hy16 => exact Or.inl ⟨by rfl, by intro w hSw; (try dsimp only at hSw); go_simp; try with_reducible rfl⟩
        simp only [Act.put, List.setIfInBounds_toArray, List.set_cons_zero, List.set_cons_succ]
        refine wpAnyH_done (by kernel_rfl) ?_ _
        go_wp2_with fail
        go_ret2
        refine ⟨?_, bstep hb0 (bstep hwx hb7 (Nat.le_refl _)) (Nat.le_refl _)⟩
        by_cases h0 : r = 0 <;> simp [h0]
      · have hff : found = false := by rw [← hf.out, List.getElem?_eq_none (by omega)]
        subst hff
        refine wp_region_held_drew (S := (fun _ => True)) (by kernel_rfl) ?_ (fun hHeld => ?_)
        · trivial
        refine wpAnyH_take (i := 0) (oi := ?o17) (v := ?hv17) ?hi17 (by kernel_rfl) (by kernel_rfl) (by kernel_rfl) ?hq17 ?hy17 (by assumption) ?hr17
        case hi17 => (simp only [List.getElem?_toArray, List.getElem?_cons_zero]; rfl)
        case hq17 => exact fun _ _ _ h => h
        case hy17 => exact Or.inl ⟨by rfl, by intro w hSw; (try dsimp only at hSw); go_simp; try with_reducible rfl⟩
        simp only [Act.put, List.setIfInBounds_toArray, List.set_cons_zero, List.set_cons_succ]
        refine wpAnyH_take (i := 1) (oi := ?o18) (v := ?hv18) ?hi18 (by kernel_rfl) (by kernel_rfl) (by kernel_rfl) ?hq18 ?hy18 (by assumption) ?hr18
        case hi18 => (simp only [List.getElem?_toArray, List.getElem?_cons_succ, List.getElem?_cons_zero]; rfl)
        case hq18 => exact fun _ _ _ h => h
        case hy18 => exact Or.inl ⟨by rfl, by intro w hSw; (try dsimp only at hSw); go_simp; try with_reducible rfl⟩
        simp only [Act.put, List.setIfInBounds_toArray, List.set_cons_zero, List.set_cons_succ]
        refine wpAnyH_take (i := 2) (oi := ?o19) (v := ?hv19) ?hi19 (by kernel_rfl) (by kernel_rfl) (by kernel_rfl) ?hq19 ?hy19 (by assumption) ?hr19
        case hi19 => (simp only [List.getElem?_toArray, List.getElem?_cons_succ, List.getElem?_cons_zero]; rfl)
        case hq19 => exact fun _ _ _ h => h
        case hy19 => exact Or.inl ⟨by rfl, by intro w hSw; (try dsimp only at hSw); go_simp; try with_reducible rfl⟩
        simp only [Act.put, List.setIfInBounds_toArray, List.set_cons_zero, List.set_cons_succ]
        refine wpAnyH_take (i := 3) (oi := ?o20) (v := ?hv20) ?hi20 (by kernel_rfl) (by kernel_rfl) (by kernel_rfl) ?hq20 ?hy20 (by assumption) ?hr20
        case hi20 => (simp only [List.getElem?_toArray, List.getElem?_cons_succ, List.getElem?_cons_zero]; rfl)
        case hq20 => exact fun _ _ _ h => h
        case hy20 => exact Or.inl ⟨by rfl, by intro w hSw; (try dsimp only at hSw); go_simp; try with_reducible rfl⟩
        simp only [Act.put, List.setIfInBounds_toArray, List.set_cons_zero, List.set_cons_succ]
        refine wpAnyH_take (i := 4) (oi := ?o21) (v := ?hv21) ?hi21 (by kernel_rfl) (by kernel_rfl) (by kernel_rfl) ?hq21 ?hy21 (by assumption) ?hr21
        case hi21 => (simp only [List.getElem?_toArray, List.getElem?_cons_succ, List.getElem?_cons_zero]; rfl)
        case hq21 => exact fun _ _ _ h => h
        case hy21 => exact Or.inl ⟨by rfl, by intro w hSw; (try dsimp only at hSw); go_simp; try with_reducible rfl⟩
        simp only [Act.put, List.setIfInBounds_toArray, List.set_cons_zero, List.set_cons_succ]
        refine wpAnyH_take (i := 5) (oi := ?o22) (v := undef) ?hi22 (by kernel_rfl) (by kernel_rfl) (by kernel_rfl) ?hq22 ?hy22 (by assumption) ?hr22
        case hi22 => (simp only [List.getElem?_toArray, List.getElem?_cons_succ, List.getElem?_cons_zero]; rfl)
        case hq22 => exact fun _ _ _ h => h
        case hy22 => exact Or.inr ⟨by rfl, rfl⟩
        simp only [Act.put, List.setIfInBounds_toArray, List.set_cons_zero, List.set_cons_succ]
        refine wpAnyH_take (i := 6) (oi := ?o23) (v := undef) ?hi23 (by kernel_rfl) (by kernel_rfl) (by kernel_rfl) ?hq23 ?hy23 (by assumption) ?hr23
        case hi23 => (simp only [List.getElem?_toArray, List.getElem?_cons_succ, List.getElem?_cons_zero]; rfl)
        case hq23 => exact fun _ _ _ h => h
        case hy23 => exact Or.inr ⟨by rfl, rfl⟩
        simp only [Act.put, List.setIfInBounds_toArray, List.set_cons_zero, List.set_cons_succ]
        refine wpAnyH_take (i := 7) (oi := ?o24) (v := undef) ?hi24 (by kernel_rfl) (by kernel_rfl) (by kernel_rfl) ?hq24 ?hy24 (by assumption) ?hr24
        case hi24 => (simp only [List.getElem?_toArray, List.getElem?_cons_succ, List.getElem?_cons_zero]; rfl)
        case hq24 => exact fun _ _ _ h => h
        case hy24 => exact Or.inr ⟨by rfl, rfl⟩
        simp only [Act.put, List.setIfInBounds_toArray, List.set_cons_zero, List.set_cons_succ]
        refine wpAnyH_take (i := 8) (oi := ?o25) (v := undef) ?hi25 (by kernel_rfl) (by kernel_rfl) (by kernel_rfl) ?hq25 ?hy25 (by assumption) ?hr25
        case hi25 => (simp only [List.getElem?_toArray, List.getElem?_cons_succ, List.getElem?_cons_zero]; rfl)
        case hq25 => exact fun _ _ _ h => h
        case hy25 => exact Or.inr ⟨by rfl, rfl⟩
        simp only [Act.put, List.setIfInBounds_toArray, List.set_cons_zero, List.set_cons_succ]
        refine wpAnyH_take (i := 9) (oi := ?o26) (v := undef) ?hi26 (by kernel_rfl) (by kernel_rfl) (by kernel_rfl) ?hq26 ?hy26 (by assumption) ?hr26
        case hi26 => (simp only [List.getElem?_toArray, List.getElem?_cons_succ, List.getElem?_cons_zero]; rfl)
        case hq26 => exact fun _ _ _ h => h
        case hy26 => exact Or.inr ⟨by rfl, rfl⟩
        simp only [Act.put, List.setIfInBounds_toArray, List.set_cons_zero, List.set_cons_succ]
        refine wpAnyH_take (i := 10) (oi := ?o27) (v := undef) ?hi27 (by kernel_rfl) (by kernel_rfl) (by kernel_rfl) ?hq27 ?hy27 (by assumption) ?hr27
        case hi27 => (simp only [List.getElem?_toArray, List.getElem?_cons_succ, List.getElem?_cons_zero]; rfl)
        case hq27 => exact fun _ _ _ h => h
        case hy27 => exact Or.inr ⟨by rfl, rfl⟩
        simp only [Act.put, List.setIfInBounds_toArray, List.set_cons_zero, List.set_cons_succ]
        refine wpAnyH_take (i := 11) (oi := ?o28) (v := undef) ?hi28 (by kernel_rfl) (by kernel_rfl) (by kernel_rfl) ?hq28 ?hy28 (by assumption) ?hr28
        case hi28 => (simp only [List.getElem?_toArray, List.getElem?_cons_succ, List.getElem?_cons_zero]; rfl)
        case hq28 => exact fun _ _ _ h => h
        case hy28 => exact Or.inr ⟨by rfl, rfl⟩
        simp only [Act.put, List.setIfInBounds_toArray, List.set_cons_zero, List.set_cons_succ]
        refine wpAnyH_take (i := 12) (oi := ?o29) (v := undef) ?hi29 (by kernel_rfl) (by kernel_rfl) (by kernel_rfl) ?hq29 ?hy29 (by assumption) ?hr29
        case hi29 => (simp only [List.getElem?_toArray, List.getElem?_cons_succ, List.getElem?_cons_zero]; rfl)
        case hq29 => exact fun _ _ _ h => h
        case hy29 => exact Or.inr ⟨by rfl, rfl⟩
        simp only [Act.put, List.setIfInBounds_toArray, List.set_cons_zero, List.set_cons_succ]
        refine wpAnyH_take (i := 13) (oi := ?o30) (v := ?hv30) ?hi30 (by kernel_rfl) (by kernel_rfl) (by kernel_rfl) ?hq30 ?hy30 (by assumption) ?hr30
        case hi30 => (simp only [List.getElem?_toArray, List.getElem?_cons_succ, List.getElem?_cons_zero]; rfl)
        case hq30 => exact fun _ _ _ h => h
        case hy30 => exact Or.inl ⟨by rfl, by intro w hSw; (try dsimp only at hSw); go_simp; try with_reducible rfl⟩
        simp only [Act.put, List.setIfInBounds_toArray, List.set_cons_zero, List.set_cons_succ]
        refine wpAnyH_take (i := 14) (oi := ?o31) (v := ?hv31) ?hi31 (by kernel_rfl) (by kernel_rfl) (by kernel_rfl) ?hq31 ?hy31 (by assumption) ?hr31
        case hi31 => (simp only [List.getElem?_toArray, List.getElem?_cons_succ, List.getElem?_cons_zero]; rfl)
        case hq31 => exact fun _ _ _ h => h
        case hy31 => exact Or.inl ⟨by rfl, by intro w hSw; (try dsimp only at hSw); go_simp; try with_reducible rfl⟩
        simp only [Act.put, List.setIfInBounds_toArray, List.set_cons_zero, List.set_cons_succ]
        refine wpAnyH_take (i := 15) (oi := ?o32) (v := ?hv32) ?hi32 (by kernel_rfl) (by kernel_rfl) (by kernel_rfl) ?hq32 ?hy32 (by assumption) ?hr32
        case hi32 => (simp only [List.getElem?_toArray, List.getElem?_cons_succ, List.getElem?_cons_zero]; rfl)
        case hq32 => exact fun _ _ _ h => h
        case hy32 => exact Or.inl ⟨by rfl, by intro w hSw; (try dsimp only at hSw); go_simp; try with_reducible rfl⟩
        simp only [Act.put, List.setIfInBounds_toArray, List.set_cons_zero, List.set_cons_succ]
        refine wpAnyH_done (by kernel_rfl) ?_ _
        go_wp2_with fail
        go_ret2
        refine ⟨?_, bstep hb0 hwx.drew (Nat.le_refl _)⟩
        simp
end Go.Proofs.YtnddjcadkbjjhaaGreatDoor
