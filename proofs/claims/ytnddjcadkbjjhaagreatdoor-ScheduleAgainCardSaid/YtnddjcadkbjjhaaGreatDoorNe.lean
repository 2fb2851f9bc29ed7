/-
  CHAPTER 35, NETWORKS: slices.BinarySearchFunc at links, find, Index.
-/
import Derived.Test.YtnddjcadkbjjhaaGreatDoorNd
namespace Go.Proofs.YtnddjcadkbjjhaaGreatDoor
open Go.RowKit

theorem keepK {w0 W : World} {g b o : Nat} {x z : L3} (hx : Hid (BoxL3 w0 g x))
    (hz : Hid (w0.cell? ⟨b, o, none⟩ = some (.int .i64 z.f) ∧ w0.cell? ⟨b, o + 1, none⟩ = some (.int .i64 z.t) ∧ w0.cell? ⟨b, o + 2, none⟩ = some (.int .i64 z.l)))
    (hg : g < w0.heap.size) (hb : b < w0.heap.size) (h : Below w0.heap.size w0 W) :
    W.cell? ⟨g, 0, none⟩ = some (.int .i64 x.f) ∧ W.cell? ⟨g, 1, none⟩ = some (.int .i64 x.t) ∧ W.cell? ⟨g, 2, none⟩ = some (.int .i64 x.l) ∧
    W.cell? ⟨b, o, none⟩ = some (.int .i64 z.f) ∧ W.cell? ⟨b, o + 1, none⟩ = some (.int .i64 z.t) ∧ W.cell? ⟨b, o + 2, none⟩ = some (.int .i64 z.l) := by
  obtain ⟨a0, a1, a2⟩ := hx.out.below h hg
  obtain ⟨b0, b1, b2⟩ := hz.out
  exact ⟨a0, a1, a2, (h.cell (p := ⟨b, _, none⟩) hb).trans b0, (h.cell (p := ⟨b, _, none⟩) hb).trans b1, (h.cell (p := ⟨b, _, none⟩) hb).trans b2⟩
set_option maxHeartbeats 4000000 in
set_option maxRecDepth 100000 in
theorem searchK (x : L3) (A : Option Addr) (n c : Nat) (cs : List L3) (cnt : Nat) (hn : n ≤ 1000000) (hcnt : cnt ≤ n) (hlo : Hid (∀ t z, cs[t]? = some z → t < cnt → cmpLk z x < 0)) (hhi : Hid (∀ t z, cs[t]? = some z → cnt ≤ t → 0 ≤ cmpLk z x))
    (found : Bool) (hf : Hid ((match cs[cnt]? with | some z => decide (cmpLk z x = 0) | none => false) = found)) (w : World) (hcs : Hid (Links w w.heap.size A n cs)) :
    Calls Tryz.prog 148 #[.slice A n c, .agg #[.int .i64 x.f, .int .i64 x.t, .int .i64 x.l], .func (.func 116) #[] #[]] w fun e w' => e = .returned (.tuple #[.int .i64 cnt, .bool found]) ∧ Below w.heap.size w w' := by
  have hb0 : Below w.heap.size w (w.alloc (OL3 x)) := (Below.refl _ _).alloc (Nat.le_refl _) _
  have hX0 := Lib.hid (BoxL3.new x w)
  have hl := hcs.out.1
  have hz0 : w.heap.size < (w.alloc (OL3 x)).heap.size := by simp
  have hC0 := Lib.hid (hcs.out.below hb0)
  go_enter Tryz.func148, Tryz.ntmps148
  go_upto_region 3 with fail
  revert hb0 hX0 hz0 hC0
  generalize w.alloc (OL3 x) = w1
  intro hb0 hX0 hz0 hC0
  go_loopw [9, 10] (fun i j wx => ∃ lo hi : Nat, i = .int .i64 lo ∧ j = .int .i64 hi ∧ lo ≤ cnt ∧ cnt ≤ hi ∧ hi ≤ n ∧ Below w1.heap.size w1 wx) (fun i j _ => (intOf j).toNat - (intOf i).toNat)
  case atStart => exact ⟨0, n, rfl, rfl, Nat.zero_le _, hcnt, Nat.le_refl _, Below.refl _ _⟩
  case round =>
    obtain ⟨lo, hi, rfl, rfl, h1, h2, h3, hwx⟩ := hrel
    have hs1 := hwx.size
    have hzr : w.heap.size < wr.heap.size := by omega
    have hXr := Lib.hid (hX0.out.below hwx hz0)
    have hCr := Lib.hid (hC0.out.below (hwx.mono (by omega)))
    by_cases hlt : lo < hi
    · obtain ⟨m, hm⟩ : ∃ m, (lo + hi) / 2 = m := ⟨_, rfl⟩
      have hmn : m < n := by omega
      obtain ⟨b, off, z, rfl, hbx, ez, hz⟩ := hCr.out.at_ hmn
      have hZ := Lib.hid hz
      have hbr : b < wr.heap.size := by omega
      have hmi : ((lo : Int) + (hi : Int)) / 2 = (m : Int) := by omega
      have hmt : (((lo : Int) + (hi : Int)) / 2).toNat = m := by omega
      have hm0 : (0 : Int) ≤ ((lo : Int) + (hi : Int)) / 2 := by omega
      have hm1 : ((lo : Int) + (hi : Int)) / 2 < (n : Int) := by omega
      go_upto_region 8 with fail
      obtain ⟨r, hr⟩ : ∃ r, cmpLk z x = r := ⟨_, rfl⟩
      by_cases hneg : r < 0
      · have hcl : m < cnt := by
          rcases Nat.lt_or_ge m cnt with h | h
          · exact h
          · have := hhi.out m z ez h; omega
        have hr := Lib.hid hr
        refine wp_region_held_drew (S := (fun w' => w'.cell? ⟨w.heap.size, 0, none⟩ = some (.int .i64 x.f) ∧ w'.cell? ⟨w.heap.size, 1, none⟩ = some (.int .i64 x.t) ∧ w'.cell? ⟨w.heap.size, 2, none⟩ = some (.int .i64 x.l) ∧ w'.cell? ⟨b, off + m * 3, none⟩ = some (.int .i64 z.f) ∧ w'.cell? ⟨b, off + m * 3 + 1, none⟩ = some (.int .i64 z.t) ∧ w'.cell? ⟨b, off + m * 3 + 2, none⟩ = some (.int .i64 z.l))) (by kernel_rfl) ?_ (fun hHeld => ?_)
        · (refine keepK hXr hZ hzr hbr ?_; (repeat first | assumption | exact Below.refl _ _ | refine Below.drew ?_ | refine ba ?_ _))
        refine wpAnyH_take (i := 0) (oi := ?o33) (v := ?hv33) ?hi33 (by kernel_rfl) (by kernel_rfl) (by kernel_rfl) ?hq33 ?hy33 (by assumption) ?hr33
        case hi33 => (simp only [List.getElem?_toArray, List.getElem?_cons_zero]; rfl)
        case hq33 => exact fun _ _ _ h => h
        case hy33 => exact Or.inl ⟨by rfl, by intro w hSw; (try dsimp only at hSw); go_simp; try with_reducible rfl⟩
        simp only [Act.put, List.setIfInBounds_toArray, List.set_cons_zero, List.set_cons_succ]
        refine wpAnyH_take (i := 1) (oi := ?o34) (v := ?hv34) ?hi34 (by kernel_rfl) (by kernel_rfl) (by kernel_rfl) ?hq34 ?hy34 (by assumption) ?hr34
        case hi34 => (simp only [List.getElem?_toArray, List.getElem?_cons_succ, List.getElem?_cons_zero]; rfl)
        case hq34 => exact fun _ _ _ h => h
        case hy34 => exact Or.inl ⟨by rfl, by intro w hSw; (try dsimp only at hSw); go_simp; try with_reducible rfl⟩
        simp only [Act.put, List.setIfInBounds_toArray, List.set_cons_zero, List.set_cons_succ]
        refine wpAnyH_take (i := 2) (oi := ?o35) (v := ?hv35) ?hi35 (by kernel_rfl) (by kernel_rfl) (by kernel_rfl) ?hq35 ?hy35 (by assumption) ?hr35
        case hi35 => (simp only [List.getElem?_toArray, List.getElem?_cons_succ, List.getElem?_cons_zero]; rfl)
        case hq35 => exact fun _ _ _ h => h
        case hy35 => exact Or.inl ⟨by rfl, by intro w hSw; (try dsimp only at hSw); go_simp; try with_reducible rfl⟩
        simp only [Act.put, List.setIfInBounds_toArray, List.set_cons_zero, List.set_cons_succ]
        refine wpAnyH_take (i := 3) (oi := ?o36) (v := .pointer (some ⟨b, off + m * 3, none⟩)) ?hi36 (by kernel_rfl) (by kernel_rfl) (by kernel_rfl) ?hq36 ?hy36 (by assumption) ?hr36
        case hi36 => (simp only [List.getElem?_toArray, List.getElem?_cons_succ, List.getElem?_cons_zero]; rfl)
        case hq36 => exact fun _ _ _ h => h
        case hy36 => exact Or.inl ⟨by rfl, by intro w hSw; (try dsimp only at hSw); go_simp; try simp only [hmt, hmi]; try with_reducible rfl⟩
        simp only [Act.put, List.setIfInBounds_toArray, List.set_cons_zero, List.set_cons_succ]
        refine wpAnyH_take (i := 4) (oi := ?o37) (v := ?hv37) ?hi37 (by kernel_rfl) (by kernel_rfl) (by kernel_rfl) ?hq37 ?hy37 (by assumption) ?hr37
        case hi37 => (simp only [List.getElem?_toArray, List.getElem?_cons_succ, List.getElem?_cons_zero]; rfl)
        case hq37 => exact fun _ _ _ h => h
        case hy37 => exact Or.inl ⟨by rfl, by intro w hSw; (try dsimp only at hSw); go_simp; try with_reducible rfl⟩
        simp only [Act.put, List.setIfInBounds_toArray, List.set_cons_zero, List.set_cons_succ]
        refine wpAnyH_take (i := 5) (oi := ?o38) (v := ?hv38) ?hi38 (by kernel_rfl) (by kernel_rfl) (by kernel_rfl) ?hq38 ?hy38 (by assumption) ?hr38
        case hi38 => (simp only [List.getElem?_toArray, List.getElem?_cons_succ, List.getElem?_cons_zero]; rfl)
        case hq38 => exact fun _ _ _ h => h
        case hy38 => exact Or.inl ⟨by rfl, by intro w hSw; (try dsimp only at hSw); go_simp; try with_reducible rfl⟩
        simp only [Act.put, List.setIfInBounds_toArray, List.set_cons_zero, List.set_cons_succ]
        refine wpAnyH_ready (rs := [6]) (by kernel_rfl) (by simp) ?_
        refine AllReadyH.cons (o := ?o39) ?hi39 (fun K hK => ?hr39) AllReadyH.nil
        case hi39 => (simp only [List.getElem?_toArray, List.getElem?_cons_succ, List.getElem?_cons_zero]; rfl)
        go_simp
        refine (carry (w0 := wr) (cmpLk_lit z x r hr _) ?_).mono ?_
        · (repeat first | assumption | exact Below.refl _ _ | refine Below.drew ?_ | refine ba ?_ _)
        rintro e w7 ⟨rfl, hb7⟩
        go_wp2_with fail
        refine hK.out _ _ ?_ (fun hHeld => ?_)
        · (refine keepK hXr hZ hzr hbr ?_; (repeat first | assumption | exact Below.refl _ _ | refine Below.drew ?_ | refine ba ?_ _))
        clear hK K
        try simp only [Act.put, List.setIfInBounds_toArray, List.set_cons_zero, List.set_cons_succ]
        refine wpAnyH_take (i := 7) (oi := ?o40) (v := ?hv40) ?hi40 (by kernel_rfl) (by kernel_rfl) (by kernel_rfl) ?hq40 ?hy40 (by assumption) ?hr40
        case hi40 => (simp only [List.getElem?_toArray, List.getElem?_cons_succ, List.getElem?_cons_zero]; rfl)
        case hq40 => exact fun _ _ _ h => h
        case hy40 => exact Or.inl ⟨by rfl, by intro w hSw; (try dsimp only at hSw); go_simp; try with_reducible rfl⟩
        simp only [Act.put, List.setIfInBounds_toArray, List.set_cons_zero, List.set_cons_succ]
        refine wpAnyH_done (by kernel_rfl) ?_ _
        go_wp2_with fail
        go_roundw
        case measure => simp [intOf]; omega
        case rel => exact ⟨m + 1, hi, by first | rfl | (congr 1; omega), rfl, by omega, h2, h3, bstep hwx hb7 (Nat.le_refl _)⟩
      · have hcl : cnt ≤ m := by
          rcases Nat.lt_or_ge m cnt with h | h
          · have := hlo.out m z ez h; omega
          · exact h
        have hr := Lib.hid hr
        refine wp_region_held_drew (S := (fun w' => w'.cell? ⟨w.heap.size, 0, none⟩ = some (.int .i64 x.f) ∧ w'.cell? ⟨w.heap.size, 1, none⟩ = some (.int .i64 x.t) ∧ w'.cell? ⟨w.heap.size, 2, none⟩ = some (.int .i64 x.l) ∧ w'.cell? ⟨b, off + m * 3, none⟩ = some (.int .i64 z.f) ∧ w'.cell? ⟨b, off + m * 3 + 1, none⟩ = some (.int .i64 z.t) ∧ w'.cell? ⟨b, off + m * 3 + 2, none⟩ = some (.int .i64 z.l))) (by kernel_rfl) ?_ (fun hHeld => ?_)
        · (refine keepK hXr hZ hzr hbr ?_; (repeat first | assumption | exact Below.refl _ _ | refine Below.drew ?_ | refine ba ?_ _))
        refine wpAnyH_take (i := 0) (oi := ?o41) (v := ?hv41) ?hi41 (by kernel_rfl) (by kernel_rfl) (by kernel_rfl) ?hq41 ?hy41 (by assumption) ?hr41
        case hi41 => (simp only [List.getElem?_toArray, List.getElem?_cons_zero]; rfl)
        case hq41 => exact fun _ _ _ h => h
        case hy41 => exact Or.inl ⟨by rfl, by intro w hSw; (try dsimp only at hSw); go_simp; try with_reducible rfl⟩
        simp only [Act.put, List.setIfInBounds_toArray, List.set_cons_zero, List.set_cons_succ]
        refine wpAnyH_take (i := 1) (oi := ?o42) (v := ?hv42) ?hi42 (by kernel_rfl) (by kernel_rfl) (by kernel_rfl) ?hq42 ?hy42 (by assumption) ?hr42
        case hi42 => (simp only [List.getElem?_toArray, List.getElem?_cons_succ, List.getElem?_cons_zero]; rfl)
        case hq42 => exact fun _ _ _ h => h
        case hy42 => exact Or.inl ⟨by rfl, by intro w hSw; (try dsimp only at hSw); go_simp; try with_reducible rfl⟩
        simp only [Act.put, List.setIfInBounds_toArray, List.set_cons_zero, List.set_cons_succ]
        refine wpAnyH_take (i := 2) (oi := ?o43) (v := ?hv43) ?hi43 (by kernel_rfl) (by kernel_rfl) (by kernel_rfl) ?hq43 ?hy43 (by assumption) ?hr43
        case hi43 => (simp only [List.getElem?_toArray, List.getElem?_cons_succ, List.getElem?_cons_zero]; rfl)
        case hq43 => exact fun _ _ _ h => h
        case hy43 => exact Or.inl ⟨by rfl, by intro w hSw; (try dsimp only at hSw); go_simp; try with_reducible rfl⟩
        simp only [Act.put, List.setIfInBounds_toArray, List.set_cons_zero, List.set_cons_succ]
        refine wpAnyH_take (i := 3) (oi := ?o44) (v := .pointer (some ⟨b, off + m * 3, none⟩)) ?hi44 (by kernel_rfl) (by kernel_rfl) (by kernel_rfl) ?hq44 ?hy44 (by assumption) ?hr44
        case hi44 => (simp only [List.getElem?_toArray, List.getElem?_cons_succ, List.getElem?_cons_zero]; rfl)
        case hq44 => exact fun _ _ _ h => h
        case hy44 => exact Or.inl ⟨by rfl, by intro w hSw; (try dsimp only at hSw); go_simp; try simp only [hmt, hmi]; try with_reducible rfl⟩
        simp only [Act.put, List.setIfInBounds_toArray, List.set_cons_zero, List.set_cons_succ]
        refine wpAnyH_take (i := 4) (oi := ?o45) (v := ?hv45) ?hi45 (by kernel_rfl) (by kernel_rfl) (by kernel_rfl) ?hq45 ?hy45 (by assumption) ?hr45
        case hi45 => (simp only [List.getElem?_toArray, List.getElem?_cons_succ, List.getElem?_cons_zero]; rfl)
        case hq45 => exact fun _ _ _ h => h
        case hy45 => exact Or.inl ⟨by rfl, by intro w hSw; (try dsimp only at hSw); go_simp; try with_reducible rfl⟩
        simp only [Act.put, List.setIfInBounds_toArray, List.set_cons_zero, List.set_cons_succ]
        refine wpAnyH_take (i := 5) (oi := ?o46) (v := ?hv46) ?hi46 (by kernel_rfl) (by kernel_rfl) (by kernel_rfl) ?hq46 ?hy46 (by assumption) ?hr46
        case hi46 => (simp only [List.getElem?_toArray, List.getElem?_cons_succ, List.getElem?_cons_zero]; rfl)
        case hq46 => exact fun _ _ _ h => h
        case hy46 => exact Or.inl ⟨by rfl, by intro w hSw; (try dsimp only at hSw); go_simp; try with_reducible rfl⟩
        simp only [Act.put, List.setIfInBounds_toArray, List.set_cons_zero, List.set_cons_succ]
        refine wpAnyH_ready (rs := [6]) (by kernel_rfl) (by simp) ?_
        refine AllReadyH.cons (o := ?o47) ?hi47 (fun K hK => ?hr47) AllReadyH.nil
        case hi47 => (simp only [List.getElem?_toArray, List.getElem?_cons_succ, List.getElem?_cons_zero]; rfl)
        go_simp
        refine (carry (w0 := wr) (cmpLk_lit z x r hr _) ?_).mono ?_
        · (repeat first | assumption | exact Below.refl _ _ | refine Below.drew ?_ | refine ba ?_ _)
        rintro e w7 ⟨rfl, hb7⟩
        go_wp2_with fail
        refine hK.out _ _ ?_ (fun hHeld => ?_)
        · (refine keepK hXr hZ hzr hbr ?_; (repeat first | assumption | exact Below.refl _ _ | refine Below.drew ?_ | refine ba ?_ _))
        clear hK K
        try simp only [Act.put, List.setIfInBounds_toArray, List.set_cons_zero, List.set_cons_succ]
        refine wpAnyH_take (i := 7) (oi := ?o48) (v := ?hv48) ?hi48 (by kernel_rfl) (by kernel_rfl) (by kernel_rfl) ?hq48 ?hy48 (by assumption) ?hr48
        case hi48 => (simp only [List.getElem?_toArray, List.getElem?_cons_succ, List.getElem?_cons_zero]; rfl)
        case hq48 => exact fun _ _ _ h => h
        case hy48 => exact Or.inl ⟨by rfl, by intro w hSw; (try dsimp only at hSw); go_simp; try with_reducible rfl⟩
        simp only [Act.put, List.setIfInBounds_toArray, List.set_cons_zero, List.set_cons_succ]
        refine wpAnyH_done (by kernel_rfl) ?_ _
        go_wp2_with fail
        go_roundw
        case measure => simp [intOf]; omega
        case rel => exact ⟨lo, m, rfl, rfl, h1, hcl, by omega, bstep hwx hb7 (Nat.le_refl _)⟩
    · obtain rfl : lo = cnt := by omega
      go_upto_region 2 with fail
      by_cases hin : lo < n
      · obtain ⟨b, off, z, rfl, hbx, ez, hz⟩ := hCr.out.at_ hin
        have hZ := Lib.hid hz
        have hbr : b < wr.heap.size := by omega
        obtain ⟨r, hr⟩ : ∃ r, cmpLk z x = r := ⟨_, rfl⟩
        have hff : found = decide (r = 0) := by rw [← hf.out, ez, ← hr]
        subst hff
        have hr := Lib.hid hr
        refine wp_region_held_drew (S := (fun w' => w'.cell? ⟨w.heap.size, 0, none⟩ = some (.int .i64 x.f) ∧ w'.cell? ⟨w.heap.size, 1, none⟩ = some (.int .i64 x.t) ∧ w'.cell? ⟨w.heap.size, 2, none⟩ = some (.int .i64 x.l) ∧ w'.cell? ⟨b, off + lo * 3, none⟩ = some (.int .i64 z.f) ∧ w'.cell? ⟨b, off + lo * 3 + 1, none⟩ = some (.int .i64 z.t) ∧ w'.cell? ⟨b, off + lo * 3 + 2, none⟩ = some (.int .i64 z.l))) (by kernel_rfl) ?_ (fun hHeld => ?_)
        · (refine keepK hXr hZ hzr hbr ?_; (repeat first | assumption | exact Below.refl _ _ | refine Below.drew ?_ | refine ba ?_ _))
        refine wpAnyH_take (i := 0) (oi := ?o1) (v := ?hv1) ?hi1 (by kernel_rfl) (by kernel_rfl) (by kernel_rfl) ?hq1 ?hy1 (by assumption) ?hr1
        case hi1 => (simp only [List.getElem?_toArray, List.getElem?_cons_zero]; rfl)
        case hq1 => exact fun _ _ _ h => h
        case hy1 => exact Or.inl ⟨by rfl, by intro w hSw; (try dsimp only at hSw); go_simp; try with_reducible rfl⟩
        simp only [Act.put, List.setIfInBounds_toArray, List.set_cons_zero, List.set_cons_succ]
        refine wpAnyH_take (i := 1) (oi := ?o2) (v := ?hv2) ?hi2 (by kernel_rfl) (by kernel_rfl) (by kernel_rfl) ?hq2 ?hy2 (by assumption) ?hr2
        case hi2 => (simp only [List.getElem?_toArray, List.getElem?_cons_succ, List.getElem?_cons_zero]; rfl)
        case hq2 => exact fun _ _ _ h => h
        case hy2 => exact Or.inl ⟨by rfl, by intro w hSw; (try dsimp only at hSw); go_simp; try with_reducible rfl⟩
        simp only [Act.put, List.setIfInBounds_toArray, List.set_cons_zero, List.set_cons_succ]
        refine wpAnyH_take (i := 2) (oi := ?o3) (v := ?hv3) ?hi3 (by kernel_rfl) (by kernel_rfl) (by kernel_rfl) ?hq3 ?hy3 (by assumption) ?hr3
        case hi3 => (simp only [List.getElem?_toArray, List.getElem?_cons_succ, List.getElem?_cons_zero]; rfl)
        case hq3 => exact fun _ _ _ h => h
        case hy3 => exact Or.inl ⟨by rfl, by intro w hSw; (try dsimp only at hSw); go_simp; try with_reducible rfl⟩
        simp only [Act.put, List.setIfInBounds_toArray, List.set_cons_zero, List.set_cons_succ]
        refine wpAnyH_take (i := 3) (oi := ?o4) (v := ?hv4) ?hi4 (by kernel_rfl) (by kernel_rfl) (by kernel_rfl) ?hq4 ?hy4 (by assumption) ?hr4
        case hi4 => (simp only [List.getElem?_toArray, List.getElem?_cons_succ, List.getElem?_cons_zero]; rfl)
        case hq4 => exact fun _ _ _ h => h
        case hy4 => exact Or.inl ⟨by rfl, by intro w hSw; (try dsimp only at hSw); go_simp; try with_reducible rfl⟩
        simp only [Act.put, List.setIfInBounds_toArray, List.set_cons_zero, List.set_cons_succ]
        refine wpAnyH_take (i := 4) (oi := ?o5) (v := ?hv5) ?hi5 (by kernel_rfl) (by kernel_rfl) (by kernel_rfl) ?hq5 ?hy5 (by assumption) ?hr5
        case hi5 => (simp only [List.getElem?_toArray, List.getElem?_cons_succ, List.getElem?_cons_zero]; rfl)
        case hq5 => exact fun _ _ _ h => h
        case hy5 => exact Or.inl ⟨by rfl, by intro w hSw; (try dsimp only at hSw); go_simp; try with_reducible rfl⟩
        simp only [Act.put, List.setIfInBounds_toArray, List.set_cons_zero, List.set_cons_succ]
        refine wpAnyH_take (i := 5) (oi := ?o6) (v := ?hv6) ?hi6 (by kernel_rfl) (by kernel_rfl) (by kernel_rfl) ?hq6 ?hy6 (by assumption) ?hr6
        case hi6 => (simp only [List.getElem?_toArray, List.getElem?_cons_succ, List.getElem?_cons_zero]; rfl)
        case hq6 => exact fun _ _ _ h => h
        case hy6 => exact Or.inl ⟨by rfl, by intro w hSw; (try dsimp only at hSw); go_simp; try with_reducible rfl⟩
        simp only [Act.put, List.setIfInBounds_toArray, List.set_cons_zero, List.set_cons_succ]
        refine wpAnyH_take (i := 6) (oi := ?o7) (v := ?hv7) ?hi7 (by kernel_rfl) (by kernel_rfl) (by kernel_rfl) ?hq7 ?hy7 (by assumption) ?hr7
        case hi7 => (simp only [List.getElem?_toArray, List.getElem?_cons_succ, List.getElem?_cons_zero]; rfl)
        case hq7 => exact fun _ _ _ h => h
        case hy7 => exact Or.inl ⟨by rfl, by intro w hSw; (try dsimp only at hSw); go_simp; try with_reducible rfl⟩
        simp only [Act.put, List.setIfInBounds_toArray, List.set_cons_zero, List.set_cons_succ]
        refine wpAnyH_take (i := 7) (oi := ?o8) (v := ?hv8) ?hi8 (by kernel_rfl) (by kernel_rfl) (by kernel_rfl) ?hq8 ?hy8 (by assumption) ?hr8
        case hi8 => (simp only [List.getElem?_toArray, List.getElem?_cons_succ, List.getElem?_cons_zero]; rfl)
        case hq8 => exact fun _ _ _ h => h
        case hy8 => exact Or.inl ⟨by rfl, by intro w hSw; (try dsimp only at hSw); go_simp; try with_reducible rfl⟩
        simp only [Act.put, List.setIfInBounds_toArray, List.set_cons_zero, List.set_cons_succ]
        refine wpAnyH_take (i := 8) (oi := ?o9) (v := .pointer (some ⟨b, off + lo * 3, none⟩)) ?hi9 (by kernel_rfl) (by kernel_rfl) (by kernel_rfl) ?hq9 ?hy9 (by assumption) ?hr9
        case hi9 => (simp only [List.getElem?_toArray, List.getElem?_cons_succ, List.getElem?_cons_zero]; rfl)
        case hq9 => exact fun _ _ _ h => h
        case hy9 => exact Or.inl ⟨by rfl, by intro w hSw; (try dsimp only at hSw); go_simp; skip; try with_reducible rfl⟩
        simp only [Act.put, List.setIfInBounds_toArray, List.set_cons_zero, List.set_cons_succ]
        refine wpAnyH_take (i := 9) (oi := ?o10) (v := ?hv10) ?hi10 (by kernel_rfl) (by kernel_rfl) (by kernel_rfl) ?hq10 ?hy10 (by assumption) ?hr10
        case hi10 => (simp only [List.getElem?_toArray, List.getElem?_cons_succ, List.getElem?_cons_zero]; rfl)
        case hq10 => exact fun _ _ _ h => h
        case hy10 => exact Or.inl ⟨by rfl, by intro w hSw; (try dsimp only at hSw); go_simp; try with_reducible rfl⟩
        simp only [Act.put, List.setIfInBounds_toArray, List.set_cons_zero, List.set_cons_succ]
        refine wpAnyH_take (i := 10) (oi := ?o11) (v := ?hv11) ?hi11 (by kernel_rfl) (by kernel_rfl) (by kernel_rfl) ?hq11 ?hy11 (by assumption) ?hr11
        case hi11 => (simp only [List.getElem?_toArray, List.getElem?_cons_succ, List.getElem?_cons_zero]; rfl)
        case hq11 => exact fun _ _ _ h => h
        case hy11 => exact Or.inl ⟨by rfl, by intro w hSw; (try dsimp only at hSw); go_simp; try with_reducible rfl⟩
        simp only [Act.put, List.setIfInBounds_toArray, List.set_cons_zero, List.set_cons_succ]
        refine wpAnyH_ready (rs := [11]) (by kernel_rfl) (by simp) ?_
        refine AllReadyH.cons (o := ?o12) ?hi12 (fun K hK => ?hr12) AllReadyH.nil
        case hi12 => (simp only [List.getElem?_toArray, List.getElem?_cons_succ, List.getElem?_cons_zero]; rfl)
        go_simp
        refine (carry (w0 := wr) (cmpLk_lit z x r hr _) ?_).mono ?_
        · (repeat first | assumption | exact Below.refl _ _ | refine Below.drew ?_ | refine ba ?_ _)
        rintro e w7 ⟨rfl, hb7⟩
        go_wp2_with fail
        refine hK.out _ _ ?_ (fun hHeld => ?_)
        · (refine keepK hXr hZ hzr hbr ?_; (repeat first | assumption | exact Below.refl _ _ | refine Below.drew ?_ | refine ba ?_ _))
        clear hK K
        try simp only [Act.put, List.setIfInBounds_toArray, List.set_cons_zero, List.set_cons_succ]
        refine wpAnyH_take (i := 12) (oi := ?o13) (v := ?hv13) ?hi13 (by kernel_rfl) (by kernel_rfl) (by kernel_rfl) ?hq13 ?hy13 (by assumption) ?hr13
        case hi13 => (simp only [List.getElem?_toArray, List.getElem?_cons_succ, List.getElem?_cons_zero]; rfl)
        case hq13 => exact fun _ _ _ h => h
        case hy13 => exact Or.inl ⟨by rfl, by intro w hSw; (try dsimp only at hSw); go_simp; try with_reducible rfl⟩
        simp only [Act.put, List.setIfInBounds_toArray, List.set_cons_zero, List.set_cons_succ]
        refine wpAnyH_take (i := 13) (oi := ?o14) (v := ?hv14) ?hi14 (by kernel_rfl) (by kernel_rfl) (by kernel_rfl) ?hq14 ?hy14 (by assumption) ?hr14
        case hi14 => (simp only [List.getElem?_toArray, List.getElem?_cons_succ, List.getElem?_cons_zero]; rfl)
        case hq14 => exact fun _ _ _ h => h
        case hy14 => exact Or.inl ⟨by rfl, by intro w hSw; (try dsimp only at hSw); go_simp; try with_reducible rfl⟩
        simp only [Act.put, List.setIfInBounds_toArray, List.set_cons_zero, List.set_cons_succ]
        refine wpAnyH_take (i := 14) (oi := ?o15) (v := ?hv15) ?hi15 (by kernel_rfl) (by kernel_rfl) (by kernel_rfl) ?hq15 ?hy15 (by assumption) ?hr15
        case hi15 => (simp only [List.getElem?_toArray, List.getElem?_cons_succ, List.getElem?_cons_zero]; rfl)
        case hq15 => exact fun _ _ _ h => h
        case hy15 => exact Or.inl ⟨by rfl, by intro w hSw; (try dsimp only at hSw); go_simp; try with_reducible rfl⟩
        simp only [Act.put, List.setIfInBounds_toArray, List.set_cons_zero, List.set_cons_succ]
        refine wpAnyH_take (i := 15) (oi := ?o16) (v := ?hv16) ?hi16 (by kernel_rfl) (by kernel_rfl) (by kernel_rfl) ?hq16 ?hy16 (by assumption) ?hr16
        case hi16 => (simp only [List.getElem?_toArray, List.getElem?_cons_succ, List.getElem?_cons_zero]; rfl)
        case hq16 => exact fun _ _ _ h => h
        case hy16 => exact Or.inl ⟨by rfl, by intro w hSw; (try dsimp only at hSw); go_simp; try with_reducible rfl⟩
        simp only [Act.put, List.setIfInBounds_toArray, List.set_cons_zero, List.set_cons_succ]
        refine wpAnyH_done (by kernel_rfl) ?_ _
        go_wp2_with fail
        go_ret2
        refine ⟨?_, bstep hb0 (bstep hwx hb7 (Nat.le_refl _)) (Nat.le_refl _)⟩
        by_cases h0 : r = 0 <;> simp [h0]
      · have hff : found = false := by rw [← hf.out, List.getElem?_eq_none (by omega)]
        subst hff
        refine wp_region_held_drew (S := (fun _ => True)) (by kernel_rfl) ?_ (fun hHeld => ?_)
        · trivial
        refine wpAnyH_take (i := 0) (oi := ?o17) (v := ?hv17) ?hi17 (by kernel_rfl) (by kernel_rfl) (by kernel_rfl) ?hq17 ?hy17 (by assumption) ?hr17
        case hi17 => (simp only [List.getElem?_toArray, List.getElem?_cons_zero]; rfl)
        case hq17 => exact fun _ _ _ h => h
        case hy17 => exact Or.inl ⟨by rfl, by intro w hSw; (try dsimp only at hSw); go_simp; try with_reducible rfl⟩
        simp only [Act.put, List.setIfInBounds_toArray, List.set_cons_zero, List.set_cons_succ]
        refine wpAnyH_take (i := 1) (oi := ?o18) (v := ?hv18) ?hi18 (by kernel_rfl) (by kernel_rfl) (by kernel_rfl) ?hq18 ?hy18 (by assumption) ?hr18
        case hi18 => (simp only [List.getElem?_toArray, List.getElem?_cons_succ, List.getElem?_cons_zero]; rfl)
        case hq18 => exact fun _ _ _ h => h
        case hy18 => exact Or.inl ⟨by rfl, by intro w hSw; (try dsimp only at hSw); go_simp; try with_reducible rfl⟩
        simp only [Act.put, List.setIfInBounds_toArray, List.set_cons_zero, List.set_cons_succ]
        refine wpAnyH_take (i := 2) (oi := ?o19) (v := ?hv19) ?hi19 (by kernel_rfl) (by kernel_rfl) (by kernel_rfl) ?hq19 ?hy19 (by assumption) ?hr19
        case hi19 => (simp only [List.getElem?_toArray, List.getElem?_cons_succ, List.getElem?_cons_zero]; rfl)
        case hq19 => exact fun _ _ _ h => h
        case hy19 => exact Or.inl ⟨by rfl, by intro w hSw; (try dsimp only at hSw); go_simp; try with_reducible rfl⟩
        simp only [Act.put, List.setIfInBounds_toArray, List.set_cons_zero, List.set_cons_succ]
        refine wpAnyH_take (i := 3) (oi := ?o20) (v := ?hv20) ?hi20 (by kernel_rfl) (by kernel_rfl) (by kernel_rfl) ?hq20 ?hy20 (by assumption) ?hr20
        case hi20 => (simp only [List.getElem?_toArray, List.getElem?_cons_succ, List.getElem?_cons_zero]; rfl)
        case hq20 => exact fun _ _ _ h => h
        case hy20 => exact Or.inl ⟨by rfl, by intro w hSw; (try dsimp only at hSw); go_simp; try with_reducible rfl⟩
        simp only [Act.put, List.setIfInBounds_toArray, List.set_cons_zero, List.set_cons_succ]
        refine wpAnyH_take (i := 4) (oi := ?o21) (v := ?hv21) ?hi21 (by kernel_rfl) (by kernel_rfl) (by kernel_rfl) ?hq21 ?hy21 (by assumption) ?hr21
        case hi21 => (simp only [List.getElem?_toArray, List.getElem?_cons_succ, List.getElem?_cons_zero]; rfl)
        case hq21 => exact fun _ _ _ h => h
        case hy21 => exact Or.inl ⟨by rfl, by intro w hSw; (try dsimp only at hSw); go_simp; try with_reducible rfl⟩
        simp only [Act.put, List.setIfInBounds_toArray, List.set_cons_zero, List.set_cons_succ]
        refine wpAnyH_take (i := 5) (oi := ?o22) (v := undef) ?hi22 (by kernel_rfl) (by kernel_rfl) (by kernel_rfl) ?hq22 ?hy22 (by assumption) ?hr22
        case hi22 => (simp only [List.getElem?_toArray, List.getElem?_cons_succ, List.getElem?_cons_zero]; rfl)
        case hq22 => exact fun _ _ _ h => h
        case hy22 => exact Or.inr ⟨by rfl, rfl⟩
        simp only [Act.put, List.setIfInBounds_toArray, List.set_cons_zero, List.set_cons_succ]
        refine wpAnyH_take (i := 6) (oi := ?o23) (v := undef) ?hi23 (by kernel_rfl) (by kernel_rfl) (by kernel_rfl) ?hq23 ?hy23 (by assumption) ?hr23
        case hi23 => (simp only [List.getElem?_toArray, List.getElem?_cons_succ, List.getElem?_cons_zero]; rfl)
        case hq23 => exact fun _ _ _ h => h
        case hy23 => exact Or.inr ⟨by rfl, rfl⟩
        simp only [Act.put, List.setIfInBounds_toArray, List.set_cons_zero, List.set_cons_succ]
        refine wpAnyH_take (i := 7) (oi := ?o24) (v := undef) ?hi24 (by kernel_rfl) (by kernel_rfl) (by kernel_rfl) ?hq24 ?hy24 (by assumption) ?hr24
        case hi24 => (simp only [List.getElem?_toArray, List.getElem?_cons_succ, List.getElem?_cons_zero]; rfl)
        case hq24 => exact fun _ _ _ h => h
        case hy24 => exact Or.inr ⟨by rfl, rfl⟩
        simp only [Act.put, List.setIfInBounds_toArray, List.set_cons_zero, List.set_cons_succ]
        refine wpAnyH_take (i := 8) (oi := ?o25) (v := undef) ?hi25 (by kernel_rfl) (by kernel_rfl) (by kernel_rfl) ?hq25 ?hy25 (by assumption) ?hr25
        case hi25 => (simp only [List.getElem?_toArray, List.getElem?_cons_succ, List.getElem?_cons_zero]; rfl)
        case hq25 => exact fun _ _ _ h => h
        case hy25 => exact Or.inr ⟨by rfl, rfl⟩
        simp only [Act.put, List.setIfInBounds_toArray, List.set_cons_zero, List.set_cons_succ]
        refine wpAnyH_take (i := 9) (oi := ?o26) (v := undef) ?hi26 (by kernel_rfl) (by kernel_rfl) (by kernel_rfl) ?hq26 ?hy26 (by assumption) ?hr26
        case hi26 => (simp only [List.getElem?_toArray, List.getElem?_cons_succ, List.getElem?_cons_zero]; rfl)
        case hq26 => exact fun _ _ _ h => h
        case hy26 => exact Or.inr ⟨by rfl, rfl⟩
        simp only [Act.put, List.setIfInBounds_toArray, List.set_cons_zero, List.set_cons_succ]
        refine wpAnyH_take (i := 10) (oi := ?o27) (v := undef) ?hi27 (by kernel_rfl) (by kernel_rfl) (by kernel_rfl) ?hq27 ?hy27 (by assumption) ?hr27
        case hi27 => (simp only [List.getElem?_toArray, List.getElem?_cons_succ, List.getElem?_cons_zero]; rfl)
        case hq27 => exact fun _ _ _ h => h
        case hy27 => exact Or.inr ⟨by rfl, rfl⟩
        simp only [Act.put, List.setIfInBounds_toArray, List.set_cons_zero, List.set_cons_succ]
        refine wpAnyH_take (i := 11) (oi := ?o28) (v := undef) ?hi28 (by kernel_rfl) (by kernel_rfl) (by kernel_rfl) ?hq28 ?hy28 (by assumption) ?hr28
        case hi28 => (simp only [List.getElem?_toArray, List.getElem?_cons_succ, List.getElem?_cons_zero]; rfl)
        case hq28 => exact fun _ _ _ h => h
        case hy28 => exact Or.inr ⟨by rfl, rfl⟩
        simp only [Act.put, List.setIfInBounds_toArray, List.set_cons_zero, List.set_cons_succ]
        refine wpAnyH_take (i := 12) (oi := ?o29) (v := undef) ?hi29 (by kernel_rfl) (by kernel_rfl) (by kernel_rfl) ?hq29 ?hy29 (by assumption) ?hr29
        case hi29 => (simp only [List.getElem?_toArray, List.getElem?_cons_succ, List.getElem?_cons_zero]; rfl)
        case hq29 => exact fun _ _ _ h => h
        case hy29 => exact Or.inr ⟨by rfl, rfl⟩
        simp only [Act.put, List.setIfInBounds_toArray, List.set_cons_zero, List.set_cons_succ]
        refine wpAnyH_take (i := 13) (oi := ?o30) (v := ?hv30) ?hi30 (by kernel_rfl) (by kernel_rfl) (by kernel_rfl) ?hq30 ?hy30 (by assumption) ?hr30
        case hi30 => (simp only [List.getElem?_toArray, List.getElem?_cons_succ, List.getElem?_cons_zero]; rfl)
        case hq30 => exact fun _ _ _ h => h
        case hy30 => exact Or.inl ⟨by rfl, by intro w hSw; (try dsimp only at hSw); go_simp; try with_reducible rfl⟩
        simp only [Act.put, List.setIfInBounds_toArray, List.set_cons_zero, List.set_cons_succ]
        refine wpAnyH_take (i := 14) (oi := ?o31) (v := ?hv31) ?hi31 (by kernel_rfl) (by kernel_rfl) (by kernel_rfl) ?hq31 ?hy31 (by assumption) ?hr31
        case hi31 => (simp only [List.getElem?_toArray, List.getElem?_cons_succ, List.getElem?_cons_zero]; rfl)
        case hq31 => exact fun _ _ _ h => h
        case hy31 => exact Or.inl ⟨by rfl, by intro w hSw; (try dsimp only at hSw); go_simp; try with_reducible rfl⟩
        simp only [Act.put, List.setIfInBounds_toArray, List.set_cons_zero, List.set_cons_succ]
        refine wpAnyH_take (i := 15) (oi := ?o32) (v := ?hv32) ?hi32 (by kernel_rfl) (by kernel_rfl) (by kernel_rfl) ?hq32 ?hy32 (by assumption) ?hr32
        case hi32 => (simp only [List.getElem?_toArray, List.getElem?_cons_succ, List.getElem?_cons_zero]; rfl)
        case hq32 => exact fun _ _ _ h => h
        case hy32 => exact Or.inl ⟨by rfl, by intro w hSw; (try dsimp only at hSw); go_simp; try with_reducible rfl⟩
        simp only [Act.put, List.setIfInBounds_toArray, List.set_cons_zero, List.set_cons_succ]
        refine wpAnyH_done (by kernel_rfl) ?_ _
        go_wp2_with fail
        go_ret2
        refine ⟨?_, bstep hb0 hwx.drew (Nat.le_refl _)⟩
        simp
theorem cmpLk_lt (a b : L3) : cmpLk a b < 0 ↔ a.f < b.f ∨ (a.f = b.f ∧ a.t < b.t) := by
  unfold cmpLk orI
  simp only [cmpI_zero]
  unfold cmpI
  repeat' split
  all_goals omega
theorem cmpLk_zero (a b : L3) : cmpLk a b = 0 ↔ a.f = b.f ∧ a.t = b.t := by
  unfold cmpLk orI
  simp only [cmpI_zero]
  unfold cmpI
  repeat' split
  all_goals omega
/-- Links in strict order. -/
def SrtK (ls : List L3) : Prop := ls.Pairwise fun a b => cmpLk a b < 0
/-- How many links stand before one. -/
def posK (x : L3) : List L3 → Nat
  | [] => 0
  | c :: l => if cmpLk c x < 0 then posK x l + 1 else 0
theorem posK_le (x : L3) : ∀ cs : List L3, posK x cs ≤ cs.length
  | [] => Nat.le_refl _
  | c :: l => by unfold posK; have := posK_le x l; split <;> simp <;> omega
theorem posK_lo (x : L3) : ∀ (cs : List L3) (t : Nat) (z : L3), cs[t]? = some z → t < posK x cs → cmpLk z x < 0
  | [], t, z, h, _ => by simp at h
  | c :: l, t, z, h, ht => by
    unfold posK at ht
    split at ht
    · rename_i hc
      cases t with
      | zero => simp at h; subst h; exact hc
      | succ t => exact posK_lo x l t z (by simpa using h) (by omega)
    · omega
theorem posK_hi (x : L3) : ∀ (cs : List L3), SrtK cs → ∀ (t : Nat) (z : L3), cs[t]? = some z → posK x cs ≤ t → 0 ≤ cmpLk z x
  | [], _, t, z, h, _ => by simp at h
  | c :: l, hs, t, z, h, ht => by
    obtain ⟨h1, h2⟩ := List.pairwise_cons.1 hs
    unfold posK at ht
    split at ht
    · cases t with
      | zero => omega
      | succ t => exact posK_hi x l h2 t z (by simpa using h) (by omega)
    · rename_i hc
      cases t with
      | zero => simp at h; subst h; omega
      | succ t =>
        have hz : z ∈ l := List.mem_of_getElem? (by simpa using h)
        have h3 := h1 z hz
        rw [cmpLk_lt] at h3 hc
        have h4 : ¬ cmpLk z x < 0 := by rw [cmpLk_lt]; omega
        omega
/-- The index of a link, -1 if there is none. -/
def findL (ls : List L3) (a b : Int) : Int := fidx (fun l => decide (l.f = a) && decide (l.t = b)) 0 ls
theorem findL_pos (a b d : Int) : ∀ (ls : List L3) (k : Nat), SrtK ls → fidx (fun l => decide (l.f = a) && decide (l.t = b)) k ls = if (match ls[posK ⟨a, b, d⟩ ls]? with | some z => decide (cmpLk z ⟨a, b, d⟩ = 0) | none => false) = true then ((k + posK ⟨a, b, d⟩ ls : Nat) : Int) else -1
  | [], k, _ => by simp [fidx, posK]
  | c :: l, k, hs => by
    obtain ⟨h1, h2⟩ := List.pairwise_cons.1 hs
    unfold fidx
    by_cases hc : cmpLk c ⟨a, b, d⟩ < 0
    · have ih := findL_pos a b d l (k + 1) h2
      rw [show posK ⟨a, b, d⟩ (c :: l) = posK ⟨a, b, d⟩ l + 1 from by simp [posK, hc], List.getElem?_cons_succ]
      have hne : ¬ (decide (c.f = a) && decide (c.t = b)) = true := by
        rw [cmpLk_lt] at hc
        simp only at hc
        simp
        omega
      rw [if_neg hne, ih]
      congr 2
      omega
    · rw [show posK ⟨a, b, d⟩ (c :: l) = 0 from by simp [posK, hc], List.getElem?_cons_zero]
      by_cases he : c.f = a ∧ c.t = b
      · have hz : cmpLk c ⟨a, b, d⟩ = 0 := (cmpLk_zero _ _).2 he
        simp [he.1, he.2, hz]
      · have hz : ¬ cmpLk c ⟨a, b, d⟩ = 0 := fun h => he ((cmpLk_zero _ _).1 h)
        have hne : ¬ (decide (c.f = a) && decide (c.t = b)) = true := by simpa using he
        rw [if_neg hne]
        have hall : ∀ (m : Nat) (xs : List L3), (∀ x ∈ xs, ¬ (x.f = a ∧ x.t = b)) → fidx (fun l => decide (l.f = a) && decide (l.t = b)) m xs = -1 := by
          intro m xs
          induction xs generalizing m with
          | nil => intro _; rfl
          | cons y ys ih =>
            intro h
            unfold fidx
            rw [if_neg (by simpa using h y List.mem_cons_self)]
            exact ih (m + 1) (fun x hx => h x (List.mem_cons_of_mem _ hx))
        rw [hall]
        · simp [hz]
        · intro x hx hxe
          have h3 := h1 x hx
          rw [cmpLk_lt] at h3 hc
          simp only at hc
          omega
set_option maxHeartbeats 1600000 in
set_option maxRecDepth 100000 in
theorem find_cnt (N : NT) (a b : Int) (cnt : Nat) (found : Bool) (hn : N.nl ≤ 1000000) (hcnt : cnt ≤ N.nl) (hlo : Hid (∀ t z, N.ls[t]? = some z → t < cnt → cmpLk z ⟨a, b, 0⟩ < 0)) (hhi : Hid (∀ t z, N.ls[t]? = some z → cnt ≤ t → 0 ≤ cmpLk z ⟨a, b, 0⟩))
    (hf : Hid ((match N.ls[cnt]? with | some z => decide (cmpLk z ⟨a, b, 0⟩ = 0) | none => false) = found)) (w : World) (hN : Hid (NetM w w.heap.size N)) :
    Calls Tryz.prog 119 #[.agg #[.int .i64 N.k, .slice N.Ap N.np N.cp, .int .i64 N.z, .int .i64 N.h, .slice N.Al N.nl N.cl, .slice N.Am N.nm N.cm], .int .i64 a, .int .i64 b] w fun e w' => e = .returned (.int .i64 (if found = true then (cnt : Int) else -1)) ∧ Below w.heap.size w w' := by
  have hb0 := alloc_below w (ONT N)
  have hL0 := Lib.hid ((hN.out.2.1.below hb0).more hb0.size)
  clear hN
  go_enter Tryz.func119, Tryz.ntmps119
  go_wp2_with fail
  revert hb0 hL0
  generalize w.alloc (ONT N) = w0
  intro hb0 hL0
  refine (searchK ⟨a, b, 0⟩ N.Al N.nl N.cl N.ls cnt hn hcnt hlo hhi found hf _ hL0).mono ?_
  rintro e w1 ⟨rfl, hb1⟩
  cases found
  · go_wp2_with fail
    go_ret
    exact ⟨rfl, bstep hb0 hb1 (Nat.le_refl _)⟩
  · go_wp2_with fail
    go_ret
    exact ⟨rfl, bstep hb0 hb1 (Nat.le_refl _)⟩
/-- network.find, of links in order. -/
theorem find_lit (N : NT) (a b r : Int) (hr : findL N.ls a b = r) (hn : N.nl ≤ 1000000) (hs : SrtK N.ls) (w : World) (hN : NetM w w.heap.size N) :
    Calls Tryz.prog 119 #[.agg #[.int .i64 N.k, .slice N.Ap N.np N.cp, .int .i64 N.z, .int .i64 N.h, .slice N.Al N.nl N.cl, .slice N.Am N.nm N.cm], .int .i64 a, .int .i64 b] w fun e w' => e = .returned (.int .i64 r) ∧ Below w.heap.size w w' := by
  have h := findL_pos a b 0 N.ls 0 hs
  rw [Nat.zero_add] at h
  rw [← hr]
  unfold findL
  rw [h]
  exact find_cnt N a b (posK ⟨a, b, 0⟩ N.ls) _ hn (by have := posK_le ⟨a, b, 0⟩ N.ls; have := hN.2.1.1; omega) (Lib.hid (posK_lo _ _)) (Lib.hid (posK_hi _ _ hs)) (Lib.hid rfl) w (Lib.hid hN)
set_option maxHeartbeats 1600000 in
set_option maxRecDepth 100000 in
/-- network.Index, of a valid network. -/
theorem Index_lit (N : NT) (a b r : Int) (hr : findL N.ls a b = r) (hv : Hid (netE N = 0)) (hs : SrtK N.ls) (hsm : N.small) (w : World) (hN : Hid (NetM w w.heap.size N)) :
    Calls Tryz.prog 86 #[.agg #[.int .i64 N.k, .slice N.Ap N.np N.cp, .int .i64 N.z, .int .i64 N.h, .slice N.Al N.nl N.cl, .slice N.Am N.nm N.cm], .int .i64 a, .int .i64 b] w fun e w' => e = .returned (.int .i64 r) ∧ Below w.heap.size w w' := by
  have hb0 := alloc_below w (ONT N)
  have hB0 := Lib.hid (BoxNT.new N w)
  have hl0 : w.heap.size < (w.alloc (ONT N)).heap.size := by simp
  have hM0 := Lib.hid ((hN.out.below hb0).more hb0.size)
  have hr := Lib.hid hr
  clear hN
  go_enter Tryz.func86, Tryz.ntmps86
  go_wp2_with fail
  revert hb0 hB0 hl0 hM0
  generalize w.alloc (ONT N) = w0
  intro hb0 hB0 hl0 hM0
  refine (net_lit N hsm 0 hv.out _ hM0.out).mono ?_
  rintro e w1 ⟨rfl, hb1⟩
  have hM1 := Lib.hid ((hM0.out.below hb1).more hb1.size)
  obtain ⟨n0, n1, n2, n3, n4, n5⟩ := hB0.out.below hb1 hl0
  go_wp2_with fail
  refine (find_lit N a b r hr.out hsm.2.1 hs _ hM1.out).mono ?_
  rintro e w2 ⟨rfl, hb2⟩
  go_wp2_with fail
  go_ret
  exact ⟨rfl, bstep (bstep hb0 hb1 (Nat.le_refl _)) hb2 (Nat.le_refl _)⟩
end Go.Proofs.YtnddjcadkbjjhaaGreatDoor
