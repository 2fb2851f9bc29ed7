-- PRINTED BY print.sh 35421559b90ae4d0a3588c463048766b98c2df88dd9212a6774a882060cdf62d: not written by this session
import Derived.Test.YtnddjcadkbjjhaaGreatDoorPScheduleRepeatsx0
import Derived.Test.YtnddjcadkbjjhaaGreatDoorPScheduleRepeatsx8
namespace Go.Proofs.YtnddjcadkbjjhaaGreatDoor.PScheduleRepeats
open Go.RowKit Go.Proofs.YtnddjcadkbjjhaaGreatDoorW.PrintWords Go.Proofs.YtnddjcadkbjjhaaGreatDoorW.PrintLast Go.Proofs.YtnddjcadkbjjhaaGreatDoorW.PrintMore
attribute [local go_sem] max2_int min2_int max_two min_two max_three min_three max_four min_four   -- for this text's walks alone
set_option linter.unusedVariables false
set_option linter.unusedSimpArgs false

/-! ### hopmeshref35_Repeat: function 22 -/
mutual
def hopmeshref35_Repeat.j0 : Nat → Int → Bool → Int → Int → List (S51) → Option (Int × Int × (List (S51)) × Int)
  | 0, _, _, _, _, _ => none
  | k + 1, x1, x26, x261000, x261001, x261002 => if x26 = true then (some (0, 0, ([] : List (S51)), 2)) else (if (wrap64 ((x261002.length : Int) * x1)) > 512 then (some (0, 0, ([] : List (S51)), 8)) else (hopmeshref35_Repeat.l0 k x1 0 x261000 x261001 x261002 (wrap64 (x261000 * x1)) x261001 ([] : List (S51))))
def hopmeshref35_Repeat.l0 : Nat → Int → Int → Int → Int → List (S51) → Int → Int → List (S51) → Option (Int × Int × (List (S51)) × Int)
  | 0, _, _, _, _, _, _, _, _ => none
  | k + 1, x1, x7, x261000, x261001, x261002, x264000, x264001, x264002 => if x7 < x1 then (hopmeshref35_Repeat.l1 k x1 x7 0 x261000 x261001 x261002 x264000 x264001 x264002) else (some (x264000, x264001, x264002, 0))
def hopmeshref35_Repeat.l1 : Nat → Int → Int → Int → Int → Int → List (S51) → Int → Int → List (S51) → Option (Int × Int × (List (S51)) × Int)
  | 0, _, _, _, _, _, _, _, _, _ => none
  | k + 1, x1, x7, x8, x261000, x261001, x261002, x264000, x264001, x264002 => if x8 < (x261002.length : Int) then (if 0 ≤ x8 then (if x264002.length < 3518437208883 then (hopmeshref35_Repeat.l1 k x1 x7 (wrap64 (x8 + 1)) x261000 x261001 x261002 x264000 x264001 (x264002 ++ [(⟨wrap64 (((rd_T51 x261002 x8).f0) + (wrap64 (x7 * x261000))), (rd_T51 x261002 x8).f1, (rd_T51 x261002 x8).f2, (rd_T51 x261002 x8).f3, (rd_T51 x261002 x8).f4⟩ : S51)])) else (none)) else (none)) else (hopmeshref35_Repeat.l0 k x1 (wrap64 (x7 + 1)) x261000 x261001 x261002 x264000 x264001 x264002)
end
def hopmeshref35_Repeat.f (k : Nat) (a0_0 : Int) (a0_1 : Int) (l0_2 : List (S51)) (a1 : Int) : Option (Int × Int × (List (S51)) × Int) := (hopmeshref35_Formed.f k a0_0 a0_1 l0_2).bind fun t262 => (if t262 = true then (if a1 < 1 then (hopmeshref35_Repeat.j0 k a1 true a0_0 a0_1 l0_2) else (if a1 > 512 then (hopmeshref35_Repeat.j0 k a1 true a0_0 a0_1 l0_2) else (hopmeshref35_Repeat.j0 k a1 (decide ((wrap64 (a0_0 * a1)) > 512)) a0_0 a0_1 l0_2))) else (some (0, 0, ([] : List (S51)), 1)))
theorem hopmeshref35_Repeat.mono_l : ∀ k, (∀ y0 y1 y2 y3 y4, LeO (hopmeshref35_Repeat.j0 k y0 y1 y2 y3 y4) (hopmeshref35_Repeat.j0 (k + 1) y0 y1 y2 y3 y4)) ∧ (∀ y0 y1 y2 y3 y4 y5 y6 y7, LeO (hopmeshref35_Repeat.l0 k y0 y1 y2 y3 y4 y5 y6 y7) (hopmeshref35_Repeat.l0 (k + 1) y0 y1 y2 y3 y4 y5 y6 y7)) ∧ (∀ y0 y1 y2 y3 y4 y5 y6 y7 y8, LeO (hopmeshref35_Repeat.l1 k y0 y1 y2 y3 y4 y5 y6 y7 y8) (hopmeshref35_Repeat.l1 (k + 1) y0 y1 y2 y3 y4 y5 y6 y7 y8))
  | 0 => ⟨fun _ _ _ _ _ r h => by simp [hopmeshref35_Repeat.j0] at h, fun _ _ _ _ _ _ _ _ r h => by simp [hopmeshref35_Repeat.l0] at h, fun _ _ _ _ _ _ _ _ _ r h => by simp [hopmeshref35_Repeat.l1] at h⟩
  | k + 1 => by
    obtain ⟨ih0, ih1, ih2⟩ := hopmeshref35_Repeat.mono_l k
    refine ⟨?_, ?_, ?_⟩
    · intro y0 y1 y2 y3 y4
      unfold hopmeshref35_Repeat.j0
      repeat' first
      | (with_reducible exact ih0 _ _ _ _ _)
      | (with_reducible exact ih1 _ _ _ _ _ _ _ _)
      | (with_reducible exact ih2 _ _ _ _ _ _ _ _ _)
      | (with_reducible exact hopmeshref35_Formed.mono _ _ _ _)
      | (with_reducible exact LeO.refl _)
      | (with_reducible exact LeO.none _)
      | (with_reducible refine LeO.ite ?_ ?_)
      | (with_reducible refine LeO.bind ?_ (fun _ => ?_))
      | exact ih0 _ _ _ _ _
      | exact ih1 _ _ _ _ _ _ _ _
      | exact ih2 _ _ _ _ _ _ _ _ _
      | exact hopmeshref35_Formed.mono _ _ _ _
      | exact LeO.none _
      | refine LeO.ite ?_ ?_
      | refine LeO.bind ?_ (fun _ => ?_)
    · intro y0 y1 y2 y3 y4 y5 y6 y7
      unfold hopmeshref35_Repeat.l0
      repeat' first
      | (with_reducible exact ih0 _ _ _ _ _)
      | (with_reducible exact ih1 _ _ _ _ _ _ _ _)
      | (with_reducible exact ih2 _ _ _ _ _ _ _ _ _)
      | (with_reducible exact hopmeshref35_Formed.mono _ _ _ _)
      | (with_reducible exact LeO.refl _)
      | (with_reducible exact LeO.none _)
      | (with_reducible refine LeO.ite ?_ ?_)
      | (with_reducible refine LeO.bind ?_ (fun _ => ?_))
      | exact ih0 _ _ _ _ _
      | exact ih1 _ _ _ _ _ _ _ _
      | exact ih2 _ _ _ _ _ _ _ _ _
      | exact hopmeshref35_Formed.mono _ _ _ _
      | exact LeO.none _
      | refine LeO.ite ?_ ?_
      | refine LeO.bind ?_ (fun _ => ?_)
    · intro y0 y1 y2 y3 y4 y5 y6 y7 y8
      unfold hopmeshref35_Repeat.l1
      repeat' first
      | (with_reducible exact ih0 _ _ _ _ _)
      | (with_reducible exact ih1 _ _ _ _ _ _ _ _)
      | (with_reducible exact ih2 _ _ _ _ _ _ _ _ _)
      | (with_reducible exact hopmeshref35_Formed.mono _ _ _ _)
      | (with_reducible exact LeO.refl _)
      | (with_reducible exact LeO.none _)
      | (with_reducible refine LeO.ite ?_ ?_)
      | (with_reducible refine LeO.bind ?_ (fun _ => ?_))
      | exact ih0 _ _ _ _ _
      | exact ih1 _ _ _ _ _ _ _ _
      | exact ih2 _ _ _ _ _ _ _ _ _
      | exact hopmeshref35_Formed.mono _ _ _ _
      | exact LeO.none _
      | refine LeO.ite ?_ ?_
      | refine LeO.bind ?_ (fun _ => ?_)
theorem hopmeshref35_Repeat.mono : ∀ a0 a1 a2 a3 k, LeO (hopmeshref35_Repeat.f k a0 a1 a2 a3) (hopmeshref35_Repeat.f (k + 1) a0 a1 a2 a3) := by
  intro a0 a1 a2 a3 k
  obtain ⟨ih0, ih1, ih2⟩ := hopmeshref35_Repeat.mono_l k
  unfold hopmeshref35_Repeat.f
  repeat' first
      | (with_reducible exact ih0 _ _ _ _ _)
      | (with_reducible exact ih1 _ _ _ _ _ _ _ _)
      | (with_reducible exact ih2 _ _ _ _ _ _ _ _ _)
      | (with_reducible exact hopmeshref35_Formed.mono _ _ _ _)
      | (with_reducible exact LeO.refl _)
      | (with_reducible exact LeO.none _)
      | (with_reducible refine LeO.ite ?_ ?_)
      | (with_reducible refine LeO.bind ?_ (fun _ => ?_))
      | exact ih0 _ _ _ _ _
      | exact ih1 _ _ _ _ _ _ _ _
      | exact ih2 _ _ _ _ _ _ _ _ _
      | exact hopmeshref35_Formed.mono _ _ _ _
      | exact LeO.none _
      | refine LeO.ite ?_ ?_
      | refine LeO.bind ?_ (fun _ => ?_)
set_option maxHeartbeats 8000000 in
set_option maxRecDepth 100000 in
theorem hopmeshref35_Repeat.calls (k : Nat) (a0_0 : Int) (a0_1 : Int) (A0_2 : Option Addr) (c0_2 : Nat) (l0_2 : List (S51)) (a1 : Int) (r1 : Int) (r2 : Int) (r3 : List (S51)) (r4 : Int) (w : World) (hr0_2 : Kd.C k51 w A0_2 l0_2.length l0_2) (hc0_2 : l0_2.length ≤ c0_2) (h : hopmeshref35_Repeat.f k a0_0 a0_1 l0_2 a1 = some (r1, r2, r3, r4)) :
    Calls Tryz.prog 22 #[.agg #[.int .i64 a0_0, .int .i64 a0_1, .slice A0_2 l0_2.length c0_2], .int .i64 a1] w fun e w' => ∃ v2_ : Value, e = .returned (.tuple #[.agg #[.int .i64 r1, .int .i64 r2, v2_], .int .i64 r4]) ∧ Kd.R k51 51 w' w.heap.size (fun _ => True) v2_ r3 ∧ Below w.heap.size w w' := by
  have hu30 := Tryz.underlying30
  have hu51 := Tryz.underlying51
  have HR0_2 := Aside0.mk hr0_2
  have HC0_2 := Aside0.mk hc0_2
  clear hr0_2 hc0_2
  have HB := Aside0.mk (Below.refl w.heap.size w)
  have H : ((hopmeshref35_Formed.f k a0_0 a0_1 l0_2).bind fun t262 => (if t262 = true then (if a1 < 1 then (hopmeshref35_Repeat.j0 k a1 true a0_0 a0_1 l0_2) else (if a1 > 512 then (hopmeshref35_Repeat.j0 k a1 true a0_0 a0_1 l0_2) else (hopmeshref35_Repeat.j0 k a1 (decide ((wrap64 (a0_0 * a1)) > 512)) a0_0 a0_1 l0_2))) else (some (0, 0, ([] : List (S51)), 1)))) = some (r1, r2, r3, r4) := h
  clear h
  replace H := Option.bind_eq_some_iff.mp H
  obtain ⟨t262, A30, H⟩ := H
  replace H : (if t262 = true then (if a1 < 1 then (hopmeshref35_Repeat.j0 k a1 true a0_0 a0_1 l0_2) else (if a1 > 512 then (hopmeshref35_Repeat.j0 k a1 true a0_0 a0_1 l0_2) else (hopmeshref35_Repeat.j0 k a1 (decide ((wrap64 (a0_0 * a1)) > 512)) a0_0 a0_1 l0_2))) else (some (0, 0, ([] : List (S51)), 1))) = some (r1, r2, r3, r4) := H
  have A3 := Aside0.mk A30
  clear A30
  by_cases c4 : t262 = true
  · subst c4
    have H1 : (if a1 < 1 then (hopmeshref35_Repeat.j0 k a1 true a0_0 a0_1 l0_2) else (if a1 > 512 then (hopmeshref35_Repeat.j0 k a1 true a0_0 a0_1 l0_2) else (hopmeshref35_Repeat.j0 k a1 (decide ((wrap64 (a0_0 * a1)) > 512)) a0_0 a0_1 l0_2))) = some (r1, r2, r3, r4) := by rw [if_pos rfl] at H; exact H
    clear H
    have H := H1
    clear H1
    have HC5 := Aside0.mk H
    clear H
    go_enter Tryz.func22, Tryz.ntmps22
    go_upto_region 3 with (first | ((with_reducible refine gate_dst (N := 2) rfl ?_); refine box_event ?hg (N := 2) ?hd (cs := #[.int .i64 a0_0, .int .i64 a0_1, .slice A0_2 l0_2.length c0_2]) (t := 30) ?hr ?_; (case hd => rfl); (case hg => rfl); (case hr => first | (go_simp; done) | (go_simp; rfl)); intro gb260 hg w6 hbox hb; have n0_ := Aside0.mk (below_step (by repeat (first | (with_reducible first | exact HB.out | apply below_alloc | apply pw_below_drewN | apply below_drew1) | exact HB.out)) hb); have n1_ := Aside0.mk (hbox); have n2_ := Aside0.mk ((by rw [hg]; exact (below_size (by repeat (first | (with_reducible first | exact HB.out | apply below_alloc | apply pw_below_drewN | apply below_drew1) | exact HB.out))) : w.heap.size ≤ gb260)); have n3_ := Aside0.mk ((by rw [hg]; exact (below_size (by repeat (first | (with_reducible first | exact HB.out | apply below_alloc | apply pw_below_drewN | apply below_drew1) | exact HB.out))) : w.heap.size ≤ gb260)); clear HB; have HB := n0_; have BK260 := n1_; have GW260 := n2_; have GE260 := n3_; clear n0_ n1_ n2_ n3_; clear hb hbox hg) | ((with_reducible refine gate_dst (N := 4) rfl ?_); refine box_event ?hg (N := 4) ?hd (cs := #[.int .i64 0, .int .i64 0, .slice none 0 0]) (t := 30) ?hr ?_; (case hd => rfl); (case hg => rfl); (case hr => first | (go_simp; done) | (go_simp; rfl)); intro gb261 hg w7 hbox hb; have n0_ := Aside0.mk (blk_below (g := gb260) (o := .cells #[.int .i64 a0_0, .int .i64 a0_1, .slice A0_2 l0_2.length c0_2] 30 (0, 0)) (by (with_reducible repeat (first | refine blk_drewN ?_ _ | refine blk_drew ?_ | refine blk_alloc ?_ _)); exact BK260.out) hb); have n1_ := Aside0.mk (below_step (by repeat (first | (with_reducible first | exact HB.out | apply below_alloc | apply pw_below_drewN | apply below_drew1 | refine below_set ?_ GE260.out) | exact HB.out)) hb); have n2_ := Aside0.mk (hbox); have n3_ := Aside0.mk ((by rw [hg]; exact (below_size (by repeat (first | (with_reducible first | exact HB.out | apply below_alloc | apply pw_below_drewN | apply below_drew1 | refine below_set ?_ GE260.out) | exact HB.out))) : w.heap.size ≤ gb261)); have n4_ := Aside0.mk ((by rw [hg]; exact (below_size (by repeat (first | (with_reducible first | exact HB.out | apply below_alloc | apply pw_below_drewN | apply below_drew1 | refine below_set ?_ GE260.out) | exact HB.out))) : w.heap.size ≤ gb261)); have n5_ := Aside0.mk ((by rw [hg]; exact Nat.ne_of_lt (blk_lt (g := gb260) (o := .cells #[.int .i64 a0_0, .int .i64 a0_1, .slice A0_2 l0_2.length c0_2] 30 (0, 0)) (by (with_reducible repeat (first | refine blk_drewN ?_ _ | refine blk_drew ?_ | refine blk_alloc ?_ _)); exact BK260.out)) : gb260 ≠ gb261)); have n6_ := Aside0.mk ((by rw [hg]; exact Nat.ne_of_gt (blk_lt (g := gb260) (o := .cells #[.int .i64 a0_0, .int .i64 a0_1, .slice A0_2 l0_2.length c0_2] 30 (0, 0)) (by (with_reducible repeat (first | refine blk_drewN ?_ _ | refine blk_drew ?_ | refine blk_alloc ?_ _)); exact BK260.out)) : gb261 ≠ gb260)); clear BK260; clear HB; have BK260 := n0_; have HB := n1_; have BK261 := n2_; have GW261 := n3_; have GE261 := n4_; have NB260_261 := n5_; have NB261_260 := n6_; clear n0_ n1_ n2_ n3_ n4_ n5_ n6_; clear hb hbox hg; have hnb8 := NB260_261.out; have hnc8 := NB261_260.out; have hcz9_0 : w7.cell? ⟨gb260, 0, none⟩ = some (.int .i64 a0_0) := (blk_cell BK260.out 0).trans rfl; have hcz9_1 : w7.cell? ⟨gb260, 1, none⟩ = some (.int .i64 a0_1) := (blk_cell BK260.out 1).trans rfl; have hcz9_2 : w7.cell? ⟨gb260, 2, none⟩ = some (.slice A0_2 l0_2.length c0_2) := (blk_cell BK260.out 2).trans rfl; have hfz9_0 := blk_frozen BK260.out 0; have hfz9_1 := blk_frozen BK260.out 1; have hfz9_2 := blk_frozen BK260.out 2) | ((with_reducible refine gate_callee (f := 58) rfl ?_); refine goesL_ (some 11) rfl rfl Tryz.func58 (by kernel_rfl) rfl #[.agg #[.int .i64 a0_0, .int .i64 a0_1, .slice A0_2 l0_2.length c0_2]] rfl (by (try simp only [List.map_toArray, List.map_cons, List.map_nil]); first | done | rfl | (simp only [List.length_drop, List.length_take]; rfl)) ?_; (with_reducible refine (hopmeshref35_Formed.calls k a0_0 a0_1 _ _ l0_2 true _ ?side1 ?side2 A3.out).mono ?_); (case side1 => repeat (first | exact (Kd.C_below HR0_2.out HB.out) | (with_reducible refine Kd.C_alloc ?_ _) | (with_reducible refine Kd.C_drewN ?_ _) | (with_reducible refine Kd.C_drew ?_))); (case side2 => exact HC0_2.out); rintro e w10 ⟨rfl, hb⟩; refine ⟨_, rfl, ?_⟩; have n0_ := Aside0.mk (blk_below (g := gb260) (o := .cells #[.int .i64 a0_0, .int .i64 a0_1, .slice A0_2 l0_2.length c0_2] 30 (0, 0)) (by (with_reducible repeat (first | refine blk_drewN ?_ _ | refine blk_drew ?_ | refine blk_alloc ?_ _)); exact BK260.out) hb); have n1_ := Aside0.mk (blk_below (g := gb261) (o := .cells #[.int .i64 0, .int .i64 0, .slice none 0 0] 30 (0, 0)) (by (with_reducible repeat (first | refine blk_drewN ?_ _ | refine blk_drew ?_ | refine blk_alloc ?_ _)); exact BK261.out) hb); have n2_ := Aside0.mk (below_step (by repeat (first | (with_reducible first | exact HB.out | apply below_alloc | apply pw_below_drewN | apply below_drew1 | refine below_set ?_ GE260.out | refine below_set ?_ GE261.out) | exact HB.out)) hb); clear BK260; clear BK261; clear HB; have BK260 := n0_; have BK261 := n1_; have HB := n2_; clear n0_ n1_ n2_; (try clear hb); (try clear hb2); (try clear hk); (try clear hi)))
    (try simp only [Act.put, List.setIfInBounds_toArray, List.set_cons_zero, List.set_cons_succ])
    go_cut [26] (fun v26 wc => ∃ (kq : Nat) (x26_4 : Bool), v26 = .bool x26_4 ∧ Aside0 (hopmeshref35_Repeat.j0 kq a1 x26_4 a0_0 a0_1 l0_2 = some (r1, r2, r3, r4)) ∧ Aside0 (kq ≤ k) ∧ Aside0 (wc.heap[gb260]? = some (.cells #[.int .i64 a0_0, .int .i64 a0_1, (.slice A0_2 l0_2.length c0_2)] 30 (0, 0))) ∧ Aside0 (wc.heap[gb261]? = some (.cells #[.int .i64 0, .int .i64 0, (.slice none 0 0)] 30 (0, 0))) ∧ Aside0 (Below w.heap.size w wc))
    case first =>
      have H := HC5.out
      clear HC5
      by_cases c11 : a1 < 1
      · rw [if_pos c11] at H
        have c11b0 : decide (a1 < 1) = true := decide_eq_true c11
        clear c11
        (first | rw [c11b0] | (simp only [i64_w, i32_w]; rw [c11b0]) | skip)
        have H' := Aside0.mk H
        clear H
        go_wp2
        go_meet
        case rel => exact ⟨_, (true), (by first | rfl | (simp; done) | (simp [*]; done)), H', ⟨by first | omega | exact Nat.le_refl _⟩, ⟨by (with_reducible repeat (first | refine blk_drewN ?_ _ | refine blk_drew ?_ | refine blk_alloc ?_ _)); exact BK260.out⟩, ⟨by (with_reducible repeat (first | refine blk_drewN ?_ _ | refine blk_drew ?_ | refine blk_alloc ?_ _)); exact BK261.out⟩, ⟨by repeat (first | (with_reducible first | exact HB.out | apply below_alloc | apply pw_below_drewN | apply below_drew1 | refine below_set ?_ GE260.out | refine below_set ?_ GE261.out) | exact HB.out)⟩⟩
      · rw [if_neg c11] at H
        have c11b0 : decide (a1 < 1) = false := decide_eq_false c11
        clear c11
        (first | rw [c11b0] | (simp only [i64_w, i32_w]; rw [c11b0]) | skip)
        by_cases c12 : a1 > 512
        · rw [if_pos c12] at H
          have c12b0 : decide (512 < a1) = true := decide_eq_true c12
          clear c12
          have H' := Aside0.mk H
          clear H
          go_wp2
          go_meet
          case rel => exact ⟨_, (true), (by first | rfl | (simp; done) | (simp [*]; done)), H', ⟨by first | omega | exact Nat.le_refl _⟩, ⟨by (with_reducible repeat (first | refine blk_drewN ?_ _ | refine blk_drew ?_ | refine blk_alloc ?_ _)); exact BK260.out⟩, ⟨by (with_reducible repeat (first | refine blk_drewN ?_ _ | refine blk_drew ?_ | refine blk_alloc ?_ _)); exact BK261.out⟩, ⟨by repeat (first | (with_reducible first | exact HB.out | apply below_alloc | apply pw_below_drewN | apply below_drew1 | refine below_set ?_ GE260.out | refine below_set ?_ GE261.out) | exact HB.out)⟩⟩
        · rw [if_neg c12] at H
          have c12b0 : decide (512 < a1) = false := decide_eq_false c12
          clear c12
          have H' := Aside0.mk H
          clear H
          have hnb13 := NB260_261.out
          have hnc13 := NB261_260.out
          have hcz14_0 : w10.cell? ⟨gb260, 0, none⟩ = some (.int .i64 a0_0) := (blk_cell BK260.out 0).trans rfl
          have hcz14_1 : w10.cell? ⟨gb260, 1, none⟩ = some (.int .i64 a0_1) := (blk_cell BK260.out 1).trans rfl
          have hcz14_2 : w10.cell? ⟨gb260, 2, none⟩ = some (.slice A0_2 l0_2.length c0_2) := (blk_cell BK260.out 2).trans rfl
          have hfz14_0 := blk_frozen BK260.out 0
          have hfz14_1 := blk_frozen BK260.out 1
          have hfz14_2 := blk_frozen BK260.out 2
          go_wp2
          go_meet
          case rel => exact ⟨_, (decide ((wrap64 (a0_0 * a1)) > 512)), (by first | rfl | (simp; done) | (simp [*]; done)), H', ⟨by first | omega | exact Nat.le_refl _⟩, ⟨by (with_reducible repeat (first | refine blk_drewN ?_ _ | refine blk_drew ?_ | refine blk_alloc ?_ _)); exact BK260.out⟩, ⟨by (with_reducible repeat (first | refine blk_drewN ?_ _ | refine blk_drew ?_ | refine blk_alloc ?_ _)); exact BK261.out⟩, ⟨by repeat (first | (with_reducible first | exact HB.out | apply below_alloc | apply pw_below_drewN | apply below_drew1 | refine below_set ?_ GE260.out | refine below_set ?_ GE261.out) | exact HB.out)⟩⟩
    case rest =>
      clear HC5
      try clear c1
      try clear c2
      try clear p2
      try clear c4
      try clear c5
      try clear p6
      try clear c8
      try clear c11
      try clear c11b0
      try clear c12
      try clear c12b0
      try clear c13
      try clear hcz14_0
      try clear hcz14_1
      try clear hcz14_2
      try clear hcz9_0
      try clear hcz9_1
      try clear hcz9_2
      try clear hfz14_0
      try clear hfz14_1
      try clear hfz14_2
      try clear hfz9_0
      try clear hfz9_1
      try clear hfz9_2
      obtain ⟨kq, x26_4, rfl, HA, HJ4, BK260, BK261, HB⟩ := hcut
      cases kq with
      | zero => exact absurd HA.out (by simp [hopmeshref35_Repeat.j0])
      | succ kj4 =>
        have H := HA.out
        clear HA
        simp only [hopmeshref35_Repeat.j0] at H
        by_cases c15 : x26_4 = true
        · subst c15
          have H1 : (some (0, 0, ([] : List (S51)), 2)) = some (r1, r2, r3, r4) := by rw [if_pos rfl] at H; exact H
          clear H
          have H := H1
          clear H1
          simp only [Option.some.injEq, Prod.mk.injEq] at H
          obtain ⟨rfl, rfl, rfl, rfl⟩ := H
          have hnb16 := NB261_260.out
          have hnc16 := NB260_261.out
          have hcz17_0 : wc.cell? ⟨gb261, 0, none⟩ = some (.int .i64 0) := (blk_cell BK261.out 0).trans rfl
          have hcz17_1 : wc.cell? ⟨gb261, 1, none⟩ = some (.int .i64 0) := (blk_cell BK261.out 1).trans rfl
          have hcz17_2 : wc.cell? ⟨gb261, 2, none⟩ = some (.slice none 0 0) := (blk_cell BK261.out 2).trans rfl
          have hfz17_0 := blk_frozen BK261.out 0
          have hfz17_1 := blk_frozen BK261.out 1
          have hfz17_2 := blk_frozen BK261.out 2
          go_wp2
          refine bodyPost_ret (results_ct rfl _ _ gb261 30 #[.int .i64 0, .int .i64 0, .slice none 0 0] (0, 0) _ rfl (by (with_reducible repeat (first | refine blk_drewN ?_ _ | refine blk_drew ?_ | refine blk_alloc ?_ _)); refine blk_put (cs := #[.int .i64 0, .int .i64 0, .slice none 0 0]) ?_ 2 _ rfl; (with_reducible repeat (first | refine blk_drewN ?_ _ | refine blk_drew ?_ | refine blk_alloc ?_ _)); refine blk_put (cs := #[.int .i64 0, .int .i64 0, .slice none 0 0]) ?_ 1 _ rfl; (with_reducible repeat (first | refine blk_drewN ?_ _ | refine blk_drew ?_ | refine blk_alloc ?_ _)); refine blk_put (cs := #[.int .i64 0, .int .i64 0, .slice none 0 0]) ?_ 0 _ rfl; (with_reducible repeat (first | refine blk_drewN ?_ _ | refine blk_drew ?_ | refine blk_alloc ?_ _)); exact BK261.out) Tryz.underlying30 rfl (by kernel_rfl)) rfl ?_
          exact ⟨_, by first | rfl | (simp [errW_none, errW_some] <;> rfl) | (simp [*, errW_none, errW_some] <;> rfl), by first | exact Kd.R_nil _ _ _ _ _ | exact Kd.N_nil _ _ _ _ _ | exact Kd.V_nil _ _ _ _ _ | exact Kd.Q_nil _ _ _ _ _ | exact Kd.S_nil _ _ _ _ _, by repeat (first | (with_reducible first | exact HB.out | apply below_alloc | apply pw_below_drewN | apply below_drew1 | refine below_set ?_ GE260.out | refine below_set ?_ GE261.out) | exact HB.out)⟩
        · replace c15 := Bool.eq_false_iff.mpr c15
          subst c15
          have H1 : (if (wrap64 ((l0_2.length : Int) * a1)) > 512 then (some (0, 0, ([] : List (S51)), 8)) else (hopmeshref35_Repeat.l0 kj4 a1 0 a0_0 a0_1 l0_2 (wrap64 (a0_0 * a1)) a0_1 ([] : List (S51)))) = some (r1, r2, r3, r4) := by rw [if_neg (show ¬ (false = true) by decide)] at H; exact H
          clear H
          have H := H1
          clear H1
          by_cases c18 : (wrap64 ((l0_2.length : Int) * a1)) > 512
          · rw [if_pos c18] at H
            have c18b0 : decide (512 < (wrap64 ((l0_2.length : Int) * a1))) = true := decide_eq_true c18
            clear c18
            simp only [Option.some.injEq, Prod.mk.injEq] at H
            obtain ⟨rfl, rfl, rfl, rfl⟩ := H
            have hnb19 := NB260_261.out
            have hnc19 := NB261_260.out
            have hcz20_0 : wc.cell? ⟨gb260, 0, none⟩ = some (.int .i64 a0_0) := (blk_cell BK260.out 0).trans rfl
            have hcz20_1 : wc.cell? ⟨gb260, 1, none⟩ = some (.int .i64 a0_1) := (blk_cell BK260.out 1).trans rfl
            have hcz20_2 : wc.cell? ⟨gb260, 2, none⟩ = some (.slice A0_2 l0_2.length c0_2) := (blk_cell BK260.out 2).trans rfl
            have hfz20_0 := blk_frozen BK260.out 0
            have hfz20_1 := blk_frozen BK260.out 1
            have hfz20_2 := blk_frozen BK260.out 2
            have hcz21_0 : wc.cell? ⟨gb261, 0, none⟩ = some (.int .i64 0) := (blk_cell BK261.out 0).trans rfl
            have hcz21_1 : wc.cell? ⟨gb261, 1, none⟩ = some (.int .i64 0) := (blk_cell BK261.out 1).trans rfl
            have hcz21_2 : wc.cell? ⟨gb261, 2, none⟩ = some (.slice none 0 0) := (blk_cell BK261.out 2).trans rfl
            have hfz21_0 := blk_frozen BK261.out 0
            have hfz21_1 := blk_frozen BK261.out 1
            have hfz21_2 := blk_frozen BK261.out 2
            go_wp2
            refine bodyPost_ret (results_ct rfl _ _ gb261 30 #[.int .i64 0, .int .i64 0, .slice none 0 0] (0, 0) _ rfl (by (with_reducible repeat (first | refine blk_drewN ?_ _ | refine blk_drew ?_ | refine blk_alloc ?_ _)); refine blk_put (cs := #[.int .i64 0, .int .i64 0, .slice none 0 0]) ?_ 2 _ rfl; (with_reducible repeat (first | refine blk_drewN ?_ _ | refine blk_drew ?_ | refine blk_alloc ?_ _)); refine blk_put (cs := #[.int .i64 0, .int .i64 0, .slice none 0 0]) ?_ 1 _ rfl; (with_reducible repeat (first | refine blk_drewN ?_ _ | refine blk_drew ?_ | refine blk_alloc ?_ _)); refine blk_put (cs := #[.int .i64 0, .int .i64 0, .slice none 0 0]) ?_ 0 _ rfl; (with_reducible repeat (first | refine blk_drewN ?_ _ | refine blk_drew ?_ | refine blk_alloc ?_ _)); exact BK261.out) Tryz.underlying30 rfl (by kernel_rfl)) rfl ?_
            exact ⟨_, by first | rfl | (simp [errW_none, errW_some] <;> rfl) | (simp [*, errW_none, errW_some] <;> rfl), by first | exact Kd.R_nil _ _ _ _ _ | exact Kd.N_nil _ _ _ _ _ | exact Kd.V_nil _ _ _ _ _ | exact Kd.Q_nil _ _ _ _ _ | exact Kd.S_nil _ _ _ _ _, by repeat (first | (with_reducible first | exact HB.out | apply below_alloc | apply pw_below_drewN | apply below_drew1 | refine below_set ?_ GE260.out | refine below_set ?_ GE261.out) | exact HB.out)⟩
          · rw [if_neg c18] at H
            have c18b0 : decide (512 < (wrap64 ((l0_2.length : Int) * a1))) = false := decide_eq_false c18
            clear c18
            have H' := Aside0.mk H
            clear H
            have hnb22 := NB260_261.out
            have hnc22 := NB261_260.out
            have hcz23_0 : wc.cell? ⟨gb260, 0, none⟩ = some (.int .i64 a0_0) := (blk_cell BK260.out 0).trans rfl
            have hcz23_1 : wc.cell? ⟨gb260, 1, none⟩ = some (.int .i64 a0_1) := (blk_cell BK260.out 1).trans rfl
            have hcz23_2 : wc.cell? ⟨gb260, 2, none⟩ = some (.slice A0_2 l0_2.length c0_2) := (blk_cell BK260.out 2).trans rfl
            have hfz23_0 := blk_frozen BK260.out 0
            have hfz23_1 := blk_frozen BK260.out 1
            have hfz23_2 := blk_frozen BK260.out 2
            go_wp2_with (first | ((with_reducible refine gate_dst (N := 6) rfl ?_); refine box_event ?hg (N := 6) ?hd (cs := #[.int .i64 0, .int .i64 0, .slice none 0 0]) (t := 30) ?hr ?_; (case hd => rfl); (case hg => rfl); (case hr => first | (go_simp; done) | (go_simp; rfl)); intro gb263 hg w24 hbox hb; have n0_ := Aside0.mk (blk_below (g := gb260) (o := .cells #[.int .i64 a0_0, .int .i64 a0_1, .slice A0_2 l0_2.length c0_2] 30 (0, 0)) (by (with_reducible repeat (first | refine blk_drewN ?_ _ | refine blk_drew ?_ | refine blk_alloc ?_ _)); exact BK260.out) hb); have n1_ := Aside0.mk (blk_below (g := gb261) (o := .cells #[.int .i64 0, .int .i64 0, .slice none 0 0] 30 (0, 0)) (by (with_reducible repeat (first | refine blk_drewN ?_ _ | refine blk_drew ?_ | refine blk_alloc ?_ _)); exact BK261.out) hb); have n2_ := Aside0.mk (below_step (by repeat (first | (with_reducible first | exact HB.out | apply below_alloc | apply pw_below_drewN | apply below_drew1 | refine below_set ?_ GE260.out | refine below_set ?_ GE261.out) | exact HB.out)) hb); have n3_ := Aside0.mk (hbox); have n4_ := Aside0.mk ((by rw [hg]; exact (below_size (by repeat (first | (with_reducible first | exact HB.out | apply below_alloc | apply pw_below_drewN | apply below_drew1 | refine below_set ?_ GE260.out | refine below_set ?_ GE261.out) | exact HB.out))) : w.heap.size ≤ gb263)); have n5_ := Aside0.mk ((by rw [hg]; exact (below_size (by repeat (first | (with_reducible first | exact HB.out | apply below_alloc | apply pw_below_drewN | apply below_drew1 | refine below_set ?_ GE260.out | refine below_set ?_ GE261.out) | exact HB.out))) : w.heap.size ≤ gb263)); have n6_ := Aside0.mk ((by rw [hg]; exact Nat.ne_of_lt (blk_lt (g := gb260) (o := .cells #[.int .i64 a0_0, .int .i64 a0_1, .slice A0_2 l0_2.length c0_2] 30 (0, 0)) (by (with_reducible repeat (first | refine blk_drewN ?_ _ | refine blk_drew ?_ | refine blk_alloc ?_ _)); exact BK260.out)) : gb260 ≠ gb263)); have n7_ := Aside0.mk ((by rw [hg]; exact Nat.ne_of_gt (blk_lt (g := gb260) (o := .cells #[.int .i64 a0_0, .int .i64 a0_1, .slice A0_2 l0_2.length c0_2] 30 (0, 0)) (by (with_reducible repeat (first | refine blk_drewN ?_ _ | refine blk_drew ?_ | refine blk_alloc ?_ _)); exact BK260.out)) : gb263 ≠ gb260)); have n8_ := Aside0.mk ((by rw [hg]; exact Nat.ne_of_lt (blk_lt (g := gb261) (o := .cells #[.int .i64 0, .int .i64 0, .slice none 0 0] 30 (0, 0)) (by (with_reducible repeat (first | refine blk_drewN ?_ _ | refine blk_drew ?_ | refine blk_alloc ?_ _)); exact BK261.out)) : gb261 ≠ gb263)); have n9_ := Aside0.mk ((by rw [hg]; exact Nat.ne_of_gt (blk_lt (g := gb261) (o := .cells #[.int .i64 0, .int .i64 0, .slice none 0 0] 30 (0, 0)) (by (with_reducible repeat (first | refine blk_drewN ?_ _ | refine blk_drew ?_ | refine blk_alloc ?_ _)); exact BK261.out)) : gb263 ≠ gb261)); clear BK260; clear BK261; clear HB; have BK260 := n0_; have BK261 := n1_; have HB := n2_; have BK263 := n3_; have GW263 := n4_; have GE263 := n5_; have NB260_263 := n6_; have NB263_260 := n7_; have NB261_263 := n8_; have NB263_261 := n9_; clear n0_ n1_ n2_ n3_ n4_ n5_ n6_ n7_ n8_ n9_; clear hb hbox hg; have hnb25 := NB263_260.out; have hnc25 := NB260_263.out; have hnb26 := NB263_261.out; have hnc26 := NB261_263.out; have hcz27_0 : w24.cell? ⟨gb263, 0, none⟩ = some (.int .i64 0) := (blk_cell BK263.out 0).trans rfl; have hcz27_1 : w24.cell? ⟨gb263, 1, none⟩ = some (.int .i64 0) := (blk_cell BK263.out 1).trans rfl; have hcz27_2 : w24.cell? ⟨gb263, 2, none⟩ = some (.slice none 0 0) := (blk_cell BK263.out 2).trans rfl; have hfz27_0 := blk_frozen BK263.out 0; have hfz27_1 := blk_frozen BK263.out 1; have hfz27_2 := blk_frozen BK263.out 2))
            go_loopg [7] kj4 (fun kq v7 w' => ∃ (x7_2 : Int) (x264002_2 : List (S51)) (u264002 : Value), v7 = .int .i64 x7_2 ∧ Aside0 (hopmeshref35_Repeat.l0 kq a1 x7_2 a0_0 a0_1 l0_2 (wrap64 (a0_0 * a1)) a0_1 x264002_2 = some (r1, r2, r3, r4)) ∧ Aside0 (kq ≤ kj4) ∧ Aside0 (Kd.R k51 51 w' w.heap.size (fun _ => True) u264002 x264002_2) ∧ Aside0 (w'.heap[gb260]? = some (.cells #[.int .i64 a0_0, .int .i64 a0_1, (.slice A0_2 l0_2.length c0_2)] 30 (0, 0))) ∧ Aside0 (w'.heap[gb261]? = some (.cells #[.int .i64 0, .int .i64 0, (.slice none 0 0)] 30 (0, 0))) ∧ Aside0 (w'.heap[gb263]? = some (.cells #[.int .i64 (wrap64 (a0_0 * a1)), .int .i64 a0_1, u264002] 30 (0, 0))) ∧ Aside0 (Below w.heap.size w w'))
            case atStart => exact ⟨(0), (([] : List (S51))), (.slice none 0 0), (by first | rfl | (simp; done) | (simp [*]; done)), H', ⟨Nat.le_refl _⟩, ⟨by first | exact Kd.R_nil _ _ _ _ _ | exact Kd.N_nil _ _ _ _ _ | exact Kd.V_nil _ _ _ _ _ | exact Kd.Q_nil _ _ _ _ _ | exact Kd.S_nil _ _ _ _ _⟩, ⟨by (with_reducible repeat (first | refine blk_drewN ?_ _ | refine blk_drew ?_ | refine blk_alloc ?_ _)); refine blk_far ?_ NB260_263.out _; (with_reducible repeat (first | refine blk_drewN ?_ _ | refine blk_drew ?_ | refine blk_alloc ?_ _)); refine blk_far ?_ NB260_263.out _; (with_reducible repeat (first | refine blk_drewN ?_ _ | refine blk_drew ?_ | refine blk_alloc ?_ _)); refine blk_far ?_ NB260_263.out _; (with_reducible repeat (first | refine blk_drewN ?_ _ | refine blk_drew ?_ | refine blk_alloc ?_ _)); exact BK260.out⟩, ⟨by (with_reducible repeat (first | refine blk_drewN ?_ _ | refine blk_drew ?_ | refine blk_alloc ?_ _)); refine blk_far ?_ NB261_263.out _; (with_reducible repeat (first | refine blk_drewN ?_ _ | refine blk_drew ?_ | refine blk_alloc ?_ _)); refine blk_far ?_ NB261_263.out _; (with_reducible repeat (first | refine blk_drewN ?_ _ | refine blk_drew ?_ | refine blk_alloc ?_ _)); refine blk_far ?_ NB261_263.out _; (with_reducible repeat (first | refine blk_drewN ?_ _ | refine blk_drew ?_ | refine blk_alloc ?_ _)); exact BK261.out⟩, ⟨by (with_reducible repeat (first | refine blk_drewN ?_ _ | refine blk_drew ?_ | refine blk_alloc ?_ _)); refine blk_put (cs := #[.int .i64 (wrap64 (a0_0 * a1)), .int .i64 a0_1, .slice none 0 0]) ?_ 2 _ rfl; (with_reducible repeat (first | refine blk_drewN ?_ _ | refine blk_drew ?_ | refine blk_alloc ?_ _)); refine blk_put (cs := #[.int .i64 (wrap64 (a0_0 * a1)), .int .i64 0, .slice none 0 0]) ?_ 1 _ rfl; (with_reducible repeat (first | refine blk_drewN ?_ _ | refine blk_drew ?_ | refine blk_alloc ?_ _)); refine blk_put (cs := #[.int .i64 0, .int .i64 0, .slice none 0 0]) ?_ 0 _ rfl; (with_reducible repeat (first | refine blk_drewN ?_ _ | refine blk_drew ?_ | refine blk_alloc ?_ _)); exact BK263.out⟩, ⟨by repeat (first | (with_reducible first | exact HB.out | apply below_alloc | apply pw_below_drewN | apply below_drew1 | refine below_set ?_ GE260.out | refine below_set ?_ GE261.out | refine below_set ?_ GE263.out) | exact HB.out)⟩⟩
            case round =>
              clear H'
              try clear c1
              try clear c2
              try clear p2
              try clear c4
              try clear c5
              try clear p6
              try clear c8
              try clear c11
              try clear c11b0
              try clear c12
              try clear c12b0
              try clear c13
              try clear c15
              try clear c16
              try clear c18
              try clear c18b0
              try clear c19
              try clear c22
              try clear c25
              try clear c26
              try clear hcz14_0
              try clear hcz14_1
              try clear hcz14_2
              try clear hcz17_0
              try clear hcz17_1
              try clear hcz17_2
              try clear hcz20_0
              try clear hcz20_1
              try clear hcz20_2
              try clear hcz21_0
              try clear hcz21_1
              try clear hcz21_2
              try clear hcz23_0
              try clear hcz23_1
              try clear hcz23_2
              try clear hcz27_0
              try clear hcz27_1
              try clear hcz27_2
              try clear hcz9_0
              try clear hcz9_1
              try clear hcz9_2
              try clear hfz14_0
              try clear hfz14_1
              try clear hfz14_2
              try clear hfz17_0
              try clear hfz17_1
              try clear hfz17_2
              try clear hfz20_0
              try clear hfz20_1
              try clear hfz20_2
              try clear hfz21_0
              try clear hfz21_1
              try clear hfz21_2
              try clear hfz23_0
              try clear hfz23_1
              try clear hfz23_2
              try clear hfz27_0
              try clear hfz27_1
              try clear hfz27_2
              try clear hfz9_0
              try clear hfz9_1
              try clear hfz9_2
              try clear p2
              try clear p6
              obtain ⟨x7_2, x264002_2, u264002, rfl, HA, HK2, HO_264002, BK260, BK261, BK263, HB⟩ := hrel
              cases gk with
              | zero => exact absurd HA.out (by simp [hopmeshref35_Repeat.l0])
              | succ k2 =>
                have H := HA.out
                clear HA
                simp only [hopmeshref35_Repeat.l0] at H
                by_cases c28 : x7_2 < a1
                · rw [if_pos c28] at H
                  have c28b0 : decide (x7_2 < a1) = true := decide_eq_true c28
                  clear c28
                  have H' := Aside0.mk H
                  clear H
                  go_wp2
                  go_loopg [8] k2 (fun kq v8 w' => ∃ (x8_3 : Int) (x264002_3 : List (S51)) (u264002 : Value), v8 = .int .i64 x8_3 ∧ Aside0 (hopmeshref35_Repeat.l1 kq a1 x7_2 x8_3 a0_0 a0_1 l0_2 (wrap64 (a0_0 * a1)) a0_1 x264002_3 = some (r1, r2, r3, r4)) ∧ Aside0 (kq ≤ k2) ∧ Aside0 (Kd.R k51 51 w' w.heap.size (fun _ => True) u264002 x264002_3) ∧ Aside0 (w'.heap[gb260]? = some (.cells #[.int .i64 a0_0, .int .i64 a0_1, (.slice A0_2 l0_2.length c0_2)] 30 (0, 0))) ∧ Aside0 (w'.heap[gb261]? = some (.cells #[.int .i64 0, .int .i64 0, (.slice none 0 0)] 30 (0, 0))) ∧ Aside0 (w'.heap[gb263]? = some (.cells #[.int .i64 (wrap64 (a0_0 * a1)), .int .i64 a0_1, u264002] 30 (0, 0))) ∧ Aside0 (Below w.heap.size w w'))
                  case atStart => exact ⟨(0), (x264002_2), (u264002), (by first | rfl | (simp; done) | (simp [*]; done)), H', ⟨Nat.le_refl _⟩, ⟨by (with_reducible repeat (first | apply Kd.R_alloc | apply Kd.R_drewN | apply Kd.R_drew)); exact HO_264002.out⟩, ⟨by (with_reducible repeat (first | refine blk_drewN ?_ _ | refine blk_drew ?_ | refine blk_alloc ?_ _)); exact BK260.out⟩, ⟨by (with_reducible repeat (first | refine blk_drewN ?_ _ | refine blk_drew ?_ | refine blk_alloc ?_ _)); exact BK261.out⟩, ⟨by (with_reducible repeat (first | refine blk_drewN ?_ _ | refine blk_drew ?_ | refine blk_alloc ?_ _)); exact BK263.out⟩, ⟨by repeat (first | (with_reducible first | exact HB.out | apply below_alloc | apply pw_below_drewN | apply below_drew1 | refine below_set ?_ GE260.out | refine below_set ?_ GE261.out | refine below_set ?_ GE263.out) | exact HB.out)⟩⟩
                  case round =>
                    clear H'
                    try clear c1
                    try clear c2
                    try clear p2
                    try clear c4
                    try clear c5
                    try clear p6
                    try clear c8
                    try clear c11
                    try clear c11b0
                    try clear c12
                    try clear c12b0
                    try clear c13
                    try clear c15
                    try clear c16
                    try clear c18
                    try clear c18b0
                    try clear c19
                    try clear c22
                    try clear c25
                    try clear c26
                    try clear c28
                    try clear c28b0
                    try clear hcz14_0
                    try clear hcz14_1
                    try clear hcz14_2
                    try clear hcz17_0
                    try clear hcz17_1
                    try clear hcz17_2
                    try clear hcz20_0
                    try clear hcz20_1
                    try clear hcz20_2
                    try clear hcz21_0
                    try clear hcz21_1
                    try clear hcz21_2
                    try clear hcz23_0
                    try clear hcz23_1
                    try clear hcz23_2
                    try clear hcz27_0
                    try clear hcz27_1
                    try clear hcz27_2
                    try clear hcz9_0
                    try clear hcz9_1
                    try clear hcz9_2
                    try clear hfz14_0
                    try clear hfz14_1
                    try clear hfz14_2
                    try clear hfz17_0
                    try clear hfz17_1
                    try clear hfz17_2
                    try clear hfz20_0
                    try clear hfz20_1
                    try clear hfz20_2
                    try clear hfz21_0
                    try clear hfz21_1
                    try clear hfz21_2
                    try clear hfz23_0
                    try clear hfz23_1
                    try clear hfz23_2
                    try clear hfz27_0
                    try clear hfz27_1
                    try clear hfz27_2
                    try clear hfz9_0
                    try clear hfz9_1
                    try clear hfz9_2
                    try clear p2
                    try clear p6
                    obtain ⟨x8_3, x264002_3, u264002, rfl, HA, HK3, HO_264002, BK260, BK261, BK263, HB⟩ := hrel
                    cases gk with
                    | zero => exact absurd HA.out (by simp [hopmeshref35_Repeat.l1])
                    | succ k3 =>
                      have H := HA.out
                      clear HA
                      simp only [hopmeshref35_Repeat.l1] at H
                      by_cases c29 : x8_3 < (l0_2.length : Int)
                      · rw [if_pos c29] at H
                        have c29b0 : decide (x8_3 < (l0_2.length : Int)) = true := decide_eq_true c29
                        clear c29
                        by_cases c30 : 0 ≤ x8_3
                        · rw [if_pos c30] at H
                          have c30b0 : decide (0 ≤ x8_3) = true := decide_eq_true c30
                          clear c30
                          by_cases c31 : x264002_3.length < 3518437208883
                          · rw [if_pos c31] at H
                            have LMc31 := Aside0.mk c31
                            clear c31
                            obtain ⟨y266, hy266⟩ : ∃ y_ : List (S51), y_ = (x264002_3 ++ [(⟨wrap64 (((rd_T51 l0_2 x8_3).f0) + (wrap64 (x7_2 * a0_0))), (rd_T51 l0_2 x8_3).f1, (rd_T51 l0_2 x8_3).f2, (rd_T51 l0_2 x8_3).f3, (rd_T51 l0_2 x8_3).f4⟩ : S51)]) := ⟨_, rfl⟩
                            replace H : (hopmeshref35_Repeat.l1 k3 a1 x7_2 (wrap64 (x8_3 + 1)) a0_0 a0_1 l0_2 (wrap64 (a0_0 * a1)) a0_1 y266) = some (r1, r2, r3, r4) := by first | (rw [hy266]; with_reducible exact H) | (have H2_ := (Option.bind_some _ _).symm.trans H; rw [hy266]; with_reducible exact H2_) | (have H2_ := (Option.bind_some _ _).symm.trans H; with_reducible exact H2_) | with_reducible exact H | (rw [hy266]; exact H) | exact H
                            have Ny266 := Aside0.mk hy266
                            clear hy266
                            have H' := Aside0.mk H
                            clear H
                            have hnb32 := NB260_261.out
                            have hnc32 := NB261_260.out
                            have hnb33 := NB260_263.out
                            have hnc33 := NB263_260.out
                            have hcz34_0 : wr.cell? ⟨gb260, 0, none⟩ = some (.int .i64 a0_0) := (blk_cell BK260.out 0).trans rfl
                            have hcz34_1 : wr.cell? ⟨gb260, 1, none⟩ = some (.int .i64 a0_1) := (blk_cell BK260.out 1).trans rfl
                            have hcz34_2 : wr.cell? ⟨gb260, 2, none⟩ = some (.slice A0_2 l0_2.length c0_2) := (blk_cell BK260.out 2).trans rfl
                            have hfz34_0 := blk_frozen BK260.out 0
                            have hfz34_1 := blk_frozen BK260.out 1
                            have hfz34_2 := blk_frozen BK260.out 2
                            have p264 : 0 ≤ (x8_3 : Int) := of_decide_eq_true (by first | (with_reducible assumption) | assumption)
                            have q264 : x8_3 < (l0_2.length : Int) := of_decide_eq_true (by first | (with_reducible assumption) | assumption)
                            obtain ⟨ad264, e264, hx264_0, hx264_1, hx264_2, hx264_3, hx264_4⟩ := at_T51 HR0_2.out x8_3 p264 q264
                            cases e264
                            replace hx264_0 := (HB.out.cell (World.block_lt_of_cell? w _ hx264_0)).trans hx264_0
                            replace hx264_1 := (HB.out.cell (World.block_lt_of_cell? w _ hx264_1)).trans hx264_1
                            replace hx264_2 := (HB.out.cell (World.block_lt_of_cell? w _ hx264_2)).trans hx264_2
                            replace hx264_3 := (HB.out.cell (World.block_lt_of_cell? w _ hx264_3)).trans hx264_3
                            replace hx264_4 := (HB.out.cell (World.block_lt_of_cell? w _ hx264_4)).trans hx264_4
                            replace p264 := eq_true p264
                            replace q264 := eq_true q264
                            go_wp2_with (first | ((with_reducible refine gate_dst (N := 9) rfl ?_); refine box_event ?hg (N := 9) ?hd (cs := #[.int .i64 0, .int .i64 0, .int .i64 0, .int .i64 0, .int .i64 0]) (t := 51) ?hr ?_; (case hd => rfl); (case hg => rfl); (case hr => first | (go_simp; done) | (go_simp; rfl)); intro gb265 hg w35 hbox hb; have n0_ := Aside0.mk (Kd.R_below (Kd.R_elderB (by (with_reducible repeat (first | apply Kd.R_alloc | apply Kd.R_drewN | apply Kd.R_drew)); exact HO_264002.out) gb265 (Nat.le_of_eq hg.symm)) hb); have n1_ := Aside0.mk (blk_below (g := gb260) (o := .cells #[.int .i64 a0_0, .int .i64 a0_1, .slice (some ad264) l0_2.length c0_2] 30 (0, 0)) (by (with_reducible repeat (first | refine blk_drewN ?_ _ | refine blk_drew ?_ | refine blk_alloc ?_ _)); exact BK260.out) hb); have n2_ := Aside0.mk (blk_below (g := gb261) (o := .cells #[.int .i64 0, .int .i64 0, .slice none 0 0] 30 (0, 0)) (by (with_reducible repeat (first | refine blk_drewN ?_ _ | refine blk_drew ?_ | refine blk_alloc ?_ _)); exact BK261.out) hb); have n3_ := Aside0.mk (blk_below (g := gb263) (o := .cells #[.int .i64 (wrap64 (a0_0 * a1)), .int .i64 a0_1, u264002] 30 (0, 0)) (by (with_reducible repeat (first | refine blk_drewN ?_ _ | refine blk_drew ?_ | refine blk_alloc ?_ _)); exact BK263.out) hb); have n4_ := Aside0.mk (below_step (by repeat (first | (with_reducible first | exact HB.out | apply below_alloc | apply pw_below_drewN | apply below_drew1 | refine below_set ?_ GE260.out | refine below_set ?_ GE261.out | refine below_set ?_ GE263.out) | exact HB.out)) hb); have n5_ := Aside0.mk (hbox); have n6_ := Aside0.mk ((by rw [hg]; exact (below_size (by repeat (first | (with_reducible first | exact HB.out | apply below_alloc | apply pw_below_drewN | apply below_drew1 | refine below_set ?_ GE260.out | refine below_set ?_ GE261.out | refine below_set ?_ GE263.out) | exact HB.out))) : w.heap.size ≤ gb265)); have n7_ := Aside0.mk ((by rw [hg]; exact (below_size (by repeat (first | (with_reducible first | exact HB.out | apply below_alloc | apply pw_below_drewN | apply below_drew1 | refine below_set ?_ GE260.out | refine below_set ?_ GE261.out | refine below_set ?_ GE263.out) | exact HB.out))) : w.heap.size ≤ gb265)); have n8_ := Aside0.mk ((by rw [hg]; exact Nat.ne_of_lt (blk_lt (g := gb260) (o := .cells #[.int .i64 a0_0, .int .i64 a0_1, .slice (some ad264) l0_2.length c0_2] 30 (0, 0)) (by (with_reducible repeat (first | refine blk_drewN ?_ _ | refine blk_drew ?_ | refine blk_alloc ?_ _)); exact BK260.out)) : gb260 ≠ gb265)); have n9_ := Aside0.mk ((by rw [hg]; exact Nat.ne_of_gt (blk_lt (g := gb260) (o := .cells #[.int .i64 a0_0, .int .i64 a0_1, .slice (some ad264) l0_2.length c0_2] 30 (0, 0)) (by (with_reducible repeat (first | refine blk_drewN ?_ _ | refine blk_drew ?_ | refine blk_alloc ?_ _)); exact BK260.out)) : gb265 ≠ gb260)); have n10_ := Aside0.mk ((by rw [hg]; exact Nat.ne_of_lt (blk_lt (g := gb261) (o := .cells #[.int .i64 0, .int .i64 0, .slice none 0 0] 30 (0, 0)) (by (with_reducible repeat (first | refine blk_drewN ?_ _ | refine blk_drew ?_ | refine blk_alloc ?_ _)); exact BK261.out)) : gb261 ≠ gb265)); have n11_ := Aside0.mk ((by rw [hg]; exact Nat.ne_of_gt (blk_lt (g := gb261) (o := .cells #[.int .i64 0, .int .i64 0, .slice none 0 0] 30 (0, 0)) (by (with_reducible repeat (first | refine blk_drewN ?_ _ | refine blk_drew ?_ | refine blk_alloc ?_ _)); exact BK261.out)) : gb265 ≠ gb261)); have n12_ := Aside0.mk ((by rw [hg]; exact Nat.ne_of_lt (blk_lt (g := gb263) (o := .cells #[.int .i64 (wrap64 (a0_0 * a1)), .int .i64 a0_1, u264002] 30 (0, 0)) (by (with_reducible repeat (first | refine blk_drewN ?_ _ | refine blk_drew ?_ | refine blk_alloc ?_ _)); exact BK263.out)) : gb263 ≠ gb265)); have n13_ := Aside0.mk ((by rw [hg]; exact Nat.ne_of_gt (blk_lt (g := gb263) (o := .cells #[.int .i64 (wrap64 (a0_0 * a1)), .int .i64 a0_1, u264002] 30 (0, 0)) (by (with_reducible repeat (first | refine blk_drewN ?_ _ | refine blk_drew ?_ | refine blk_alloc ?_ _)); exact BK263.out)) : gb265 ≠ gb263)); clear HO_264002; clear BK260; clear BK261; clear BK263; clear HB; have HO_264002 := n0_; have BK260 := n1_; have BK261 := n2_; have BK263 := n3_; have HB := n4_; have BK265 := n5_; have GW265 := n6_; have GE265 := n7_; have NB260_265 := n8_; have NB265_260 := n9_; have NB261_265 := n10_; have NB265_261 := n11_; have NB263_265 := n12_; have NB265_263 := n13_; clear n0_ n1_ n2_ n3_ n4_ n5_ n6_ n7_ n8_ n9_ n10_ n11_ n12_ n13_; clear hb hbox hg; have hnb36 := NB265_260.out; have hnc36 := NB260_265.out; have hnb37 := NB265_261.out; have hnc37 := NB261_265.out; have hnb38 := NB265_263.out; have hnc38 := NB263_265.out; have hcz39_0 : w35.cell? ⟨gb265, 0, none⟩ = some (.int .i64 0) := (blk_cell BK265.out 0).trans rfl; have hcz39_1 : w35.cell? ⟨gb265, 1, none⟩ = some (.int .i64 0) := (blk_cell BK265.out 1).trans rfl; have hcz39_2 : w35.cell? ⟨gb265, 2, none⟩ = some (.int .i64 0) := (blk_cell BK265.out 2).trans rfl; have hcz39_3 : w35.cell? ⟨gb265, 3, none⟩ = some (.int .i64 0) := (blk_cell BK265.out 3).trans rfl; have hcz39_4 : w35.cell? ⟨gb265, 4, none⟩ = some (.int .i64 0) := (blk_cell BK265.out 4).trans rfl; have hfz39_0 := blk_frozen BK265.out 0; have hfz39_1 := blk_frozen BK265.out 1; have hfz39_2 := blk_frozen BK265.out 2; have hfz39_3 := blk_frozen BK265.out 3; have hfz39_4 := blk_frozen BK265.out 4; have hcz40_0 : w35.cell? ⟨gb260, 0, none⟩ = some (.int .i64 a0_0) := (blk_cell BK260.out 0).trans rfl; have hcz40_1 : w35.cell? ⟨gb260, 1, none⟩ = some (.int .i64 a0_1) := (blk_cell BK260.out 1).trans rfl; have hcz40_2 : w35.cell? ⟨gb260, 2, none⟩ = some (.slice (some ad264) l0_2.length c0_2) := (blk_cell BK260.out 2).trans rfl; have hfz40_0 := blk_frozen BK260.out 0; have hfz40_1 := blk_frozen BK260.out 1; have hfz40_2 := blk_frozen BK260.out 2; have hnb41 := NB263_261.out; have hnc41 := NB261_263.out; have hcz42_0 : w35.cell? ⟨gb263, 0, none⟩ = some (.int .i64 (wrap64 (a0_0 * a1))) := (blk_cell BK263.out 0).trans rfl; have hcz42_1 : w35.cell? ⟨gb263, 1, none⟩ = some (.int .i64 a0_1) := (blk_cell BK263.out 1).trans rfl; have hcz42_2 : w35.cell? ⟨gb263, 2, none⟩ = some (u264002) := (blk_cell BK263.out 2).trans rfl; have hfz42_0 := blk_frozen BK263.out 0; have hfz42_1 := blk_frozen BK263.out 1; have hfz42_2 := blk_frozen BK263.out 2) | ((with_reducible refine gate_builtin (b := .append) (xs := #[.tmp 68, .tmp 70]) rfl ?_); at_builtin; refine Kd.R_append k51 (w0 := w) w.heap.size rfl (.tmp 68) (.tmp 70) 28 51 (.agg #[(.int .i64 0), (.int .i64 0), (.int .i64 0), (.int .i64 0), (.int .i64 0)]) 40 rfl Tryz.underlying28 info51 rfl (by decide) (by omega) u264002 x264002_3 (⟨wrap64 (((rd_T51 l0_2 x8_3).f0) + (wrap64 (x7_2 * a0_0))), (rd_T51 l0_2 x8_3).f1, (rd_T51 l0_2 x8_3).f2, (rd_T51 l0_2 x8_3).f3, (rd_T51 l0_2 x8_3).f4⟩ : S51) [.int .i64 (wrap64 (((rd_T51 l0_2 x8_3).f0) + (wrap64 (x7_2 * a0_0)))), .int .i64 ((rd_T51 l0_2 x8_3).f1), .int .i64 ((rd_T51 l0_2 x8_3).f2), .int .i64 ((rd_T51 l0_2 x8_3).f3), .int .i64 ((rd_T51 l0_2 x8_3).f4)] (fun k_ => k_ ≠ gb265) (fun _ => False) rfl (by first | (go_simp; done) | (go_simp; rfl)) ?aP (fun _ hk => hk.elim) ?aF ?aO ?aB ?aS ?aL ?_; (case aP => exact k51_mkM _ _ _ (⟨wrap64 (((rd_T51 l0_2 x8_3).f0) + (wrap64 (x7_2 * a0_0))), (rd_T51 l0_2 x8_3).f1, (rd_T51 l0_2 x8_3).f2, (rd_T51 l0_2 x8_3).f3, (rd_T51 l0_2 x8_3).f4⟩ : S51)); (case aB => exact (by repeat (first | (with_reducible first | exact HB.out | apply below_alloc | apply pw_below_drewN | apply below_drew1 | refine below_set ?_ GE260.out | refine below_set ?_ GE261.out | refine below_set ?_ GE263.out | refine below_set ?_ GE265.out) | exact HB.out))); (case aF => exact (fun k_ hk => Kd.freshB (g := gb265) (o := .cells #[.int .i64 (wrap64 (((rd_T51 l0_2 x8_3).f0) + (wrap64 (x7_2 * a0_0)))), .int .i64 ((rd_T51 l0_2 x8_3).f1), .int .i64 ((rd_T51 l0_2 x8_3).f2), .int .i64 ((rd_T51 l0_2 x8_3).f3), .int .i64 ((rd_T51 l0_2 x8_3).f4)] 51 (0, 0)) (by (with_reducible repeat (first | refine blk_drewN ?_ _ | refine blk_drew ?_ | refine blk_alloc ?_ _)); refine blk_put (cs := #[.int .i64 ((rd_T51 l0_2 x8_3).f0), .int .i64 ((rd_T51 l0_2 x8_3).f1), .int .i64 ((rd_T51 l0_2 x8_3).f2), .int .i64 ((rd_T51 l0_2 x8_3).f3), .int .i64 ((rd_T51 l0_2 x8_3).f4)]) ?_ 0 _ rfl; (with_reducible repeat (first | refine blk_drewN ?_ _ | refine blk_drew ?_ | refine blk_alloc ?_ _)); refine blk_put (cs := #[.int .i64 ((rd_T51 l0_2 x8_3).f0), .int .i64 ((rd_T51 l0_2 x8_3).f1), .int .i64 ((rd_T51 l0_2 x8_3).f2), .int .i64 ((rd_T51 l0_2 x8_3).f3), .int .i64 0]) ?_ 4 _ rfl; (with_reducible repeat (first | refine blk_drewN ?_ _ | refine blk_drew ?_ | refine blk_alloc ?_ _)); refine blk_put (cs := #[.int .i64 ((rd_T51 l0_2 x8_3).f0), .int .i64 ((rd_T51 l0_2 x8_3).f1), .int .i64 ((rd_T51 l0_2 x8_3).f2), .int .i64 0, .int .i64 0]) ?_ 3 _ rfl; (with_reducible repeat (first | refine blk_drewN ?_ _ | refine blk_drew ?_ | refine blk_alloc ?_ _)); refine blk_put (cs := #[.int .i64 ((rd_T51 l0_2 x8_3).f0), .int .i64 ((rd_T51 l0_2 x8_3).f1), .int .i64 0, .int .i64 0, .int .i64 0]) ?_ 2 _ rfl; (with_reducible repeat (first | refine blk_drewN ?_ _ | refine blk_drew ?_ | refine blk_alloc ?_ _)); refine blk_put (cs := #[.int .i64 ((rd_T51 l0_2 x8_3).f0), .int .i64 0, .int .i64 0, .int .i64 0, .int .i64 0]) ?_ 1 _ rfl; (with_reducible repeat (first | refine blk_drewN ?_ _ | refine blk_drew ?_ | refine blk_alloc ?_ _)); refine blk_put (cs := #[.int .i64 0, .int .i64 0, .int .i64 0, .int .i64 0, .int .i64 0]) ?_ 0 _ rfl; (with_reducible repeat (first | refine blk_drewN ?_ _ | refine blk_drew ?_ | refine blk_alloc ?_ _)); exact BK265.out) k_ hk)); (case aO => exact (by (with_reducible repeat (first | apply Kd.R_alloc | apply Kd.R_drewN | apply Kd.R_drew)); exact Kd.R_mono (Kd.R_far (p := ⟨gb265, 0, none⟩) (Kd.R_far (p := ⟨gb265, 4, none⟩) (Kd.R_far (p := ⟨gb265, 3, none⟩) (Kd.R_far (p := ⟨gb265, 2, none⟩) (Kd.R_far (p := ⟨gb265, 1, none⟩) (Kd.R_far (p := ⟨gb265, 0, none⟩) (Kd.R_mono HO_264002.out (fun k_ hk => (⟨hk, hk.2⟩ : _ ∧ k_ ≠ gb265))) (fun _ hk => hk.2) (.int .i64 ((rd_T51 l0_2 x8_3).f0))) (fun _ hk => hk.2) (.int .i64 ((rd_T51 l0_2 x8_3).f1))) (fun _ hk => hk.2) (.int .i64 ((rd_T51 l0_2 x8_3).f2))) (fun _ hk => hk.2) (.int .i64 ((rd_T51 l0_2 x8_3).f3))) (fun _ hk => hk.2) (.int .i64 ((rd_T51 l0_2 x8_3).f4))) (fun _ hk => hk.2) (.int .i64 (wrap64 (((rd_T51 l0_2 x8_3).f0) + (wrap64 (x7_2 * a0_0)))))) (fun _ hk => hk.1.2))); (case aS => exact (below_size (by repeat (first | (with_reducible first | exact HB.out | apply below_alloc | apply pw_below_drewN | apply below_drew1 | refine below_set ?_ GE260.out | refine below_set ?_ GE261.out | refine below_set ?_ GE263.out | refine below_set ?_ GE265.out) | exact HB.out)))); (case aL => have := LMc31.out; omega); intro v267 w43 ho hb hg hat; rw [← Ny266.out] at ho; have n0_ := Aside0.mk (blk_grown (g := gb260) (o := .cells #[.int .i64 a0_0, .int .i64 a0_1, .slice (some ad264) l0_2.length c0_2] 30 (0, 0)) (by (with_reducible repeat (first | refine blk_drewN ?_ _ | refine blk_drew ?_ | refine blk_alloc ?_ _)); refine blk_far ?_ NB260_265.out _; (with_reducible repeat (first | refine blk_drewN ?_ _ | refine blk_drew ?_ | refine blk_alloc ?_ _)); refine blk_far ?_ NB260_265.out _; (with_reducible repeat (first | refine blk_drewN ?_ _ | refine blk_drew ?_ | refine blk_alloc ?_ _)); refine blk_far ?_ NB260_265.out _; (with_reducible repeat (first | refine blk_drewN ?_ _ | refine blk_drew ?_ | refine blk_alloc ?_ _)); refine blk_far ?_ NB260_265.out _; (with_reducible repeat (first | refine blk_drewN ?_ _ | refine blk_drew ?_ | refine blk_alloc ?_ _)); refine blk_far ?_ NB260_265.out _; (with_reducible repeat (first | refine blk_drewN ?_ _ | refine blk_drew ?_ | refine blk_alloc ?_ _)); refine blk_far ?_ NB260_265.out _; (with_reducible repeat (first | refine blk_drewN ?_ _ | refine blk_drew ?_ | refine blk_alloc ?_ _)); exact BK260.out) hg (Kd.R_ne HO_264002.out BK260.out (by decide))); have n1_ := Aside0.mk (blk_grown (g := gb261) (o := .cells #[.int .i64 0, .int .i64 0, .slice none 0 0] 30 (0, 0)) (by (with_reducible repeat (first | refine blk_drewN ?_ _ | refine blk_drew ?_ | refine blk_alloc ?_ _)); refine blk_far ?_ NB261_265.out _; (with_reducible repeat (first | refine blk_drewN ?_ _ | refine blk_drew ?_ | refine blk_alloc ?_ _)); refine blk_far ?_ NB261_265.out _; (with_reducible repeat (first | refine blk_drewN ?_ _ | refine blk_drew ?_ | refine blk_alloc ?_ _)); refine blk_far ?_ NB261_265.out _; (with_reducible repeat (first | refine blk_drewN ?_ _ | refine blk_drew ?_ | refine blk_alloc ?_ _)); refine blk_far ?_ NB261_265.out _; (with_reducible repeat (first | refine blk_drewN ?_ _ | refine blk_drew ?_ | refine blk_alloc ?_ _)); refine blk_far ?_ NB261_265.out _; (with_reducible repeat (first | refine blk_drewN ?_ _ | refine blk_drew ?_ | refine blk_alloc ?_ _)); refine blk_far ?_ NB261_265.out _; (with_reducible repeat (first | refine blk_drewN ?_ _ | refine blk_drew ?_ | refine blk_alloc ?_ _)); exact BK261.out) hg (Kd.R_ne HO_264002.out BK261.out (by decide))); have n2_ := Aside0.mk (blk_grown (g := gb263) (o := .cells #[.int .i64 (wrap64 (a0_0 * a1)), .int .i64 a0_1, u264002] 30 (0, 0)) (by (with_reducible repeat (first | refine blk_drewN ?_ _ | refine blk_drew ?_ | refine blk_alloc ?_ _)); refine blk_far ?_ NB263_265.out _; (with_reducible repeat (first | refine blk_drewN ?_ _ | refine blk_drew ?_ | refine blk_alloc ?_ _)); refine blk_far ?_ NB263_265.out _; (with_reducible repeat (first | refine blk_drewN ?_ _ | refine blk_drew ?_ | refine blk_alloc ?_ _)); refine blk_far ?_ NB263_265.out _; (with_reducible repeat (first | refine blk_drewN ?_ _ | refine blk_drew ?_ | refine blk_alloc ?_ _)); refine blk_far ?_ NB263_265.out _; (with_reducible repeat (first | refine blk_drewN ?_ _ | refine blk_drew ?_ | refine blk_alloc ?_ _)); refine blk_far ?_ NB263_265.out _; (with_reducible repeat (first | refine blk_drewN ?_ _ | refine blk_drew ?_ | refine blk_alloc ?_ _)); refine blk_far ?_ NB263_265.out _; (with_reducible repeat (first | refine blk_drewN ?_ _ | refine blk_drew ?_ | refine blk_alloc ?_ _)); exact BK263.out) hg (Kd.R_ne HO_264002.out BK263.out (by decide))); have n3_ := Aside0.mk (blk_grown (g := gb265) (o := .cells #[.int .i64 (wrap64 (((rd_T51 l0_2 x8_3).f0) + (wrap64 (x7_2 * a0_0)))), .int .i64 ((rd_T51 l0_2 x8_3).f1), .int .i64 ((rd_T51 l0_2 x8_3).f2), .int .i64 ((rd_T51 l0_2 x8_3).f3), .int .i64 ((rd_T51 l0_2 x8_3).f4)] 51 (0, 0)) (by (with_reducible repeat (first | refine blk_drewN ?_ _ | refine blk_drew ?_ | refine blk_alloc ?_ _)); refine blk_put (cs := #[.int .i64 ((rd_T51 l0_2 x8_3).f0), .int .i64 ((rd_T51 l0_2 x8_3).f1), .int .i64 ((rd_T51 l0_2 x8_3).f2), .int .i64 ((rd_T51 l0_2 x8_3).f3), .int .i64 ((rd_T51 l0_2 x8_3).f4)]) ?_ 0 _ rfl; (with_reducible repeat (first | refine blk_drewN ?_ _ | refine blk_drew ?_ | refine blk_alloc ?_ _)); refine blk_put (cs := #[.int .i64 ((rd_T51 l0_2 x8_3).f0), .int .i64 ((rd_T51 l0_2 x8_3).f1), .int .i64 ((rd_T51 l0_2 x8_3).f2), .int .i64 ((rd_T51 l0_2 x8_3).f3), .int .i64 0]) ?_ 4 _ rfl; (with_reducible repeat (first | refine blk_drewN ?_ _ | refine blk_drew ?_ | refine blk_alloc ?_ _)); refine blk_put (cs := #[.int .i64 ((rd_T51 l0_2 x8_3).f0), .int .i64 ((rd_T51 l0_2 x8_3).f1), .int .i64 ((rd_T51 l0_2 x8_3).f2), .int .i64 0, .int .i64 0]) ?_ 3 _ rfl; (with_reducible repeat (first | refine blk_drewN ?_ _ | refine blk_drew ?_ | refine blk_alloc ?_ _)); refine blk_put (cs := #[.int .i64 ((rd_T51 l0_2 x8_3).f0), .int .i64 ((rd_T51 l0_2 x8_3).f1), .int .i64 0, .int .i64 0, .int .i64 0]) ?_ 2 _ rfl; (with_reducible repeat (first | refine blk_drewN ?_ _ | refine blk_drew ?_ | refine blk_alloc ?_ _)); refine blk_put (cs := #[.int .i64 ((rd_T51 l0_2 x8_3).f0), .int .i64 0, .int .i64 0, .int .i64 0, .int .i64 0]) ?_ 1 _ rfl; (with_reducible repeat (first | refine blk_drewN ?_ _ | refine blk_drew ?_ | refine blk_alloc ?_ _)); refine blk_put (cs := #[.int .i64 0, .int .i64 0, .int .i64 0, .int .i64 0, .int .i64 0]) ?_ 0 _ rfl; (with_reducible repeat (first | refine blk_drewN ?_ _ | refine blk_drew ?_ | refine blk_alloc ?_ _)); exact BK265.out) hg (Kd.R_away HO_264002.out (fun _ hk => hk.2))); have n4_ := Aside0.mk (hb); have n5_ := Aside0.mk (ho); clear BK260; clear BK261; clear BK263; clear BK265; clear HB; clear HO_264002; have BK260 := n0_; have BK261 := n1_; have BK263 := n2_; have BK265 := n3_; have HB := n4_; have HO268 := n5_; clear n0_ n1_ n2_ n3_ n4_ n5_; clear ho hb hg hat; obtain ⟨Ao44, co44, eo44⟩ := Kd.R_slice HO268.out; subst eo44; have hcz45_0 : w43.cell? ⟨gb263, 0, none⟩ = some (.int .i64 (wrap64 (a0_0 * a1))) := (blk_cell BK263.out 0).trans rfl; have hcz45_1 : w43.cell? ⟨gb263, 1, none⟩ = some (.int .i64 a0_1) := (blk_cell BK263.out 1).trans rfl; have hcz45_2 : w43.cell? ⟨gb263, 2, none⟩ = some (u264002) := (blk_cell BK263.out 2).trans rfl; have hfz45_0 := blk_frozen BK263.out 0; have hfz45_1 := blk_frozen BK263.out 1; have hfz45_2 := blk_frozen BK263.out 2))
                            go_roundg k3
                            case measure => have := HJ4.out; have := HK2.out; have := HK3.out; omega
                            case rel => exact ⟨(wrap64 (x8_3 + 1)), (y266), (.slice Ao44 y266.length co44), (by first | rfl | (simp; done) | (simp [*]; done)), H', ⟨by have := HJ4.out; have := HK2.out; have := HK3.out; omega⟩, ⟨by (with_reducible repeat (first | apply Kd.R_alloc | apply Kd.R_drewN | apply Kd.R_drew)); exact Kd.R_mono (Kd.R_far (p := ⟨gb263, 2, none⟩) (Kd.R_types HO268.out BK263.out (by decide)) (fun _ hk => hk.2) (.slice Ao44 y266.length co44)) (fun _ hk => trivial)⟩, ⟨by (with_reducible repeat (first | refine blk_drewN ?_ _ | refine blk_drew ?_ | refine blk_alloc ?_ _)); refine blk_far ?_ NB260_263.out _; (with_reducible repeat (first | refine blk_drewN ?_ _ | refine blk_drew ?_ | refine blk_alloc ?_ _)); exact BK260.out⟩, ⟨by (with_reducible repeat (first | refine blk_drewN ?_ _ | refine blk_drew ?_ | refine blk_alloc ?_ _)); refine blk_far ?_ NB261_263.out _; (with_reducible repeat (first | refine blk_drewN ?_ _ | refine blk_drew ?_ | refine blk_alloc ?_ _)); exact BK261.out⟩, ⟨by (with_reducible repeat (first | refine blk_drewN ?_ _ | refine blk_drew ?_ | refine blk_alloc ?_ _)); refine blk_put (cs := #[.int .i64 (wrap64 (a0_0 * a1)), .int .i64 a0_1, u264002]) ?_ 2 _ rfl; (with_reducible repeat (first | refine blk_drewN ?_ _ | refine blk_drew ?_ | refine blk_alloc ?_ _)); exact BK263.out⟩, ⟨by repeat (first | (with_reducible first | exact HB.out | apply below_alloc | apply pw_below_drewN | apply below_drew1 | refine below_set ?_ GE260.out | refine below_set ?_ GE261.out | refine below_set ?_ GE263.out | refine below_set ?_ GE265.out) | exact HB.out)⟩⟩
                          · rw [if_neg c31] at H
                            exact absurd H (by simp)
                        · rw [if_neg c30] at H
                          exact absurd H (by simp)
                      · rw [if_neg c29] at H
                        have c29b0 : decide (x8_3 < (l0_2.length : Int)) = false := decide_eq_false c29
                        clear c29
                        have H' := Aside0.mk H
                        clear H
                        have hnb46 := NB260_261.out
                        have hnc46 := NB261_260.out
                        have hnb47 := NB260_263.out
                        have hnc47 := NB263_260.out
                        have hcz48_0 : wr.cell? ⟨gb260, 0, none⟩ = some (.int .i64 a0_0) := (blk_cell BK260.out 0).trans rfl
                        have hcz48_1 : wr.cell? ⟨gb260, 1, none⟩ = some (.int .i64 a0_1) := (blk_cell BK260.out 1).trans rfl
                        have hcz48_2 : wr.cell? ⟨gb260, 2, none⟩ = some (.slice A0_2 l0_2.length c0_2) := (blk_cell BK260.out 2).trans rfl
                        have hfz48_0 := blk_frozen BK260.out 0
                        have hfz48_1 := blk_frozen BK260.out 1
                        have hfz48_2 := blk_frozen BK260.out 2
                        go_wp2
                        go_roundg k3
                        case measure => have := HJ4.out; have := HK2.out; have := HK3.out; omega
                        case rel => exact ⟨(wrap64 (x7_2 + 1)), (x264002_3), (u264002), (by first | rfl | (simp; done) | (simp [*]; done)), H', ⟨by have := HJ4.out; have := HK2.out; have := HK3.out; omega⟩, ⟨by (with_reducible repeat (first | apply Kd.R_alloc | apply Kd.R_drewN | apply Kd.R_drew)); exact HO_264002.out⟩, ⟨by (with_reducible repeat (first | refine blk_drewN ?_ _ | refine blk_drew ?_ | refine blk_alloc ?_ _)); exact BK260.out⟩, ⟨by (with_reducible repeat (first | refine blk_drewN ?_ _ | refine blk_drew ?_ | refine blk_alloc ?_ _)); exact BK261.out⟩, ⟨by (with_reducible repeat (first | refine blk_drewN ?_ _ | refine blk_drew ?_ | refine blk_alloc ?_ _)); exact BK263.out⟩, ⟨by repeat (first | (with_reducible first | exact HB.out | apply below_alloc | apply pw_below_drewN | apply below_drew1 | refine below_set ?_ GE260.out | refine below_set ?_ GE261.out | refine below_set ?_ GE263.out) | exact HB.out)⟩⟩
                · rw [if_neg c28] at H
                  have c28b0 : decide (x7_2 < a1) = false := decide_eq_false c28
                  clear c28
                  simp only [Option.some.injEq, Prod.mk.injEq] at H
                  obtain ⟨rfl, rfl, rfl, rfl⟩ := H
                  have hnb49 := NB263_260.out
                  have hnc49 := NB260_263.out
                  have hnb50 := NB263_261.out
                  have hnc50 := NB261_263.out
                  have hcz51_0 : wr.cell? ⟨gb263, 0, none⟩ = some (.int .i64 (wrap64 (a0_0 * a1))) := (blk_cell BK263.out 0).trans rfl
                  have hcz51_1 : wr.cell? ⟨gb263, 1, none⟩ = some (.int .i64 a0_1) := (blk_cell BK263.out 1).trans rfl
                  have hcz51_2 : wr.cell? ⟨gb263, 2, none⟩ = some (u264002) := (blk_cell BK263.out 2).trans rfl
                  have hfz51_0 := blk_frozen BK263.out 0
                  have hfz51_1 := blk_frozen BK263.out 1
                  have hfz51_2 := blk_frozen BK263.out 2
                  have hnb52 := NB261_260.out
                  have hnc52 := NB260_261.out
                  have hcz53_0 : wr.cell? ⟨gb261, 0, none⟩ = some (.int .i64 0) := (blk_cell BK261.out 0).trans rfl
                  have hcz53_1 : wr.cell? ⟨gb261, 1, none⟩ = some (.int .i64 0) := (blk_cell BK261.out 1).trans rfl
                  have hcz53_2 : wr.cell? ⟨gb261, 2, none⟩ = some (.slice none 0 0) := (blk_cell BK261.out 2).trans rfl
                  have hfz53_0 := blk_frozen BK261.out 0
                  have hfz53_1 := blk_frozen BK261.out 1
                  have hfz53_2 := blk_frozen BK261.out 2
                  obtain ⟨Ao54, co54, eo54⟩ := Kd.R_slice HO_264002.out
                  subst eo54
                  go_wp2
                  refine bodyPost_ret (results_ct rfl _ _ gb261 30 #[.int .i64 (wrap64 (a0_0 * a1)), .int .i64 a0_1, .slice Ao54 x264002_2.length co54] (0, 0) _ rfl (by (with_reducible repeat (first | refine blk_drewN ?_ _ | refine blk_drew ?_ | refine blk_alloc ?_ _)); refine blk_put (cs := #[.int .i64 (wrap64 (a0_0 * a1)), .int .i64 a0_1, .slice none 0 0]) ?_ 2 _ rfl; (with_reducible repeat (first | refine blk_drewN ?_ _ | refine blk_drew ?_ | refine blk_alloc ?_ _)); refine blk_put (cs := #[.int .i64 (wrap64 (a0_0 * a1)), .int .i64 0, .slice none 0 0]) ?_ 1 _ rfl; (with_reducible repeat (first | refine blk_drewN ?_ _ | refine blk_drew ?_ | refine blk_alloc ?_ _)); refine blk_put (cs := #[.int .i64 0, .int .i64 0, .slice none 0 0]) ?_ 0 _ rfl; (with_reducible repeat (first | refine blk_drewN ?_ _ | refine blk_drew ?_ | refine blk_alloc ?_ _)); exact BK261.out) Tryz.underlying30 rfl (by kernel_rfl)) rfl ?_
                  exact ⟨_, by first | rfl | (simp [errW_none, errW_some] <;> rfl) | (simp [*, errW_none, errW_some] <;> rfl), by (with_reducible repeat (first | apply Kd.R_alloc | apply Kd.R_drewN | apply Kd.R_drew)); exact Kd.R_mono (Kd.R_far (p := ⟨gb261, 2, none⟩) (Kd.R_far (p := ⟨gb261, 1, none⟩) (Kd.R_far (p := ⟨gb261, 0, none⟩) (Kd.R_types HO_264002.out BK261.out (by decide)) (fun _ hk => hk.2) (.int .i64 (wrap64 (a0_0 * a1)))) (fun _ hk => hk.2) (.int .i64 a0_1)) (fun _ hk => hk.2) (.slice Ao54 x264002_2.length co54)) (fun _ hk => trivial), by repeat (first | (with_reducible first | exact HB.out | apply below_alloc | apply pw_below_drewN | apply below_drew1 | refine below_set ?_ GE260.out | refine below_set ?_ GE261.out | refine below_set ?_ GE263.out) | exact HB.out)⟩
  · replace c4 := Bool.eq_false_iff.mpr c4
    subst c4
    have H1 : (some (0, 0, ([] : List (S51)), 1)) = some (r1, r2, r3, r4) := by rw [if_neg (show ¬ (false = true) by decide)] at H; exact H
    clear H
    have H := H1
    clear H1
    simp only [Option.some.injEq, Prod.mk.injEq] at H
    obtain ⟨rfl, rfl, rfl, rfl⟩ := H
    go_enter Tryz.func22, Tryz.ntmps22
    go_wp2_with (first | ((with_reducible refine gate_dst (N := 2) rfl ?_); refine box_event ?hg (N := 2) ?hd (cs := #[.int .i64 a0_0, .int .i64 a0_1, .slice A0_2 l0_2.length c0_2]) (t := 30) ?hr ?_; (case hd => rfl); (case hg => rfl); (case hr => first | (go_simp; done) | (go_simp; rfl)); intro gb260 hg w55 hbox hb; have n0_ := Aside0.mk (below_step (by repeat (first | (with_reducible first | exact HB.out | apply below_alloc | apply pw_below_drewN | apply below_drew1) | exact HB.out)) hb); have n1_ := Aside0.mk (hbox); have n2_ := Aside0.mk ((by rw [hg]; exact (below_size (by repeat (first | (with_reducible first | exact HB.out | apply below_alloc | apply pw_below_drewN | apply below_drew1) | exact HB.out))) : w.heap.size ≤ gb260)); have n3_ := Aside0.mk ((by rw [hg]; exact (below_size (by repeat (first | (with_reducible first | exact HB.out | apply below_alloc | apply pw_below_drewN | apply below_drew1) | exact HB.out))) : w.heap.size ≤ gb260)); clear HB; have HB := n0_; have BK260 := n1_; have GW260 := n2_; have GE260 := n3_; clear n0_ n1_ n2_ n3_; clear hb hbox hg) | ((with_reducible refine gate_dst (N := 4) rfl ?_); refine box_event ?hg (N := 4) ?hd (cs := #[.int .i64 0, .int .i64 0, .slice none 0 0]) (t := 30) ?hr ?_; (case hd => rfl); (case hg => rfl); (case hr => first | (go_simp; done) | (go_simp; rfl)); intro gb261 hg w56 hbox hb; have n0_ := Aside0.mk (blk_below (g := gb260) (o := .cells #[.int .i64 a0_0, .int .i64 a0_1, .slice A0_2 l0_2.length c0_2] 30 (0, 0)) (by (with_reducible repeat (first | refine blk_drewN ?_ _ | refine blk_drew ?_ | refine blk_alloc ?_ _)); exact BK260.out) hb); have n1_ := Aside0.mk (below_step (by repeat (first | (with_reducible first | exact HB.out | apply below_alloc | apply pw_below_drewN | apply below_drew1 | refine below_set ?_ GE260.out) | exact HB.out)) hb); have n2_ := Aside0.mk (hbox); have n3_ := Aside0.mk ((by rw [hg]; exact (below_size (by repeat (first | (with_reducible first | exact HB.out | apply below_alloc | apply pw_below_drewN | apply below_drew1 | refine below_set ?_ GE260.out) | exact HB.out))) : w.heap.size ≤ gb261)); have n4_ := Aside0.mk ((by rw [hg]; exact (below_size (by repeat (first | (with_reducible first | exact HB.out | apply below_alloc | apply pw_below_drewN | apply below_drew1 | refine below_set ?_ GE260.out) | exact HB.out))) : w.heap.size ≤ gb261)); have n5_ := Aside0.mk ((by rw [hg]; exact Nat.ne_of_lt (blk_lt (g := gb260) (o := .cells #[.int .i64 a0_0, .int .i64 a0_1, .slice A0_2 l0_2.length c0_2] 30 (0, 0)) (by (with_reducible repeat (first | refine blk_drewN ?_ _ | refine blk_drew ?_ | refine blk_alloc ?_ _)); exact BK260.out)) : gb260 ≠ gb261)); have n6_ := Aside0.mk ((by rw [hg]; exact Nat.ne_of_gt (blk_lt (g := gb260) (o := .cells #[.int .i64 a0_0, .int .i64 a0_1, .slice A0_2 l0_2.length c0_2] 30 (0, 0)) (by (with_reducible repeat (first | refine blk_drewN ?_ _ | refine blk_drew ?_ | refine blk_alloc ?_ _)); exact BK260.out)) : gb261 ≠ gb260)); clear BK260; clear HB; have BK260 := n0_; have HB := n1_; have BK261 := n2_; have GW261 := n3_; have GE261 := n4_; have NB260_261 := n5_; have NB261_260 := n6_; clear n0_ n1_ n2_ n3_ n4_ n5_ n6_; clear hb hbox hg; have hnb57 := NB260_261.out; have hnc57 := NB261_260.out; have hcz58_0 : w56.cell? ⟨gb260, 0, none⟩ = some (.int .i64 a0_0) := (blk_cell BK260.out 0).trans rfl; have hcz58_1 : w56.cell? ⟨gb260, 1, none⟩ = some (.int .i64 a0_1) := (blk_cell BK260.out 1).trans rfl; have hcz58_2 : w56.cell? ⟨gb260, 2, none⟩ = some (.slice A0_2 l0_2.length c0_2) := (blk_cell BK260.out 2).trans rfl; have hfz58_0 := blk_frozen BK260.out 0; have hfz58_1 := blk_frozen BK260.out 1; have hfz58_2 := blk_frozen BK260.out 2) | ((with_reducible refine gate_callee (f := 58) rfl ?_); refine goesL_ (some 11) rfl rfl Tryz.func58 (by kernel_rfl) rfl #[.agg #[.int .i64 a0_0, .int .i64 a0_1, .slice A0_2 l0_2.length c0_2]] rfl (by (try simp only [List.map_toArray, List.map_cons, List.map_nil]); first | done | rfl | (simp only [List.length_drop, List.length_take]; rfl)) ?_; (with_reducible refine (hopmeshref35_Formed.calls k a0_0 a0_1 _ _ l0_2 false _ ?side1 ?side2 A3.out).mono ?_); (case side1 => repeat (first | exact (Kd.C_below HR0_2.out HB.out) | (with_reducible refine Kd.C_alloc ?_ _) | (with_reducible refine Kd.C_drewN ?_ _) | (with_reducible refine Kd.C_drew ?_))); (case side2 => exact HC0_2.out); rintro e w59 ⟨rfl, hb⟩; refine ⟨_, rfl, ?_⟩; have n0_ := Aside0.mk (blk_below (g := gb260) (o := .cells #[.int .i64 a0_0, .int .i64 a0_1, .slice A0_2 l0_2.length c0_2] 30 (0, 0)) (by (with_reducible repeat (first | refine blk_drewN ?_ _ | refine blk_drew ?_ | refine blk_alloc ?_ _)); exact BK260.out) hb); have n1_ := Aside0.mk (blk_below (g := gb261) (o := .cells #[.int .i64 0, .int .i64 0, .slice none 0 0] 30 (0, 0)) (by (with_reducible repeat (first | refine blk_drewN ?_ _ | refine blk_drew ?_ | refine blk_alloc ?_ _)); exact BK261.out) hb); have n2_ := Aside0.mk (below_step (by repeat (first | (with_reducible first | exact HB.out | apply below_alloc | apply pw_below_drewN | apply below_drew1 | refine below_set ?_ GE260.out | refine below_set ?_ GE261.out) | exact HB.out)) hb); clear BK260; clear BK261; clear HB; have BK260 := n0_; have BK261 := n1_; have HB := n2_; clear n0_ n1_ n2_; (try clear hb); (try clear hb2); (try clear hk); (try clear hi); have hcz60_0 : w59.cell? ⟨gb261, 0, none⟩ = some (.int .i64 0) := (blk_cell BK261.out 0).trans rfl; have hcz60_1 : w59.cell? ⟨gb261, 1, none⟩ = some (.int .i64 0) := (blk_cell BK261.out 1).trans rfl; have hcz60_2 : w59.cell? ⟨gb261, 2, none⟩ = some (.slice none 0 0) := (blk_cell BK261.out 2).trans rfl; have hfz60_0 := blk_frozen BK261.out 0; have hfz60_1 := blk_frozen BK261.out 1; have hfz60_2 := blk_frozen BK261.out 2))
    refine bodyPost_ret (results_ct rfl _ _ gb261 30 #[.int .i64 0, .int .i64 0, .slice none 0 0] (0, 0) _ rfl (by (with_reducible repeat (first | refine blk_drewN ?_ _ | refine blk_drew ?_ | refine blk_alloc ?_ _)); refine blk_put (cs := #[.int .i64 0, .int .i64 0, .slice none 0 0]) ?_ 2 _ rfl; (with_reducible repeat (first | refine blk_drewN ?_ _ | refine blk_drew ?_ | refine blk_alloc ?_ _)); refine blk_put (cs := #[.int .i64 0, .int .i64 0, .slice none 0 0]) ?_ 1 _ rfl; (with_reducible repeat (first | refine blk_drewN ?_ _ | refine blk_drew ?_ | refine blk_alloc ?_ _)); refine blk_put (cs := #[.int .i64 0, .int .i64 0, .slice none 0 0]) ?_ 0 _ rfl; (with_reducible repeat (first | refine blk_drewN ?_ _ | refine blk_drew ?_ | refine blk_alloc ?_ _)); exact BK261.out) Tryz.underlying30 rfl (by kernel_rfl)) rfl ?_
    exact ⟨_, by first | rfl | (simp [errW_none, errW_some] <;> rfl) | (simp [*, errW_none, errW_some] <;> rfl), by first | exact Kd.R_nil _ _ _ _ _ | exact Kd.N_nil _ _ _ _ _ | exact Kd.V_nil _ _ _ _ _ | exact Kd.Q_nil _ _ _ _ _ | exact Kd.S_nil _ _ _ _ _, by repeat (first | (with_reducible first | exact HB.out | apply below_alloc | apply pw_below_drewN | apply below_drew1 | refine below_set ?_ GE260.out | refine below_set ?_ GE261.out) | exact HB.out)⟩

-- NOT PRINTED: function 6 (hopmeshlaw35_ScheduleRepeats)

end Go.Proofs.YtnddjcadkbjjhaaGreatDoor.PScheduleRepeats
