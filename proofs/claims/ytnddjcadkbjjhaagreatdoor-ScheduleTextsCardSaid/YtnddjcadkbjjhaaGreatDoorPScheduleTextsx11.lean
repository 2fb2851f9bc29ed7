-- PRINTED BY print.sh 35421559b90ae4d0a3588c463048766b98c2df88dd9212a6774a882060cdf62d: not written by this session
import Derived.Test.YtnddjcadkbjjhaaGreatDoorPScheduleTextsx0
import Derived.Test.YtnddjcadkbjjhaaGreatDoorPScheduleTextsx8
import Derived.Test.YtnddjcadkbjjhaaGreatDoorPScheduleTextsx9
import Derived.Test.YtnddjcadkbjjhaaGreatDoorPScheduleTextsx10
namespace Go.Proofs.YtnddjcadkbjjhaaGreatDoor.PScheduleTexts
open Go.RowKit Go.Proofs.YtnddjcadkbjjhaaGreatDoorW.PrintWords Go.Proofs.YtnddjcadkbjjhaaGreatDoorW.PrintLast Go.Proofs.YtnddjcadkbjjhaaGreatDoorW.PrintMore
attribute [local go_sem] max2_int min2_int max_two min_two max_three min_three max_four min_four   -- for this text's walks alone
set_option linter.unusedVariables false
set_option linter.unusedSimpArgs false

/-! ### hopmeshref35_Parse: function 19 -/
mutual
def hopmeshref35_Parse.l0 : Nat → List ByteArray → Bool → Int → Int → Int → List (S51) → Option (Int × Int × (List (S51)) × Int × Int)
  | 0, _, _, _, _, _, _ => none
  | k + 1, x5, x6, x8, x314000, x314001, x314002 => if x8 < (x5.length : Int) then (if x8 = 0 then (hopmeshref35_Parse.j1 k x5 x6 x8 (⟨#[115, 99, 104, 101, 100, 117, 108, 101]⟩ : ByteArray) 2 x314000 x314001 x314002) else (hopmeshref35_Parse.j1 k x5 x6 x8 (⟨#[99, 101, 108, 108]⟩ : ByteArray) 5 x314000 x314001 x314002)) else ((hopmeshref35_Formed.f k x314000 x314001 x314002).bind fun t314 => (if t314 = true then (some (x314000, x314001, x314002, (-1), 0)) else (some (0, 0, ([] : List (S51)), (-1), 1))))
def hopmeshref35_Parse.j1 : Nat → List ByteArray → Bool → Int → ByteArray → Int → Int → Int → List (S51) → Option (Int × Int × (List (S51)) × Int × Int)
  | 0, _, _, _, _, _, _, _, _ => none
  | k + 1, x5, x6, x8, x9, x10, x314000, x314001, x314002 => if 0 ≤ x8 then (if x8 < (x5.length : Int) then ((hopmeshref35_Read.f k (rdOf ByteArray.empty x5 x8) x9 x10).bind fun bt316 => (if bt316.2 = true then (if x8 = (wrap64 ((x5.length : Int) - 1)) then (hopmeshref35_Parse.j2 k x5 x6 x8 bt316.1 (!x6) x314000 x314001 x314002) else (hopmeshref35_Parse.j2 k x5 x6 x8 bt316.1 false x314000 x314001 x314002)) else (hopmeshref35_Parse.j2 k x5 x6 x8 bt316.1 true x314000 x314001 x314002))) else (none)) else (none)
def hopmeshref35_Parse.j2 : Nat → List ByteArray → Bool → Int → List Int → Bool → Int → Int → List (S51) → Option (Int × Int × (List (S51)) × Int × Int)
  | 0, _, _, _, _, _, _, _, _ => none
  | k + 1, x5, x6, x8, x11, x53, x314000, x314001, x314002 => if x53 = true then (some (0, 0, ([] : List (S51)), x8, 3)) else (if x8 = 0 then (if 0 < (x11.length : Int) then (if 1 < (x11.length : Int) then (hopmeshref35_Parse.l0 k x5 x6 (wrap64 (x8 + 1)) (rd x11 0) (rd x11 1) x314002) else (none)) else (none)) else (if 0 < (x11.length : Int) then (if 1 < (x11.length : Int) then (if 2 < (x11.length : Int) then (if 3 < (x11.length : Int) then (if 4 < (x11.length : Int) then (if x314002.length < 3518437208883 then (hopmeshref35_Parse.l0 k x5 x6 (wrap64 (x8 + 1)) x314000 x314001 (x314002 ++ [(⟨rd x11 0, rd x11 1, rd x11 2, rd x11 3, rd x11 4⟩ : S51)])) else (none)) else (none)) else (none)) else (none)) else (none)) else (none)))
end
def hopmeshref35_Parse.f (k : Nat) (a0 : ByteArray) : Option (Int × Int × (List (S51)) × Int × Int) := (hopmeshref35_Lines.f k a0).bind fun bt309 => (if (bt309.1.length : Int) = 0 then (some (0, 0, ([] : List (S51)), 0, 3)) else (hopmeshref35_Parse.l0 k bt309.1 bt309.2 0 0 0 ([] : List (S51))))
theorem hopmeshref35_Parse.mono_l : ∀ k, (∀ y0 y1 y2 y3 y4 y5, LeO (hopmeshref35_Parse.l0 k y0 y1 y2 y3 y4 y5) (hopmeshref35_Parse.l0 (k + 1) y0 y1 y2 y3 y4 y5)) ∧ (∀ y0 y1 y2 y3 y4 y5 y6 y7, LeO (hopmeshref35_Parse.j1 k y0 y1 y2 y3 y4 y5 y6 y7) (hopmeshref35_Parse.j1 (k + 1) y0 y1 y2 y3 y4 y5 y6 y7)) ∧ (∀ y0 y1 y2 y3 y4 y5 y6 y7, LeO (hopmeshref35_Parse.j2 k y0 y1 y2 y3 y4 y5 y6 y7) (hopmeshref35_Parse.j2 (k + 1) y0 y1 y2 y3 y4 y5 y6 y7))
  | 0 => ⟨fun _ _ _ _ _ _ r h => by simp [hopmeshref35_Parse.l0] at h, fun _ _ _ _ _ _ _ _ r h => by simp [hopmeshref35_Parse.j1] at h, fun _ _ _ _ _ _ _ _ r h => by simp [hopmeshref35_Parse.j2] at h⟩
  | k + 1 => by
    obtain ⟨ih0, ih1, ih2⟩ := hopmeshref35_Parse.mono_l k
    refine ⟨?_, ?_, ?_⟩
    · intro y0 y1 y2 y3 y4 y5
      unfold hopmeshref35_Parse.l0
      repeat' first
      | (with_reducible exact ih0 _ _ _ _ _ _)
      | (with_reducible exact ih1 _ _ _ _ _ _ _ _)
      | (with_reducible exact ih2 _ _ _ _ _ _ _ _)
      | (with_reducible exact hopmeshref35_Formed.mono _ _ _ _)
      | (with_reducible exact hopmeshref35_Lines.mono _ _)
      | (with_reducible exact hopmeshref35_Read.mono _ _ _ _)
      | (with_reducible exact LeO.refl _)
      | (with_reducible exact LeO.none _)
      | (with_reducible refine LeO.ite ?_ ?_)
      | (with_reducible refine LeO.bind ?_ (fun _ => ?_))
      | exact ih0 _ _ _ _ _ _
      | exact ih1 _ _ _ _ _ _ _ _
      | exact ih2 _ _ _ _ _ _ _ _
      | exact hopmeshref35_Formed.mono _ _ _ _
      | exact hopmeshref35_Lines.mono _ _
      | exact hopmeshref35_Read.mono _ _ _ _
      | exact LeO.none _
      | refine LeO.ite ?_ ?_
      | refine LeO.bind ?_ (fun _ => ?_)
    · intro y0 y1 y2 y3 y4 y5 y6 y7
      unfold hopmeshref35_Parse.j1
      repeat' first
      | (with_reducible exact ih0 _ _ _ _ _ _)
      | (with_reducible exact ih1 _ _ _ _ _ _ _ _)
      | (with_reducible exact ih2 _ _ _ _ _ _ _ _)
      | (with_reducible exact hopmeshref35_Formed.mono _ _ _ _)
      | (with_reducible exact hopmeshref35_Lines.mono _ _)
      | (with_reducible exact hopmeshref35_Read.mono _ _ _ _)
      | (with_reducible exact LeO.refl _)
      | (with_reducible exact LeO.none _)
      | (with_reducible refine LeO.ite ?_ ?_)
      | (with_reducible refine LeO.bind ?_ (fun _ => ?_))
      | exact ih0 _ _ _ _ _ _
      | exact ih1 _ _ _ _ _ _ _ _
      | exact ih2 _ _ _ _ _ _ _ _
      | exact hopmeshref35_Formed.mono _ _ _ _
      | exact hopmeshref35_Lines.mono _ _
      | exact hopmeshref35_Read.mono _ _ _ _
      | exact LeO.none _
      | refine LeO.ite ?_ ?_
      | refine LeO.bind ?_ (fun _ => ?_)
    · intro y0 y1 y2 y3 y4 y5 y6 y7
      unfold hopmeshref35_Parse.j2
      repeat' first
      | (with_reducible exact ih0 _ _ _ _ _ _)
      | (with_reducible exact ih1 _ _ _ _ _ _ _ _)
      | (with_reducible exact ih2 _ _ _ _ _ _ _ _)
      | (with_reducible exact hopmeshref35_Formed.mono _ _ _ _)
      | (with_reducible exact hopmeshref35_Lines.mono _ _)
      | (with_reducible exact hopmeshref35_Read.mono _ _ _ _)
      | (with_reducible exact LeO.refl _)
      | (with_reducible exact LeO.none _)
      | (with_reducible refine LeO.ite ?_ ?_)
      | (with_reducible refine LeO.bind ?_ (fun _ => ?_))
      | exact ih0 _ _ _ _ _ _
      | exact ih1 _ _ _ _ _ _ _ _
      | exact ih2 _ _ _ _ _ _ _ _
      | exact hopmeshref35_Formed.mono _ _ _ _
      | exact hopmeshref35_Lines.mono _ _
      | exact hopmeshref35_Read.mono _ _ _ _
      | exact LeO.none _
      | refine LeO.ite ?_ ?_
      | refine LeO.bind ?_ (fun _ => ?_)
theorem hopmeshref35_Parse.mono : ∀ a0 k, LeO (hopmeshref35_Parse.f k a0) (hopmeshref35_Parse.f (k + 1) a0) := by
  intro a0 k
  obtain ⟨ih0, ih1, ih2⟩ := hopmeshref35_Parse.mono_l k
  unfold hopmeshref35_Parse.f
  repeat' first
      | (with_reducible exact ih0 _ _ _ _ _ _)
      | (with_reducible exact ih1 _ _ _ _ _ _ _ _)
      | (with_reducible exact ih2 _ _ _ _ _ _ _ _)
      | (with_reducible exact hopmeshref35_Formed.mono _ _ _ _)
      | (with_reducible exact hopmeshref35_Lines.mono _ _)
      | (with_reducible exact hopmeshref35_Read.mono _ _ _ _)
      | (with_reducible exact LeO.refl _)
      | (with_reducible exact LeO.none _)
      | (with_reducible refine LeO.ite ?_ ?_)
      | (with_reducible refine LeO.bind ?_ (fun _ => ?_))
      | exact ih0 _ _ _ _ _ _
      | exact ih1 _ _ _ _ _ _ _ _
      | exact ih2 _ _ _ _ _ _ _ _
      | exact hopmeshref35_Formed.mono _ _ _ _
      | exact hopmeshref35_Lines.mono _ _
      | exact hopmeshref35_Read.mono _ _ _ _
      | exact LeO.none _
      | refine LeO.ite ?_ ?_
      | refine LeO.bind ?_ (fun _ => ?_)
def hopmeshref35_Parse.T15 : Bool × List (List Nat × List Nat) := (true, [([], []), ([0], [0]), ([1], [1]), ([], []), ([3], [3]), ([4], [4]), ([0, 1, 2], []), ([6, 2, 0, 1, 2], [2, 6]), ([0, 1, 2, 3, 4, 5, 6, 7], []), ([8, 5, 7, 0, 1, 2, 3, 4, 5, 6, 7], [5, 8])])
def hopmeshref35_Parse.B15 : List Nat := [0, 1, 3, 0, 8, 24, 7, 71, 255, 511]
theorem hopmeshref35_Parse.tab15 : rtab .any (opsOf Tryz.f19 15) = hopmeshref35_Parse.T15 := by kernel_rfl
theorem hopmeshref35_Parse.bits15 : waitsOk hopmeshref35_Parse.T15.2 hopmeshref35_Parse.B15 = true := by kernel_rfl
def hopmeshref35_Parse.T16 : Bool × List (List Nat × List Nat) := (true, [([], []), ([0], [0]), ([], []), ([2], [2]), ([3], [3]), ([], []), ([5], [5]), ([6], [6]), ([], []), ([8], [8]), ([9], [9]), ([], []), ([11], [11]), ([12], [12]), ([], []), ([14], [14]), ([15], [15]), ([4, 7, 10, 13, 16], [4, 7, 10, 13, 16]), ([17], [17]), ([1, 18], [1, 18]), ([0, 1, 2, 3, 4, 5, 6, 7, 8, 9, 10, 11, 12, 13, 14, 15, 16, 17, 18, 19], []), ([20, 19, 19, 0, 1, 2, 3, 4, 5, 6, 7, 8, 9, 10, 11, 12, 13, 14, 15, 16, 17, 18, 19], [19, 20])])
def hopmeshref35_Parse.B16 : List Nat := [0, 1, 0, 4, 12, 0, 32, 96, 0, 256, 768, 0, 2048, 6144, 0, 16384, 49152, 131068, 262140, 524287, 1048575, 2097151]
theorem hopmeshref35_Parse.tab16 : rtab .any (opsOf Tryz.f19 16) = hopmeshref35_Parse.T16 := by kernel_rfl
theorem hopmeshref35_Parse.bits16 : waitsOk hopmeshref35_Parse.T16.2 hopmeshref35_Parse.B16 = true := by kernel_rfl
set_option maxHeartbeats 8000000 in
set_option maxRecDepth 100000 in
theorem hopmeshref35_Parse.calls (k : Nat) (a0 : ByteArray) (r1 : Int) (r2 : Int) (r3 : List (S51)) (r4 : Int) (r5 : Int) (w : World) (h : hopmeshref35_Parse.f k a0 = some (r1, r2, r3, r4, r5)) :
    Calls Tryz.prog 19 #[.string a0] w fun e w' => ∃ v2_ : Value, e = .returned (.tuple #[.agg #[.int .i64 r1, .int .i64 r2, v2_], .int .i64 r4, .int .i64 r5]) ∧ Kd.R k51 51 w' w.heap.size (fun _ => True) v2_ r3 ∧ Below w.heap.size w w' := by
  have hu30 := Tryz.underlying30
  have hu51 := Tryz.underlying51
  have HB := Aside0.mk (Below.refl w.heap.size w)
  have H : ((hopmeshref35_Lines.f k a0).bind fun bt309 => (if (bt309.1.length : Int) = 0 then (some (0, 0, ([] : List (S51)), 0, 3)) else (hopmeshref35_Parse.l0 k bt309.1 bt309.2 0 0 0 ([] : List (S51))))) = some (r1, r2, r3, r4, r5) := h
  clear h
  replace H := Option.bind_eq_some_iff.mp H
  obtain ⟨⟨t309, t310⟩, A20, H⟩ := H
  replace H : (if (t309.length : Int) = 0 then (some (0, 0, ([] : List (S51)), 0, 3)) else (hopmeshref35_Parse.l0 k t309 t310 0 0 0 ([] : List (S51)))) = some (r1, r2, r3, r4, r5) := H
  have A2 := Aside0.mk A20
  clear A20
  by_cases c3 : (t309.length : Int) = 0
  · rw [if_pos c3] at H
    have c3b0 : ((t309.length : Int) == 0) = true := beq_iff_eq.mpr c3
    have c3b1 : ((t309.length : Int) != 0) = false := bne_eq_false_iff_eq.mpr c3
    clear c3
    simp only [Option.some.injEq, Prod.mk.injEq] at H
    obtain ⟨rfl, rfl, rfl, rfl, rfl⟩ := H
    go_enter Tryz.func19, Tryz.ntmps19
    go_wp2_with (first | ((with_reducible refine gate_dst (N := 2) rfl ?_); (try (refine gate_guard (by rfl) ?_; dsimp only)); refine box_event ?hg (N := 2) ?hd (cs := #[.int .i64 0, .int .i64 0, .slice none 0 0]) (t := 30) ?hr ?_; (case hd => rfl); (case hg => rfl); (case hr => first | (go_simp; done) | (go_simp; rfl)); intro gb308 hg w4 hbox hb; have n0_ := Aside0.mk (below_step (by repeat (first | (with_reducible first | exact HB.out | apply below_alloc | apply pw_below_drewN | apply below_drew1) | exact HB.out)) hb); have n1_ := Aside0.mk (hbox); have n2_ := Aside0.mk ((by rw [hg]; exact (below_size (by repeat (first | (with_reducible first | exact HB.out | apply below_alloc | apply pw_below_drewN | apply below_drew1) | exact HB.out))) : w.heap.size ≤ gb308)); have n3_ := Aside0.mk ((by rw [hg]; exact (below_size (by repeat (first | (with_reducible first | exact HB.out | apply below_alloc | apply pw_below_drewN | apply below_drew1) | exact HB.out))) : w.heap.size ≤ gb308)); clear HB; have HB := n0_; have BK308 := n1_; have GW308 := n2_; have GE308 := n3_; clear n0_ n1_ n2_ n3_; clear hb hbox hg) | ((with_reducible refine gate_callee (f := 63) rfl ?_); refine goesL_ (some 15) rfl rfl Tryz.func63 (by kernel_rfl) rfl #[.string a0] rfl (by (try simp only [List.map_toArray, List.map_cons, List.map_nil]); first | done | rfl | (simp only [List.length_drop, List.length_take]; rfl)) ?_; (with_reducible refine (hopmeshref35_Lines.calls k a0 t309 t310 _ A2.out).mono ?_); rintro e w5 ⟨v311, rfl, ho0, hb⟩; refine ⟨_, rfl, ?_⟩; have n0_ := Aside0.mk (Kd.R_lower ho0 (below_size (by repeat (first | (with_reducible first | exact HB.out | apply below_alloc | apply pw_below_drewN | apply below_drew1 | refine below_set ?_ GE308.out) | exact HB.out)))); have n1_ := Aside0.mk (blk_below (g := gb308) (o := .cells #[.int .i64 0, .int .i64 0, .slice none 0 0] 30 (0, 0)) (by (with_reducible repeat (first | refine blk_drewN ?_ _ | refine blk_drew ?_ | refine blk_alloc ?_ _)); exact BK308.out) hb); have n2_ := Aside0.mk (below_step (by repeat (first | (with_reducible first | exact HB.out | apply below_alloc | apply pw_below_drewN | apply below_drew1 | refine below_set ?_ GE308.out) | exact HB.out)) hb); clear BK308; clear HB; have HO312 := n0_; have BK308 := n1_; have HB := n2_; clear n0_ n1_ n2_; (try clear hb); (try clear hb2); (try clear hk); (try clear hi); (try clear ho0)) | ((with_reducible refine gate_dst (N := 7) rfl ?_); (try (refine gate_guard (by rfl) ?_; dsimp only)); refine box_event ?hg (N := 7) ?hd (cs := #[.int .i64 0, .int .i64 0, .slice none 0 0]) (t := 30) ?hr ?_; (case hd => rfl); (case hg => rfl); (case hr => first | (go_simp; done) | (go_simp; rfl)); intro gb313 hg w6 hbox hb; have n0_ := Aside0.mk (Kd.R_below (by (with_reducible repeat (first | apply Kd.R_alloc | apply Kd.R_drewN | apply Kd.R_drew)); exact HO312.out) hb); have n1_ := Aside0.mk (blk_below (g := gb308) (o := .cells #[.int .i64 0, .int .i64 0, .slice none 0 0] 30 (0, 0)) (by (with_reducible repeat (first | refine blk_drewN ?_ _ | refine blk_drew ?_ | refine blk_alloc ?_ _)); exact BK308.out) hb); have n2_ := Aside0.mk (below_step (by repeat (first | (with_reducible first | exact HB.out | apply below_alloc | apply pw_below_drewN | apply below_drew1 | refine below_set ?_ GE308.out) | exact HB.out)) hb); have n3_ := Aside0.mk (hbox); have n4_ := Aside0.mk ((by rw [hg]; exact (below_size (by repeat (first | (with_reducible first | exact HB.out | apply below_alloc | apply pw_below_drewN | apply below_drew1 | refine below_set ?_ GE308.out) | exact HB.out))) : w.heap.size ≤ gb313)); have n5_ := Aside0.mk ((by rw [hg]; exact (below_size (by repeat (first | (with_reducible first | exact HB.out | apply below_alloc | apply pw_below_drewN | apply below_drew1 | refine below_set ?_ GE308.out) | exact HB.out))) : w.heap.size ≤ gb313)); have n6_ := Aside0.mk ((by rw [hg]; exact Nat.ne_of_lt (blk_lt (g := gb308) (o := .cells #[.int .i64 0, .int .i64 0, .slice none 0 0] 30 (0, 0)) (by (with_reducible repeat (first | refine blk_drewN ?_ _ | refine blk_drew ?_ | refine blk_alloc ?_ _)); exact BK308.out)) : gb308 ≠ gb313)); have n7_ := Aside0.mk ((by rw [hg]; exact Nat.ne_of_gt (blk_lt (g := gb308) (o := .cells #[.int .i64 0, .int .i64 0, .slice none 0 0] 30 (0, 0)) (by (with_reducible repeat (first | refine blk_drewN ?_ _ | refine blk_drew ?_ | refine blk_alloc ?_ _)); exact BK308.out)) : gb313 ≠ gb308)); clear HO312; clear BK308; clear HB; have HO312 := n0_; have BK308 := n1_; have HB := n2_; have BK313 := n3_; have GW313 := n4_; have GE313 := n5_; have NB308_313 := n6_; have NB313_308 := n7_; clear n0_ n1_ n2_ n3_ n4_ n5_ n6_ n7_; clear hb hbox hg; have hnb7 := NB313_308.out; have hnc7 := NB308_313.out; have hcz8_0 : w6.cell? ⟨gb313, 0, none⟩ = some (.int .i64 0) := (blk_cell BK313.out 0).trans rfl; have hcz8_1 : w6.cell? ⟨gb313, 1, none⟩ = some (.int .i64 0) := (blk_cell BK313.out 1).trans rfl; have hcz8_2 : w6.cell? ⟨gb313, 2, none⟩ = some (.slice none 0 0) := (blk_cell BK313.out 2).trans rfl; have hfz8_0 := blk_frozen BK313.out 0; have hfz8_1 := blk_frozen BK313.out 1; have hfz8_2 := blk_frozen BK313.out 2; obtain ⟨Ao9, co9, eo9⟩ := Kd.R_slice HO312.out; subst eo9; have hcz10_0 : w6.cell? ⟨gb308, 0, none⟩ = some (.int .i64 0) := (blk_cell BK308.out 0).trans rfl; have hcz10_1 : w6.cell? ⟨gb308, 1, none⟩ = some (.int .i64 0) := (blk_cell BK308.out 1).trans rfl; have hcz10_2 : w6.cell? ⟨gb308, 2, none⟩ = some (.slice none 0 0) := (blk_cell BK308.out 2).trans rfl; have hfz10_0 := blk_frozen BK308.out 0; have hfz10_1 := blk_frozen BK308.out 1; have hfz10_2 := blk_frozen BK308.out 2))
    refine bodyPost_ret (results_ctt rfl _ _ gb308 30 #[.int .i64 0, .int .i64 0, .slice none 0 0] (0, 0) _ rfl (by (with_reducible repeat (first | refine blk_drewN ?_ _ | refine blk_drew ?_ | refine blk_alloc ?_ _)); refine blk_put (cs := #[.int .i64 0, .int .i64 0, .slice none 0 0]) ?_ 2 _ rfl; (with_reducible repeat (first | refine blk_drewN ?_ _ | refine blk_drew ?_ | refine blk_alloc ?_ _)); refine blk_put (cs := #[.int .i64 0, .int .i64 0, .slice none 0 0]) ?_ 1 _ rfl; (with_reducible repeat (first | refine blk_drewN ?_ _ | refine blk_drew ?_ | refine blk_alloc ?_ _)); refine blk_put (cs := #[.int .i64 0, .int .i64 0, .slice none 0 0]) ?_ 0 _ rfl; (with_reducible repeat (first | refine blk_drewN ?_ _ | refine blk_drew ?_ | refine blk_alloc ?_ _)); refine blk_far ?_ NB308_313.out _; (with_reducible repeat (first | refine blk_drewN ?_ _ | refine blk_drew ?_ | refine blk_alloc ?_ _)); refine blk_far ?_ NB308_313.out _; (with_reducible repeat (first | refine blk_drewN ?_ _ | refine blk_drew ?_ | refine blk_alloc ?_ _)); refine blk_far ?_ NB308_313.out _; (with_reducible repeat (first | refine blk_drewN ?_ _ | refine blk_drew ?_ | refine blk_alloc ?_ _)); exact BK308.out) Tryz.underlying30 rfl (by kernel_rfl)) rfl ?_
    exact ⟨_, by first | rfl | (simp [errW_none, errW_some] <;> rfl) | (simp [*, errW_none, errW_some] <;> rfl), by first | exact Kd.R_nil _ _ _ _ _ | exact Kd.N_nil _ _ _ _ _ | exact Kd.V_nil _ _ _ _ _ | exact Kd.Q_nil _ _ _ _ _ | exact Kd.S_nil _ _ _ _ _, by repeat (first | (with_reducible first | exact HB.out | apply below_alloc | apply pw_below_drewN | apply below_drew1 | refine below_set ?_ GE308.out | refine below_set ?_ GE313.out) | exact HB.out)⟩
  · rw [if_neg c3] at H
    have c3b0 : ((t309.length : Int) == 0) = false := beq_eq_false_iff_ne.mpr c3
    have c3b1 : ((t309.length : Int) != 0) = true := bne_iff_ne.mpr c3
    have c3b2 : ¬ (t309 = []) := fun h_ => c3 (by rw [h_]; rfl)
    have H' := Aside0.mk H
    clear H
    go_enter Tryz.func19, Tryz.ntmps19
    go_wp2_with (first | ((with_reducible refine gate_dst (N := 2) rfl ?_); (try (refine gate_guard (by rfl) ?_; dsimp only)); refine box_event ?hg (N := 2) ?hd (cs := #[.int .i64 0, .int .i64 0, .slice none 0 0]) (t := 30) ?hr ?_; (case hd => rfl); (case hg => rfl); (case hr => first | (go_simp; done) | (go_simp; rfl)); intro gb308 hg w11 hbox hb; have n0_ := Aside0.mk (below_step (by repeat (first | (with_reducible first | exact HB.out | apply below_alloc | apply pw_below_drewN | apply below_drew1) | exact HB.out)) hb); have n1_ := Aside0.mk (hbox); have n2_ := Aside0.mk ((by rw [hg]; exact (below_size (by repeat (first | (with_reducible first | exact HB.out | apply below_alloc | apply pw_below_drewN | apply below_drew1) | exact HB.out))) : w.heap.size ≤ gb308)); have n3_ := Aside0.mk ((by rw [hg]; exact (below_size (by repeat (first | (with_reducible first | exact HB.out | apply below_alloc | apply pw_below_drewN | apply below_drew1) | exact HB.out))) : w.heap.size ≤ gb308)); clear HB; have HB := n0_; have BK308 := n1_; have GW308 := n2_; have GE308 := n3_; clear n0_ n1_ n2_ n3_; clear hb hbox hg) | ((with_reducible refine gate_callee (f := 63) rfl ?_); refine goesL_ (some 15) rfl rfl Tryz.func63 (by kernel_rfl) rfl #[.string a0] rfl (by (try simp only [List.map_toArray, List.map_cons, List.map_nil]); first | done | rfl | (simp only [List.length_drop, List.length_take]; rfl)) ?_; (with_reducible refine (hopmeshref35_Lines.calls k a0 t309 t310 _ A2.out).mono ?_); rintro e w12 ⟨v311, rfl, ho0, hb⟩; refine ⟨_, rfl, ?_⟩; have n0_ := Aside0.mk (Kd.R_lower ho0 (below_size (by repeat (first | (with_reducible first | exact HB.out | apply below_alloc | apply pw_below_drewN | apply below_drew1 | refine below_set ?_ GE308.out) | exact HB.out)))); have n1_ := Aside0.mk (blk_below (g := gb308) (o := .cells #[.int .i64 0, .int .i64 0, .slice none 0 0] 30 (0, 0)) (by (with_reducible repeat (first | refine blk_drewN ?_ _ | refine blk_drew ?_ | refine blk_alloc ?_ _)); exact BK308.out) hb); have n2_ := Aside0.mk (below_step (by repeat (first | (with_reducible first | exact HB.out | apply below_alloc | apply pw_below_drewN | apply below_drew1 | refine below_set ?_ GE308.out) | exact HB.out)) hb); clear BK308; clear HB; have HO312 := n0_; have BK308 := n1_; have HB := n2_; clear n0_ n1_ n2_; (try clear hb); (try clear hb2); (try clear hk); (try clear hi); (try clear ho0)) | ((with_reducible refine gate_dst (N := 7) rfl ?_); (try (refine gate_guard (by rfl) ?_; dsimp only)); refine box_event ?hg (N := 7) ?hd (cs := #[.int .i64 0, .int .i64 0, .slice none 0 0]) (t := 30) ?hr ?_; (case hd => rfl); (case hg => rfl); (case hr => first | (go_simp; done) | (go_simp; rfl)); intro gb313 hg w13 hbox hb; have n0_ := Aside0.mk (Kd.R_below (by (with_reducible repeat (first | apply Kd.R_alloc | apply Kd.R_drewN | apply Kd.R_drew)); exact HO312.out) hb); have n1_ := Aside0.mk (blk_below (g := gb308) (o := .cells #[.int .i64 0, .int .i64 0, .slice none 0 0] 30 (0, 0)) (by (with_reducible repeat (first | refine blk_drewN ?_ _ | refine blk_drew ?_ | refine blk_alloc ?_ _)); exact BK308.out) hb); have n2_ := Aside0.mk (below_step (by repeat (first | (with_reducible first | exact HB.out | apply below_alloc | apply pw_below_drewN | apply below_drew1 | refine below_set ?_ GE308.out) | exact HB.out)) hb); have n3_ := Aside0.mk (hbox); have n4_ := Aside0.mk ((by rw [hg]; exact (below_size (by repeat (first | (with_reducible first | exact HB.out | apply below_alloc | apply pw_below_drewN | apply below_drew1 | refine below_set ?_ GE308.out) | exact HB.out))) : w.heap.size ≤ gb313)); have n5_ := Aside0.mk ((by rw [hg]; exact (below_size (by repeat (first | (with_reducible first | exact HB.out | apply below_alloc | apply pw_below_drewN | apply below_drew1 | refine below_set ?_ GE308.out) | exact HB.out))) : w.heap.size ≤ gb313)); have n6_ := Aside0.mk ((by rw [hg]; exact Nat.ne_of_lt (blk_lt (g := gb308) (o := .cells #[.int .i64 0, .int .i64 0, .slice none 0 0] 30 (0, 0)) (by (with_reducible repeat (first | refine blk_drewN ?_ _ | refine blk_drew ?_ | refine blk_alloc ?_ _)); exact BK308.out)) : gb308 ≠ gb313)); have n7_ := Aside0.mk ((by rw [hg]; exact Nat.ne_of_gt (blk_lt (g := gb308) (o := .cells #[.int .i64 0, .int .i64 0, .slice none 0 0] 30 (0, 0)) (by (with_reducible repeat (first | refine blk_drewN ?_ _ | refine blk_drew ?_ | refine blk_alloc ?_ _)); exact BK308.out)) : gb313 ≠ gb308)); clear HO312; clear BK308; clear HB; have HO312 := n0_; have BK308 := n1_; have HB := n2_; have BK313 := n3_; have GW313 := n4_; have GE313 := n5_; have NB308_313 := n6_; have NB313_308 := n7_; clear n0_ n1_ n2_ n3_ n4_ n5_ n6_ n7_; clear hb hbox hg; have hnb14 := NB313_308.out; have hnc14 := NB308_313.out; have hcz15_0 : w13.cell? ⟨gb313, 0, none⟩ = some (.int .i64 0) := (blk_cell BK313.out 0).trans rfl; have hcz15_1 : w13.cell? ⟨gb313, 1, none⟩ = some (.int .i64 0) := (blk_cell BK313.out 1).trans rfl; have hcz15_2 : w13.cell? ⟨gb313, 2, none⟩ = some (.slice none 0 0) := (blk_cell BK313.out 2).trans rfl; have hfz15_0 := blk_frozen BK313.out 0; have hfz15_1 := blk_frozen BK313.out 1; have hfz15_2 := blk_frozen BK313.out 2; obtain ⟨Ao16, co16, eo16⟩ := Kd.R_slice HO312.out; subst eo16))
    go_loopg [8] k (fun kq v8 w' => ∃ (x8_1 : Int) (x309000_1 : Int) (x309001_1 : Int) (x314000_1 : Int) (x314001_1 : Int) (x314002_1 : List (S51)) (u314002 : Value), v8 = .int .i64 x8_1 ∧ Aside0 (hopmeshref35_Parse.l0 kq t309 t310 x8_1 x314000_1 x314001_1 x314002_1 = some (r1, r2, r3, r4, r5)) ∧ Aside0 (kq ≤ k) ∧ Aside0 (Kd.R Kd.string 9 w' w.heap.size (fun _ => True) (.slice Ao16 t309.length co16) t309) ∧ Aside0 (Kd.R k51 51 w' w.heap.size (fun _ => True) u314002 x314002_1) ∧ Aside0 (w'.heap[gb308]? = some (.cells #[.int .i64 x309000_1, .int .i64 x309001_1, (.slice none 0 0)] 30 (0, 0))) ∧ Aside0 (w'.heap[gb313]? = some (.cells #[.int .i64 x314000_1, .int .i64 x314001_1, u314002] 30 (0, 0))) ∧ Aside0 (Below w.heap.size w w'))
    case atStart => exact ⟨(0), (0), (0), (0), (0), (([] : List (S51))), (.slice none 0 0), (by first | rfl | (simp; done) | (simp [*]; done)), H', ⟨Nat.le_refl _⟩, ⟨by (with_reducible repeat (first | apply Kd.R_alloc | apply Kd.R_drewN | apply Kd.R_drew)); exact Kd.R_mono (Kd.R_far (p := ⟨gb313, 2, none⟩) (Kd.R_far (p := ⟨gb313, 1, none⟩) (Kd.R_far (p := ⟨gb313, 0, none⟩) (Kd.R_types HO312.out BK313.out (by decide)) (fun _ hk => hk.2) (.int .i64 0)) (fun _ hk => hk.2) (.int .i64 0)) (fun _ hk => hk.2) (.slice none 0 0)) (fun _ hk => trivial)⟩, ⟨by first | exact Kd.R_nil _ _ _ _ _ | exact Kd.N_nil _ _ _ _ _ | exact Kd.V_nil _ _ _ _ _ | exact Kd.Q_nil _ _ _ _ _ | exact Kd.S_nil _ _ _ _ _⟩, ⟨by (with_reducible repeat (first | refine blk_drewN ?_ _ | refine blk_drew ?_ | refine blk_alloc ?_ _)); refine blk_far ?_ NB308_313.out _; (with_reducible repeat (first | refine blk_drewN ?_ _ | refine blk_drew ?_ | refine blk_alloc ?_ _)); refine blk_far ?_ NB308_313.out _; (with_reducible repeat (first | refine blk_drewN ?_ _ | refine blk_drew ?_ | refine blk_alloc ?_ _)); refine blk_far ?_ NB308_313.out _; (with_reducible repeat (first | refine blk_drewN ?_ _ | refine blk_drew ?_ | refine blk_alloc ?_ _)); exact BK308.out⟩, ⟨by (with_reducible repeat (first | refine blk_drewN ?_ _ | refine blk_drew ?_ | refine blk_alloc ?_ _)); refine blk_put (cs := #[.int .i64 0, .int .i64 0, .slice none 0 0]) ?_ 2 _ rfl; (with_reducible repeat (first | refine blk_drewN ?_ _ | refine blk_drew ?_ | refine blk_alloc ?_ _)); refine blk_put (cs := #[.int .i64 0, .int .i64 0, .slice none 0 0]) ?_ 1 _ rfl; (with_reducible repeat (first | refine blk_drewN ?_ _ | refine blk_drew ?_ | refine blk_alloc ?_ _)); refine blk_put (cs := #[.int .i64 0, .int .i64 0, .slice none 0 0]) ?_ 0 _ rfl; (with_reducible repeat (first | refine blk_drewN ?_ _ | refine blk_drew ?_ | refine blk_alloc ?_ _)); exact BK313.out⟩, ⟨by repeat (first | (with_reducible first | exact HB.out | apply below_alloc | apply pw_below_drewN | apply below_drew1 | refine below_set ?_ GE308.out | refine below_set ?_ GE313.out) | exact HB.out)⟩⟩
    case round =>
      clear H'
      try clear c1
      try clear p2
      try clear c3
      try clear c3b0
      try clear c3b1
      try clear c3b2
      try clear c6
      try clear c7
      try clear c14
      try clear hcz10_0
      try clear hcz10_1
      try clear hcz10_2
      try clear hcz15_0
      try clear hcz15_1
      try clear hcz15_2
      try clear hcz8_0
      try clear hcz8_1
      try clear hcz8_2
      try clear hfz10_0
      try clear hfz10_1
      try clear hfz10_2
      try clear hfz15_0
      try clear hfz15_1
      try clear hfz15_2
      try clear hfz8_0
      try clear hfz8_1
      try clear hfz8_2
      obtain ⟨x8_1, x309000_1, x309001_1, x314000_1, x314001_1, x314002_1, u314002, rfl, HA, HK1, HO_5, HO_314002, BK308, BK313, HB⟩ := hrel
      cases gk with
      | zero => exact absurd HA.out (by simp [hopmeshref35_Parse.l0])
      | succ k1 =>
        have H := HA.out
        clear HA
        simp only [hopmeshref35_Parse.l0] at H
        by_cases c17 : x8_1 < (t309.length : Int)
        · rw [if_pos c17] at H
          have c17b0 : decide (x8_1 < (t309.length : Int)) = true := decide_eq_true c17
          clear c17
          have HC18 := Aside0.mk H
          clear H
          go_upto_if 30 with (fail)
          go_cut [9, 10] (fun v9 v10 wc => ∃ (kq : Nat) (x9_17 : ByteArray) (x10_17 : Int), v9 = .string x9_17 ∧ v10 = .int .i64 x10_17 ∧ Aside0 (hopmeshref35_Parse.j1 kq t309 t310 x8_1 x9_17 x10_17 x314000_1 x314001_1 x314002_1 = some (r1, r2, r3, r4, r5)) ∧ Aside0 (kq ≤ k1) ∧ Aside0 (Kd.R Kd.string 9 wc w.heap.size (fun _ => True) (.slice Ao16 t309.length co16) t309) ∧ Aside0 (Kd.R k51 51 wc w.heap.size (fun _ => True) u314002 x314002_1) ∧ Aside0 (wc.heap[gb308]? = some (.cells #[.int .i64 x309000_1, .int .i64 x309001_1, (.slice none 0 0)] 30 (0, 0))) ∧ Aside0 (wc.heap[gb313]? = some (.cells #[.int .i64 x314000_1, .int .i64 x314001_1, u314002] 30 (0, 0))) ∧ Aside0 (Below w.heap.size w wc))
          case first =>
            have H := HC18.out
            clear HC18
            by_cases c19 : x8_1 = 0
            · rw [if_pos c19] at H
              have c19b0 : (x8_1 == 0) = true := beq_iff_eq.mpr c19
              have c19b1 : (x8_1 != 0) = false := bne_eq_false_iff_eq.mpr c19
              clear c19
              (first | rw [c19b0] | (simp only [i64_w, i32_w]; rw [c19b0]) | skip)
              have H' := Aside0.mk H
              clear H
              go_wp2
              go_meet
              case rel => exact ⟨_, ((⟨#[115, 99, 104, 101, 100, 117, 108, 101]⟩ : ByteArray)), (2), (by first | rfl | (simp; done) | (simp [*]; done)), (by first | rfl | (simp; done) | (simp [*]; done)), H', ⟨by have := HK1.out; first | omega | exact Nat.le_refl _⟩, ⟨by (with_reducible repeat (first | apply Kd.R_alloc | apply Kd.R_drewN | apply Kd.R_drew)); exact HO_5.out⟩, ⟨by (with_reducible repeat (first | apply Kd.R_alloc | apply Kd.R_drewN | apply Kd.R_drew)); exact HO_314002.out⟩, ⟨by (with_reducible repeat (first | refine blk_drewN ?_ _ | refine blk_drew ?_ | refine blk_alloc ?_ _)); exact BK308.out⟩, ⟨by (with_reducible repeat (first | refine blk_drewN ?_ _ | refine blk_drew ?_ | refine blk_alloc ?_ _)); exact BK313.out⟩, ⟨by repeat (first | (with_reducible first | exact HB.out | apply below_alloc | apply pw_below_drewN | apply below_drew1 | refine below_set ?_ GE308.out | refine below_set ?_ GE313.out) | exact HB.out)⟩⟩
            · rw [if_neg c19] at H
              have c19b0 : (x8_1 == 0) = false := beq_eq_false_iff_ne.mpr c19
              have c19b1 : (x8_1 != 0) = true := bne_iff_ne.mpr c19
              (first | rw [c19b0] | (simp only [i64_w, i32_w]; rw [c19b0]) | skip)
              have H' := Aside0.mk H
              clear H
              go_wp2
              go_meet
              case rel => exact ⟨_, ((⟨#[99, 101, 108, 108]⟩ : ByteArray)), (5), (by first | rfl | (simp; done) | (simp [*]; done)), (by first | rfl | (simp; done) | (simp [*]; done)), H', ⟨by have := HK1.out; first | omega | exact Nat.le_refl _⟩, ⟨by (with_reducible repeat (first | apply Kd.R_alloc | apply Kd.R_drewN | apply Kd.R_drew)); exact HO_5.out⟩, ⟨by (with_reducible repeat (first | apply Kd.R_alloc | apply Kd.R_drewN | apply Kd.R_drew)); exact HO_314002.out⟩, ⟨by (with_reducible repeat (first | refine blk_drewN ?_ _ | refine blk_drew ?_ | refine blk_alloc ?_ _)); exact BK308.out⟩, ⟨by (with_reducible repeat (first | refine blk_drewN ?_ _ | refine blk_drew ?_ | refine blk_alloc ?_ _)); exact BK313.out⟩, ⟨by repeat (first | (with_reducible first | exact HB.out | apply below_alloc | apply pw_below_drewN | apply below_drew1 | refine below_set ?_ GE308.out | refine below_set ?_ GE313.out) | exact HB.out)⟩⟩
          case rest =>
            clear HC18
            try clear c1
            try clear p2
            try clear c3
            try clear c3b0
            try clear c3b1
            try clear c3b2
            try clear c6
            try clear c7
            try clear c14
            try clear c17
            try clear c17b0
            try clear c19
            try clear c19b0
            try clear c19b1
            try clear hcz10_0
            try clear hcz10_1
            try clear hcz10_2
            try clear hcz15_0
            try clear hcz15_1
            try clear hcz15_2
            try clear hcz8_0
            try clear hcz8_1
            try clear hcz8_2
            try clear hfz10_0
            try clear hfz10_1
            try clear hfz10_2
            try clear hfz15_0
            try clear hfz15_1
            try clear hfz15_2
            try clear hfz8_0
            try clear hfz8_1
            try clear hfz8_2
            try clear p2
            obtain ⟨kq, x9_17, x10_17, rfl, rfl, HA, HJ17, HO_5, HO_314002, BK308, BK313, HB⟩ := hcut
            cases kq with
            | zero => exact absurd HA.out (by simp [hopmeshref35_Parse.j1])
            | succ kj17 =>
              have H := HA.out
              clear HA
              simp only [hopmeshref35_Parse.j1] at H
              by_cases c20 : 0 ≤ x8_1
              · rw [if_pos c20] at H
                have c20b0 : decide (0 ≤ x8_1) = true := decide_eq_true c20
                clear c20
                by_cases c21 : x8_1 < (t309.length : Int)
                · rw [if_pos c21] at H
                  have c21b0 : decide (x8_1 < (t309.length : Int)) = true := decide_eq_true c21
                  clear c21
                  replace H := Option.bind_eq_some_iff.mp H
                  obtain ⟨⟨t316, t317⟩, A220, H⟩ := H
                  replace H : (if t317 = true then (if x8_1 = (wrap64 ((t309.length : Int) - 1)) then (hopmeshref35_Parse.j2 kj17 t309 t310 x8_1 t316 (!t310) x314000_1 x314001_1 x314002_1) else (hopmeshref35_Parse.j2 kj17 t309 t310 x8_1 t316 false x314000_1 x314001_1 x314002_1)) else (hopmeshref35_Parse.j2 kj17 t309 t310 x8_1 t316 true x314000_1 x314001_1 x314002_1)) = some (r1, r2, r3, r4, r5) := H
                  have A22 := Aside0.mk A220
                  clear A220
                  have HC23 := Aside0.mk H
                  clear H
                  have p315 : 0 ≤ (x8_1 : Int) := of_decide_eq_true (by first | (with_reducible assumption) | assumption)
                  have q315 : x8_1 < (t309.length : Int) := of_decide_eq_true (by first | (with_reducible assumption) | assumption)
                  obtain ⟨ad315, e315, hx315_0⟩ := Kd.at_string (Kd.R_reads' HO_5.out).2.2 x8_1 p315 q315
                  cases e315
                  replace p315 := eq_true p315
                  replace q315 := eq_true q315
                  go_upto_region 12 with (first | ((with_reducible refine gate_callee (f := 64) rfl ?_); refine goesL_ (some 38) rfl rfl Tryz.func64 (by kernel_rfl) rfl #[.string (rdOf ByteArray.empty t309 x8_1), .string x9_17, .int .i64 x10_17] rfl (by (try simp only [List.map_toArray, List.map_cons, List.map_nil]); first | done | rfl | (simp only [List.length_drop, List.length_take]; rfl)) ?_; (with_reducible refine (hopmeshref35_Read.calls kj17 (rdOf ByteArray.empty t309 x8_1) x9_17 x10_17 t316 t317 _ A22.out).mono ?_); rintro e w24 ⟨v318, rfl, ho0, hb⟩; refine ⟨_, rfl, ?_⟩; have n0_ := Aside0.mk (Kd.R_below (by (with_reducible repeat (first | apply Kd.R_alloc | apply Kd.R_drewN | apply Kd.R_drew)); exact HO_5.out) hb); have n1_ := Aside0.mk (Kd.R_below (by (with_reducible repeat (first | apply Kd.R_alloc | apply Kd.R_drewN | apply Kd.R_drew)); exact HO_314002.out) hb); have n2_ := Aside0.mk (Kd.R_lower ho0 (below_size (by repeat (first | (with_reducible first | exact HB.out | apply below_alloc | apply pw_below_drewN | apply below_drew1 | refine below_set ?_ GE308.out | refine below_set ?_ GE313.out) | exact HB.out)))); have n3_ := Aside0.mk (blk_below (g := gb308) (o := .cells #[.int .i64 x309000_1, .int .i64 x309001_1, .slice none 0 0] 30 (0, 0)) (by (with_reducible repeat (first | refine blk_drewN ?_ _ | refine blk_drew ?_ | refine blk_alloc ?_ _)); exact BK308.out) hb); have n4_ := Aside0.mk (blk_below (g := gb313) (o := .cells #[.int .i64 x314000_1, .int .i64 x314001_1, u314002] 30 (0, 0)) (by (with_reducible repeat (first | refine blk_drewN ?_ _ | refine blk_drew ?_ | refine blk_alloc ?_ _)); exact BK313.out) hb); have n5_ := Aside0.mk (below_step (by repeat (first | (with_reducible first | exact HB.out | apply below_alloc | apply pw_below_drewN | apply below_drew1 | refine below_set ?_ GE308.out | refine below_set ?_ GE313.out) | exact HB.out)) hb); clear HO_5; clear HO_314002; clear BK308; clear BK313; clear HB; have HO_5 := n0_; have HO_314002 := n1_; have HO319 := n2_; have BK308 := n3_; have BK313 := n4_; have HB := n5_; clear n0_ n1_ n2_ n3_ n4_ n5_; (try clear hb); (try clear hb2); (try clear hk); (try clear hi); (try clear ho0)))
                  (try simp only [Act.put, List.setIfInBounds_toArray, List.set_cons_zero, List.set_cons_succ])
                  go_cut [53] (fun v53 wc => ∃ (kq : Nat) (x53_22 : Bool), v53 = .bool x53_22 ∧ Aside0 (hopmeshref35_Parse.j2 kq t309 t310 x8_1 t316 x53_22 x314000_1 x314001_1 x314002_1 = some (r1, r2, r3, r4, r5)) ∧ Aside0 (kq ≤ kj17) ∧ Aside0 (Kd.R Kd.string 9 wc w.heap.size (fun _ => True) (.slice (some ad315) t309.length co16) t309) ∧ Aside0 (Kd.R (Kd.int .i64) 3 wc w.heap.size (fun _ => True) v318 t316) ∧ Aside0 (Kd.R k51 51 wc w.heap.size (fun _ => True) u314002 x314002_1) ∧ Aside0 (wc.heap[gb308]? = some (.cells #[.int .i64 x309000_1, .int .i64 x309001_1, (.slice none 0 0)] 30 (0, 0))) ∧ Aside0 (wc.heap[gb313]? = some (.cells #[.int .i64 x314000_1, .int .i64 x314001_1, u314002] 30 (0, 0))) ∧ Aside0 (Below w.heap.size w wc))
                  case first =>
                    have H := HC23.out
                    clear HC23
                    by_cases c25 : t317 = true
                    · subst c25
                      have H1 : (if x8_1 = (wrap64 ((t309.length : Int) - 1)) then (hopmeshref35_Parse.j2 kj17 t309 t310 x8_1 t316 (!t310) x314000_1 x314001_1 x314002_1) else (hopmeshref35_Parse.j2 kj17 t309 t310 x8_1 t316 false x314000_1 x314001_1 x314002_1)) = some (r1, r2, r3, r4, r5) := by rw [if_pos rfl] at H; exact H
                      clear H
                      have H := H1
                      clear H1
                      by_cases c26 : x8_1 = (wrap64 ((t309.length : Int) - 1))
                      · rw [if_pos c26] at H
                        have c26b0 : (x8_1 == (wrap64 ((t309.length : Int) - 1))) = true := beq_iff_eq.mpr c26
                        have c26b1 : (x8_1 != (wrap64 ((t309.length : Int) - 1))) = false := bne_eq_false_iff_eq.mpr c26
                        clear c26
                        (first | rw [c26b0] | (simp only [i64_w, i32_w]; rw [c26b0]) | skip)
                        have H' := Aside0.mk H
                        clear H
                        go_wp2
                        go_meet
                        case rel => exact ⟨_, (!t310), (by first | rfl | (simp; done) | (simp [*]; done)), H', ⟨by have := HK1.out; have := HJ17.out; first | omega | exact Nat.le_refl _⟩, ⟨by (with_reducible repeat (first | apply Kd.R_alloc | apply Kd.R_drewN | apply Kd.R_drew)); exact HO_5.out⟩, ⟨by (with_reducible repeat (first | apply Kd.R_alloc | apply Kd.R_drewN | apply Kd.R_drew)); exact HO319.out⟩, ⟨by (with_reducible repeat (first | apply Kd.R_alloc | apply Kd.R_drewN | apply Kd.R_drew)); exact HO_314002.out⟩, ⟨by (with_reducible repeat (first | refine blk_drewN ?_ _ | refine blk_drew ?_ | refine blk_alloc ?_ _)); exact BK308.out⟩, ⟨by (with_reducible repeat (first | refine blk_drewN ?_ _ | refine blk_drew ?_ | refine blk_alloc ?_ _)); exact BK313.out⟩, ⟨by repeat (first | (with_reducible first | exact HB.out | apply below_alloc | apply pw_below_drewN | apply below_drew1 | refine below_set ?_ GE308.out | refine below_set ?_ GE313.out) | exact HB.out)⟩⟩
                      · rw [if_neg c26] at H
                        have c26b0 : (x8_1 == (wrap64 ((t309.length : Int) - 1))) = false := beq_eq_false_iff_ne.mpr c26
                        have c26b1 : (x8_1 != (wrap64 ((t309.length : Int) - 1))) = true := bne_iff_ne.mpr c26
                        (first | rw [c26b0] | (simp only [i64_w, i32_w]; rw [c26b0]) | skip)
                        have H' := Aside0.mk H
                        clear H
                        go_wp2
                        go_meet
                        case rel => exact ⟨_, (false), (by first | rfl | (simp; done) | (simp [*]; done)), H', ⟨by have := HK1.out; have := HJ17.out; first | omega | exact Nat.le_refl _⟩, ⟨by (with_reducible repeat (first | apply Kd.R_alloc | apply Kd.R_drewN | apply Kd.R_drew)); exact HO_5.out⟩, ⟨by (with_reducible repeat (first | apply Kd.R_alloc | apply Kd.R_drewN | apply Kd.R_drew)); exact HO319.out⟩, ⟨by (with_reducible repeat (first | apply Kd.R_alloc | apply Kd.R_drewN | apply Kd.R_drew)); exact HO_314002.out⟩, ⟨by (with_reducible repeat (first | refine blk_drewN ?_ _ | refine blk_drew ?_ | refine blk_alloc ?_ _)); exact BK308.out⟩, ⟨by (with_reducible repeat (first | refine blk_drewN ?_ _ | refine blk_drew ?_ | refine blk_alloc ?_ _)); exact BK313.out⟩, ⟨by repeat (first | (with_reducible first | exact HB.out | apply below_alloc | apply pw_below_drewN | apply below_drew1 | refine below_set ?_ GE308.out | refine below_set ?_ GE313.out) | exact HB.out)⟩⟩
                    · replace c25 := Bool.eq_false_iff.mpr c25
                      subst c25
                      have H1 : (hopmeshref35_Parse.j2 kj17 t309 t310 x8_1 t316 true x314000_1 x314001_1 x314002_1) = some (r1, r2, r3, r4, r5) := by rw [if_neg (show ¬ (false = true) by decide)] at H; exact H
                      clear H
                      have H := H1
                      clear H1
                      have H' := Aside0.mk H
                      clear H
                      go_wp2
                      go_meet
                      case rel => exact ⟨_, (true), (by first | rfl | (simp; done) | (simp [*]; done)), H', ⟨by have := HK1.out; have := HJ17.out; first | omega | exact Nat.le_refl _⟩, ⟨by (with_reducible repeat (first | apply Kd.R_alloc | apply Kd.R_drewN | apply Kd.R_drew)); exact HO_5.out⟩, ⟨by (with_reducible repeat (first | apply Kd.R_alloc | apply Kd.R_drewN | apply Kd.R_drew)); exact HO319.out⟩, ⟨by (with_reducible repeat (first | apply Kd.R_alloc | apply Kd.R_drewN | apply Kd.R_drew)); exact HO_314002.out⟩, ⟨by (with_reducible repeat (first | refine blk_drewN ?_ _ | refine blk_drew ?_ | refine blk_alloc ?_ _)); exact BK308.out⟩, ⟨by (with_reducible repeat (first | refine blk_drewN ?_ _ | refine blk_drew ?_ | refine blk_alloc ?_ _)); exact BK313.out⟩, ⟨by repeat (first | (with_reducible first | exact HB.out | apply below_alloc | apply pw_below_drewN | apply below_drew1 | refine below_set ?_ GE308.out | refine below_set ?_ GE313.out) | exact HB.out)⟩⟩
                  case rest =>
                    clear HC23
                    try clear c1
                    try clear c2
                    try clear p2
                    try clear c3
                    try clear c3b0
                    try clear c3b1
                    try clear c3b2
                    try clear p3
                    try clear q3
                    try clear hx3
                    try clear c6
                    try clear p6
                    try clear c7
                    try clear c14
                    try clear c17
                    try clear c17b0
                    try clear c19
                    try clear c19b0
                    try clear c19b1
                    try clear c20
                    try clear c20b0
                    try clear c21
                    try clear c21b0
                    try clear c25
                    try clear c26
                    try clear c26b0
                    try clear c26b1
                    try clear hcz10_0
                    try clear hcz10_1
                    try clear hcz10_2
                    try clear hcz15_0
                    try clear hcz15_1
                    try clear hcz15_2
                    try clear hcz8_0
                    try clear hcz8_1
                    try clear hcz8_2
                    try clear hfz10_0
                    try clear hfz10_1
                    try clear hfz10_2
                    try clear hfz15_0
                    try clear hfz15_1
                    try clear hfz15_2
                    try clear hfz8_0
                    try clear hfz8_1
                    try clear hfz8_2
                    try clear hx315_0
                    try clear p2
                    try clear p315
                    try clear q315
                    obtain ⟨kq, x53_22, rfl, HA, HJ22, HO_5, HO_11, HO_314002, BK308, BK313, HB⟩ := hcut
                    cases kq with
                    | zero => exact absurd HA.out (by simp [hopmeshref35_Parse.j2])
                    | succ kj22 =>
                      have H := HA.out
                      clear HA
                      simp only [hopmeshref35_Parse.j2] at H
                      by_cases c27 : x53_22 = true
                      · subst c27
                        have H1 : (some (0, 0, ([] : List (S51)), x8_1, 3)) = some (r1, r2, r3, r4, r5) := by rw [if_pos rfl] at H; exact H
                        clear H
                        have H := H1
                        clear H1
                        simp only [Option.some.injEq, Prod.mk.injEq] at H
                        obtain ⟨rfl, rfl, rfl, rfl, rfl⟩ := H
                        have hnb28 := NB308_313.out
                        have hnc28 := NB313_308.out
                        have hcz29_0 : wc.cell? ⟨gb308, 0, none⟩ = some (.int .i64 x309000_1) := (blk_cell BK308.out 0).trans rfl
                        have hcz29_1 : wc.cell? ⟨gb308, 1, none⟩ = some (.int .i64 x309001_1) := (blk_cell BK308.out 1).trans rfl
                        have hcz29_2 : wc.cell? ⟨gb308, 2, none⟩ = some (.slice none 0 0) := (blk_cell BK308.out 2).trans rfl
                        have hfz29_0 := blk_frozen BK308.out 0
                        have hfz29_1 := blk_frozen BK308.out 1
                        have hfz29_2 := blk_frozen BK308.out 2
                        go_wp2
                        refine bodyPost_ret (results_ctt rfl _ _ gb308 30 #[.int .i64 0, .int .i64 0, .slice none 0 0] (0, 0) _ rfl (by (with_reducible repeat (first | refine blk_drewN ?_ _ | refine blk_drew ?_ | refine blk_alloc ?_ _)); refine blk_put (cs := #[.int .i64 0, .int .i64 0, .slice none 0 0]) ?_ 2 _ rfl; (with_reducible repeat (first | refine blk_drewN ?_ _ | refine blk_drew ?_ | refine blk_alloc ?_ _)); refine blk_put (cs := #[.int .i64 0, .int .i64 x309001_1, .slice none 0 0]) ?_ 1 _ rfl; (with_reducible repeat (first | refine blk_drewN ?_ _ | refine blk_drew ?_ | refine blk_alloc ?_ _)); refine blk_put (cs := #[.int .i64 x309000_1, .int .i64 x309001_1, .slice none 0 0]) ?_ 0 _ rfl; (with_reducible repeat (first | refine blk_drewN ?_ _ | refine blk_drew ?_ | refine blk_alloc ?_ _)); exact BK308.out) Tryz.underlying30 rfl (by kernel_rfl)) rfl ?_
                        exact ⟨_, by first | rfl | (simp [errW_none, errW_some] <;> rfl) | (simp [*, errW_none, errW_some] <;> rfl), by first | exact Kd.R_nil _ _ _ _ _ | exact Kd.N_nil _ _ _ _ _ | exact Kd.V_nil _ _ _ _ _ | exact Kd.Q_nil _ _ _ _ _ | exact Kd.S_nil _ _ _ _ _, by repeat (first | (with_reducible first | exact HB.out | apply below_alloc | apply pw_below_drewN | apply below_drew1 | refine below_set ?_ GE308.out | refine below_set ?_ GE313.out) | exact HB.out)⟩
                      · replace c27 := Bool.eq_false_iff.mpr c27
                        subst c27
                        have H1 : (if x8_1 = 0 then (if 0 < (t316.length : Int) then (if 1 < (t316.length : Int) then (hopmeshref35_Parse.l0 kj22 t309 t310 (wrap64 (x8_1 + 1)) (rd t316 0) (rd t316 1) x314002_1) else (none)) else (none)) else (if 0 < (t316.length : Int) then (if 1 < (t316.length : Int) then (if 2 < (t316.length : Int) then (if 3 < (t316.length : Int) then (if 4 < (t316.length : Int) then (if x314002_1.length < 3518437208883 then (hopmeshref35_Parse.l0 kj22 t309 t310 (wrap64 (x8_1 + 1)) x314000_1 x314001_1 (x314002_1 ++ [(⟨rd t316 0, rd t316 1, rd t316 2, rd t316 3, rd t316 4⟩ : S51)])) else (none)) else (none)) else (none)) else (none)) else (none)) else (none))) = some (r1, r2, r3, r4, r5) := by rw [if_neg (show ¬ (false = true) by decide)] at H; exact H
                        clear H
                        have H := H1
                        clear H1
                        by_cases c30 : x8_1 = 0
                        · rw [if_pos c30] at H
                          have c30b0 : (x8_1 == 0) = true := beq_iff_eq.mpr c30
                          have c30b1 : (x8_1 != 0) = false := bne_eq_false_iff_eq.mpr c30
                          clear c30
                          by_cases c31 : 0 < (t316.length : Int)
                          · rw [if_pos c31] at H
                            have c31b0 : decide (0 < (t316.length : Int)) = true := decide_eq_true c31
                            have c31b1 : decide (0 < t316.length) = true := decide_eq_true (by omega)
                            clear c31
                            by_cases c32 : 1 < (t316.length : Int)
                            · rw [if_pos c32] at H
                              have c32b0 : decide (1 < (t316.length : Int)) = true := decide_eq_true c32
                              have c32b1 : decide (1 < t316.length) = true := decide_eq_true (by omega)
                              clear c32
                              have H' := Aside0.mk H
                              clear H
                              try go_wp2
                              have n0_ := Aside0.mk (Kd.R_drew HO_5.out)
                              have n1_ := Aside0.mk (Kd.R_drew HO_11.out)
                              have n2_ := Aside0.mk (Kd.R_drew HO_314002.out)
                              have n3_ := Aside0.mk (blk_drew BK308.out)
                              have n4_ := Aside0.mk (blk_drew BK313.out)
                              have n5_ := Aside0.mk (below_drew1 HB.out)
                              clear HO_5
                              clear HO_11
                              clear HO_314002
                              clear BK308
                              clear BK313
                              clear HB
                              have HO_5 := n0_
                              have HO_11 := n1_
                              have HO_314002 := n2_
                              have BK308 := n3_
                              have BK313 := n4_
                              have HB := n5_
                              clear n0_ n1_ n2_ n3_ n4_ n5_
                              obtain ⟨Ao34, co34, eo34⟩ := Kd.R_slice HO_11.out
                              (first | subst eo34 | (injection eo34 with f1_ f2_ f3_; have f4_ := f1_.symm; have f5_ := f3_.symm; clear f1_ f2_ f3_; subst f4_; subst f5_))
                              have p320 : 0 ≤ (0 : Int) := (by omega)
                              have q320 : 0 < (t316.length : Int) := of_decide_eq_true (by first | (with_reducible assumption) | assumption)
                              obtain ⟨ad320, e320, hx320_0⟩ := Kd.at_int (Kd.R_reads' HO_11.out).2.2 0 p320 q320
                              cases e320
                              have qi320 : (0 < t316.length) = True := eq_true (by omega)
                              (try rw [show ((0 : Int)).toNat = 0 from rfl] at hx320_0)
                              (try rw [Addr.add_zero'] at hx320_0)
                              replace p320 := eq_true p320
                              replace q320 := eq_true q320
                              have p321 : 0 ≤ (1 : Int) := (by omega)
                              have q321 : 1 < (t316.length : Int) := of_decide_eq_true (by first | (with_reducible assumption) | assumption)
                              obtain ⟨ad321, e321, hx321_0⟩ := Kd.at_int (Kd.R_reads' HO_11.out).2.2 1 p321 q321
                              obtain rfl : ad320 = ad321 := (by injection e321)
                              (try simp only [show (1 : Int).toNat = 1 from rfl, Nat.reduceMul, Nat.reduceEqDiff, Go.Addr.add, ↓reduceIte] at hx321_0)
                              have qi321 : (1 < t316.length) = True := eq_true (by omega)
                              (try rw [show ((1 : Int)).toNat = 1 from rfl] at hx321_0)
                              replace p321 := eq_true p321
                              replace q321 := eq_true q321
                              refine start_ (n := 10) (S := fun w' => w'.cell? ad320 = some (.int .i64 (rd t316 0)) ∧ w'.cell? ⟨ad320.block, ad320.off + 1, none⟩ = some (.int .i64 (rd t316 1))) (ds := []) #[false, false, false, false, false, false, false, false, false, false] (by kernel_rfl) rfl rfl ⟨hx320_0, hx321_0⟩ (fun hHeld => ?_); refine with_tabW hopmeshref35_Parse.tab15 hopmeshref35_Parse.bits15 (fun HT_ HW_ => ?_)
                              generalize wc.drew = w33 at HO_5 HO_11 HO_314002 BK308 BK313 HB hx320_0 hx321_0 hHeld ⊢
                              refine pure_ (i := 0) (N := some 58) (v := ?_) (a' := ?_) #[true, false, false, false, false, false, false, false, false, false] rfl rfl (any_of HT_.out (by kernel_rfl)) (fun _ _ _ h => h) (Or.inl ⟨by rfl, ?_⟩) ?_ ?_
                              rotate_left
                              · intro w'
                                go_simp
                                with_reducible rfl
                              rotate_left
                              · simp only [Act.put, List.setIfInBounds_toArray, List.set_cons_zero, List.set_cons_succ, i64_w, i32_w]
                                rfl
                              refine pure_ (i := 1) (N := some 59) (v := ?_) (a' := ?_) #[true, true, false, false, false, false, false, false, false, false] rfl rfl (any_of HT_.out (by kernel_rfl)) (fun _ _ _ h => h) (Or.inl ⟨by rfl, ?_⟩) ?_ ?_
                              rotate_left
                              · intro w'
                                go_simp
                                with_reducible rfl
                              rotate_left
                              · simp only [Act.put, List.setIfInBounds_toArray, List.set_cons_zero, List.set_cons_succ, i64_w, i32_w]
                                rfl
                              refine pure_ (i := 3) (N := some 61) (v := ?_) (a' := ?_) #[true, true, false, true, false, false, false, false, false, false] rfl rfl (any_of HT_.out (by kernel_rfl)) (fun _ _ _ h => h) (Or.inl ⟨by rfl, ?_⟩) ?_ ?_
                              rotate_left
                              · intro w'
                                go_simp
                                with_reducible rfl
                              rotate_left
                              · simp only [Act.put, List.setIfInBounds_toArray, List.set_cons_zero, List.set_cons_succ, i64_w, i32_w]
                                rfl
                              refine pure_ (i := 4) (N := some 62) (v := ?_) (a' := ?_) #[true, true, false, true, true, false, false, false, false, false] rfl rfl (any_of HT_.out (by kernel_rfl)) (fun _ _ _ h => h) (Or.inl ⟨by rfl, ?_⟩) ?_ ?_
                              rotate_left
                              · intro w'
                                go_simp
                                with_reducible rfl
                              rotate_left
                              · simp only [Act.put, List.setIfInBounds_toArray, List.set_cons_zero, List.set_cons_succ, i64_w, i32_w]
                                rfl
                              refine take_ (i := 2) (N := some 60) (v := ?_) (a' := ?_) #[true, true, true, true, true, false, false, false, false, false] rfl rfl (take_ofW HT_.out HW_.out (by kernel_rfl)) (fun _ _ _ h => h) (Or.inl ⟨by rfl, ?_⟩) hHeld ?_ ?_
                              rotate_left
                              · rintro w' ⟨s0, s1⟩
                                go_simp
                                with_reducible rfl
                              rotate_left
                              · simp only [Act.put, List.setIfInBounds_toArray, List.set_cons_zero, List.set_cons_succ, i64_w, i32_w]
                                rfl
                              refine pure_ (i := 6) (N := some 64) (v := ?_) (a' := ?_) #[true, true, true, true, true, false, true, false, false, false] rfl rfl (any_of HT_.out (by kernel_rfl)) (fun _ _ _ h => h) (Or.inl ⟨by rfl, ?_⟩) ?_ ?_
                              rotate_left
                              · intro w'
                                go_simp
                                with_reducible rfl
                              rotate_left
                              · simp only [Act.put, List.setIfInBounds_toArray, List.set_cons_zero, List.set_cons_succ, i64_w, i32_w]
                                rfl
                              refine take_ (i := 5) (N := some 63) (v := ?_) (a' := ?_) #[true, true, true, true, true, true, true, false, false, false] rfl rfl (take_ofW HT_.out HW_.out (by kernel_rfl)) (fun _ _ _ h => h) (Or.inl ⟨by rfl, ?_⟩) hHeld ?_ ?_
                              rotate_left
                              · rintro w' ⟨s0, s1⟩
                                go_simp
                                with_reducible rfl
                              rotate_left
                              · simp only [Act.put, List.setIfInBounds_toArray, List.set_cons_zero, List.set_cons_succ, i64_w, i32_w]
                                rfl
                              refine one_ (i := 7) (N := none) #[true, true, true, true, true, true, true, true, false, false] rfl rfl (one_of HT_.out (by kernel_rfl)) (by decide) (fun K hK => ?_)
                              have hs35 : w33.cell? ⟨gb313, 0, none⟩ = some (.int .i64 x314000_1) := (blk_cell BK313.out 0).trans rfl
                              have hfs35 := blk_frozen BK313.out 0
                              have hns35_0 := NB308_313.out
                              have hms35_0 := NB313_308.out
                              refine skip_ (w1 := ?_) (by rfl) rfl ?_ ?_
                              rotate_left
                              · go_simp
                                rfl
                              refine hK.out _ _ ⟨((cell_far (p := ⟨gb313, _, none⟩) (by first | exact Kd.own_blk (Kd.R_ne HO_11.out BK313.out (by decide)) | (rw [add_block]; exact Kd.own_blk (Kd.R_ne HO_11.out BK313.out (by decide))) | (show (Addr.add _ _).block ≠ _; rw [add_block]; exact Kd.own_blk (Kd.R_ne HO_11.out BK313.out (by decide))) | (dsimp only; exact Kd.own_blk (Kd.R_ne HO_11.out BK313.out (by decide)))) _).trans (hHeld.1)), ((cell_far (p := ⟨gb313, _, none⟩) (by first | exact Kd.own_blk (Kd.R_ne HO_11.out BK313.out (by decide)) | (rw [add_block]; exact Kd.own_blk (Kd.R_ne HO_11.out BK313.out (by decide))) | (show (Addr.add _ _).block ≠ _; rw [add_block]; exact Kd.own_blk (Kd.R_ne HO_11.out BK313.out (by decide))) | (dsimp only; exact Kd.own_blk (Kd.R_ne HO_11.out BK313.out (by decide)))) _).trans (hHeld.2))⟩ (fun hHeld => ?_)
                              clear hK K
                              refine pure_ (i := 8) (N := some 65) (v := ?_) (a' := ?_) #[true, true, true, true, true, true, true, true, true, false] rfl rfl (any_of HT_.out (by kernel_rfl)) (fun _ _ _ h => h) (Or.inl ⟨by rfl, ?_⟩) ?_ ?_
                              rotate_left
                              · intro w'
                                go_simp
                                with_reducible rfl
                              rotate_left
                              · simp only [Act.put, List.setIfInBounds_toArray, List.set_cons_zero, List.set_cons_succ, i64_w, i32_w]
                                rfl
                              refine one_ (i := 9) (N := none) #[true, true, true, true, true, true, true, true, true, true] rfl rfl (one_of HT_.out (by kernel_rfl)) (by decide) (fun K hK => ?_)
                              have hs36 : w33.cell? ⟨gb313, 1, none⟩ = some (.int .i64 x314001_1) := (blk_cell BK313.out 1).trans rfl
                              have hfs36 := blk_frozen BK313.out 1
                              have hns36_0 := NB308_313.out
                              have hms36_0 := NB313_308.out
                              refine skip_ (w1 := ?_) (by rfl) rfl ?_ ?_
                              rotate_left
                              · go_simp
                                rfl
                              refine hK.out _ _ ⟨((cell_far (p := ⟨gb313, _, none⟩) (by first | exact Kd.own_blk (Kd.R_ne HO_11.out BK313.out (by decide)) | (rw [add_block]; exact Kd.own_blk (Kd.R_ne HO_11.out BK313.out (by decide))) | (show (Addr.add _ _).block ≠ _; rw [add_block]; exact Kd.own_blk (Kd.R_ne HO_11.out BK313.out (by decide))) | (dsimp only; exact Kd.own_blk (Kd.R_ne HO_11.out BK313.out (by decide)))) _).trans (hHeld.1)), ((cell_far (p := ⟨gb313, _, none⟩) (by first | exact Kd.own_blk (Kd.R_ne HO_11.out BK313.out (by decide)) | (rw [add_block]; exact Kd.own_blk (Kd.R_ne HO_11.out BK313.out (by decide))) | (show (Addr.add _ _).block ≠ _; rw [add_block]; exact Kd.own_blk (Kd.R_ne HO_11.out BK313.out (by decide))) | (dsimp only; exact Kd.own_blk (Kd.R_ne HO_11.out BK313.out (by decide)))) _).trans (hHeld.2))⟩ (fun hHeld => ?_)
                              clear hK K
                              refine done_ (done_of HT_.out (by kernel_rfl)) ?_
                              try go_wp2
                              go_roundg kj22
                              case measure => have := HK1.out; have := HJ17.out; have := HJ22.out; omega
                              case rel => exact ⟨(wrap64 (x8_1 + 1)), (x309000_1), (x309001_1), (rd t316 0), (rd t316 1), (x314002_1), (u314002), (by first | rfl | (simp; done) | (simp [*]; done)), H', ⟨by have := HK1.out; have := HJ17.out; have := HJ22.out; omega⟩, ⟨by (with_reducible repeat (first | apply Kd.R_alloc | apply Kd.R_drewN | apply Kd.R_drew)); exact Kd.R_mono (Kd.R_far (p := ⟨gb313, 1, none⟩) (Kd.R_far (p := ⟨gb313, 0, none⟩) (Kd.R_types HO_5.out BK313.out (by decide)) (fun _ hk => hk.2) (.int .i64 (rd t316 0))) (fun _ hk => hk.2) (.int .i64 (rd t316 1))) (fun _ hk => trivial)⟩, ⟨by (with_reducible repeat (first | apply Kd.R_alloc | apply Kd.R_drewN | apply Kd.R_drew)); exact Kd.R_mono (Kd.R_far (p := ⟨gb313, 1, none⟩) (Kd.R_far (p := ⟨gb313, 0, none⟩) (Kd.R_types HO_314002.out BK313.out (by decide)) (fun _ hk => hk.2) (.int .i64 (rd t316 0))) (fun _ hk => hk.2) (.int .i64 (rd t316 1))) (fun _ hk => trivial)⟩, ⟨by (with_reducible repeat (first | refine blk_drewN ?_ _ | refine blk_drew ?_ | refine blk_alloc ?_ _)); refine blk_far ?_ NB308_313.out _; (with_reducible repeat (first | refine blk_drewN ?_ _ | refine blk_drew ?_ | refine blk_alloc ?_ _)); refine blk_far ?_ NB308_313.out _; (with_reducible repeat (first | refine blk_drewN ?_ _ | refine blk_drew ?_ | refine blk_alloc ?_ _)); exact BK308.out⟩, ⟨by (with_reducible repeat (first | refine blk_drewN ?_ _ | refine blk_drew ?_ | refine blk_alloc ?_ _)); refine blk_put (cs := #[.int .i64 (rd t316 0), .int .i64 x314001_1, u314002]) ?_ 1 _ rfl; (with_reducible repeat (first | refine blk_drewN ?_ _ | refine blk_drew ?_ | refine blk_alloc ?_ _)); refine blk_put (cs := #[.int .i64 x314000_1, .int .i64 x314001_1, u314002]) ?_ 0 _ rfl; (with_reducible repeat (first | refine blk_drewN ?_ _ | refine blk_drew ?_ | refine blk_alloc ?_ _)); exact BK313.out⟩, ⟨by repeat (first | (with_reducible first | exact HB.out | apply below_alloc | apply pw_below_drewN | apply below_drew1 | refine below_set ?_ GE308.out | refine below_set ?_ GE313.out) | exact HB.out)⟩⟩
                            · rw [if_neg c32] at H
                              exact absurd H (by simp)
                          · rw [if_neg c31] at H
                            exact absurd H (by simp)
                        · rw [if_neg c30] at H
                          have c30b0 : (x8_1 == 0) = false := beq_eq_false_iff_ne.mpr c30
                          have c30b1 : (x8_1 != 0) = true := bne_iff_ne.mpr c30
                          by_cases c37 : 0 < (t316.length : Int)
                          · rw [if_pos c37] at H
                            have c37b0 : decide (0 < (t316.length : Int)) = true := decide_eq_true c37
                            have c37b1 : decide (0 < t316.length) = true := decide_eq_true (by omega)
                            clear c37
                            by_cases c38 : 1 < (t316.length : Int)
                            · rw [if_pos c38] at H
                              have c38b0 : decide (1 < (t316.length : Int)) = true := decide_eq_true c38
                              have c38b1 : decide (1 < t316.length) = true := decide_eq_true (by omega)
                              clear c38
                              by_cases c39 : 2 < (t316.length : Int)
                              · rw [if_pos c39] at H
                                have c39b0 : decide (2 < (t316.length : Int)) = true := decide_eq_true c39
                                have c39b1 : decide (2 < t316.length) = true := decide_eq_true (by omega)
                                clear c39
                                by_cases c40 : 3 < (t316.length : Int)
                                · rw [if_pos c40] at H
                                  have c40b0 : decide (3 < (t316.length : Int)) = true := decide_eq_true c40
                                  have c40b1 : decide (3 < t316.length) = true := decide_eq_true (by omega)
                                  clear c40
                                  by_cases c41 : 4 < (t316.length : Int)
                                  · rw [if_pos c41] at H
                                    have c41b0 : decide (4 < (t316.length : Int)) = true := decide_eq_true c41
                                    have c41b1 : decide (4 < t316.length) = true := decide_eq_true (by omega)
                                    clear c41
                                    by_cases c42 : x314002_1.length < 3518437208883
                                    · rw [if_pos c42] at H
                                      have LMc42 := Aside0.mk c42
                                      clear c42
                                      obtain ⟨y327, hy327⟩ : ∃ y_ : List (S51), y_ = (x314002_1 ++ [(⟨rd t316 0, rd t316 1, rd t316 2, rd t316 3, rd t316 4⟩ : S51)]) := ⟨_, rfl⟩
                                      replace H : (hopmeshref35_Parse.l0 kj22 t309 t310 (wrap64 (x8_1 + 1)) x314000_1 x314001_1 y327) = some (r1, r2, r3, r4, r5) := by first | (rw [hy327]; with_reducible exact H) | (have H2_ := (Option.bind_some _ _).symm.trans H; rw [hy327]; with_reducible exact H2_) | (have H2_ := (Option.bind_some _ _).symm.trans H; with_reducible exact H2_) | with_reducible exact H | (rw [hy327]; exact H) | exact H
                                      have Ny327 := Aside0.mk hy327
                                      clear hy327
                                      have H' := Aside0.mk H
                                      clear H
                                      try go_wp2
                                      have n0_ := Aside0.mk (Kd.R_drew HO_5.out)
                                      have n1_ := Aside0.mk (Kd.R_drew HO_11.out)
                                      have n2_ := Aside0.mk (Kd.R_drew HO_314002.out)
                                      have n3_ := Aside0.mk (blk_drew BK308.out)
                                      have n4_ := Aside0.mk (blk_drew BK313.out)
                                      have n5_ := Aside0.mk (below_drew1 HB.out)
                                      clear HO_5
                                      clear HO_11
                                      clear HO_314002
                                      clear BK308
                                      clear BK313
                                      clear HB
                                      have HO_5 := n0_
                                      have HO_11 := n1_
                                      have HO_314002 := n2_
                                      have BK308 := n3_
                                      have BK313 := n4_
                                      have HB := n5_
                                      clear n0_ n1_ n2_ n3_ n4_ n5_
                                      obtain ⟨Ao44, co44, eo44⟩ := Kd.R_slice HO_11.out
                                      (first | subst eo44 | (injection eo44 with f1_ f2_ f3_; have f4_ := f1_.symm; have f5_ := f3_.symm; clear f1_ f2_ f3_; subst f4_; subst f5_))
                                      have p322 : 0 ≤ (0 : Int) := (by omega)
                                      have q322 : 0 < (t316.length : Int) := of_decide_eq_true (by first | (with_reducible assumption) | assumption)
                                      obtain ⟨ad322, e322, hx322_0⟩ := Kd.at_int (Kd.R_reads' HO_11.out).2.2 0 p322 q322
                                      cases e322
                                      have qi322 : (0 < t316.length) = True := eq_true (by omega)
                                      (try rw [show ((0 : Int)).toNat = 0 from rfl] at hx322_0)
                                      (try rw [Addr.add_zero'] at hx322_0)
                                      replace p322 := eq_true p322
                                      replace q322 := eq_true q322
                                      have p323 : 0 ≤ (1 : Int) := (by omega)
                                      have q323 : 1 < (t316.length : Int) := of_decide_eq_true (by first | (with_reducible assumption) | assumption)
                                      obtain ⟨ad323, e323, hx323_0⟩ := Kd.at_int (Kd.R_reads' HO_11.out).2.2 1 p323 q323
                                      obtain rfl : ad322 = ad323 := (by injection e323)
                                      (try simp only [show (1 : Int).toNat = 1 from rfl, Nat.reduceMul, Nat.reduceEqDiff, Go.Addr.add, ↓reduceIte] at hx323_0)
                                      have qi323 : (1 < t316.length) = True := eq_true (by omega)
                                      (try rw [show ((1 : Int)).toNat = 1 from rfl] at hx323_0)
                                      replace p323 := eq_true p323
                                      replace q323 := eq_true q323
                                      have p324 : 0 ≤ (2 : Int) := (by omega)
                                      have q324 : 2 < (t316.length : Int) := of_decide_eq_true (by first | (with_reducible assumption) | assumption)
                                      obtain ⟨ad324, e324, hx324_0⟩ := Kd.at_int (Kd.R_reads' HO_11.out).2.2 2 p324 q324
                                      obtain rfl : ad322 = ad324 := (by injection e324)
                                      (try simp only [show (2 : Int).toNat = 2 from rfl, Nat.reduceMul, Nat.reduceEqDiff, Go.Addr.add, ↓reduceIte] at hx324_0)
                                      have qi324 : (2 < t316.length) = True := eq_true (by omega)
                                      (try rw [show ((2 : Int)).toNat = 2 from rfl] at hx324_0)
                                      replace p324 := eq_true p324
                                      replace q324 := eq_true q324
                                      have p325 : 0 ≤ (3 : Int) := (by omega)
                                      have q325 : 3 < (t316.length : Int) := of_decide_eq_true (by first | (with_reducible assumption) | assumption)
                                      obtain ⟨ad325, e325, hx325_0⟩ := Kd.at_int (Kd.R_reads' HO_11.out).2.2 3 p325 q325
                                      obtain rfl : ad322 = ad325 := (by injection e325)
                                      (try simp only [show (3 : Int).toNat = 3 from rfl, Nat.reduceMul, Nat.reduceEqDiff, Go.Addr.add, ↓reduceIte] at hx325_0)
                                      have qi325 : (3 < t316.length) = True := eq_true (by omega)
                                      (try rw [show ((3 : Int)).toNat = 3 from rfl] at hx325_0)
                                      replace p325 := eq_true p325
                                      replace q325 := eq_true q325
                                      have p326 : 0 ≤ (4 : Int) := (by omega)
                                      have q326 : 4 < (t316.length : Int) := of_decide_eq_true (by first | (with_reducible assumption) | assumption)
                                      obtain ⟨ad326, e326, hx326_0⟩ := Kd.at_int (Kd.R_reads' HO_11.out).2.2 4 p326 q326
                                      obtain rfl : ad322 = ad326 := (by injection e326)
                                      (try simp only [show (4 : Int).toNat = 4 from rfl, Nat.reduceMul, Nat.reduceEqDiff, Go.Addr.add, ↓reduceIte] at hx326_0)
                                      have qi326 : (4 < t316.length) = True := eq_true (by omega)
                                      (try rw [show ((4 : Int)).toNat = 4 from rfl] at hx326_0)
                                      replace p326 := eq_true p326
                                      replace q326 := eq_true q326
                                      refine start_ (n := 22) (S := fun w' => w'.cell? ⟨gb313, 0, none⟩ = some (.int .i64 x314000_1) ∧ w'.cell? ⟨gb313, 1, none⟩ = some (.int .i64 x314001_1) ∧ w'.cell? ⟨gb313, 2, none⟩ = some (u314002) ∧ w'.cell? ad322 = some (.int .i64 (rd t316 0)) ∧ w'.cell? ⟨ad322.block, ad322.off + 1, none⟩ = some (.int .i64 (rd t316 1)) ∧ w'.cell? ⟨ad322.block, ad322.off + 2, none⟩ = some (.int .i64 (rd t316 2)) ∧ w'.cell? ⟨ad322.block, ad322.off + 3, none⟩ = some (.int .i64 (rd t316 3)) ∧ w'.cell? ⟨ad322.block, ad322.off + 4, none⟩ = some (.int .i64 (rd t316 4))) (ds := [19, 21]) #[false, false, false, false, false, false, false, false, false, false, false, false, false, false, false, false, false, false, false, false, false, false] (by kernel_rfl) rfl rfl ⟨(blk_cell BK313.out 0).trans rfl, (blk_cell BK313.out 1).trans rfl, (blk_cell BK313.out 2).trans rfl, hx322_0, hx323_0, hx324_0, hx325_0, hx326_0⟩ (fun hHeld => ?_); refine with_tabW hopmeshref35_Parse.tab16 hopmeshref35_Parse.bits16 (fun HT_ HW_ => ?_)
                                      generalize wc.drew = w43 at HO_5 HO_11 HO_314002 BK308 BK313 HB hx322_0 hx323_0 hx324_0 hx325_0 hx326_0 hHeld ⊢
                                      refine pure_ (i := 0) (N := some 66) (v := ?_) (a' := ?_) #[true, false, false, false, false, false, false, false, false, false, false, false, false, false, false, false, false, false, false, false, false, false] rfl rfl (any_of HT_.out (by kernel_rfl)) (fun _ _ _ h => h) (Or.inl ⟨by rfl, ?_⟩) ?_ ?_
                                      rotate_left
                                      · intro w'
                                        go_simp
                                        with_reducible rfl
                                      rotate_left
                                      · simp only [Act.put, List.setIfInBounds_toArray, List.set_cons_zero, List.set_cons_succ, i64_w, i32_w]
                                        rfl
                                      refine pure_ (i := 2) (N := some 68) (v := ?_) (a' := ?_) #[true, false, true, false, false, false, false, false, false, false, false, false, false, false, false, false, false, false, false, false, false, false] rfl rfl (any_of HT_.out (by kernel_rfl)) (fun _ _ _ h => h) (Or.inl ⟨by rfl, ?_⟩) ?_ ?_
                                      rotate_left
                                      · intro w'
                                        go_simp
                                        with_reducible rfl
                                      rotate_left
                                      · simp only [Act.put, List.setIfInBounds_toArray, List.set_cons_zero, List.set_cons_succ, i64_w, i32_w]
                                        rfl
                                      refine pure_ (i := 3) (N := some 69) (v := ?_) (a' := ?_) #[true, false, true, true, false, false, false, false, false, false, false, false, false, false, false, false, false, false, false, false, false, false] rfl rfl (any_of HT_.out (by kernel_rfl)) (fun _ _ _ h => h) (Or.inl ⟨by rfl, ?_⟩) ?_ ?_
                                      rotate_left
                                      · intro w'
                                        go_simp
                                        with_reducible rfl
                                      rotate_left
                                      · simp only [Act.put, List.setIfInBounds_toArray, List.set_cons_zero, List.set_cons_succ, i64_w, i32_w]
                                        rfl
                                      refine pure_ (i := 5) (N := some 71) (v := ?_) (a' := ?_) #[true, false, true, true, false, true, false, false, false, false, false, false, false, false, false, false, false, false, false, false, false, false] rfl rfl (any_of HT_.out (by kernel_rfl)) (fun _ _ _ h => h) (Or.inl ⟨by rfl, ?_⟩) ?_ ?_
                                      rotate_left
                                      · intro w'
                                        go_simp
                                        with_reducible rfl
                                      rotate_left
                                      · simp only [Act.put, List.setIfInBounds_toArray, List.set_cons_zero, List.set_cons_succ, i64_w, i32_w]
                                        rfl
                                      refine pure_ (i := 6) (N := some 72) (v := ?_) (a' := ?_) #[true, false, true, true, false, true, true, false, false, false, false, false, false, false, false, false, false, false, false, false, false, false] rfl rfl (any_of HT_.out (by kernel_rfl)) (fun _ _ _ h => h) (Or.inl ⟨by rfl, ?_⟩) ?_ ?_
                                      rotate_left
                                      · intro w'
                                        go_simp
                                        with_reducible rfl
                                      rotate_left
                                      · simp only [Act.put, List.setIfInBounds_toArray, List.set_cons_zero, List.set_cons_succ, i64_w, i32_w]
                                        rfl
                                      refine pure_ (i := 8) (N := some 74) (v := ?_) (a' := ?_) #[true, false, true, true, false, true, true, false, true, false, false, false, false, false, false, false, false, false, false, false, false, false] rfl rfl (any_of HT_.out (by kernel_rfl)) (fun _ _ _ h => h) (Or.inl ⟨by rfl, ?_⟩) ?_ ?_
                                      rotate_left
                                      · intro w'
                                        go_simp
                                        with_reducible rfl
                                      rotate_left
                                      · simp only [Act.put, List.setIfInBounds_toArray, List.set_cons_zero, List.set_cons_succ, i64_w, i32_w]
                                        rfl
                                      refine pure_ (i := 9) (N := some 75) (v := ?_) (a' := ?_) #[true, false, true, true, false, true, true, false, true, true, false, false, false, false, false, false, false, false, false, false, false, false] rfl rfl (any_of HT_.out (by kernel_rfl)) (fun _ _ _ h => h) (Or.inl ⟨by rfl, ?_⟩) ?_ ?_
                                      rotate_left
                                      · intro w'
                                        go_simp
                                        with_reducible rfl
                                      rotate_left
                                      · simp only [Act.put, List.setIfInBounds_toArray, List.set_cons_zero, List.set_cons_succ, i64_w, i32_w]
                                        rfl
                                      refine pure_ (i := 11) (N := some 77) (v := ?_) (a' := ?_) #[true, false, true, true, false, true, true, false, true, true, false, true, false, false, false, false, false, false, false, false, false, false] rfl rfl (any_of HT_.out (by kernel_rfl)) (fun _ _ _ h => h) (Or.inl ⟨by rfl, ?_⟩) ?_ ?_
                                      rotate_left
                                      · intro w'
                                        go_simp
                                        with_reducible rfl
                                      rotate_left
                                      · simp only [Act.put, List.setIfInBounds_toArray, List.set_cons_zero, List.set_cons_succ, i64_w, i32_w]
                                        rfl
                                      refine pure_ (i := 12) (N := some 78) (v := ?_) (a' := ?_) #[true, false, true, true, false, true, true, false, true, true, false, true, true, false, false, false, false, false, false, false, false, false] rfl rfl (any_of HT_.out (by kernel_rfl)) (fun _ _ _ h => h) (Or.inl ⟨by rfl, ?_⟩) ?_ ?_
                                      rotate_left
                                      · intro w'
                                        go_simp
                                        with_reducible rfl
                                      rotate_left
                                      · simp only [Act.put, List.setIfInBounds_toArray, List.set_cons_zero, List.set_cons_succ, i64_w, i32_w]
                                        rfl
                                      refine pure_ (i := 14) (N := some 80) (v := ?_) (a' := ?_) #[true, false, true, true, false, true, true, false, true, true, false, true, true, false, true, false, false, false, false, false, false, false] rfl rfl (any_of HT_.out (by kernel_rfl)) (fun _ _ _ h => h) (Or.inl ⟨by rfl, ?_⟩) ?_ ?_
                                      rotate_left
                                      · intro w'
                                        go_simp
                                        with_reducible rfl
                                      rotate_left
                                      · simp only [Act.put, List.setIfInBounds_toArray, List.set_cons_zero, List.set_cons_succ, i64_w, i32_w]
                                        rfl
                                      refine pure_ (i := 15) (N := some 81) (v := ?_) (a' := ?_) #[true, false, true, true, false, true, true, false, true, true, false, true, true, false, true, true, false, false, false, false, false, false] rfl rfl (any_of HT_.out (by kernel_rfl)) (fun _ _ _ h => h) (Or.inl ⟨by rfl, ?_⟩) ?_ ?_
                                      rotate_left
                                      · intro w'
                                        go_simp
                                        with_reducible rfl
                                      rotate_left
                                      · simp only [Act.put, List.setIfInBounds_toArray, List.set_cons_zero, List.set_cons_succ, i64_w, i32_w]
                                        rfl
                                      refine take_ (i := 1) (N := some 67) (v := ?_) (a' := ?_) #[true, true, true, true, false, true, true, false, true, true, false, true, true, false, true, true, false, false, false, false, false, false] rfl rfl (take_ofW HT_.out HW_.out (by kernel_rfl)) (fun _ _ _ h => h) (Or.inl ⟨by rfl, ?_⟩) hHeld ?_ ?_
                                      rotate_left
                                      · rintro w' ⟨s0, s1, s2, s3, s4, s5, s6, s7⟩
                                        go_simp
                                        with_reducible rfl
                                      rotate_left
                                      · simp only [Act.put, List.setIfInBounds_toArray, List.set_cons_zero, List.set_cons_succ, i64_w, i32_w]
                                        rfl
                                      refine take_ (i := 4) (N := some 70) (v := ?_) (a' := ?_) #[true, true, true, true, true, true, true, false, true, true, false, true, true, false, true, true, false, false, false, false, false, false] rfl rfl (take_ofW HT_.out HW_.out (by kernel_rfl)) (fun _ _ _ h => h) (Or.inl ⟨by rfl, ?_⟩) hHeld ?_ ?_
                                      rotate_left
                                      · rintro w' ⟨s0, s1, s2, s3, s4, s5, s6, s7⟩
                                        go_simp
                                        with_reducible rfl
                                      rotate_left
                                      · simp only [Act.put, List.setIfInBounds_toArray, List.set_cons_zero, List.set_cons_succ, i64_w, i32_w]
                                        rfl
                                      refine take_ (i := 7) (N := some 73) (v := ?_) (a' := ?_) #[true, true, true, true, true, true, true, true, true, true, false, true, true, false, true, true, false, false, false, false, false, false] rfl rfl (take_ofW HT_.out HW_.out (by kernel_rfl)) (fun _ _ _ h => h) (Or.inl ⟨by rfl, ?_⟩) hHeld ?_ ?_
                                      rotate_left
                                      · rintro w' ⟨s0, s1, s2, s3, s4, s5, s6, s7⟩
                                        go_simp
                                        with_reducible rfl
                                      rotate_left
                                      · simp only [Act.put, List.setIfInBounds_toArray, List.set_cons_zero, List.set_cons_succ, i64_w, i32_w]
                                        rfl
                                      refine take_ (i := 10) (N := some 76) (v := ?_) (a' := ?_) #[true, true, true, true, true, true, true, true, true, true, true, true, true, false, true, true, false, false, false, false, false, false] rfl rfl (take_ofW HT_.out HW_.out (by kernel_rfl)) (fun _ _ _ h => h) (Or.inl ⟨by rfl, ?_⟩) hHeld ?_ ?_
                                      rotate_left
                                      · rintro w' ⟨s0, s1, s2, s3, s4, s5, s6, s7⟩
                                        go_simp
                                        with_reducible rfl
                                      rotate_left
                                      · simp only [Act.put, List.setIfInBounds_toArray, List.set_cons_zero, List.set_cons_succ, i64_w, i32_w]
                                        rfl
                                      refine take_ (i := 13) (N := some 79) (v := ?_) (a' := ?_) #[true, true, true, true, true, true, true, true, true, true, true, true, true, true, true, true, false, false, false, false, false, false] rfl rfl (take_ofW HT_.out HW_.out (by kernel_rfl)) (fun _ _ _ h => h) (Or.inl ⟨by rfl, ?_⟩) hHeld ?_ ?_
                                      rotate_left
                                      · rintro w' ⟨s0, s1, s2, s3, s4, s5, s6, s7⟩
                                        go_simp
                                        with_reducible rfl
                                      rotate_left
                                      · simp only [Act.put, List.setIfInBounds_toArray, List.set_cons_zero, List.set_cons_succ, i64_w, i32_w]
                                        rfl
                                      refine take_ (i := 16) (N := some 82) (v := ?_) (a' := ?_) #[true, true, true, true, true, true, true, true, true, true, true, true, true, true, true, true, true, false, false, false, false, false] rfl rfl (take_ofW HT_.out HW_.out (by kernel_rfl)) (fun _ _ _ h => h) (Or.inl ⟨by rfl, ?_⟩) hHeld ?_ ?_
                                      rotate_left
                                      · rintro w' ⟨s0, s1, s2, s3, s4, s5, s6, s7⟩
                                        go_simp
                                        with_reducible rfl
                                      rotate_left
                                      · simp only [Act.put, List.setIfInBounds_toArray, List.set_cons_zero, List.set_cons_succ, i64_w, i32_w]
                                        rfl
                                      refine pure_ (i := 17) (N := some 83) (v := ?_) (a' := ?_) #[true, true, true, true, true, true, true, true, true, true, true, true, true, true, true, true, true, true, false, false, false, false] rfl rfl (any_of HT_.out (by kernel_rfl)) (fun _ _ _ h => h) (Or.inl ⟨by rfl, ?_⟩) ?_ ?_
                                      rotate_left
                                      · intro w'
                                        go_simp
                                        with_reducible rfl
                                      rotate_left
                                      · simp only [Act.put, List.setIfInBounds_toArray, List.set_cons_zero, List.set_cons_succ, i64_w, i32_w]
                                        rfl
                                      refine one_ (i := 18) (N := some 84) #[true, true, true, true, true, true, true, true, true, true, true, true, true, true, true, true, true, true, true, false, false, false] rfl rfl (one_of HT_.out (by kernel_rfl)) (by decide) (fun K hK => ?_)
                                      refine value_ (w1 := ?_) (v := ?_) (by rfl) rfl ?_ ?_
                                      rotate_left 2
                                      · go_simp
                                        constructor
                                        · rfl
                                        · rfl
                                      refine hK.out _ _ ⟨(blk_cell (blk_alloc BK313.out _) 0).trans rfl, (blk_cell (blk_alloc BK313.out _) 1).trans rfl, (blk_cell (blk_alloc BK313.out _) 2).trans rfl, (World.cell?_alloc_lt _ _ _ (World.block_lt_of_cell? _ _ (hHeld.2.2.2.1))).trans (hHeld.2.2.2.1), (World.cell?_alloc_lt _ _ _ (World.block_lt_of_cell? _ _ (hHeld.2.2.2.2.1))).trans (hHeld.2.2.2.2.1), (World.cell?_alloc_lt _ _ _ (World.block_lt_of_cell? _ _ (hHeld.2.2.2.2.2.1))).trans (hHeld.2.2.2.2.2.1), (World.cell?_alloc_lt _ _ _ (World.block_lt_of_cell? _ _ (hHeld.2.2.2.2.2.2.1))).trans (hHeld.2.2.2.2.2.2.1), (World.cell?_alloc_lt _ _ _ (World.block_lt_of_cell? _ _ (hHeld.2.2.2.2.2.2.2))).trans (hHeld.2.2.2.2.2.2.2)⟩ (fun hHeld => ?_)
                                      clear hK K
                                      refine norm_ (a' := ?_) ?_ ?_
                                      rotate_left
                                      · show Act.put _ (some 84) _ = _
                                        simp only [Act.put, List.setIfInBounds_toArray, List.set_cons_zero, List.set_cons_succ, i64_w, i32_w]
                                        rfl
                                      refine last_ (i := 19) (N := some 85) #[true, true, true, true, true, true, true, true, true, true, true, true, true, true, true, true, true, true, true, true, false, false] rfl rfl (one_of HT_.out (by kernel_rfl)) (by decide) (fun K hK => ?_)
                                      refine Kd.R_append_step k51 (w0 := w) w.heap.size (by rfl) (.tmp 67) (.tmp 84) 28 51 (.agg #[(.int .i64 0), (.int .i64 0), (.int .i64 0), (.int .i64 0), (.int .i64 0)]) 40 rfl Tryz.underlying28 info51 rfl (by decide) (by omega) u314002 x314002_1 (⟨rd t316 0, rd t316 1, rd t316 2, rd t316 3, rd t316 4⟩ : S51) [.int .i64 (rd t316 0), .int .i64 (rd t316 1), .int .i64 (rd t316 2), .int .i64 (rd t316 3), .int .i64 (rd t316 4)] (fun _ => True) (fun _ => False) rfl rfl ?aP (fun _ hk => hk.elim) ?aF ?aO ?aB ?aS ?aL ?_
                                      (case aP => exact k51_mkM _ _ _ (⟨rd t316 0, rd t316 1, rd t316 2, rd t316 3, rd t316 4⟩ : S51))
                                      (case aB => exact (by repeat (first | (with_reducible first | exact HB.out | apply below_alloc | apply pw_below_drewN | apply below_drew1 | refine below_set ?_ GE308.out | refine below_set ?_ GE313.out) | exact HB.out)))
                                      (case aF => exact (fun _ _ => trivial))
                                      (case aO => exact (by (with_reducible repeat (first | apply Kd.R_alloc | apply Kd.R_drewN | apply Kd.R_drew)); exact HO_314002.out))
                                      (case aS => exact (below_size (by repeat (first | (with_reducible first | exact HB.out | apply below_alloc | apply pw_below_drewN | apply below_drew1 | refine below_set ?_ GE308.out | refine below_set ?_ GE313.out) | exact HB.out))))
                                      (case aL => have := LMc42.out; omega)
                                      intro v328 w45 ho hb hg hat
                                      rw [← Ny327.out] at ho
                                      have n0_ := Aside0.mk (Kd.R_over' (by (with_reducible repeat (first | apply Kd.R_alloc | apply Kd.R_drewN | apply Kd.R_drew)); exact HO_5.out) (Kd.R_typed (by (with_reducible repeat (first | apply Kd.R_alloc | apply Kd.R_drewN | apply Kd.R_drew)); exact HO_314002.out)) (by decide) hg)
                                      have n1_ := Aside0.mk (Kd.R_over' (by (with_reducible repeat (first | apply Kd.R_alloc | apply Kd.R_drewN | apply Kd.R_drew)); exact HO_11.out) (Kd.R_typed (by (with_reducible repeat (first | apply Kd.R_alloc | apply Kd.R_drewN | apply Kd.R_drew)); exact HO_314002.out)) (by decide) hg)
                                      have n2_ := Aside0.mk (blk_grown (g := gb308) (o := .cells #[.int .i64 x309000_1, .int .i64 x309001_1, .slice none 0 0] 30 (0, 0)) (by (with_reducible repeat (first | refine blk_drewN ?_ _ | refine blk_drew ?_ | refine blk_alloc ?_ _)); exact BK308.out) hg (Kd.R_ne HO_314002.out BK308.out (by decide)))
                                      have n3_ := Aside0.mk (blk_grown (g := gb313) (o := .cells #[.int .i64 x314000_1, .int .i64 x314001_1, u314002] 30 (0, 0)) (by (with_reducible repeat (first | refine blk_drewN ?_ _ | refine blk_drew ?_ | refine blk_alloc ?_ _)); exact BK313.out) hg (Kd.R_ne HO_314002.out BK313.out (by decide)))
                                      have n4_ := Aside0.mk (hb)
                                      have n5_ := Aside0.mk (ho)
                                      clear HO_5
                                      clear HO_11
                                      clear BK308
                                      clear BK313
                                      clear HB
                                      clear HO_314002
                                      have HO_5 := n0_
                                      have HO_11 := n1_
                                      have BK308 := n2_
                                      have BK313 := n3_
                                      have HB := n4_
                                      have HO329 := n5_
                                      clear n0_ n1_ n2_ n3_ n4_ n5_
                                      clear ho hb hg hat
                                      obtain ⟨Ao46, co46, eo46⟩ := Kd.R_slice HO329.out
                                      (first | subst eo46 | (injection eo46 with f1_ f2_ f3_; have f4_ := f1_.symm; have f5_ := f3_.symm; clear f1_ f2_ f3_; subst f4_; subst f5_))
                                      refine hK.out _ _ ?_
                                      clear hK K
                                      refine norm_ (a' := ?_) ?_ ?_
                                      rotate_left
                                      · show Act.put _ (some 85) _ = _
                                        simp only [Act.put, List.setIfInBounds_toArray, List.set_cons_zero, List.set_cons_succ, i64_w, i32_w]
                                        rfl
                                      refine pure_ (i := 20) (N := some 86) (v := ?_) (a' := ?_) #[true, true, true, true, true, true, true, true, true, true, true, true, true, true, true, true, true, true, true, true, true, false] rfl rfl (any_of HT_.out (by kernel_rfl)) (fun _ _ _ h => h) (Or.inl ⟨by rfl, ?_⟩) ?_ ?_
                                      rotate_left
                                      · intro w'
                                        go_simp
                                        with_reducible rfl
                                      rotate_left
                                      · simp only [Act.put, List.setIfInBounds_toArray, List.set_cons_zero, List.set_cons_succ, i64_w, i32_w]
                                        rfl
                                      refine last_ (i := 21) (N := none) #[true, true, true, true, true, true, true, true, true, true, true, true, true, true, true, true, true, true, true, true, true, true] rfl rfl (one_of HT_.out (by kernel_rfl)) (by decide) (fun K hK => ?_)
                                      have hs47 : w45.cell? ⟨gb313, 2, none⟩ = some (u314002) := (blk_cell BK313.out 2).trans rfl
                                      have hfs47 := blk_frozen BK313.out 2
                                      have hns47_0 := NB308_313.out
                                      have hms47_0 := NB313_308.out
                                      refine skip_ (w1 := ?_) (by rfl) rfl ?_ ?_
                                      rotate_left
                                      · go_simp
                                        rfl
                                      refine hK.out _ _ ?_
                                      clear hK K
                                      refine done_ (done_of HT_.out (by kernel_rfl)) ?_
                                      try go_wp2
                                      go_roundg kj22
                                      case measure => have := HK1.out; have := HJ17.out; have := HJ22.out; omega
                                      case rel => exact ⟨(wrap64 (x8_1 + 1)), (x309000_1), (x309001_1), (x314000_1), (x314001_1), (y327), (.slice Ao46 y327.length co46), (by first | rfl | (simp; done) | (simp [*]; done)), H', ⟨by have := HK1.out; have := HJ17.out; have := HJ22.out; omega⟩, ⟨by (with_reducible repeat (first | apply Kd.R_alloc | apply Kd.R_drewN | apply Kd.R_drew)); exact Kd.R_mono (Kd.R_far (p := ⟨gb313, 2, none⟩) (Kd.R_types HO_5.out BK313.out (by decide)) (fun _ hk => hk.2) (.slice Ao46 y327.length co46)) (fun _ hk => trivial)⟩, ⟨by (with_reducible repeat (first | apply Kd.R_alloc | apply Kd.R_drewN | apply Kd.R_drew)); exact Kd.R_mono (Kd.R_far (p := ⟨gb313, 2, none⟩) (Kd.R_types HO329.out BK313.out (by decide)) (fun _ hk => hk.2) (.slice Ao46 y327.length co46)) (fun _ hk => trivial)⟩, ⟨by (with_reducible repeat (first | refine blk_drewN ?_ _ | refine blk_drew ?_ | refine blk_alloc ?_ _)); refine blk_far ?_ NB308_313.out _; (with_reducible repeat (first | refine blk_drewN ?_ _ | refine blk_drew ?_ | refine blk_alloc ?_ _)); exact BK308.out⟩, ⟨by (with_reducible repeat (first | refine blk_drewN ?_ _ | refine blk_drew ?_ | refine blk_alloc ?_ _)); refine blk_put (cs := #[.int .i64 x314000_1, .int .i64 x314001_1, u314002]) ?_ 2 _ rfl; (with_reducible repeat (first | refine blk_drewN ?_ _ | refine blk_drew ?_ | refine blk_alloc ?_ _)); exact BK313.out⟩, ⟨by repeat (first | (with_reducible first | exact HB.out | apply below_alloc | apply pw_below_drewN | apply below_drew1 | refine below_set ?_ GE308.out | refine below_set ?_ GE313.out) | exact HB.out)⟩⟩
                                    · rw [if_neg c42] at H
                                      exact absurd H (by simp)
                                  · rw [if_neg c41] at H
                                    exact absurd H (by simp)
                                · rw [if_neg c40] at H
                                  exact absurd H (by simp)
                              · rw [if_neg c39] at H
                                exact absurd H (by simp)
                            · rw [if_neg c38] at H
                              exact absurd H (by simp)
                          · rw [if_neg c37] at H
                            exact absurd H (by simp)
                · rw [if_neg c21] at H
                  exact absurd H (by simp)
              · rw [if_neg c20] at H
                exact absurd H (by simp)
        · rw [if_neg c17] at H
          have c17b0 : decide (x8_1 < (t309.length : Int)) = false := decide_eq_false c17
          clear c17
          replace H := Option.bind_eq_some_iff.mp H
          obtain ⟨t314, A480, H⟩ := H
          replace H : (if t314 = true then (some (x314000_1, x314001_1, x314002_1, (-1), 0)) else (some (0, 0, ([] : List (S51)), (-1), 1))) = some (r1, r2, r3, r4, r5) := H
          have A48 := Aside0.mk A480
          clear A480
          by_cases c49 : t314 = true
          · subst c49
            have H1 : (some (x314000_1, x314001_1, x314002_1, (-1), 0)) = some (r1, r2, r3, r4, r5) := by rw [if_pos rfl] at H; exact H
            clear H
            have H := H1
            clear H1
            simp only [Option.some.injEq, Prod.mk.injEq] at H
            obtain ⟨rfl, rfl, rfl, rfl, rfl⟩ := H
            have hnb50 := NB313_308.out
            have hnc50 := NB308_313.out
            have hcz51_0 : wr.cell? ⟨gb313, 0, none⟩ = some (.int .i64 x314000_1) := (blk_cell BK313.out 0).trans rfl
            have hcz51_1 : wr.cell? ⟨gb313, 1, none⟩ = some (.int .i64 x314001_1) := (blk_cell BK313.out 1).trans rfl
            have hcz51_2 : wr.cell? ⟨gb313, 2, none⟩ = some (u314002) := (blk_cell BK313.out 2).trans rfl
            have hfz51_0 := blk_frozen BK313.out 0
            have hfz51_1 := blk_frozen BK313.out 1
            have hfz51_2 := blk_frozen BK313.out 2
            obtain ⟨Ao52, co52, eo52⟩ := Kd.R_slice HO_314002.out
            subst eo52
            go_wp2_with (first | ((with_reducible refine gate_callee (f := 58) rfl ?_); refine goesL_ (some 88) rfl rfl Tryz.func58 (by kernel_rfl) rfl #[.agg #[.int .i64 x314000_1, .int .i64 x314001_1, .slice Ao52 x314002_1.length co52]] rfl (by (try simp only [List.map_toArray, List.map_cons, List.map_nil]); first | done | rfl | (simp only [List.length_drop, List.length_take]; rfl)) ?_; (with_reducible refine (hopmeshref35_Formed.calls k1 x314000_1 x314001_1 _ _ x314002_1 true _ ?side1 ?side2 A48.out).mono ?_); (case side1 => repeat (first | exact (Kd.R_reads' HO_314002.out).2.2 | (with_reducible refine Kd.C_alloc ?_ _) | (with_reducible refine Kd.C_drewN ?_ _) | (with_reducible refine Kd.C_drew ?_))); (case side2 => exact (Kd.R_reads' HO_314002.out).2.1); rintro e w53 ⟨rfl, hb⟩; refine ⟨_, rfl, ?_⟩; have n0_ := Aside0.mk (Kd.R_below (by (with_reducible repeat (first | apply Kd.R_alloc | apply Kd.R_drewN | apply Kd.R_drew)); exact HO_5.out) hb); have n1_ := Aside0.mk (Kd.R_below (by (with_reducible repeat (first | apply Kd.R_alloc | apply Kd.R_drewN | apply Kd.R_drew)); exact HO_314002.out) hb); have n2_ := Aside0.mk (blk_below (g := gb308) (o := .cells #[.int .i64 x309000_1, .int .i64 x309001_1, .slice none 0 0] 30 (0, 0)) (by (with_reducible repeat (first | refine blk_drewN ?_ _ | refine blk_drew ?_ | refine blk_alloc ?_ _)); exact BK308.out) hb); have n3_ := Aside0.mk (blk_below (g := gb313) (o := .cells #[.int .i64 x314000_1, .int .i64 x314001_1, .slice Ao52 x314002_1.length co52] 30 (0, 0)) (by (with_reducible repeat (first | refine blk_drewN ?_ _ | refine blk_drew ?_ | refine blk_alloc ?_ _)); exact BK313.out) hb); have n4_ := Aside0.mk (below_step (by repeat (first | (with_reducible first | exact HB.out | apply below_alloc | apply pw_below_drewN | apply below_drew1 | refine below_set ?_ GE308.out | refine below_set ?_ GE313.out) | exact HB.out)) hb); clear HO_5; clear HO_314002; clear BK308; clear BK313; clear HB; have HO_5 := n0_; have HO_314002 := n1_; have BK308 := n2_; have BK313 := n3_; have HB := n4_; clear n0_ n1_ n2_ n3_ n4_; (try clear hb); (try clear hb2); (try clear hk); (try clear hi); have hcz54_0 : w53.cell? ⟨gb313, 0, none⟩ = some (.int .i64 x314000_1) := (blk_cell BK313.out 0).trans rfl; have hcz54_1 : w53.cell? ⟨gb313, 1, none⟩ = some (.int .i64 x314001_1) := (blk_cell BK313.out 1).trans rfl; have hcz54_2 : w53.cell? ⟨gb313, 2, none⟩ = some (.slice Ao52 x314002_1.length co52) := (blk_cell BK313.out 2).trans rfl; have hfz54_0 := blk_frozen BK313.out 0; have hfz54_1 := blk_frozen BK313.out 1; have hfz54_2 := blk_frozen BK313.out 2; have hcz55_0 : w53.cell? ⟨gb308, 0, none⟩ = some (.int .i64 x309000_1) := (blk_cell BK308.out 0).trans rfl; have hcz55_1 : w53.cell? ⟨gb308, 1, none⟩ = some (.int .i64 x309001_1) := (blk_cell BK308.out 1).trans rfl; have hcz55_2 : w53.cell? ⟨gb308, 2, none⟩ = some (.slice none 0 0) := (blk_cell BK308.out 2).trans rfl; have hfz55_0 := blk_frozen BK308.out 0; have hfz55_1 := blk_frozen BK308.out 1; have hfz55_2 := blk_frozen BK308.out 2))
            refine bodyPost_ret (results_ctt rfl _ _ gb308 30 #[.int .i64 x314000_1, .int .i64 x314001_1, .slice Ao52 x314002_1.length co52] (0, 0) _ rfl (by (with_reducible repeat (first | refine blk_drewN ?_ _ | refine blk_drew ?_ | refine blk_alloc ?_ _)); refine blk_put (cs := #[.int .i64 x314000_1, .int .i64 x314001_1, .slice none 0 0]) ?_ 2 _ rfl; (with_reducible repeat (first | refine blk_drewN ?_ _ | refine blk_drew ?_ | refine blk_alloc ?_ _)); refine blk_put (cs := #[.int .i64 x314000_1, .int .i64 x309001_1, .slice none 0 0]) ?_ 1 _ rfl; (with_reducible repeat (first | refine blk_drewN ?_ _ | refine blk_drew ?_ | refine blk_alloc ?_ _)); refine blk_put (cs := #[.int .i64 x309000_1, .int .i64 x309001_1, .slice none 0 0]) ?_ 0 _ rfl; (with_reducible repeat (first | refine blk_drewN ?_ _ | refine blk_drew ?_ | refine blk_alloc ?_ _)); exact BK308.out) Tryz.underlying30 rfl (by kernel_rfl)) rfl ?_
            exact ⟨_, by first | rfl | (simp [errW_none, errW_some] <;> rfl) | (simp [*, errW_none, errW_some] <;> rfl), by (with_reducible repeat (first | apply Kd.R_alloc | apply Kd.R_drewN | apply Kd.R_drew)); exact Kd.R_mono (Kd.R_far (p := ⟨gb308, 2, none⟩) (Kd.R_far (p := ⟨gb308, 1, none⟩) (Kd.R_far (p := ⟨gb308, 0, none⟩) (Kd.R_types HO_314002.out BK308.out (by decide)) (fun _ hk => hk.2) (.int .i64 x314000_1)) (fun _ hk => hk.2) (.int .i64 x314001_1)) (fun _ hk => hk.2) (.slice Ao52 x314002_1.length co52)) (fun _ hk => trivial), by repeat (first | (with_reducible first | exact HB.out | apply below_alloc | apply pw_below_drewN | apply below_drew1 | refine below_set ?_ GE308.out | refine below_set ?_ GE313.out) | exact HB.out)⟩
          · replace c49 := Bool.eq_false_iff.mpr c49
            subst c49
            have H1 : (some (0, 0, ([] : List (S51)), (-1), 1)) = some (r1, r2, r3, r4, r5) := by rw [if_neg (show ¬ (false = true) by decide)] at H; exact H
            clear H
            have H := H1
            clear H1
            simp only [Option.some.injEq, Prod.mk.injEq] at H
            obtain ⟨rfl, rfl, rfl, rfl, rfl⟩ := H
            have hnb56 := NB313_308.out
            have hnc56 := NB308_313.out
            have hcz57_0 : wr.cell? ⟨gb313, 0, none⟩ = some (.int .i64 x314000_1) := (blk_cell BK313.out 0).trans rfl
            have hcz57_1 : wr.cell? ⟨gb313, 1, none⟩ = some (.int .i64 x314001_1) := (blk_cell BK313.out 1).trans rfl
            have hcz57_2 : wr.cell? ⟨gb313, 2, none⟩ = some (u314002) := (blk_cell BK313.out 2).trans rfl
            have hfz57_0 := blk_frozen BK313.out 0
            have hfz57_1 := blk_frozen BK313.out 1
            have hfz57_2 := blk_frozen BK313.out 2
            obtain ⟨Ao58, co58, eo58⟩ := Kd.R_slice HO_314002.out
            subst eo58
            go_wp2_with (first | ((with_reducible refine gate_callee (f := 58) rfl ?_); refine goesL_ (some 88) rfl rfl Tryz.func58 (by kernel_rfl) rfl #[.agg #[.int .i64 x314000_1, .int .i64 x314001_1, .slice Ao58 x314002_1.length co58]] rfl (by (try simp only [List.map_toArray, List.map_cons, List.map_nil]); first | done | rfl | (simp only [List.length_drop, List.length_take]; rfl)) ?_; (with_reducible refine (hopmeshref35_Formed.calls k1 x314000_1 x314001_1 _ _ x314002_1 false _ ?side1 ?side2 A48.out).mono ?_); (case side1 => repeat (first | exact (Kd.R_reads' HO_314002.out).2.2 | (with_reducible refine Kd.C_alloc ?_ _) | (with_reducible refine Kd.C_drewN ?_ _) | (with_reducible refine Kd.C_drew ?_))); (case side2 => exact (Kd.R_reads' HO_314002.out).2.1); rintro e w59 ⟨rfl, hb⟩; refine ⟨_, rfl, ?_⟩; have n0_ := Aside0.mk (Kd.R_below (by (with_reducible repeat (first | apply Kd.R_alloc | apply Kd.R_drewN | apply Kd.R_drew)); exact HO_5.out) hb); have n1_ := Aside0.mk (Kd.R_below (by (with_reducible repeat (first | apply Kd.R_alloc | apply Kd.R_drewN | apply Kd.R_drew)); exact HO_314002.out) hb); have n2_ := Aside0.mk (blk_below (g := gb308) (o := .cells #[.int .i64 x309000_1, .int .i64 x309001_1, .slice none 0 0] 30 (0, 0)) (by (with_reducible repeat (first | refine blk_drewN ?_ _ | refine blk_drew ?_ | refine blk_alloc ?_ _)); exact BK308.out) hb); have n3_ := Aside0.mk (blk_below (g := gb313) (o := .cells #[.int .i64 x314000_1, .int .i64 x314001_1, .slice Ao58 x314002_1.length co58] 30 (0, 0)) (by (with_reducible repeat (first | refine blk_drewN ?_ _ | refine blk_drew ?_ | refine blk_alloc ?_ _)); exact BK313.out) hb); have n4_ := Aside0.mk (below_step (by repeat (first | (with_reducible first | exact HB.out | apply below_alloc | apply pw_below_drewN | apply below_drew1 | refine below_set ?_ GE308.out | refine below_set ?_ GE313.out) | exact HB.out)) hb); clear HO_5; clear HO_314002; clear BK308; clear BK313; clear HB; have HO_5 := n0_; have HO_314002 := n1_; have BK308 := n2_; have BK313 := n3_; have HB := n4_; clear n0_ n1_ n2_ n3_ n4_; (try clear hb); (try clear hb2); (try clear hk); (try clear hi); have hcz60_0 : w59.cell? ⟨gb308, 0, none⟩ = some (.int .i64 x309000_1) := (blk_cell BK308.out 0).trans rfl; have hcz60_1 : w59.cell? ⟨gb308, 1, none⟩ = some (.int .i64 x309001_1) := (blk_cell BK308.out 1).trans rfl; have hcz60_2 : w59.cell? ⟨gb308, 2, none⟩ = some (.slice none 0 0) := (blk_cell BK308.out 2).trans rfl; have hfz60_0 := blk_frozen BK308.out 0; have hfz60_1 := blk_frozen BK308.out 1; have hfz60_2 := blk_frozen BK308.out 2))
            refine bodyPost_ret (results_ctt rfl _ _ gb308 30 #[.int .i64 0, .int .i64 0, .slice none 0 0] (0, 0) _ rfl (by (with_reducible repeat (first | refine blk_drewN ?_ _ | refine blk_drew ?_ | refine blk_alloc ?_ _)); refine blk_put (cs := #[.int .i64 0, .int .i64 0, .slice none 0 0]) ?_ 2 _ rfl; (with_reducible repeat (first | refine blk_drewN ?_ _ | refine blk_drew ?_ | refine blk_alloc ?_ _)); refine blk_put (cs := #[.int .i64 0, .int .i64 x309001_1, .slice none 0 0]) ?_ 1 _ rfl; (with_reducible repeat (first | refine blk_drewN ?_ _ | refine blk_drew ?_ | refine blk_alloc ?_ _)); refine blk_put (cs := #[.int .i64 x309000_1, .int .i64 x309001_1, .slice none 0 0]) ?_ 0 _ rfl; (with_reducible repeat (first | refine blk_drewN ?_ _ | refine blk_drew ?_ | refine blk_alloc ?_ _)); exact BK308.out) Tryz.underlying30 rfl (by kernel_rfl)) rfl ?_
            exact ⟨_, by first | rfl | (simp [errW_none, errW_some] <;> rfl) | (simp [*, errW_none, errW_some] <;> rfl), by first | exact Kd.R_nil _ _ _ _ _ | exact Kd.N_nil _ _ _ _ _ | exact Kd.V_nil _ _ _ _ _ | exact Kd.Q_nil _ _ _ _ _ | exact Kd.S_nil _ _ _ _ _, by repeat (first | (with_reducible first | exact HB.out | apply below_alloc | apply pw_below_drewN | apply below_drew1 | refine below_set ?_ GE308.out | refine below_set ?_ GE313.out) | exact HB.out)⟩

end Go.Proofs.YtnddjcadkbjjhaaGreatDoor.PScheduleTexts
