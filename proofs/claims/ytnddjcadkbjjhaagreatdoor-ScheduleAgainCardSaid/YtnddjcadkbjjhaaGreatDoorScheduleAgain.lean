/-
  The law ScheduleAgain holds of the given program: called with any arguments it returns true and leaves them as they were. Condition: the package-level tables that its row lists hold what their initialisers lay (the card ties that to the program's text).
-/
import Derived.Test.YtnddjcadkbjjhaaGreatDoorCards
import Derived.Test.YtnddjcadkbjjhaaGreatDoorTie
import Derived.Test.YtnddjcadkbjjhaaGreatDoorOpn
import Derived.Test.YtnddjcadkbjjhaaGreatDoorWAgB
import Derived.WalkKit
import Derived.ProofKit
import Derived.OpenShut
import Derived.LaidMore
import Derived.Lay
import Derived.SevenTiedAt
import Derived.Stop.Joined
import Derived.ChangeSame
import Derived.Below
import Derived.ShutString
namespace Go.Proofs.YtnddjcadkbjjhaaGreatDoor.lawScheduleAgain
open Go.ChangeShapes Go.WideShapes Go.ChangeAt Go.RowKit
open Go.WideMaps Go.WideElems
open Go.ChangeMaps (setBlock shut_map_nil open_string shut_string keptBut_setBlock frozen?_setBlock heap_setBlock_same)

theorem own : ownKnob Tryz.prog.godebug = none := by kernel_rfl

theorem laidOut : laidOutB Tryz.prog = true := by kernel_rfl
theorem readables : ∀ t ∈ Tryz.f7.params.toList, Tryz.prog.readableRec t = true ∧ t < Tryz.prog.types.size := by
  intro t ht
  rw [Tryz.params7] at ht
  have hh : t = 26 ∨ t = 27 ∨ t = 30 ∨ t = 5 ∨ t = 47 := by simpa using ht
  rcases hh with rfl | rfl | rfl | rfl | rfl
  · exact ⟨by kernel_rfl, of_decide_eq_true (by kernel_rfl)⟩
  · exact ⟨by kernel_rfl, of_decide_eq_true (by kernel_rfl)⟩
  · exact ⟨by kernel_rfl, of_decide_eq_true (by kernel_rfl)⟩
  · exact ⟨by kernel_rfl, of_decide_eq_true (by kernel_rfl)⟩
  · exact ⟨by kernel_rfl, of_decide_eq_true (by kernel_rfl)⟩

set_option maxRecDepth 100000 in
/-- What the walk gives, for every argument and every world. -/
theorem contract (H : Type) (enc : TypeId × Value → H) (W : World) (base : Nat) (args : Array Value) (ds gs : List (DataW H)) (before : List MemPlace)
    (hval : ∀ (j : Nat) t v, Tryz.f7.params[j]? = some t → args[j]? = some v → Value.okWide Tryz.prog W .any base t v)
    (hW : DataW.Whole enc Tryz.prog Tryz.f7.params.toList Rows.scheduleAgainSpec.vars false W args.toList ds gs before) (hL : laidMetH Tryz.prog Rows.scheduleAgainRow.laid W) (hsh : W.ShapedOpen Tryz.prog) :
    Calls Tryz.prog 7 args W fun e W' => ∃ v, e = .returned v ∧ Rows.scheduleAgainSpec.post enc Tryz.prog Tryz.f7 false true false false W args v W' := by
  have hW' := hW
  obtain ⟨p, q, hA0, hV, rfl, hfz, hnd⟩ := hW
  have hA : DataW.TrodAll enc Tryz.prog W 0 (fun _ => true) true Tryz.f7.params.toList args.toList ds p := hA0
  have hK : DataW.TrodAll enc Tryz.prog W 0 (fun _ => true) true Tryz.f7.params.toList args.toList ds p := hA0
  clear hA0
  obtain ⟨rfl, rfl⟩ := trodVars_none hV
  have hlt : ∀ x ∈ p, x.block < W.heap.size := fun x hx => hW'.lt x (by simpa using hx)
  rw [Tryz.params7] at hA hval
  obtain ⟨v0, vs0, d0, ds0, p0, q0, hargs, rfl, rfl, h0, r0⟩ := trodAll_cons hA
  obtain ⟨v1, vs1, d1, ds1, p1, q1, rfl, rfl, rfl, h1, r1⟩ := trodAll_cons r0
  obtain ⟨v2, vs2, d2, ds2, p2, q2, rfl, rfl, rfl, h2, r2⟩ := trodAll_cons r1
  obtain ⟨v3, vs3, d3, ds3, p3, q3, rfl, rfl, rfl, h3, r3⟩ := trodAll_cons r2
  obtain ⟨v4, vs4, d4, ds4, p4, q4, rfl, rfl, rfl, h4, r4⟩ := trodAll_cons r3
  obtain ⟨rfl, rfl, rfl⟩ := trodAll_nil r4
  obtain rfl : args = #[v0, v1, v2, v3, v4] := by cases args; simp_all
  obtain ⟨N0, rfl, hO0⟩ := open_net (hval 0 26 v0 rfl rfl) h0
  obtain ⟨A1, n1, c1, fs1, rfl, hm1, hC1⟩ := open_flows (hval 1 27 v1 rfl rfl) h1
  obtain ⟨L2, O2, A2, n2, c2, cs2, rfl, wL2, wO2, hle2, hm2, hC2, hw2⟩ := open_sched (hval 2 30 v2 rfl rfl) h2
  obtain ⟨x3, rfl, _, _, wx3⟩ := open_int Tryz.underlying5 (hval 3 5 v3 rfl rfl) h3
  obtain ⟨x4, rfl, _, _, wx4⟩ := open_int Tryz.underlying47 (hval 4 47 v4 rfl rfl) h4
  refine (walk_Again N0 A1 n1 c1 fs1 (by unfold maxLen at hm1; omega) L2 O2 A2 n2 c2 cs2 (by unfold maxLen at hm2; omega) x3 x4 (u8_of wx3).1 (u8_of wx3).2 (u16_of wx4).1 (u16_of wx4).2 W (tabs_of hsh hL) hO0 hC1 hC2).mono fun e W' ⟨he, hg⟩ => ?_
  subst he
  exact ⟨_, rfl, post_of_below (pv := []) hW' (fun _ _ _ => trodAll_cons_mk (shut_bool Tryz.underlying4 _) trodAll_mk0) (fun sp hsp => trodAll_below laidOut hg _ _ _ _ readables hK hlt (fun x hx => hsp x (by simpa using hx))) (fun _ _ => rfl) rfl
    hg (ok_one (by kernel_rfl) rfl (okWide_bool_mk Tryz.underlying4 _))⟩

set_option maxRecDepth 100000 in
theorem lifted (os : Os) (started : os.Started) (H : Type) (enc : TypeId × Value → H) :
    ReturnsInHanded {} Tryz.checked os 7 .any (fun w args => (Rows.scheduleAgainSpec.pre enc Tryz.prog Tryz.f7 Rows.scheduleAgainRow.domain false w args ∧ laidMetH Tryz.prog Rows.scheduleAgainRow.laid w) ∧ sizedMet enc Tryz.prog Tryz.f7 (OpenSpec.ofChange Rows.scheduleAgainSpec) false w args)
      (Rows.scheduleAgainSpec.post enc Tryz.prog Tryz.f7 false true false false) := by
  refine returnsInHanded_shaped_and (C := Tryz.checked) (X := fun w _ => laidMetH Tryz.prog Rows.scheduleAgainRow.laid w) (fun _ _ _ hh h => h.of_heap hh) own started (by kernel_rfl) Tryz.func7
    (ChangeSpec.witness_shaped (enc := enc) (C := Tryz.checked) (os := os) (X := fun w _ => laidMetH Tryz.prog Rows.scheduleAgainRow.laid w) false (World.laidAll Tryz.prog os Rows.scheduleAgainRow.laid) #[.agg #[.int .i64 0, .slice none 0 0, .int .i64 0, .int .i64 0, .slice none 0 0, .slice none 0 0], .slice none 0 0, .agg #[.int .i64 0, .int .i64 0, .slice none 0 0], .int .u8 0, .int .u16 0] 8 (World.laidAll_os _ _ _)
      (World.shaped_of_ZipB (by kernel_rfl) (by kernel_rfl)) (by kernel_rfl) (by kernel_rfl) (by kernel_rfl)
      (by rw [MakeChecks.laidMetH_plain _ _ _ (by kernel_rfl)]; exact laidMet_laidAll _ (by kernel_rfl) (by kernel_rfl))) ?_
  intro W base args ds gs before hval0 hW hL hsh
  exact contract H enc W base args ds gs before hval0 hW hL hsh

theorem said : Rows.ScheduleAgainSaid :=
  OpenClaim.holds_of_wide 7 Tryz.f7 rfl rfl rfl rfl rfl rfl rfl ⟨rfl, rfl, rfl, rfl, rfl⟩ rfl rfl rfl rfl rfl (by kernel_rfl) Tryz.func7 (by kernel_rfl)
    (of_decide_eq_true (by kernel_rfl)) (by unfold Func.isWrapper; first | (rw [if_pos (by decide +kernel)]; kernel_rfl) | (rw [if_neg (by decide +kernel)]; exact ⟨rfl, rfl⟩))
    (fun os started H enc _ => lifted os started H enc)

theorem plain (f : FuncId) (fn : Func) (hf : Tryz.pinned.checked.prog.funcNamed "hopmesh/hopmeshlaw35.ScheduleAgain" = some f) (hfn : Tryz.pinned.checked.prog.funcs[f]? = some fn) :
    true = Tryz.pinned.checked.prog.looks [] ∧ ∀ (j : Nat) t, fn.params[j]? = some t → Tryz.pinned.checked.prog.wantsStandIn t = false := by
  obtain rfl : f = 7 := Option.some.inj ((show Tryz.prog.funcNamed "hopmesh/hopmeshlaw35.ScheduleAgain" = some 7 by kernel_rfl).symm.trans hf) |>.symm
  obtain rfl : fn = Tryz.f7 := (Option.some.inj (Tryz.func7.symm.trans hfn)).symm
  refine ⟨by kernel_rfl, fun j t ht => ?_⟩
  rw [Tryz.params7] at ht
  have hj : j < 5 := by have := (Array.getElem?_eq_some_iff.1 ht).1; simpa using this
  have hjs : j = 0 ∨ j = 1 ∨ j = 2 ∨ j = 3 ∨ j = 4 := by omega
  rcases hjs with rfl | rfl | rfl | rfl | rfl
  · obtain rfl : t = 26 := by simpa using ht.symm
    exact (show Tryz.prog.wantsStandIn 26 = false by kernel_rfl)
  · obtain rfl : t = 27 := by simpa using ht.symm
    exact (show Tryz.prog.wantsStandIn 27 = false by kernel_rfl)
  · obtain rfl : t = 30 := by simpa using ht.symm
    exact (show Tryz.prog.wantsStandIn 30 = false by kernel_rfl)
  · obtain rfl : t = 5 := by simpa using ht.symm
    exact (show Tryz.prog.wantsStandIn 5 = false by kernel_rfl)
  · obtain rfl : t = 47 := by simpa using ht.symm
    exact (show Tryz.prog.wantsStandIn 47 = false by kernel_rfl)

/-- The card. -/
theorem card : Rows.ScheduleAgainCardSaid :=
  Claim7.holds_tied_plain_at .later [] _ _ _ _ said (fun _ h => by cases h) (by kernel_rfl) (fun _ h => by cases h) scheduleAgain_row_tie rfl ⟨rfl, rfl⟩ (by kernel_rfl) rfl plain (by kernel_rfl)
end Go.Proofs.YtnddjcadkbjjhaaGreatDoor.lawScheduleAgain
