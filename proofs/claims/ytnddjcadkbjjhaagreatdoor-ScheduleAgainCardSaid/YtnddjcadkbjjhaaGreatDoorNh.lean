/-
  CHAPTER 35, FLOWS: Check, Find; the periods.
-/
import Derived.Test.YtnddjcadkbjjhaaGreatDoorNg
namespace Go.Proofs.YtnddjcadkbjjhaaGreatDoor
open Go.RowKit

def lateF (p : Option F6) (f : F6) : Bool := match p with | none => false | some q => decide (f.i ≤ q.i)
def flowsE (k : Int) : Option F6 → List F6 → Int
  | _, [] => 0
  | p, f :: r => if flowE k f ≠ 0 then flowE k f else if lateF p f = true then 5 else flowsE k (some f) r
def prevF (fs : List F6) : Nat → Option F6
  | 0 => none
  | j + 1 => fs[j]?
theorem flowsE_drop (k : Int) (fs : List F6) (j : Nat) (f : F6) (h : fs[j]? = some f) : flowsE k (prevF fs j) (fs.drop j) = if flowE k f ≠ 0 then flowE k f else if lateF (prevF fs j) f = true then 5 else flowsE k (prevF fs (j + 1)) (fs.drop (j + 1)) := by
  obtain ⟨h1, e1⟩ := List.getElem?_eq_some_iff.1 h
  rw [List.drop_eq_getElem_cons h1, e1]
  show _ = if _ then _ else if _ then _ else flowsE k (fs[j]?) _
  rw [h]; rfl
/-- The error of flow.Check. -/
def flowsR (k : Int) (fs : List F6) : Int := if k < 2 ∨ 32 < k then 2 else if 16 < fs.length then 8 else flowsE k none fs
/-- How flow.Check ends: with that error, and an index. -/
def FlowEnd (w : World) (E : Int) (e : Ending) (w' : World) : Prop := ∃ i : Int, e = .returned (.tuple #[.int .i64 i, .int .i64 E]) ∧ Below w.heap.size w w'
set_option maxHeartbeats 800000 in
theorem flows_1 (k : Int) (A : Option Addr) (n c : Nat) (h : k < 2 ∨ (2 ≤ k ∧ 32 < k)) (w : World) : Calls Tryz.prog 39 #[.int .i64 k, .slice A n c] w (FlowEnd w 2) := by
  rcases h with h | ⟨h, h2⟩
  all_goals
    go_enter Tryz.func39, Tryz.ntmps39
    go_wp2
    go_ret2
    exact ⟨_, rfl, Below.refl _ _⟩
set_option maxHeartbeats 800000 in
theorem flows_2 (k : Int) (A : Option Addr) (n c : Nat) (h : 2 ≤ k) (h2 : k ≤ 32) (hn : n ≤ 1000000) (h3 : 16 < n) (w : World) : Calls Tryz.prog 39 #[.int .i64 k, .slice A n c] w (FlowEnd w 8) := by
  go_enter Tryz.func39, Tryz.ntmps39
  go_wp2
  go_ret2
  exact ⟨_, rfl, Below.refl _ _⟩
set_option maxHeartbeats 4000000 in
set_option maxRecDepth 100000 in
theorem flows_3 (k : Int) (A : Option Addr) (n c : Nat) (fs : List F6) (h : 2 ≤ k) (h2 : k ≤ 32) (h3 : n ≤ 16) (r : Int) (hr : Hid (flowsE k none fs = r)) (w : World) (hx : Hid (Flows w w.heap.size A n fs)) : Calls Tryz.prog 39 #[.int .i64 k, .slice A n c] w (FlowEnd w r) := by
  have hl := hx.out.1
  go_enter Tryz.func39, Tryz.ntmps39
  go_wp2_with fail
  go_loopw [20] (fun i wx => ∃ j : Nat, j ≤ n ∧ i = .int .i64 j ∧ Below w.heap.size w wx ∧ Hid (flowsE k (prevF fs j) (fs.drop j) = r)) (fun i _ => n - (intOf i).toNat)
  case atStart => exact ⟨0, Nat.zero_le _, rfl, Below.refl _ _, hr⟩
  case round =>
    obtain ⟨j, hj, rfl, hwx, H⟩ := hrel
    by_cases hlt : j < n
    · obtain ⟨b, off, f, hA, hb, ef, x0, x1, x2, x3, x4, x5⟩ := (hx.out.below hwx).at_ hlt
      subst hA
      have hd := Lib.hid (flowsE_drop k fs j f ef)
      have hj0 : (0 : Int) ≤ (j : Int) := by omega
      have hj1 : (j : Int) < (n : Int) := by omega
      have hsz := hwx.size
      have hba := alloc_below wr (OF6 f)
      have hBa := Lib.hid (BoxF6.new f wr)
      have hla : wr.heap.size < (wr.alloc (OF6 f)).heap.size := by simp
      have hw5 := bstep hwx hba (Nat.le_refl _)
      obtain ⟨e, he'⟩ : ∃ e, flowE k f = e := ⟨_, rfl⟩
      have he := Lib.hid he'
      clear he' ef
      go_wp2_with fail
      clear x0 x1 x2 x3 x4 x5
      revert hba hBa hla hw5
      generalize wr.alloc (OF6 f) = w5
      intro hba hBa hla hw5
      obtain ⟨f0, f1, f2, f3, f4, f5⟩ := id hBa.out
      refine (flow_lit k f e he.out _).mono ?_
      rintro e' w6 ⟨rfl, hb6⟩
      have hw6 := bstep hw5 hb6 (Nat.le_refl _)
      have hB6 := Lib.hid (hBa.out.below hb6 hla)
      have hl6 := Nat.lt_of_lt_of_le hla hb6.size
      clear f0 f1 f2 f3 f4 f5
      by_cases hez : e = 0
      · subst hez
        have hd2 : Hid (flowsE k (prevF fs j) (fs.drop j) = if lateF (prevF fs j) f = true then 5 else flowsE k (prevF fs (j + 1)) (fs.drop (j + 1))) := Lib.hid (by rw [hd.out, he.out]; rfl)
        rcases Nat.eq_zero_or_pos j with hjz | hjz
        · have hH : Hid (flowsE k (prevF fs (j + 1)) (fs.drop (j + 1)) = r) := Lib.hid (by rw [← H.out, hd2.out, hjz]; rfl)
          go_wp2_with fail
          have hkn : decide (0 < j) = false := by simp; omega
          refine wp_region_held_drew (S := (fun _ => True)) (by kernel_rfl) (trivial) (fun hHeld => ?_)
          refine wpAnyH_take (i := 0) (oi := ?o1) (v := ?hv1) ?hi1 (by kernel_rfl) (by kernel_rfl) (by kernel_rfl) ?hq1 ?hy1 (by assumption) ?hr1
          case hi1 => (simp only [List.getElem?_toArray, List.getElem?_cons_zero]; rfl)
          case hq1 => exact fun _ _ _ h => h
          case hy1 => exact Or.inl ⟨by rfl, by intro w hSw; (try dsimp only at hSw); go_simp; try with_reducible rfl⟩
          simp only [Act.put, List.setIfInBounds_toArray, List.set_cons_zero, List.set_cons_succ]
          refine wpAnyH_take (i := 1) (oi := ?o2) (v := .bool false) ?hi2 (by kernel_rfl) (by kernel_rfl) (by kernel_rfl) ?hq2 ?hy2 (by assumption) ?hr2
          case hi2 => (simp only [List.getElem?_toArray, List.getElem?_cons_succ, List.getElem?_cons_zero]; rfl)
          case hq2 => exact fun _ _ _ h => h
          case hy2 => exact Or.inl ⟨by rfl, by intro w hSw; (try dsimp only at hSw); go_simp; try simp only [hkn]; try with_reducible rfl⟩
          simp only [Act.put, List.setIfInBounds_toArray, List.set_cons_zero, List.set_cons_succ]
          refine wpAnyH_take (i := 2) (oi := ?o3) (v := ?hv3) ?hi3 (by kernel_rfl) (by kernel_rfl) (by kernel_rfl) ?hq3 ?hy3 (by assumption) ?hr3
          case hi3 => (simp only [List.getElem?_toArray, List.getElem?_cons_succ, List.getElem?_cons_zero]; rfl)
          case hq3 => exact fun _ _ _ h => h
          case hy3 => exact Or.inl ⟨by rfl, by intro w hSw; (try dsimp only at hSw); go_simp; try with_reducible rfl⟩
          simp only [Act.put, List.setIfInBounds_toArray, List.set_cons_zero, List.set_cons_succ]
          refine wpAnyH_take (i := 3) (oi := ?o4) (v := undef) ?hi4 (by kernel_rfl) (by kernel_rfl) (by kernel_rfl) ?hq4 ?hy4 (by assumption) ?hr4
          case hi4 => (simp only [List.getElem?_toArray, List.getElem?_cons_succ, List.getElem?_cons_zero]; rfl)
          case hq4 => exact fun _ _ _ h => h
          case hy4 => exact Or.inr ⟨by rfl, rfl⟩
          simp only [Act.put, List.setIfInBounds_toArray, List.set_cons_zero, List.set_cons_succ]
          refine wpAnyH_take (i := 4) (oi := ?o5) (v := undef) ?hi5 (by kernel_rfl) (by kernel_rfl) (by kernel_rfl) ?hq5 ?hy5 (by assumption) ?hr5
          case hi5 => (simp only [List.getElem?_toArray, List.getElem?_cons_succ, List.getElem?_cons_zero]; rfl)
          case hq5 => exact fun _ _ _ h => h
          case hy5 => exact Or.inr ⟨by rfl, rfl⟩
          simp only [Act.put, List.setIfInBounds_toArray, List.set_cons_zero, List.set_cons_succ]
          refine wpAnyH_take (i := 5) (oi := ?o6) (v := undef) ?hi6 (by kernel_rfl) (by kernel_rfl) (by kernel_rfl) ?hq6 ?hy6 (by assumption) ?hr6
          case hi6 => (simp only [List.getElem?_toArray, List.getElem?_cons_succ, List.getElem?_cons_zero]; rfl)
          case hq6 => exact fun _ _ _ h => h
          case hy6 => exact Or.inr ⟨by rfl, rfl⟩
          simp only [Act.put, List.setIfInBounds_toArray, List.set_cons_zero, List.set_cons_succ]
          refine wpAnyH_take (i := 6) (oi := ?o7) (v := undef) ?hi7 (by kernel_rfl) (by kernel_rfl) (by kernel_rfl) ?hq7 ?hy7 (by assumption) ?hr7
          case hi7 => (simp only [List.getElem?_toArray, List.getElem?_cons_succ, List.getElem?_cons_zero]; rfl)
          case hq7 => exact fun _ _ _ h => h
          case hy7 => exact Or.inr ⟨by rfl, rfl⟩
          simp only [Act.put, List.setIfInBounds_toArray, List.set_cons_zero, List.set_cons_succ]
          refine wpAnyH_take (i := 7) (oi := ?o8) (v := undef) ?hi8 (by kernel_rfl) (by kernel_rfl) (by kernel_rfl) ?hq8 ?hy8 (by assumption) ?hr8
          case hi8 => (simp only [List.getElem?_toArray, List.getElem?_cons_succ, List.getElem?_cons_zero]; rfl)
          case hq8 => exact fun _ _ _ h => h
          case hy8 => exact Or.inr ⟨by rfl, rfl⟩
          simp only [Act.put, List.setIfInBounds_toArray, List.set_cons_zero, List.set_cons_succ]
          refine wpAnyH_take (i := 8) (oi := ?o9) (v := undef) ?hi9 (by kernel_rfl) (by kernel_rfl) (by kernel_rfl) ?hq9 ?hy9 (by assumption) ?hr9
          case hi9 => (simp only [List.getElem?_toArray, List.getElem?_cons_succ, List.getElem?_cons_zero]; rfl)
          case hq9 => exact fun _ _ _ h => h
          case hy9 => exact Or.inr ⟨by rfl, rfl⟩
          simp only [Act.put, List.setIfInBounds_toArray, List.set_cons_zero, List.set_cons_succ]
          refine wpAnyH_take (i := 9) (oi := ?o10) (v := undef) ?hi10 (by kernel_rfl) (by kernel_rfl) (by kernel_rfl) ?hq10 ?hy10 (by assumption) ?hr10
          case hi10 => (simp only [List.getElem?_toArray, List.getElem?_cons_succ, List.getElem?_cons_zero]; rfl)
          case hq10 => exact fun _ _ _ h => h
          case hy10 => exact Or.inr ⟨by rfl, rfl⟩
          simp only [Act.put, List.setIfInBounds_toArray, List.set_cons_zero, List.set_cons_succ]
          refine wpAnyH_take (i := 10) (oi := ?o11) (v := undef) ?hi11 (by kernel_rfl) (by kernel_rfl) (by kernel_rfl) ?hq11 ?hy11 (by assumption) ?hr11
          case hi11 => (simp only [List.getElem?_toArray, List.getElem?_cons_succ, List.getElem?_cons_zero]; rfl)
          case hq11 => exact fun _ _ _ h => h
          case hy11 => exact Or.inr ⟨by rfl, rfl⟩
          simp only [Act.put, List.setIfInBounds_toArray, List.set_cons_zero, List.set_cons_succ]
          refine wpAnyH_take (i := 11) (oi := ?o12) (v := undef) ?hi12 (by kernel_rfl) (by kernel_rfl) (by kernel_rfl) ?hq12 ?hy12 (by assumption) ?hr12
          case hi12 => (simp only [List.getElem?_toArray, List.getElem?_cons_succ, List.getElem?_cons_zero]; rfl)
          case hq12 => exact fun _ _ _ h => h
          case hy12 => exact Or.inr ⟨by rfl, rfl⟩
          simp only [Act.put, List.setIfInBounds_toArray, List.set_cons_zero, List.set_cons_succ]
          refine wpAnyH_take (i := 12) (oi := ?o13) (v := ?hv13) ?hi13 (by kernel_rfl) (by kernel_rfl) (by kernel_rfl) ?hq13 ?hy13 (by assumption) ?hr13
          case hi13 => (simp only [List.getElem?_toArray, List.getElem?_cons_succ, List.getElem?_cons_zero]; rfl)
          case hq13 => exact fun _ _ _ h => h
          case hy13 => exact Or.inl ⟨by rfl, by intro w hSw; (try dsimp only at hSw); go_simp; try with_reducible rfl⟩
          simp only [Act.put, List.setIfInBounds_toArray, List.set_cons_zero, List.set_cons_succ]
          refine wpAnyH_done (by kernel_rfl) ?_ _
          go_wp2_with fail
          go_roundw
          case rel => exact ⟨j + 1, by omega, by go_num, hw6.drew, hH⟩
          case measure => simp [intOf]; omega
        · obtain ⟨m, hm'⟩ : ∃ m, j = m + 1 := ⟨j - 1, by omega⟩
          have hm := Lib.hid hm'
          have hmn : m < n := by omega
          have hsub : IntKind.i64.wrap ((j : Int) - 1) = (m : Int) := by rw [IntWalk.i64_in _ (by omega)]; omega
          have hwm : IntKind.i64.wrap (m : Int) = (m : Int) := IntWalk.i64_in _ (by omega)
          have hm0 : (0 : Int) ≤ (m : Int) := by omega
          have hm1 : (m : Int) < (n : Int) := by omega
          clear hm'
          obtain ⟨b', off', q, hA, hb', eq, q0, q1, q2, q3, q4, q5⟩ := (hx.out.below hw6).at_ hmn
          cases hA
          have hpv : Hid (prevF fs j = some q) := Lib.hid (by rw [hm.out]; exact eq)
          have hq6 := Lib.hid q0
          have hs6 := hw6.size
          clear eq q0 q1 q2 q3 q4 q5
          by_cases hlq : f.i ≤ q.i
          · have hlate : decide (f.i ≤ q.i) = true := by simpa using hlq
            obtain rfl : r = 5 := by rw [← H.out, hd2.out, hpv.out, if_pos (by simpa [lateF] using hlq)]
            go_wp2_with fail
            have hkn : decide (0 < j) = true := by simp; omega
            have hk : Hid (∀ W, Below w6.heap.size w6 W → (fun W => W.cell? ⟨wr.heap.size, 0, none⟩ = some (.int .i64 f.i) ∧ W.cell? ⟨b, off + m * 6, none⟩ = some (.int .i64 q.i)) W) := Lib.hid (fun W h => ⟨(hB6.out.below h hl6).1, (h.cell (p := ⟨b, _, none⟩) (show b < w6.heap.size by omega)).trans hq6.out⟩)
            refine wp_region_held_drew (S := (fun W => W.cell? ⟨wr.heap.size, 0, none⟩ = some (.int .i64 f.i) ∧ W.cell? ⟨b, off + m * 6, none⟩ = some (.int .i64 q.i))) (by kernel_rfl) (hk.out _ (Below.refl _ w6).drew) (fun hHeld => ?_)
            refine wpAnyH_take (i := 0) (oi := ?o14) (v := ?hv14) ?hi14 (by kernel_rfl) (by kernel_rfl) (by kernel_rfl) ?hq14 ?hy14 (by assumption) ?hr14
            case hi14 => (simp only [List.getElem?_toArray, List.getElem?_cons_zero]; rfl)
            case hq14 => exact fun _ _ _ h => h
            case hy14 => exact Or.inl ⟨by rfl, by intro w hSw; (try dsimp only at hSw); go_simp; try with_reducible rfl⟩
            simp only [Act.put, List.setIfInBounds_toArray, List.set_cons_zero, List.set_cons_succ]
            refine wpAnyH_take (i := 1) (oi := ?o15) (v := .bool true) ?hi15 (by kernel_rfl) (by kernel_rfl) (by kernel_rfl) ?hq15 ?hy15 (by assumption) ?hr15
            case hi15 => (simp only [List.getElem?_toArray, List.getElem?_cons_succ, List.getElem?_cons_zero]; rfl)
            case hq15 => exact fun _ _ _ h => h
            case hy15 => exact Or.inl ⟨by rfl, by intro w hSw; (try dsimp only at hSw); go_simp; try simp only [hkn]; try with_reducible rfl⟩
            simp only [Act.put, List.setIfInBounds_toArray, List.set_cons_zero, List.set_cons_succ]
            refine wpAnyH_take (i := 2) (oi := ?o16) (v := ?hv16) ?hi16 (by kernel_rfl) (by kernel_rfl) (by kernel_rfl) ?hq16 ?hy16 (by assumption) ?hr16
            case hi16 => (simp only [List.getElem?_toArray, List.getElem?_cons_succ, List.getElem?_cons_zero]; rfl)
            case hq16 => exact fun _ _ _ h => h
            case hy16 => exact Or.inl ⟨by rfl, by intro w hSw; (try dsimp only at hSw); go_simp; try with_reducible rfl⟩
            simp only [Act.put, List.setIfInBounds_toArray, List.set_cons_zero, List.set_cons_succ]
            refine wpAnyH_take (i := 3) (oi := ?o17) (v := ?hv17) ?hi17 (by kernel_rfl) (by kernel_rfl) (by kernel_rfl) ?hq17 ?hy17 (by assumption) ?hr17
            case hi17 => (simp only [List.getElem?_toArray, List.getElem?_cons_succ, List.getElem?_cons_zero]; rfl)
            case hq17 => exact fun _ _ _ h => h
            case hy17 => exact Or.inl ⟨by rfl, by intro w hSw; (try dsimp only at hSw); go_simp; try with_reducible rfl⟩
            simp only [Act.put, List.setIfInBounds_toArray, List.set_cons_zero, List.set_cons_succ]
            refine wpAnyH_take (i := 4) (oi := ?o18) (v := ?hv18) ?hi18 (by kernel_rfl) (by kernel_rfl) (by kernel_rfl) ?hq18 ?hy18 (by assumption) ?hr18
            case hi18 => (simp only [List.getElem?_toArray, List.getElem?_cons_succ, List.getElem?_cons_zero]; rfl)
            case hq18 => exact fun _ _ _ h => h
            case hy18 => exact Or.inl ⟨by rfl, by intro w hSw; (try dsimp only at hSw); go_simp; try with_reducible rfl⟩
            simp only [Act.put, List.setIfInBounds_toArray, List.set_cons_zero, List.set_cons_succ]
            refine wpAnyH_take (i := 5) (oi := ?o19) (v := ?hv19) ?hi19 (by kernel_rfl) (by kernel_rfl) (by kernel_rfl) ?hq19 ?hy19 (by assumption) ?hr19
            case hi19 => (simp only [List.getElem?_toArray, List.getElem?_cons_succ, List.getElem?_cons_zero]; rfl)
            case hq19 => exact fun _ _ _ h => h
            case hy19 => exact Or.inl ⟨by rfl, by intro w hSw; (try dsimp only at hSw); go_simp; try with_reducible rfl⟩
            simp only [Act.put, List.setIfInBounds_toArray, List.set_cons_zero, List.set_cons_succ]
            refine wpAnyH_take (i := 6) (oi := ?o20) (v := ?hv20) ?hi20 (by kernel_rfl) (by kernel_rfl) (by kernel_rfl) ?hq20 ?hy20 (by assumption) ?hr20
            case hi20 => (simp only [List.getElem?_toArray, List.getElem?_cons_succ, List.getElem?_cons_zero]; rfl)
            case hq20 => exact fun _ _ _ h => h
            case hy20 => exact Or.inl ⟨by rfl, by intro w hSw; (try dsimp only at hSw); go_simp; try with_reducible rfl⟩
            simp only [Act.put, List.setIfInBounds_toArray, List.set_cons_zero, List.set_cons_succ]
            refine wpAnyH_take (i := 7) (oi := ?o21) (v := .int .i64 (m : Int)) ?hi21 (by kernel_rfl) (by kernel_rfl) (by kernel_rfl) ?hq21 ?hy21 (by assumption) ?hr21
            case hi21 => (simp only [List.getElem?_toArray, List.getElem?_cons_succ, List.getElem?_cons_zero]; rfl)
            case hq21 => exact fun _ _ _ h => h
            case hy21 => exact Or.inl ⟨by rfl, by intro w hSw; (try dsimp only at hSw); go_simp; try simp only [hsub, hwm]; try with_reducible rfl⟩
            simp only [Act.put, List.setIfInBounds_toArray, List.set_cons_zero, List.set_cons_succ]
            refine wpAnyH_take (i := 8) (oi := ?o22) (v := ?hv22) ?hi22 (by kernel_rfl) (by kernel_rfl) (by kernel_rfl) ?hq22 ?hy22 (by assumption) ?hr22
            case hi22 => (simp only [List.getElem?_toArray, List.getElem?_cons_succ, List.getElem?_cons_zero]; rfl)
            case hq22 => exact fun _ _ _ h => h
            case hy22 => exact Or.inl ⟨by rfl, by intro w hSw; (try dsimp only at hSw); go_simp; try with_reducible rfl⟩
            simp only [Act.put, List.setIfInBounds_toArray, List.set_cons_zero, List.set_cons_succ]
            refine wpAnyH_take (i := 9) (oi := ?o23) (v := ?hv23) ?hi23 (by kernel_rfl) (by kernel_rfl) (by kernel_rfl) ?hq23 ?hy23 (by assumption) ?hr23
            case hi23 => (simp only [List.getElem?_toArray, List.getElem?_cons_succ, List.getElem?_cons_zero]; rfl)
            case hq23 => exact fun _ _ _ h => h
            case hy23 => exact Or.inl ⟨by rfl, by intro w hSw; (try dsimp only at hSw); go_simp; try with_reducible rfl⟩
            simp only [Act.put, List.setIfInBounds_toArray, List.set_cons_zero, List.set_cons_succ]
            refine wpAnyH_take (i := 10) (oi := ?o24) (v := ?hv24) ?hi24 (by kernel_rfl) (by kernel_rfl) (by kernel_rfl) ?hq24 ?hy24 (by assumption) ?hr24
            case hi24 => (simp only [List.getElem?_toArray, List.getElem?_cons_succ, List.getElem?_cons_zero]; rfl)
            case hq24 => exact fun _ _ _ h => h
            case hy24 => exact Or.inl ⟨by rfl, by intro w hSw; (try dsimp only at hSw); go_simp; try with_reducible rfl⟩
            simp only [Act.put, List.setIfInBounds_toArray, List.set_cons_zero, List.set_cons_succ]
            refine wpAnyH_take (i := 11) (oi := ?o25) (v := .bool true) ?hi25 (by kernel_rfl) (by kernel_rfl) (by kernel_rfl) ?hq25 ?hy25 (by assumption) ?hr25
            case hi25 => (simp only [List.getElem?_toArray, List.getElem?_cons_succ, List.getElem?_cons_zero]; rfl)
            case hq25 => exact fun _ _ _ h => h
            case hy25 => exact Or.inl ⟨by rfl, by intro w hSw; (try dsimp only at hSw); go_simp; try simp only [hlate]; try with_reducible rfl⟩
            simp only [Act.put, List.setIfInBounds_toArray, List.set_cons_zero, List.set_cons_succ]
            refine wpAnyH_take (i := 12) (oi := ?o26) (v := ?hv26) ?hi26 (by kernel_rfl) (by kernel_rfl) (by kernel_rfl) ?hq26 ?hy26 (by assumption) ?hr26
            case hi26 => (simp only [List.getElem?_toArray, List.getElem?_cons_succ, List.getElem?_cons_zero]; rfl)
            case hq26 => exact fun _ _ _ h => h
            case hy26 => exact Or.inl ⟨by rfl, by intro w hSw; (try dsimp only at hSw); go_simp; try with_reducible rfl⟩
            simp only [Act.put, List.setIfInBounds_toArray, List.set_cons_zero, List.set_cons_succ]
            refine wpAnyH_done (by kernel_rfl) ?_ _
            go_wp2_with fail
            go_ret2
            exact ⟨_, rfl, hw6.drew⟩
          · have hlate : decide (f.i ≤ q.i) = false := by simpa using hlq
            have hH : Hid (flowsE k (prevF fs (j + 1)) (fs.drop (j + 1)) = r) := Lib.hid (by rw [← H.out, hd2.out, hpv.out, if_neg (by simpa [lateF] using hlq)])
            go_wp2_with fail
            have hkn : decide (0 < j) = true := by simp; omega
            have hk : Hid (∀ W, Below w6.heap.size w6 W → (fun W => W.cell? ⟨wr.heap.size, 0, none⟩ = some (.int .i64 f.i) ∧ W.cell? ⟨b, off + m * 6, none⟩ = some (.int .i64 q.i)) W) := Lib.hid (fun W h => ⟨(hB6.out.below h hl6).1, (h.cell (p := ⟨b, _, none⟩) (show b < w6.heap.size by omega)).trans hq6.out⟩)
            refine wp_region_held_drew (S := (fun W => W.cell? ⟨wr.heap.size, 0, none⟩ = some (.int .i64 f.i) ∧ W.cell? ⟨b, off + m * 6, none⟩ = some (.int .i64 q.i))) (by kernel_rfl) (hk.out _ (Below.refl _ w6).drew) (fun hHeld => ?_)
            refine wpAnyH_take (i := 0) (oi := ?o27) (v := ?hv27) ?hi27 (by kernel_rfl) (by kernel_rfl) (by kernel_rfl) ?hq27 ?hy27 (by assumption) ?hr27
            case hi27 => (simp only [List.getElem?_toArray, List.getElem?_cons_zero]; rfl)
            case hq27 => exact fun _ _ _ h => h
            case hy27 => exact Or.inl ⟨by rfl, by intro w hSw; (try dsimp only at hSw); go_simp; try with_reducible rfl⟩
            simp only [Act.put, List.setIfInBounds_toArray, List.set_cons_zero, List.set_cons_succ]
            refine wpAnyH_take (i := 1) (oi := ?o28) (v := .bool true) ?hi28 (by kernel_rfl) (by kernel_rfl) (by kernel_rfl) ?hq28 ?hy28 (by assumption) ?hr28
            case hi28 => (simp only [List.getElem?_toArray, List.getElem?_cons_succ, List.getElem?_cons_zero]; rfl)
            case hq28 => exact fun _ _ _ h => h
            case hy28 => exact Or.inl ⟨by rfl, by intro w hSw; (try dsimp only at hSw); go_simp; try simp only [hkn]; try with_reducible rfl⟩
            simp only [Act.put, List.setIfInBounds_toArray, List.set_cons_zero, List.set_cons_succ]
            refine wpAnyH_take (i := 2) (oi := ?o29) (v := ?hv29) ?hi29 (by kernel_rfl) (by kernel_rfl) (by kernel_rfl) ?hq29 ?hy29 (by assumption) ?hr29
            case hi29 => (simp only [List.getElem?_toArray, List.getElem?_cons_succ, List.getElem?_cons_zero]; rfl)
            case hq29 => exact fun _ _ _ h => h
            case hy29 => exact Or.inl ⟨by rfl, by intro w hSw; (try dsimp only at hSw); go_simp; try with_reducible rfl⟩
            simp only [Act.put, List.setIfInBounds_toArray, List.set_cons_zero, List.set_cons_succ]
            refine wpAnyH_take (i := 3) (oi := ?o30) (v := ?hv30) ?hi30 (by kernel_rfl) (by kernel_rfl) (by kernel_rfl) ?hq30 ?hy30 (by assumption) ?hr30
            case hi30 => (simp only [List.getElem?_toArray, List.getElem?_cons_succ, List.getElem?_cons_zero]; rfl)
            case hq30 => exact fun _ _ _ h => h
            case hy30 => exact Or.inl ⟨by rfl, by intro w hSw; (try dsimp only at hSw); go_simp; try with_reducible rfl⟩
            simp only [Act.put, List.setIfInBounds_toArray, List.set_cons_zero, List.set_cons_succ]
            refine wpAnyH_take (i := 4) (oi := ?o31) (v := ?hv31) ?hi31 (by kernel_rfl) (by kernel_rfl) (by kernel_rfl) ?hq31 ?hy31 (by assumption) ?hr31
            case hi31 => (simp only [List.getElem?_toArray, List.getElem?_cons_succ, List.getElem?_cons_zero]; rfl)
            case hq31 => exact fun _ _ _ h => h
            case hy31 => exact Or.inl ⟨by rfl, by intro w hSw; (try dsimp only at hSw); go_simp; try with_reducible rfl⟩
            simp only [Act.put, List.setIfInBounds_toArray, List.set_cons_zero, List.set_cons_succ]
            refine wpAnyH_take (i := 5) (oi := ?o32) (v := ?hv32) ?hi32 (by kernel_rfl) (by kernel_rfl) (by kernel_rfl) ?hq32 ?hy32 (by assumption) ?hr32
            case hi32 => (simp only [List.getElem?_toArray, List.getElem?_cons_succ, List.getElem?_cons_zero]; rfl)
            case hq32 => exact fun _ _ _ h => h
            case hy32 => exact Or.inl ⟨by rfl, by intro w hSw; (try dsimp only at hSw); go_simp; try with_reducible rfl⟩
            simp only [Act.put, List.setIfInBounds_toArray, List.set_cons_zero, List.set_cons_succ]
            refine wpAnyH_take (i := 6) (oi := ?o33) (v := ?hv33) ?hi33 (by kernel_rfl) (by kernel_rfl) (by kernel_rfl) ?hq33 ?hy33 (by assumption) ?hr33
            case hi33 => (simp only [List.getElem?_toArray, List.getElem?_cons_succ, List.getElem?_cons_zero]; rfl)
            case hq33 => exact fun _ _ _ h => h
            case hy33 => exact Or.inl ⟨by rfl, by intro w hSw; (try dsimp only at hSw); go_simp; try with_reducible rfl⟩
            simp only [Act.put, List.setIfInBounds_toArray, List.set_cons_zero, List.set_cons_succ]
            refine wpAnyH_take (i := 7) (oi := ?o34) (v := .int .i64 (m : Int)) ?hi34 (by kernel_rfl) (by kernel_rfl) (by kernel_rfl) ?hq34 ?hy34 (by assumption) ?hr34
            case hi34 => (simp only [List.getElem?_toArray, List.getElem?_cons_succ, List.getElem?_cons_zero]; rfl)
            case hq34 => exact fun _ _ _ h => h
            case hy34 => exact Or.inl ⟨by rfl, by intro w hSw; (try dsimp only at hSw); go_simp; try simp only [hsub, hwm]; try with_reducible rfl⟩
            simp only [Act.put, List.setIfInBounds_toArray, List.set_cons_zero, List.set_cons_succ]
            refine wpAnyH_take (i := 8) (oi := ?o35) (v := ?hv35) ?hi35 (by kernel_rfl) (by kernel_rfl) (by kernel_rfl) ?hq35 ?hy35 (by assumption) ?hr35
            case hi35 => (simp only [List.getElem?_toArray, List.getElem?_cons_succ, List.getElem?_cons_zero]; rfl)
            case hq35 => exact fun _ _ _ h => h
            case hy35 => exact Or.inl ⟨by rfl, by intro w hSw; (try dsimp only at hSw); go_simp; try with_reducible rfl⟩
            simp only [Act.put, List.setIfInBounds_toArray, List.set_cons_zero, List.set_cons_succ]
            refine wpAnyH_take (i := 9) (oi := ?o36) (v := ?hv36) ?hi36 (by kernel_rfl) (by kernel_rfl) (by kernel_rfl) ?hq36 ?hy36 (by assumption) ?hr36
            case hi36 => (simp only [List.getElem?_toArray, List.getElem?_cons_succ, List.getElem?_cons_zero]; rfl)
            case hq36 => exact fun _ _ _ h => h
            case hy36 => exact Or.inl ⟨by rfl, by intro w hSw; (try dsimp only at hSw); go_simp; try with_reducible rfl⟩
            simp only [Act.put, List.setIfInBounds_toArray, List.set_cons_zero, List.set_cons_succ]
            refine wpAnyH_take (i := 10) (oi := ?o37) (v := ?hv37) ?hi37 (by kernel_rfl) (by kernel_rfl) (by kernel_rfl) ?hq37 ?hy37 (by assumption) ?hr37
            case hi37 => (simp only [List.getElem?_toArray, List.getElem?_cons_succ, List.getElem?_cons_zero]; rfl)
            case hq37 => exact fun _ _ _ h => h
            case hy37 => exact Or.inl ⟨by rfl, by intro w hSw; (try dsimp only at hSw); go_simp; try with_reducible rfl⟩
            simp only [Act.put, List.setIfInBounds_toArray, List.set_cons_zero, List.set_cons_succ]
            refine wpAnyH_take (i := 11) (oi := ?o38) (v := .bool false) ?hi38 (by kernel_rfl) (by kernel_rfl) (by kernel_rfl) ?hq38 ?hy38 (by assumption) ?hr38
            case hi38 => (simp only [List.getElem?_toArray, List.getElem?_cons_succ, List.getElem?_cons_zero]; rfl)
            case hq38 => exact fun _ _ _ h => h
            case hy38 => exact Or.inl ⟨by rfl, by intro w hSw; (try dsimp only at hSw); go_simp; try simp only [hlate]; try with_reducible rfl⟩
            simp only [Act.put, List.setIfInBounds_toArray, List.set_cons_zero, List.set_cons_succ]
            refine wpAnyH_take (i := 12) (oi := ?o39) (v := ?hv39) ?hi39 (by kernel_rfl) (by kernel_rfl) (by kernel_rfl) ?hq39 ?hy39 (by assumption) ?hr39
            case hi39 => (simp only [List.getElem?_toArray, List.getElem?_cons_succ, List.getElem?_cons_zero]; rfl)
            case hq39 => exact fun _ _ _ h => h
            case hy39 => exact Or.inl ⟨by rfl, by intro w hSw; (try dsimp only at hSw); go_simp; try with_reducible rfl⟩
            simp only [Act.put, List.setIfInBounds_toArray, List.set_cons_zero, List.set_cons_succ]
            refine wpAnyH_done (by kernel_rfl) ?_ _
            go_wp2_with fail
            go_roundw
            case rel => exact ⟨j + 1, by omega, by go_num, hw6.drew, hH⟩
            case measure => simp [intOf]; omega
      · have hne2 : (e != 0) = true := by simp [hez]
        obtain rfl : r = e := by rw [← H.out, hd.out, he.out, if_pos hez]
        have hez := Lib.hid hez
        go_wp2_with fail
        go_ret2
        exact ⟨_, rfl, hw6⟩
    · obtain rfl : r = 0 := by rw [← H.out, List.drop_eq_nil_of_le (by omega)]; rfl
      go_wp2_with fail
      go_ret2
      exact ⟨_, rfl, hwx⟩
/-- flow.Check. -/
theorem flows_lit (k : Int) (A : Option Addr) (n c : Nat) (fs : List F6) (hn : n ≤ 1000000) (r : Int) (hr : flowsR k fs = r) (w : World) (hx : Flows w w.heap.size A n fs) : Calls Tryz.prog 39 #[.int .i64 k, .slice A n c] w (FlowEnd w r) := by
  subst hr
  have hl := hx.1
  unfold flowsR
  by_cases h1 : k < 2 ∨ 32 < k
  · rw [if_pos h1]; exact flows_1 k A n c (by omega) w
  rw [if_neg h1]
  by_cases h2 : 16 < fs.length
  · rw [if_pos h2]; exact flows_2 k A n c (by omega) (by omega) hn (by omega) w
  rw [if_neg h2]
  exact flows_3 k A n c fs (by omega) (by omega) (by omega) _ (Lib.hid rfl) w (Lib.hid hx)
/-- The index of a flow. -/
def findF (fs : List F6) (id : Int) : Int := fidx (fun f => decide (f.i = id)) 0 fs
set_option maxHeartbeats 800000 in
theorem isF_lit (f : F6) (id : Int) (b : Nat) (r : Bool) (h : decide (f.i = id) = r) (w : World) (hb : w.cell? ⟨b, 0, none⟩ = some (.int .i64 id)) (hl : b < w.heap.size) : Calls Tryz.prog 120 #[.agg #[.int .i64 f.i, .int .i64 f.f, .int .i64 f.t, .int .i64 f.p, .int .i64 f.h, .int .i64 f.d], .pointer (some ⟨b, 0, none⟩)] w fun e w' => e = .returned (.bool r) ∧ Below w.heap.size w w' := by
  have hne : (⟨w.heap.size, 0, none⟩ : Addr) ≠ ⟨b, 0, none⟩ := fun e => by cases e; omega
  have h2 : (f.i == id) = r := by rw [← h]; rfl
  have h := Lib.hid h
  go_enter Tryz.func120, Tryz.ntmps120
  go_wp2
  go_ret
  exact ⟨rfl, alloc_below _ _⟩
set_option maxHeartbeats 800000 in
/-- flow.Find. -/
theorem findF_lit (A : Option Addr) (n c : Nat) (fs : List F6) (id : Int) (hn : n ≤ 1000000) (r : Int) (hr : findF fs id = r) (w : World) (hx : Flows w w.heap.size A n fs) : Calls Tryz.prog 87 #[.slice A n c, .int .i64 id] w fun e w' => e = .returned (.int .i64 r) ∧ Below w.heap.size w w' := by
  have hb0 := alloc_below w (.cells #[.int .i64 id] 3)
  have hx0 := Lib.hid ((hx.below hb0).more hb0.size)
  have hc0 : (w.alloc (.cells #[.int .i64 id] 3)).cell? ⟨w.heap.size, 0, none⟩ = some (.int .i64 id) := by simp [go_sem]
  have hl0 : w.heap.size < (w.alloc (.cells #[.int .i64 id] 3)).heap.size := by simp
  have hr := Lib.hid (show fidx (fun f => decide (f.i = id)) 0 fs = r from hr)
  clear hx
  go_enter Tryz.func87, Tryz.ntmps87
  go_wp2_with fail
  revert hb0 hx0 hc0 hl0
  generalize w.alloc (.cells #[.int .i64 id] 3) = w0
  intro hb0 hx0 hc0 hl0
  refine (idx83_120 (.pointer (some ⟨w.heap.size, 0, none⟩)) A n c fs (fun f => decide (f.i = id)) hn r hr _ hx0 (Lib.hid fun wx y b hwx _ hb => isF_lit y id w.heap.size b hb wx ((hwx.cell (p := ⟨w.heap.size, 0, none⟩) hl0).trans hc0) (Nat.lt_of_lt_of_le hl0 hwx.size))).mono ?_
  rintro e w1 ⟨rfl, hb1⟩
  go_wp2_with fail
  go_ret
  exact ⟨rfl, bstep hb0 hb1 (Nat.le_refl _)⟩
set_option maxHeartbeats 800000 in
theorem period_lit (f : F6) (L O : Int) (V : Value) (b : Nat) (hL : 0 ≤ L) (hp : 1 ≤ f.p) (r : Bool) (h : (L % f.p != 0) = r) (w : World) (hb : BoxS w b L O V) (hl : b < w.heap.size) : Calls Tryz.prog 42 #[.agg #[.int .i64 f.i, .int .i64 f.f, .int .i64 f.t, .int .i64 f.p, .int .i64 f.h, .int .i64 f.d], .pointer (some ⟨b, 0, none⟩)] w fun e w' => e = .returned (.bool r) ∧ Below w.heap.size w w' := by
  have hne : (⟨w.heap.size, 0, none⟩ : Addr) ≠ ⟨b, 0, none⟩ := fun e => by cases e; omega
  obtain ⟨b0, b1, b2⟩ := hb
  have hz : (f.p == 0) = false := by rw [beq_eq_false_iff_ne]; omega
  have hz2 : ¬ f.p = 0 := by omega
  go_enter Tryz.func42, Tryz.ntmps42
  go_wp2
  go_ret
  exact ⟨rfl, alloc_below _ _⟩
end Go.Proofs.YtnddjcadkbjjhaaGreatDoor
