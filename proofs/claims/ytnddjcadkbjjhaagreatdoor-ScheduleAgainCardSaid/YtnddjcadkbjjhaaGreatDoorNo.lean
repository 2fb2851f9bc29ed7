/-
  CHAPTER 35: Check.
-/
import Derived.Test.YtnddjcadkbjjhaaGreatDoorNm
namespace Go.Proofs.YtnddjcadkbjjhaaGreatDoor
open Go.RowKit

/-- The first index from k on with a property of index and element, -1 if there is none. -/
def fidx2 {α : Type} (p : Nat → α → Bool) : Nat → List α → Int
  | _, [] => -1
  | k, x :: l => if p k x = true then k else fidx2 p (k + 1) l
theorem fidx2_drop {α : Type} (p : Nat → α → Bool) (xs : List α) (k : Nat) (x : α) (h : xs[k]? = some x) : fidx2 p k (xs.drop k) = if p k x = true then (k : Int) else fidx2 p (k + 1) (xs.drop (k + 1)) := by
  obtain ⟨h1, e1⟩ := List.getElem?_eq_some_iff.1 h
  rw [List.drop_eq_getElem_cons h1, e1]; rfl
def twiceI (cs : List C5) : Int := fidx2 (fun k c => twiceB cs k c) 0 cs
def disturbI (N : NT) (cs : List C5) : Int := fidx2 (fun _ c => disturbedB N cs c) 0 cs
def periodB (L : Int) (f : F6) : Bool := L % f.p != 0
/-- The first fault of a schedule. -/
def checkR (N : NT) (fs : List F6) (L O : Int) (cs : List C5) : Int × Int :=
  if netE N ≠ 0 then (-1, 1) else if flowsR N.k fs ≠ 0 then (-1, 1) else if sizedB L O = false then (-1, 2)
  else if fs.any (periodB L) = true then (-1, 11) else if 512 < cs.length then (-1, 8)
  else if (cellsR N fs L O 0 none cs).2 ≠ 0 then cellsR N fs L O 0 none cs
  else if 0 ≤ twiceI cs then (twiceI cs, 6) else if 0 ≤ disturbI N cs then (disturbI N cs, 16) else (-1, 0)
theorem flowsE_ok (k : Int) : ∀ (fs : List F6) (p : Option F6), flowsE k p fs = 0 → ∀ f ∈ fs, flowE k f = 0
  | [], _, _, f, hf => by cases hf
  | x :: r, p, h, f, hf => by
    unfold flowsE at h
    by_cases hx : flowE k x = 0
    · rw [if_neg (by simpa using hx)] at h
      by_cases hl : lateF p x = true
      · rw [if_pos hl] at h; omega
      · rw [if_neg hl] at h
        rcases List.mem_cons.1 hf with rfl | hf
        · exact hx
        · exact flowsE_ok k r (some x) h f hf
    · rw [if_pos hx] at h; exact absurd h hx
theorem flowE_zero {k : Int} {f : F6} (h : flowE k f = 0) : okF k f = true := by
  unfold flowE at h
  cases ho : okF k f
  · rw [if_pos ho] at h; omega
  · rfl
theorem flowsR_ok {k : Int} {fs : List F6} (h : flowsR k fs = 0) : fs.length ≤ 16 ∧ ∀ f ∈ fs, okF k f = true := by
  unfold flowsR at h
  by_cases h1 : k < 2 ∨ 32 < k
  · rw [if_pos h1] at h; omega
  rw [if_neg h1] at h
  by_cases h2 : 16 < fs.length
  · rw [if_pos h2] at h; omega
  rw [if_neg h2] at h
  exact ⟨by omega, fun f hf => flowE_zero (flowsE_ok k fs none h f hf)⟩
theorem cellsR_ok (N : NT) (fs : List F6) (L O : Int) : ∀ (l : List C5) (k : Nat) (p : Option C5), (cellsR N fs L O k p l).2 = 0 → cellsR N fs L O k p l = (-1, 0) ∧ (∀ c ∈ l, placedB L O c = true ∧ lostB N fs c = false) ∧ (∀ (i : Nat) (a b : C5), (p.toList ++ l)[i]? = some a → (p.toList ++ l)[i + 1]? = some b → cmpC a b < 0)
  | [], k, p, h => by
    refine ⟨rfl, fun c hc => (by cases hc), fun i a b ha hb => ?_⟩
    cases p <;> simp at ha hb
  | c :: r, k, p, h => by
    unfold cellsR at h ⊢
    by_cases he : cellE N fs L O p c = 0
    · rw [if_pos he] at h ⊢
      obtain ⟨h1, h2, h3⟩ := cellsR_ok N fs L O r (k + 1) (some c) h
      unfold cellE at he
      cases hp : placedB L O c
      · rw [if_pos hp] at he; omega
      rw [if_neg (by simp [hp])] at he
      cases hl : lostB N fs c
      case true => rw [if_pos hl] at he; omega
      rw [if_neg (by simp [hl])] at he
      have hla : ¬ lateC p c = true := fun e => by rw [if_pos e] at he; omega
      refine ⟨h1, fun z hz => ?_, fun i a b ha hb => ?_⟩
      · rcases List.mem_cons.1 hz with rfl | hz
        · exact ⟨hp, hl⟩
        · exact h2 z hz
      · cases p with
        | none => exact h3 i a b (by simpa using ha) (by simpa using hb)
        | some q =>
          cases i with
          | zero =>
            simp at ha hb
            subst ha hb
            simp [lateC] at hla
            omega
          | succ i => exact h3 i a b (by simpa using ha) (by simpa using hb)
    · rw [if_neg he] at h
      exact absurd h he
theorem fidx_at {α : Type} (p : α → Bool) : ∀ (l : List α) (k : Nat), 0 ≤ fidx p k l → ∃ (j : Nat) (x : α), fidx p k l = ((k + j : Nat) : Int) ∧ l[j]? = some x ∧ p x = true
  | [], k, h => by simp [fidx] at h
  | y :: l, k, h => by
    unfold fidx at h ⊢
    by_cases hy : p y = true
    · rw [if_pos hy]; exact ⟨0, y, rfl, rfl, hy⟩
    · rw [if_neg hy] at h ⊢
      obtain ⟨j, x, h1, h2, h3⟩ := fidx_at p l (k + 1) h
      exact ⟨j + 1, x, by rw [h1]; congr 1; omega, by simpa using h2, h3⟩
theorem findL_at {ls : List L3} {a b : Int} (h : 0 ≤ findL ls a b) : ∃ (j : Nat) (l : L3), findL ls a b = j ∧ ls[j]? = some l ∧ l.f = a ∧ l.t = b := by
  obtain ⟨j, l, h1, h2, h3⟩ := fidx_at _ ls 0 h
  rw [Nat.zero_add] at h1
  simp only [Bool.and_eq_true, decide_eq_true_eq] at h3
  exact ⟨j, l, h1, h2, h3.1, h3.2⟩
/-- A cell over a usable link. -/
theorem use_ok {N : NT} (hV : NetV N) {a b : Int} (h : usableI N (findL N.ls a b) = true) : ∃ ti bi : Nat, findL N.ls a b = ti ∧ findL N.ls b a = bi ∧ ti < N.nm ∧ bi < N.nm ∧ insB a N.k = true ∧ insB b N.k = true ∧ a ≠ b := by
  unfold usableI at h
  simp only [Bool.and_eq_true, decide_eq_true_eq] at h
  obtain ⟨⟨h0, _⟩, hu⟩ := h
  obtain ⟨ti, l, e1, e2, e3, e4⟩ := findL_at h0
  rw [e1, Int.toNat_natCast] at hu
  unfold usableB at hu
  rw [e2] at hu
  simp only [Bool.and_eq_true, decide_eq_true_eq] at hu
  rw [e3, e4] at hu
  obtain ⟨bi, l', f1, f2, f3, f4⟩ := findL_at hu.1.1
  have h1 := (List.getElem?_eq_some_iff.1 e2).1
  have h2 := (List.getElem?_eq_some_iff.1 f2).1
  have h3 := hV.lls
  have h4 := hV.nm
  have hlk := hV.lk ti l e2
  unfold linkAt at hlk
  have hr := rangeL_iff (linkE_zero hlk).1
  rw [e3, e4] at hr
  exact ⟨ti, bi, e1, f1, by omega, by omega, (insB_iff _ _).2 ⟨hr.1, hr.2.1⟩, (insB_iff _ _).2 ⟨hr.2.2.1, hr.2.2.2.1⟩, hr.2.2.2.2.1⟩
theorem lost_use {N : NT} {fs : List F6} {c : C5} (h : lostB N fs c = false) : usableI N (findL N.ls c.f c.t) = true ∧ 0 ≤ findF fs c.w := by
  unfold lostB at h
  simp at h
  exact ⟨h.1, by omega⟩
set_option maxHeartbeats 8000000 in
set_option maxRecDepth 100000 in
theorem ck_1 (N : NT) (hsm : N.small) (A' : Option Addr) (n' c' : Nat) (fs : List F6) (_hn' : n' ≤ 1000000) (L O : Int) (A : Option Addr) (n c : Nat) (cs : List C5) (_hn : n ≤ 1000000) (e0 : Int) (hv : Hid (netE N = e0)) (he0 : (e0 != 0) = true) (w : World) (hNM : Hid (NetM w w.heap.size N)) (hFM : Hid (Flows w w.heap.size A' n' fs)) (hcs : Hid (Cells w w.heap.size A n cs)) :
    Calls Tryz.prog 14 #[.agg #[.int .i64 N.k, .slice N.Ap N.np N.cp, .int .i64 N.z, .int .i64 N.h, .slice N.Al N.nl N.cl, .slice N.Am N.nm N.cm], .slice A' n' c', .agg #[.int .i64 L, .int .i64 O, .slice A n c]] w fun e w' => e = .returned (.tuple #[.int .i64 (-1), .int .i64 1]) ∧ Below w.heap.size w w' := by
  obtain ⟨hw0, hN0p, hS0p, hSl0⟩ := boxNS w N L O (.slice A n c)
  have hNl0 := Nat.lt_of_succ_lt hSl0
  have hN0 := Lib.hid hN0p
  have hS0 := Lib.hid hS0p
  have hM0 := Lib.hid ((hNM.out.below hw0).more hw0.size)
  have hF0 := Lib.hid ((hFM.out.below hw0).more hw0.size)
  have hC0 := Lib.hid ((hcs.out.below hw0).more hw0.size)
  have hl := hcs.out.1
  clear hN0p hS0p hNM hFM hcs
  go_enter Tryz.func14, Tryz.ntmps14
  go_upto_region 1 with fail
  revert hw0 hSl0 hNl0 hN0 hS0 hM0 hF0 hC0
  generalize (w.alloc (ONT N)).alloc (N30 L O (.slice A n c)) = w0
  intro hw0 hSl0 hNl0 hN0 hS0 hM0 hF0 hC0
  obtain ⟨n0, n1, n2, n3, n4, n5⟩ := id hN0.out
  obtain ⟨s0, s1, s2⟩ := id hS0.out
  go_wp2_with fail
  refine (net_lit N hsm e0 hv.out _ hM0.out).mono ?_
  rintro e w1 ⟨rfl, hb1⟩
  have hN1 := Lib.hid (hN0.out.below hb1 hNl0)
  have hNl1 := Nat.lt_of_lt_of_le hNl0 hb1.size
  have hS1 := Lib.hid (hS0.out.below hb1 hSl0)
  have hSl1 := Nat.lt_of_lt_of_le hSl0 hb1.size
  have hM1 := Lib.hid ((hM0.out.below hb1).more hb1.size)
  have hF1 := Lib.hid ((hF0.out.below hb1).more hb1.size)
  have hC1 := Lib.hid ((hC0.out.below hb1).more hb1.size)
  have hw1 := bstep hw0 hb1 (Nat.le_refl _)
  clear hN0 hS0 hM0 hF0 hC0 hw0 hNl0 hSl0
  (try clear n0 n1 n2 n3 n4 n5)
  (try clear s0 s1 s2)
  obtain ⟨n0, n1, n2, n3, n4, n5⟩ := id hN1.out
  obtain ⟨s0, s1, s2⟩ := id hS1.out
  go_wp2_with fail
  go_ret2
  exact ⟨rfl, hw1⟩
set_option maxHeartbeats 8000000 in
set_option maxRecDepth 100000 in
theorem ck_2 (N : NT) (hsm : N.small) (A' : Option Addr) (n' c' : Nat) (fs : List F6) (hn' : n' ≤ 1000000) (L O : Int) (A : Option Addr) (n c : Nat) (cs : List C5) (_hn : n ≤ 1000000) (hv : Hid (netE N = 0)) (e0 : Int) (hfl : Hid (flowsR N.k fs = e0)) (he0 : (e0 != 0) = true) (w : World) (hNM : Hid (NetM w w.heap.size N)) (hFM : Hid (Flows w w.heap.size A' n' fs)) (hcs : Hid (Cells w w.heap.size A n cs)) :
    Calls Tryz.prog 14 #[.agg #[.int .i64 N.k, .slice N.Ap N.np N.cp, .int .i64 N.z, .int .i64 N.h, .slice N.Al N.nl N.cl, .slice N.Am N.nm N.cm], .slice A' n' c', .agg #[.int .i64 L, .int .i64 O, .slice A n c]] w fun e w' => e = .returned (.tuple #[.int .i64 (-1), .int .i64 1]) ∧ Below w.heap.size w w' := by
  obtain ⟨hw0, hN0p, hS0p, hSl0⟩ := boxNS w N L O (.slice A n c)
  have hNl0 := Nat.lt_of_succ_lt hSl0
  have hN0 := Lib.hid hN0p
  have hS0 := Lib.hid hS0p
  have hM0 := Lib.hid ((hNM.out.below hw0).more hw0.size)
  have hF0 := Lib.hid ((hFM.out.below hw0).more hw0.size)
  have hC0 := Lib.hid ((hcs.out.below hw0).more hw0.size)
  have hl := hcs.out.1
  clear hN0p hS0p hNM hFM hcs
  go_enter Tryz.func14, Tryz.ntmps14
  go_upto_region 1 with fail
  revert hw0 hSl0 hNl0 hN0 hS0 hM0 hF0 hC0
  generalize (w.alloc (ONT N)).alloc (N30 L O (.slice A n c)) = w0
  intro hw0 hSl0 hNl0 hN0 hS0 hM0 hF0 hC0
  obtain ⟨n0, n1, n2, n3, n4, n5⟩ := id hN0.out
  obtain ⟨s0, s1, s2⟩ := id hS0.out
  go_wp2_with fail
  refine (net_lit N hsm 0 hv.out _ hM0.out).mono ?_
  rintro e w1 ⟨rfl, hb1⟩
  have hN1 := Lib.hid (hN0.out.below hb1 hNl0)
  have hNl1 := Nat.lt_of_lt_of_le hNl0 hb1.size
  have hS1 := Lib.hid (hS0.out.below hb1 hSl0)
  have hSl1 := Nat.lt_of_lt_of_le hSl0 hb1.size
  have hM1 := Lib.hid ((hM0.out.below hb1).more hb1.size)
  have hF1 := Lib.hid ((hF0.out.below hb1).more hb1.size)
  have hC1 := Lib.hid ((hC0.out.below hb1).more hb1.size)
  have hw1 := bstep hw0 hb1 (Nat.le_refl _)
  clear hN0 hS0 hM0 hF0 hC0 hw0 hNl0 hSl0
  (try clear n0 n1 n2 n3 n4 n5)
  (try clear s0 s1 s2)
  obtain ⟨n0, n1, n2, n3, n4, n5⟩ := id hN1.out
  obtain ⟨s0, s1, s2⟩ := id hS1.out
  go_wp2_with fail
  refine (flows_lit N.k A' n' c' fs hn' e0 hfl.out _ hF1.out).mono ?_
  rintro e w2 ⟨fi, rfl, hb2⟩
  have hN2 := Lib.hid (hN1.out.below hb2 hNl1)
  have hNl2 := Nat.lt_of_lt_of_le hNl1 hb2.size
  have hS2 := Lib.hid (hS1.out.below hb2 hSl1)
  have hSl2 := Nat.lt_of_lt_of_le hSl1 hb2.size
  have hM2 := Lib.hid ((hM1.out.below hb2).more hb2.size)
  have hF2 := Lib.hid ((hF1.out.below hb2).more hb2.size)
  have hC2 := Lib.hid ((hC1.out.below hb2).more hb2.size)
  have hw2 := bstep hw1 hb2 (Nat.le_refl _)
  clear hN1 hS1 hM1 hF1 hC1 hw1 hNl1 hSl1
  (try clear n0 n1 n2 n3 n4 n5)
  (try clear s0 s1 s2)
  obtain ⟨n0, n1, n2, n3, n4, n5⟩ := id hN2.out
  obtain ⟨s0, s1, s2⟩ := id hS2.out
  go_wp2_with fail
  go_ret2
  exact ⟨rfl, hw2⟩
set_option maxHeartbeats 8000000 in
set_option maxRecDepth 100000 in
theorem ck_3 (N : NT) (hsm : N.small) (A' : Option Addr) (n' c' : Nat) (fs : List F6) (hn' : n' ≤ 1000000) (L O : Int) (A : Option Addr) (n c : Nat) (cs : List C5) (_hn : n ≤ 1000000) (hv : Hid (netE N = 0)) (hfl : Hid (flowsR N.k fs = 0)) (hsz : Hid (sizedB L O = false)) (w : World) (hNM : Hid (NetM w w.heap.size N)) (hFM : Hid (Flows w w.heap.size A' n' fs)) (hcs : Hid (Cells w w.heap.size A n cs)) :
    Calls Tryz.prog 14 #[.agg #[.int .i64 N.k, .slice N.Ap N.np N.cp, .int .i64 N.z, .int .i64 N.h, .slice N.Al N.nl N.cl, .slice N.Am N.nm N.cm], .slice A' n' c', .agg #[.int .i64 L, .int .i64 O, .slice A n c]] w fun e w' => e = .returned (.tuple #[.int .i64 (-1), .int .i64 2]) ∧ Below w.heap.size w w' := by
  obtain ⟨hw0, hN0p, hS0p, hSl0⟩ := boxNS w N L O (.slice A n c)
  have hNl0 := Nat.lt_of_succ_lt hSl0
  have hN0 := Lib.hid hN0p
  have hS0 := Lib.hid hS0p
  have hM0 := Lib.hid ((hNM.out.below hw0).more hw0.size)
  have hF0 := Lib.hid ((hFM.out.below hw0).more hw0.size)
  have hC0 := Lib.hid ((hcs.out.below hw0).more hw0.size)
  have hl := hcs.out.1
  clear hN0p hS0p hNM hFM hcs
  go_enter Tryz.func14, Tryz.ntmps14
  go_upto_region 1 with fail
  revert hw0 hSl0 hNl0 hN0 hS0 hM0 hF0 hC0
  generalize (w.alloc (ONT N)).alloc (N30 L O (.slice A n c)) = w0
  intro hw0 hSl0 hNl0 hN0 hS0 hM0 hF0 hC0
  obtain ⟨n0, n1, n2, n3, n4, n5⟩ := id hN0.out
  obtain ⟨s0, s1, s2⟩ := id hS0.out
  go_wp2_with fail
  refine (net_lit N hsm 0 hv.out _ hM0.out).mono ?_
  rintro e w1 ⟨rfl, hb1⟩
  have hN1 := Lib.hid (hN0.out.below hb1 hNl0)
  have hNl1 := Nat.lt_of_lt_of_le hNl0 hb1.size
  have hS1 := Lib.hid (hS0.out.below hb1 hSl0)
  have hSl1 := Nat.lt_of_lt_of_le hSl0 hb1.size
  have hM1 := Lib.hid ((hM0.out.below hb1).more hb1.size)
  have hF1 := Lib.hid ((hF0.out.below hb1).more hb1.size)
  have hC1 := Lib.hid ((hC0.out.below hb1).more hb1.size)
  have hw1 := bstep hw0 hb1 (Nat.le_refl _)
  clear hN0 hS0 hM0 hF0 hC0 hw0 hNl0 hSl0
  (try clear n0 n1 n2 n3 n4 n5)
  (try clear s0 s1 s2)
  obtain ⟨n0, n1, n2, n3, n4, n5⟩ := id hN1.out
  obtain ⟨s0, s1, s2⟩ := id hS1.out
  go_wp2_with fail
  refine (flows_lit N.k A' n' c' fs hn' 0 hfl.out _ hF1.out).mono ?_
  rintro e w2 ⟨fi, rfl, hb2⟩
  have hN2 := Lib.hid (hN1.out.below hb2 hNl1)
  have hNl2 := Nat.lt_of_lt_of_le hNl1 hb2.size
  have hS2 := Lib.hid (hS1.out.below hb2 hSl1)
  have hSl2 := Nat.lt_of_lt_of_le hSl1 hb2.size
  have hM2 := Lib.hid ((hM1.out.below hb2).more hb2.size)
  have hF2 := Lib.hid ((hF1.out.below hb2).more hb2.size)
  have hC2 := Lib.hid ((hC1.out.below hb2).more hb2.size)
  have hw2 := bstep hw1 hb2 (Nat.le_refl _)
  clear hN1 hS1 hM1 hF1 hC1 hw1 hNl1 hSl1
  (try clear n0 n1 n2 n3 n4 n5)
  (try clear s0 s1 s2)
  obtain ⟨n0, n1, n2, n3, n4, n5⟩ := id hN2.out
  obtain ⟨s0, s1, s2⟩ := id hS2.out
  go_wp2_with fail
  refine (sized_lit L O _ false hsz.out _).mono ?_
  rintro e w3 ⟨rfl, hb3⟩
  have hN3 := Lib.hid (hN2.out.below hb3 hNl2)
  have hNl3 := Nat.lt_of_lt_of_le hNl2 hb3.size
  have hS3 := Lib.hid (hS2.out.below hb3 hSl2)
  have hSl3 := Nat.lt_of_lt_of_le hSl2 hb3.size
  have hM3 := Lib.hid ((hM2.out.below hb3).more hb3.size)
  have hF3 := Lib.hid ((hF2.out.below hb3).more hb3.size)
  have hC3 := Lib.hid ((hC2.out.below hb3).more hb3.size)
  have hw3 := bstep hw2 hb3 (Nat.le_refl _)
  clear hN2 hS2 hM2 hF2 hC2 hw2 hNl2 hSl2
  (try clear n0 n1 n2 n3 n4 n5)
  (try clear s0 s1 s2)
  obtain ⟨n0, n1, n2, n3, n4, n5⟩ := id hN3.out
  obtain ⟨s0, s1, s2⟩ := id hS3.out
  go_wp2_with fail
  go_ret2
  exact ⟨rfl, hw3⟩
set_option maxHeartbeats 8000000 in
set_option maxRecDepth 100000 in
theorem ck_4 (N : NT) (hsm : N.small) (A' : Option Addr) (n' c' : Nat) (fs : List F6) (hn' : n' ≤ 1000000) (L O : Int) (A : Option Addr) (n c : Nat) (cs : List C5) (_hn : n ≤ 1000000) (hv : Hid (netE N = 0)) (hfl : Hid (flowsR N.k fs = 0)) (hsz : Hid (sizedB L O = true)) (hL0 : 0 ≤ L) (hok : Hid (fs.length ≤ 16 ∧ ∀ f ∈ fs, okF N.k f = true)) (hpe : Hid (fs.any (periodB L) = true)) (w : World) (hNM : Hid (NetM w w.heap.size N)) (hFM : Hid (Flows w w.heap.size A' n' fs)) (hcs : Hid (Cells w w.heap.size A n cs)) :
    Calls Tryz.prog 14 #[.agg #[.int .i64 N.k, .slice N.Ap N.np N.cp, .int .i64 N.z, .int .i64 N.h, .slice N.Al N.nl N.cl, .slice N.Am N.nm N.cm], .slice A' n' c', .agg #[.int .i64 L, .int .i64 O, .slice A n c]] w fun e w' => e = .returned (.tuple #[.int .i64 (-1), .int .i64 11]) ∧ Below w.heap.size w w' := by
  obtain ⟨hw0, hN0p, hS0p, hSl0⟩ := boxNS w N L O (.slice A n c)
  have hNl0 := Nat.lt_of_succ_lt hSl0
  have hN0 := Lib.hid hN0p
  have hS0 := Lib.hid hS0p
  have hM0 := Lib.hid ((hNM.out.below hw0).more hw0.size)
  have hF0 := Lib.hid ((hFM.out.below hw0).more hw0.size)
  have hC0 := Lib.hid ((hcs.out.below hw0).more hw0.size)
  have hl := hcs.out.1
  clear hN0p hS0p hNM hFM hcs
  go_enter Tryz.func14, Tryz.ntmps14
  go_upto_region 1 with fail
  revert hw0 hSl0 hNl0 hN0 hS0 hM0 hF0 hC0
  generalize (w.alloc (ONT N)).alloc (N30 L O (.slice A n c)) = w0
  intro hw0 hSl0 hNl0 hN0 hS0 hM0 hF0 hC0
  obtain ⟨n0, n1, n2, n3, n4, n5⟩ := id hN0.out
  obtain ⟨s0, s1, s2⟩ := id hS0.out
  go_wp2_with fail
  refine (net_lit N hsm 0 hv.out _ hM0.out).mono ?_
  rintro e w1 ⟨rfl, hb1⟩
  have hN1 := Lib.hid (hN0.out.below hb1 hNl0)
  have hNl1 := Nat.lt_of_lt_of_le hNl0 hb1.size
  have hS1 := Lib.hid (hS0.out.below hb1 hSl0)
  have hSl1 := Nat.lt_of_lt_of_le hSl0 hb1.size
  have hM1 := Lib.hid ((hM0.out.below hb1).more hb1.size)
  have hF1 := Lib.hid ((hF0.out.below hb1).more hb1.size)
  have hC1 := Lib.hid ((hC0.out.below hb1).more hb1.size)
  have hw1 := bstep hw0 hb1 (Nat.le_refl _)
  clear hN0 hS0 hM0 hF0 hC0 hw0 hNl0 hSl0
  (try clear n0 n1 n2 n3 n4 n5)
  (try clear s0 s1 s2)
  obtain ⟨n0, n1, n2, n3, n4, n5⟩ := id hN1.out
  obtain ⟨s0, s1, s2⟩ := id hS1.out
  go_wp2_with fail
  refine (flows_lit N.k A' n' c' fs hn' 0 hfl.out _ hF1.out).mono ?_
  rintro e w2 ⟨fi, rfl, hb2⟩
  have hN2 := Lib.hid (hN1.out.below hb2 hNl1)
  have hNl2 := Nat.lt_of_lt_of_le hNl1 hb2.size
  have hS2 := Lib.hid (hS1.out.below hb2 hSl1)
  have hSl2 := Nat.lt_of_lt_of_le hSl1 hb2.size
  have hM2 := Lib.hid ((hM1.out.below hb2).more hb2.size)
  have hF2 := Lib.hid ((hF1.out.below hb2).more hb2.size)
  have hC2 := Lib.hid ((hC1.out.below hb2).more hb2.size)
  have hw2 := bstep hw1 hb2 (Nat.le_refl _)
  clear hN1 hS1 hM1 hF1 hC1 hw1 hNl1 hSl1
  (try clear n0 n1 n2 n3 n4 n5)
  (try clear s0 s1 s2)
  obtain ⟨n0, n1, n2, n3, n4, n5⟩ := id hN2.out
  obtain ⟨s0, s1, s2⟩ := id hS2.out
  go_wp2_with fail
  refine (sized_lit L O _ true hsz.out _).mono ?_
  rintro e w3 ⟨rfl, hb3⟩
  have hN3 := Lib.hid (hN2.out.below hb3 hNl2)
  have hNl3 := Nat.lt_of_lt_of_le hNl2 hb3.size
  have hS3 := Lib.hid (hS2.out.below hb3 hSl2)
  have hSl3 := Nat.lt_of_lt_of_le hSl2 hb3.size
  have hM3 := Lib.hid ((hM2.out.below hb3).more hb3.size)
  have hF3 := Lib.hid ((hF2.out.below hb3).more hb3.size)
  have hC3 := Lib.hid ((hC2.out.below hb3).more hb3.size)
  have hw3 := bstep hw2 hb3 (Nat.le_refl _)
  clear hN2 hS2 hM2 hF2 hC2 hw2 hNl2 hSl2
  (try clear n0 n1 n2 n3 n4 n5)
  (try clear s0 s1 s2)
  obtain ⟨n0, n1, n2, n3, n4, n5⟩ := id hN3.out
  obtain ⟨s0, s1, s2⟩ := id hS3.out
  go_wp2_with fail
  refine (has41_42 (.pointer (some ⟨w.heap.size + 1, 0, none⟩)) A' n' c' fs (periodB L) hn' true hpe _ hF3 (Lib.hid fun wx y b hwx hy hb => period_lit y L O (.slice A n c) (w.heap.size + 1) hL0 (okF_iff.1 (hok.out.2 y hy)).2.2.2.2.1 b hb wx (hS3.out.below hwx hSl3) (Nat.lt_of_lt_of_le hSl3 hwx.size))).mono ?_
  rintro e w4 ⟨rfl, hb4⟩
  have hN4 := Lib.hid (hN3.out.below hb4 hNl3)
  have hNl4 := Nat.lt_of_lt_of_le hNl3 hb4.size
  have hS4 := Lib.hid (hS3.out.below hb4 hSl3)
  have hSl4 := Nat.lt_of_lt_of_le hSl3 hb4.size
  have hM4 := Lib.hid ((hM3.out.below hb4).more hb4.size)
  have hF4 := Lib.hid ((hF3.out.below hb4).more hb4.size)
  have hC4 := Lib.hid ((hC3.out.below hb4).more hb4.size)
  have hw4 := bstep hw3 hb4 (Nat.le_refl _)
  clear hN3 hS3 hM3 hF3 hC3 hw3 hNl3 hSl3
  (try clear n0 n1 n2 n3 n4 n5)
  (try clear s0 s1 s2)
  obtain ⟨n0, n1, n2, n3, n4, n5⟩ := id hN4.out
  obtain ⟨s0, s1, s2⟩ := id hS4.out
  go_wp2_with fail
  go_ret2
  exact ⟨rfl, hw4⟩
set_option maxHeartbeats 8000000 in
set_option maxRecDepth 100000 in
theorem ck_5 (N : NT) (hsm : N.small) (A' : Option Addr) (n' c' : Nat) (fs : List F6) (hn' : n' ≤ 1000000) (L O : Int) (A : Option Addr) (n c : Nat) (cs : List C5) (hn : n ≤ 1000000) (hv : Hid (netE N = 0)) (hfl : Hid (flowsR N.k fs = 0)) (hsz : Hid (sizedB L O = true)) (hL0 : 0 ≤ L) (hok : Hid (fs.length ≤ 16 ∧ ∀ f ∈ fs, okF N.k f = true)) (hpe : Hid (fs.any (periodB L) = false)) (hgt : 512 < n) (w : World) (hNM : Hid (NetM w w.heap.size N)) (hFM : Hid (Flows w w.heap.size A' n' fs)) (hcs : Hid (Cells w w.heap.size A n cs)) :
    Calls Tryz.prog 14 #[.agg #[.int .i64 N.k, .slice N.Ap N.np N.cp, .int .i64 N.z, .int .i64 N.h, .slice N.Al N.nl N.cl, .slice N.Am N.nm N.cm], .slice A' n' c', .agg #[.int .i64 L, .int .i64 O, .slice A n c]] w fun e w' => e = .returned (.tuple #[.int .i64 (-1), .int .i64 8]) ∧ Below w.heap.size w w' := by
  obtain ⟨hw0, hN0p, hS0p, hSl0⟩ := boxNS w N L O (.slice A n c)
  have hNl0 := Nat.lt_of_succ_lt hSl0
  have hN0 := Lib.hid hN0p
  have hS0 := Lib.hid hS0p
  have hM0 := Lib.hid ((hNM.out.below hw0).more hw0.size)
  have hF0 := Lib.hid ((hFM.out.below hw0).more hw0.size)
  have hC0 := Lib.hid ((hcs.out.below hw0).more hw0.size)
  have hl := hcs.out.1
  clear hN0p hS0p hNM hFM hcs
  go_enter Tryz.func14, Tryz.ntmps14
  go_upto_region 1 with fail
  revert hw0 hSl0 hNl0 hN0 hS0 hM0 hF0 hC0
  generalize (w.alloc (ONT N)).alloc (N30 L O (.slice A n c)) = w0
  intro hw0 hSl0 hNl0 hN0 hS0 hM0 hF0 hC0
  obtain ⟨n0, n1, n2, n3, n4, n5⟩ := id hN0.out
  obtain ⟨s0, s1, s2⟩ := id hS0.out
  go_wp2_with fail
  refine (net_lit N hsm 0 hv.out _ hM0.out).mono ?_
  rintro e w1 ⟨rfl, hb1⟩
  have hN1 := Lib.hid (hN0.out.below hb1 hNl0)
  have hNl1 := Nat.lt_of_lt_of_le hNl0 hb1.size
  have hS1 := Lib.hid (hS0.out.below hb1 hSl0)
  have hSl1 := Nat.lt_of_lt_of_le hSl0 hb1.size
  have hM1 := Lib.hid ((hM0.out.below hb1).more hb1.size)
  have hF1 := Lib.hid ((hF0.out.below hb1).more hb1.size)
  have hC1 := Lib.hid ((hC0.out.below hb1).more hb1.size)
  have hw1 := bstep hw0 hb1 (Nat.le_refl _)
  clear hN0 hS0 hM0 hF0 hC0 hw0 hNl0 hSl0
  (try clear n0 n1 n2 n3 n4 n5)
  (try clear s0 s1 s2)
  obtain ⟨n0, n1, n2, n3, n4, n5⟩ := id hN1.out
  obtain ⟨s0, s1, s2⟩ := id hS1.out
  go_wp2_with fail
  refine (flows_lit N.k A' n' c' fs hn' 0 hfl.out _ hF1.out).mono ?_
  rintro e w2 ⟨fi, rfl, hb2⟩
  have hN2 := Lib.hid (hN1.out.below hb2 hNl1)
  have hNl2 := Nat.lt_of_lt_of_le hNl1 hb2.size
  have hS2 := Lib.hid (hS1.out.below hb2 hSl1)
  have hSl2 := Nat.lt_of_lt_of_le hSl1 hb2.size
  have hM2 := Lib.hid ((hM1.out.below hb2).more hb2.size)
  have hF2 := Lib.hid ((hF1.out.below hb2).more hb2.size)
  have hC2 := Lib.hid ((hC1.out.below hb2).more hb2.size)
  have hw2 := bstep hw1 hb2 (Nat.le_refl _)
  clear hN1 hS1 hM1 hF1 hC1 hw1 hNl1 hSl1
  (try clear n0 n1 n2 n3 n4 n5)
  (try clear s0 s1 s2)
  obtain ⟨n0, n1, n2, n3, n4, n5⟩ := id hN2.out
  obtain ⟨s0, s1, s2⟩ := id hS2.out
  go_wp2_with fail
  refine (sized_lit L O _ true hsz.out _).mono ?_
  rintro e w3 ⟨rfl, hb3⟩
  have hN3 := Lib.hid (hN2.out.below hb3 hNl2)
  have hNl3 := Nat.lt_of_lt_of_le hNl2 hb3.size
  have hS3 := Lib.hid (hS2.out.below hb3 hSl2)
  have hSl3 := Nat.lt_of_lt_of_le hSl2 hb3.size
  have hM3 := Lib.hid ((hM2.out.below hb3).more hb3.size)
  have hF3 := Lib.hid ((hF2.out.below hb3).more hb3.size)
  have hC3 := Lib.hid ((hC2.out.below hb3).more hb3.size)
  have hw3 := bstep hw2 hb3 (Nat.le_refl _)
  clear hN2 hS2 hM2 hF2 hC2 hw2 hNl2 hSl2
  (try clear n0 n1 n2 n3 n4 n5)
  (try clear s0 s1 s2)
  obtain ⟨n0, n1, n2, n3, n4, n5⟩ := id hN3.out
  obtain ⟨s0, s1, s2⟩ := id hS3.out
  go_wp2_with fail
  refine (has41_42 (.pointer (some ⟨w.heap.size + 1, 0, none⟩)) A' n' c' fs (periodB L) hn' false hpe _ hF3 (Lib.hid fun wx y b hwx hy hb => period_lit y L O (.slice A n c) (w.heap.size + 1) hL0 (okF_iff.1 (hok.out.2 y hy)).2.2.2.2.1 b hb wx (hS3.out.below hwx hSl3) (Nat.lt_of_lt_of_le hSl3 hwx.size))).mono ?_
  rintro e w4 ⟨rfl, hb4⟩
  have hN4 := Lib.hid (hN3.out.below hb4 hNl3)
  have hNl4 := Nat.lt_of_lt_of_le hNl3 hb4.size
  have hS4 := Lib.hid (hS3.out.below hb4 hSl3)
  have hSl4 := Nat.lt_of_lt_of_le hSl3 hb4.size
  have hM4 := Lib.hid ((hM3.out.below hb4).more hb4.size)
  have hF4 := Lib.hid ((hF3.out.below hb4).more hb4.size)
  have hC4 := Lib.hid ((hC3.out.below hb4).more hb4.size)
  have hw4 := bstep hw3 hb4 (Nat.le_refl _)
  clear hN3 hS3 hM3 hF3 hC3 hw3 hNl3 hSl3
  (try clear n0 n1 n2 n3 n4 n5)
  (try clear s0 s1 s2)
  obtain ⟨n0, n1, n2, n3, n4, n5⟩ := id hN4.out
  obtain ⟨s0, s1, s2⟩ := id hS4.out
  go_wp2_with fail
  go_ret2
  exact ⟨rfl, hw4⟩
set_option maxHeartbeats 8000000 in
set_option maxRecDepth 100000 in
theorem ck_6 (N : NT) (hsm : N.small) (A' : Option Addr) (n' c' : Nat) (fs : List F6) (hn' : n' ≤ 1000000) (L O : Int) (A : Option Addr) (n c : Nat) (cs : List C5) (hn : n ≤ 1000000) (hv : Hid (netE N = 0)) (hfl : Hid (flowsR N.k fs = 0)) (hsz : Hid (sizedB L O = true)) (hL0 : 0 ≤ L) (hok : Hid (fs.length ≤ 16 ∧ ∀ f ∈ fs, okF N.k f = true)) (hpe : Hid (fs.any (periodB L) = false)) (hle : n ≤ 512) (hV : Hid (NetV N)) (R : Int × Int) (hR : Hid (cellsR N fs L O 0 none cs = R)) (hne : (R.2 != 0) = true) (w : World) (hNM : Hid (NetM w w.heap.size N)) (hFM : Hid (Flows w w.heap.size A' n' fs)) (hcs : Hid (Cells w w.heap.size A n cs)) :
    Calls Tryz.prog 14 #[.agg #[.int .i64 N.k, .slice N.Ap N.np N.cp, .int .i64 N.z, .int .i64 N.h, .slice N.Al N.nl N.cl, .slice N.Am N.nm N.cm], .slice A' n' c', .agg #[.int .i64 L, .int .i64 O, .slice A n c]] w fun e w' => e = .returned (.tuple #[.int .i64 R.1, .int .i64 R.2]) ∧ Below w.heap.size w w' := by
  obtain ⟨hw0, hN0p, hS0p, hSl0⟩ := boxNS w N L O (.slice A n c)
  have hNl0 := Nat.lt_of_succ_lt hSl0
  have hN0 := Lib.hid hN0p
  have hS0 := Lib.hid hS0p
  have hM0 := Lib.hid ((hNM.out.below hw0).more hw0.size)
  have hF0 := Lib.hid ((hFM.out.below hw0).more hw0.size)
  have hC0 := Lib.hid ((hcs.out.below hw0).more hw0.size)
  have hl := hcs.out.1
  clear hN0p hS0p hNM hFM hcs
  go_enter Tryz.func14, Tryz.ntmps14
  go_upto_region 1 with fail
  revert hw0 hSl0 hNl0 hN0 hS0 hM0 hF0 hC0
  generalize (w.alloc (ONT N)).alloc (N30 L O (.slice A n c)) = w0
  intro hw0 hSl0 hNl0 hN0 hS0 hM0 hF0 hC0
  obtain ⟨n0, n1, n2, n3, n4, n5⟩ := id hN0.out
  obtain ⟨s0, s1, s2⟩ := id hS0.out
  go_wp2_with fail
  refine (net_lit N hsm 0 hv.out _ hM0.out).mono ?_
  rintro e w1 ⟨rfl, hb1⟩
  have hN1 := Lib.hid (hN0.out.below hb1 hNl0)
  have hNl1 := Nat.lt_of_lt_of_le hNl0 hb1.size
  have hS1 := Lib.hid (hS0.out.below hb1 hSl0)
  have hSl1 := Nat.lt_of_lt_of_le hSl0 hb1.size
  have hM1 := Lib.hid ((hM0.out.below hb1).more hb1.size)
  have hF1 := Lib.hid ((hF0.out.below hb1).more hb1.size)
  have hC1 := Lib.hid ((hC0.out.below hb1).more hb1.size)
  have hw1 := bstep hw0 hb1 (Nat.le_refl _)
  clear hN0 hS0 hM0 hF0 hC0 hw0 hNl0 hSl0
  (try clear n0 n1 n2 n3 n4 n5)
  (try clear s0 s1 s2)
  obtain ⟨n0, n1, n2, n3, n4, n5⟩ := id hN1.out
  obtain ⟨s0, s1, s2⟩ := id hS1.out
  go_wp2_with fail
  refine (flows_lit N.k A' n' c' fs hn' 0 hfl.out _ hF1.out).mono ?_
  rintro e w2 ⟨fi, rfl, hb2⟩
  have hN2 := Lib.hid (hN1.out.below hb2 hNl1)
  have hNl2 := Nat.lt_of_lt_of_le hNl1 hb2.size
  have hS2 := Lib.hid (hS1.out.below hb2 hSl1)
  have hSl2 := Nat.lt_of_lt_of_le hSl1 hb2.size
  have hM2 := Lib.hid ((hM1.out.below hb2).more hb2.size)
  have hF2 := Lib.hid ((hF1.out.below hb2).more hb2.size)
  have hC2 := Lib.hid ((hC1.out.below hb2).more hb2.size)
  have hw2 := bstep hw1 hb2 (Nat.le_refl _)
  clear hN1 hS1 hM1 hF1 hC1 hw1 hNl1 hSl1
  (try clear n0 n1 n2 n3 n4 n5)
  (try clear s0 s1 s2)
  obtain ⟨n0, n1, n2, n3, n4, n5⟩ := id hN2.out
  obtain ⟨s0, s1, s2⟩ := id hS2.out
  go_wp2_with fail
  refine (sized_lit L O _ true hsz.out _).mono ?_
  rintro e w3 ⟨rfl, hb3⟩
  have hN3 := Lib.hid (hN2.out.below hb3 hNl2)
  have hNl3 := Nat.lt_of_lt_of_le hNl2 hb3.size
  have hS3 := Lib.hid (hS2.out.below hb3 hSl2)
  have hSl3 := Nat.lt_of_lt_of_le hSl2 hb3.size
  have hM3 := Lib.hid ((hM2.out.below hb3).more hb3.size)
  have hF3 := Lib.hid ((hF2.out.below hb3).more hb3.size)
  have hC3 := Lib.hid ((hC2.out.below hb3).more hb3.size)
  have hw3 := bstep hw2 hb3 (Nat.le_refl _)
  clear hN2 hS2 hM2 hF2 hC2 hw2 hNl2 hSl2
  (try clear n0 n1 n2 n3 n4 n5)
  (try clear s0 s1 s2)
  obtain ⟨n0, n1, n2, n3, n4, n5⟩ := id hN3.out
  obtain ⟨s0, s1, s2⟩ := id hS3.out
  go_wp2_with fail
  refine (has41_42 (.pointer (some ⟨w.heap.size + 1, 0, none⟩)) A' n' c' fs (periodB L) hn' false hpe _ hF3 (Lib.hid fun wx y b hwx hy hb => period_lit y L O (.slice A n c) (w.heap.size + 1) hL0 (okF_iff.1 (hok.out.2 y hy)).2.2.2.2.1 b hb wx (hS3.out.below hwx hSl3) (Nat.lt_of_lt_of_le hSl3 hwx.size))).mono ?_
  rintro e w4 ⟨rfl, hb4⟩
  have hN4 := Lib.hid (hN3.out.below hb4 hNl3)
  have hNl4 := Nat.lt_of_lt_of_le hNl3 hb4.size
  have hS4 := Lib.hid (hS3.out.below hb4 hSl3)
  have hSl4 := Nat.lt_of_lt_of_le hSl3 hb4.size
  have hM4 := Lib.hid ((hM3.out.below hb4).more hb4.size)
  have hF4 := Lib.hid ((hF3.out.below hb4).more hb4.size)
  have hC4 := Lib.hid ((hC3.out.below hb4).more hb4.size)
  have hw4 := bstep hw3 hb4 (Nat.le_refl _)
  clear hN3 hS3 hM3 hF3 hC3 hw3 hNl3 hSl3
  (try clear n0 n1 n2 n3 n4 n5)
  (try clear s0 s1 s2)
  obtain ⟨n0, n1, n2, n3, n4, n5⟩ := id hN4.out
  obtain ⟨s0, s1, s2⟩ := id hS4.out
  go_wp2_with fail
  refine (cells_lit N hv hV hsm A' n' c' fs hn' L O A n c cs hn R hR _ hM4 hF4 hC4).mono ?_
  rintro e w5 ⟨rfl, hb5⟩
  have hN5 := Lib.hid (hN4.out.below hb5 hNl4)
  have hNl5 := Nat.lt_of_lt_of_le hNl4 hb5.size
  have hS5 := Lib.hid (hS4.out.below hb5 hSl4)
  have hSl5 := Nat.lt_of_lt_of_le hSl4 hb5.size
  have hM5 := Lib.hid ((hM4.out.below hb5).more hb5.size)
  have hF5 := Lib.hid ((hF4.out.below hb5).more hb5.size)
  have hC5 := Lib.hid ((hC4.out.below hb5).more hb5.size)
  have hw5 := bstep hw4 hb5 (Nat.le_refl _)
  clear hN4 hS4 hM4 hF4 hC4 hw4 hNl4 hSl4
  (try clear n0 n1 n2 n3 n4 n5)
  (try clear s0 s1 s2)
  obtain ⟨n0, n1, n2, n3, n4, n5⟩ := id hN5.out
  obtain ⟨s0, s1, s2⟩ := id hS5.out
  go_wp2_with fail
  go_ret2
  exact ⟨rfl, hw5⟩
set_option maxHeartbeats 8000000 in
set_option maxRecDepth 100000 in
theorem ck_7 (N : NT) (hsm : N.small) (A' : Option Addr) (n' c' : Nat) (fs : List F6) (hn' : n' ≤ 1000000) (L O : Int) (A : Option Addr) (n c : Nat) (cs : List C5) (hn : n ≤ 1000000) (hv : Hid (netE N = 0)) (hfl : Hid (flowsR N.k fs = 0)) (hsz : Hid (sizedB L O = true)) (hL0 : 0 ≤ L) (hok : Hid (fs.length ≤ 16 ∧ ∀ f ∈ fs, okF N.k f = true)) (hpe : Hid (fs.any (periodB L) = false)) (hle : n ≤ 512) (hV : Hid (NetV N)) (R : Int × Int) (hR : Hid (cellsR N fs L O 0 none cs = R)) (hR0 : R = (-1, 0)) (hcn : Hid (nodesC N cs)) (huse : Hid (∀ z ∈ cs, usableI N (findL N.ls z.f z.t) = true)) (T : Int) (hT : Hid (twiceI cs = T)) (D : Int) (hD : Hid (disturbI N cs = D)) (r : Int × Int) (hr : Hid ((if 0 ≤ T then (T, 6) else if 0 ≤ D then (D, 16) else (-1, 0)) = r)) (w : World) (hNM : Hid (NetM w w.heap.size N)) (hFM : Hid (Flows w w.heap.size A' n' fs)) (hcs : Hid (Cells w w.heap.size A n cs)) :
    Calls Tryz.prog 14 #[.agg #[.int .i64 N.k, .slice N.Ap N.np N.cp, .int .i64 N.z, .int .i64 N.h, .slice N.Al N.nl N.cl, .slice N.Am N.nm N.cm], .slice A' n' c', .agg #[.int .i64 L, .int .i64 O, .slice A n c]] w fun e w' => e = .returned (.tuple #[.int .i64 r.1, .int .i64 r.2]) ∧ Below w.heap.size w w' := by
  obtain ⟨hw0, hN0p, hS0p, hSl0⟩ := boxNS w N L O (.slice A n c)
  have hNl0 := Nat.lt_of_succ_lt hSl0
  have hN0 := Lib.hid hN0p
  have hS0 := Lib.hid hS0p
  have hM0 := Lib.hid ((hNM.out.below hw0).more hw0.size)
  have hF0 := Lib.hid ((hFM.out.below hw0).more hw0.size)
  have hC0 := Lib.hid ((hcs.out.below hw0).more hw0.size)
  have hl := hcs.out.1
  clear hN0p hS0p hNM hFM hcs
  subst hR0
  have hTt : Hid (fidx2 (fun k c => twiceB cs k c) 0 cs = T) := hT
  have hDd : Hid (fidx2 (fun _ c => disturbedB N cs c) 0 cs = D) := hD
  clear hT hD
  go_enter Tryz.func14, Tryz.ntmps14
  go_upto_region 1 with fail
  revert hw0 hSl0 hNl0 hN0 hS0 hM0 hF0 hC0
  generalize (w.alloc (ONT N)).alloc (N30 L O (.slice A n c)) = w0
  intro hw0 hSl0 hNl0 hN0 hS0 hM0 hF0 hC0
  obtain ⟨n0, n1, n2, n3, n4, n5⟩ := id hN0.out
  obtain ⟨s0, s1, s2⟩ := id hS0.out
  go_wp2_with fail
  refine (net_lit N hsm 0 hv.out _ hM0.out).mono ?_
  rintro e w1 ⟨rfl, hb1⟩
  have hN1 := Lib.hid (hN0.out.below hb1 hNl0)
  have hNl1 := Nat.lt_of_lt_of_le hNl0 hb1.size
  have hS1 := Lib.hid (hS0.out.below hb1 hSl0)
  have hSl1 := Nat.lt_of_lt_of_le hSl0 hb1.size
  have hM1 := Lib.hid ((hM0.out.below hb1).more hb1.size)
  have hF1 := Lib.hid ((hF0.out.below hb1).more hb1.size)
  have hC1 := Lib.hid ((hC0.out.below hb1).more hb1.size)
  have hw1 := bstep hw0 hb1 (Nat.le_refl _)
  clear hN0 hS0 hM0 hF0 hC0 hw0 hNl0 hSl0
  (try clear n0 n1 n2 n3 n4 n5)
  (try clear s0 s1 s2)
  obtain ⟨n0, n1, n2, n3, n4, n5⟩ := id hN1.out
  obtain ⟨s0, s1, s2⟩ := id hS1.out
  go_wp2_with fail
  refine (flows_lit N.k A' n' c' fs hn' 0 hfl.out _ hF1.out).mono ?_
  rintro e w2 ⟨fi, rfl, hb2⟩
  have hN2 := Lib.hid (hN1.out.below hb2 hNl1)
  have hNl2 := Nat.lt_of_lt_of_le hNl1 hb2.size
  have hS2 := Lib.hid (hS1.out.below hb2 hSl1)
  have hSl2 := Nat.lt_of_lt_of_le hSl1 hb2.size
  have hM2 := Lib.hid ((hM1.out.below hb2).more hb2.size)
  have hF2 := Lib.hid ((hF1.out.below hb2).more hb2.size)
  have hC2 := Lib.hid ((hC1.out.below hb2).more hb2.size)
  have hw2 := bstep hw1 hb2 (Nat.le_refl _)
  clear hN1 hS1 hM1 hF1 hC1 hw1 hNl1 hSl1
  (try clear n0 n1 n2 n3 n4 n5)
  (try clear s0 s1 s2)
  obtain ⟨n0, n1, n2, n3, n4, n5⟩ := id hN2.out
  obtain ⟨s0, s1, s2⟩ := id hS2.out
  go_wp2_with fail
  refine (sized_lit L O _ true hsz.out _).mono ?_
  rintro e w3 ⟨rfl, hb3⟩
  have hN3 := Lib.hid (hN2.out.below hb3 hNl2)
  have hNl3 := Nat.lt_of_lt_of_le hNl2 hb3.size
  have hS3 := Lib.hid (hS2.out.below hb3 hSl2)
  have hSl3 := Nat.lt_of_lt_of_le hSl2 hb3.size
  have hM3 := Lib.hid ((hM2.out.below hb3).more hb3.size)
  have hF3 := Lib.hid ((hF2.out.below hb3).more hb3.size)
  have hC3 := Lib.hid ((hC2.out.below hb3).more hb3.size)
  have hw3 := bstep hw2 hb3 (Nat.le_refl _)
  clear hN2 hS2 hM2 hF2 hC2 hw2 hNl2 hSl2
  (try clear n0 n1 n2 n3 n4 n5)
  (try clear s0 s1 s2)
  obtain ⟨n0, n1, n2, n3, n4, n5⟩ := id hN3.out
  obtain ⟨s0, s1, s2⟩ := id hS3.out
  go_wp2_with fail
  refine (has41_42 (.pointer (some ⟨w.heap.size + 1, 0, none⟩)) A' n' c' fs (periodB L) hn' false hpe _ hF3 (Lib.hid fun wx y b hwx hy hb => period_lit y L O (.slice A n c) (w.heap.size + 1) hL0 (okF_iff.1 (hok.out.2 y hy)).2.2.2.2.1 b hb wx (hS3.out.below hwx hSl3) (Nat.lt_of_lt_of_le hSl3 hwx.size))).mono ?_
  rintro e w4 ⟨rfl, hb4⟩
  have hN4 := Lib.hid (hN3.out.below hb4 hNl3)
  have hNl4 := Nat.lt_of_lt_of_le hNl3 hb4.size
  have hS4 := Lib.hid (hS3.out.below hb4 hSl3)
  have hSl4 := Nat.lt_of_lt_of_le hSl3 hb4.size
  have hM4 := Lib.hid ((hM3.out.below hb4).more hb4.size)
  have hF4 := Lib.hid ((hF3.out.below hb4).more hb4.size)
  have hC4 := Lib.hid ((hC3.out.below hb4).more hb4.size)
  have hw4 := bstep hw3 hb4 (Nat.le_refl _)
  clear hN3 hS3 hM3 hF3 hC3 hw3 hNl3 hSl3
  (try clear n0 n1 n2 n3 n4 n5)
  (try clear s0 s1 s2)
  obtain ⟨n0, n1, n2, n3, n4, n5⟩ := id hN4.out
  obtain ⟨s0, s1, s2⟩ := id hS4.out
  go_wp2_with fail
  refine (cells_lit N hv hV hsm A' n' c' fs hn' L O A n c cs hn (-1, 0) hR _ hM4 hF4 hC4).mono ?_
  rintro e w5 ⟨rfl, hb5⟩
  have hN5 := Lib.hid (hN4.out.below hb5 hNl4)
  have hNl5 := Nat.lt_of_lt_of_le hNl4 hb5.size
  have hS5 := Lib.hid (hS4.out.below hb5 hSl4)
  have hSl5 := Nat.lt_of_lt_of_le hSl4 hb5.size
  have hM5 := Lib.hid ((hM4.out.below hb5).more hb5.size)
  have hF5 := Lib.hid ((hF4.out.below hb5).more hb5.size)
  have hC5 := Lib.hid ((hC4.out.below hb5).more hb5.size)
  have hw5 := bstep hw4 hb5 (Nat.le_refl _)
  clear hN4 hS4 hM4 hF4 hC4 hw4 hNl4 hSl4
  (try clear n0 n1 n2 n3 n4 n5)
  (try clear s0 s1 s2)
  obtain ⟨n0, n1, n2, n3, n4, n5⟩ := id hN5.out
  obtain ⟨s0, s1, s2⟩ := id hS5.out
  go_wp2_with fail
  clear n0 n1 n2 n3 n4 n5 s0 s1 s2
  go_loopw [53] (fun i wx => ∃ k : Nat, k ≤ n ∧ i = .int .i64 k ∧ Below w5.heap.size w5 wx ∧ Hid (fidx2 (fun k c => twiceB cs k c) k (cs.drop k) = T)) (fun i _ => n - (intOf i).toNat)
  case atStart => exact ⟨0, Nat.zero_le _, rfl, Below.refl _ _, hTt⟩
  case round =>
    obtain ⟨k, hk, rfl, hwx, H⟩ := hrel
    have hSr := Lib.hid (hS5.out.below hwx hSl5)
    obtain ⟨s0, s1, s2⟩ := id hSr.out
    by_cases hlt : k < n
    · obtain ⟨q, hq'⟩ : ∃ q, cs[k]? = some q := ⟨_, List.getElem?_eq_getElem (by omega)⟩
      have hq := Lib.hid hq'
      have hdr := Lib.hid (fidx2_drop (fun k c => twiceB cs k c) cs k q hq')
      have hkl : k < cs.length := by omega
      have hCr := Lib.hid ((hC5.out.below hwx).more hwx.size)
      have hcl2 : Hid (Cells wr wr.heap.size A cs.length cs) := Lib.hid (by rw [hl]; exact hCr.out)
      clear hq'
      have hk0 : (0 : Int) ≤ (k : Int) := by omega
      have hk1 : (k : Int) < (n : Int) := by omega
      have hc := fun (b : Bool) (hb : Hid (twiceB cs k q = b)) => twice_lit L O A c cs k q (by omega) hkl hq b hb wr hcl2
      rw [hl] at hc
      have hc := Lib.hid hc
      have hl' := Lib.hid hl
      have hle2 := hle
      clear hl
      cases htw : twiceB cs k q
      · have hH : Hid (fidx2 (fun k c => twiceB cs k c) (k + 1) (cs.drop (k + 1)) = T) := Lib.hid (by rw [← H.out, hdr.out, if_neg (by simp [htw])])
        have htw := Lib.hid htw
        go_wp2_with fail
        refine (hc.out false htw).mono ?_
        rintro e w6 ⟨rfl, hb6⟩
        go_wp2_with fail
        go_roundw
        case rel => exact ⟨k + 1, by omega, by go_num, bstep hwx hb6 (Nat.le_refl _), hH⟩
        case measure => simp [intOf]; omega
      · obtain rfl : T = (k : Int) := by rw [← H.out, hdr.out, if_pos htw]
        obtain rfl : r = ((k : Int), 6) := by rw [← hr.out, if_pos (by omega)]
        have htw := Lib.hid htw
        go_wp2_with fail
        refine (hc.out true htw).mono ?_
        rintro e w6 ⟨rfl, hb6⟩
        go_wp2_with fail
        go_ret2
        exact ⟨rfl, bstep hw5 (bstep hwx hb6 (Nat.le_refl _)) (Nat.le_refl _)⟩
    · obtain rfl : T = -1 := by rw [← H.out, List.drop_eq_nil_of_le (by omega)]; rfl
      have hrr : Hid ((if 0 ≤ D then (D, 16) else (-1, 0)) = r) := Lib.hid (by have h0 := hr.out; rw [if_neg (by omega)] at h0; exact h0)
      have hw7 := bstep hw5 hwx (Nat.le_refl _)
      have hN7 := Lib.hid (hN5.out.below hwx hNl5)
      have hS7 := Lib.hid (hS5.out.below hwx hSl5)
      have hNl7 := Nat.lt_of_lt_of_le hNl5 hwx.size
      have hSl7 := Nat.lt_of_lt_of_le hSl5 hwx.size
      have hM7 := Lib.hid ((hM5.out.below hwx).more hwx.size)
      have hC7 := Lib.hid ((hC5.out.below hwx).more hwx.size)
      clear hr H
      obtain ⟨w7, hw7e⟩ : ∃ w7, w7 = wr := ⟨_, rfl⟩
      rw [← hw7e] at hw7 hN7 hS7 hNl7 hSl7 hM7 hC7 s0 s1 s2 ⊢
      clear hw7e hwx hSr
      go_wp2_with fail
      clear s0 s1 s2
      go_loopw [64] (fun i wx => ∃ k : Nat, k ≤ n ∧ i = .int .i64 k ∧ Below w7.heap.size w7 wx ∧ Hid (fidx2 (fun _ c => disturbedB N cs c) k (cs.drop k) = D)) (fun i _ => n - (intOf i).toNat)
      case atStart => exact ⟨0, Nat.zero_le _, rfl, Below.refl _ _, hDd⟩
      case round =>
        obtain ⟨k2, hk2, rfl, hwx, H⟩ := hrel
        have hSr := Lib.hid (hS7.out.below hwx hSl7)
        have hNr := Lib.hid (hN7.out.below hwx hNl7)
        obtain ⟨s0, s1, s2⟩ := id hSr.out
        obtain ⟨n0, n1, n2, n3, n4, n5⟩ := id hNr.out
        by_cases hlt2 : k2 < n
        · obtain ⟨q, hq'⟩ : ∃ q, cs[k2]? = some q := ⟨_, List.getElem?_eq_getElem (by omega)⟩
          have hq := Lib.hid hq'
          have hdr := Lib.hid (fidx2_drop (fun _ c => disturbedB N cs c) cs k2 q hq')
          have hkl : k2 < cs.length := by omega
          have hCr := Lib.hid ((hC7.out.below hwx).more hwx.size)
          have hMr := Lib.hid ((hM7.out.below hwx).more hwx.size)
          have hcl2 : Hid (Cells wr wr.heap.size A cs.length cs) := Lib.hid (by rw [hl]; exact hCr.out)
          obtain ⟨ti, bi, hti, hbi, htl, hbl, _, _, _⟩ := use_ok hV.out (huse.out q (List.mem_of_getElem? hq'))
          clear hq'
          have hk0 : (0 : Int) ≤ (k2 : Int) := by omega
          have hk1 : (k2 : Int) < (n : Int) := by omega
          have hc := fun (b : Bool) (hb : Hid (disturbedB N cs q = b)) => disturbed_lit N hv hV hsm L O A c cs (by omega) hcn k2 q hkl hq ti bi (Lib.hid hti) (Lib.hid hbi) htl hbl b hb wr hMr hcl2
          rw [hl] at hc
          have hc := Lib.hid hc
          have hl' := Lib.hid hl
          clear hl hti hbi
          cases htw : disturbedB N cs q
          · have hH : Hid (fidx2 (fun _ c => disturbedB N cs c) (k2 + 1) (cs.drop (k2 + 1)) = D) := Lib.hid (by rw [← H.out, hdr.out, if_neg (by simp [htw])])
            have htw := Lib.hid htw
            go_wp2_with fail
            refine (hc.out false htw).mono ?_
            rintro e w6 ⟨rfl, hb6⟩
            go_wp2_with fail
            go_roundw
            case rel => exact ⟨k2 + 1, by omega, by go_num, bstep hwx hb6 (Nat.le_refl _), hH⟩
            case measure => simp [intOf]; omega
          · obtain rfl : D = (k2 : Int) := by rw [← H.out, hdr.out, if_pos htw]
            obtain rfl : r = ((k2 : Int), 16) := by rw [← hrr.out, if_pos (by omega)]
            have htw := Lib.hid htw
            go_wp2_with fail
            refine (hc.out true htw).mono ?_
            rintro e w6 ⟨rfl, hb6⟩
            go_wp2_with fail
            go_ret2
            exact ⟨rfl, bstep hw7 (bstep hwx hb6 (Nat.le_refl _)) (Nat.le_refl _)⟩
        · obtain rfl : D = -1 := by rw [← H.out, List.drop_eq_nil_of_le (by omega)]; rfl
          obtain rfl : r = (-1, 0) := by rw [← hrr.out, if_neg (by omega)]
          go_wp2_with fail
          go_ret2
          exact ⟨rfl, bstep hw7 hwx (Nat.le_refl _)⟩
/-- schedule.Check. -/
theorem check_any (N : NT) (hsm : N.small) (A' : Option Addr) (n' c' : Nat) (fs : List F6) (hn' : n' ≤ 1000000) (L O : Int) (A : Option Addr) (n c : Nat) (cs : List C5) (hn : n ≤ 1000000) (r : Int × Int) (hr : checkR N fs L O cs = r) (w : World) (hN : NetM w w.heap.size N) (hF : Flows w w.heap.size A' n' fs) (hcs : Cells w w.heap.size A n cs) :
    Calls Tryz.prog 14 #[.agg #[.int .i64 N.k, .slice N.Ap N.np N.cp, .int .i64 N.z, .int .i64 N.h, .slice N.Al N.nl N.cl, .slice N.Am N.nm N.cm], .slice A' n' c', .agg #[.int .i64 L, .int .i64 O, .slice A n c]] w fun e w' => e = .returned (.tuple #[.int .i64 r.1, .int .i64 r.2]) ∧ Below w.heap.size w w' := by
  subst hr
  have hl := hcs.1
  unfold checkR
  by_cases h1 : netE N = 0
  case neg => rw [if_pos h1]; exact ck_1 N hsm A' n' c' fs hn' L O A n c cs hn _ (Lib.hid rfl) (by simpa using h1) w (Lib.hid hN) (Lib.hid hF) (Lib.hid hcs)
  rw [if_neg (by simpa using h1)]
  by_cases h2 : flowsR N.k fs = 0
  case neg => rw [if_pos h2]; exact ck_2 N hsm A' n' c' fs hn' L O A n c cs hn (Lib.hid h1) _ (Lib.hid rfl) (by simpa using h2) w (Lib.hid hN) (Lib.hid hF) (Lib.hid hcs)
  rw [if_neg (by simpa using h2)]
  cases h3 : sizedB L O
  · rw [if_pos rfl]; exact ck_3 N hsm A' n' c' fs hn' L O A n c cs hn (Lib.hid h1) (Lib.hid h2) (Lib.hid h3) w (Lib.hid hN) (Lib.hid hF) (Lib.hid hcs)
  rw [if_neg (by simp)]
  have hL := ((sizedB_iff L O).1 h3).1
  have hok := flowsR_ok h2
  cases h4 : fs.any (periodB L)
  case true => rw [if_pos rfl]; exact ck_4 N hsm A' n' c' fs hn' L O A n c cs hn (Lib.hid h1) (Lib.hid h2) (Lib.hid h3) (by omega) (Lib.hid hok) (Lib.hid h4) w (Lib.hid hN) (Lib.hid hF) (Lib.hid hcs)
  rw [if_neg (by simp)]
  by_cases h5 : 512 < cs.length
  · rw [if_pos h5]; exact ck_5 N hsm A' n' c' fs hn' L O A n c cs hn (Lib.hid h1) (Lib.hid h2) (Lib.hid h3) (by omega) (Lib.hid hok) (Lib.hid h4) (by omega) w (Lib.hid hN) (Lib.hid hF) (Lib.hid hcs)
  rw [if_neg h5]
  have hV := netV_of h1 hN.1.1 hN.2.1.1 hN.2.2.1
  by_cases h6 : (cellsR N fs L O 0 none cs).2 = 0
  case neg => rw [if_pos h6]; exact ck_6 N hsm A' n' c' fs hn' L O A n c cs hn (Lib.hid h1) (Lib.hid h2) (Lib.hid h3) (by omega) (Lib.hid hok) (Lib.hid h4) (by omega) (Lib.hid hV) _ (Lib.hid rfl) (by simpa using h6) w (Lib.hid hN) (Lib.hid hF) (Lib.hid hcs)
  rw [if_neg (by simpa using h6)]
  obtain ⟨g1, g2, _⟩ := cellsR_ok N fs L O cs 0 none h6
  have huse : ∀ z ∈ cs, usableI N (findL N.ls z.f z.t) = true := fun z hz => (lost_use (g2 z hz).2).1
  have hcn : nodesC N cs := fun z hz => by
    obtain ⟨_, _, _, _, _, _, e1, e2, _⟩ := use_ok hV (huse z hz)
    exact ⟨e1, e2⟩
  exact ck_7 N hsm A' n' c' fs hn' L O A n c cs hn (Lib.hid h1) (Lib.hid h2) (Lib.hid h3) (by omega) (Lib.hid hok) (Lib.hid h4) (by omega) (Lib.hid hV) _ (Lib.hid rfl) g1 (Lib.hid hcn) (Lib.hid huse) _ (Lib.hid rfl) _ (Lib.hid rfl) _ (Lib.hid rfl) w (Lib.hid hN) (Lib.hid hF) (Lib.hid hcs)
end Go.Proofs.YtnddjcadkbjjhaaGreatDoor
