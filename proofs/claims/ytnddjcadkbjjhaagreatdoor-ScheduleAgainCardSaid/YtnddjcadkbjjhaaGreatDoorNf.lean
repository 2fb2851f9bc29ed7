/-
  CHAPTER 35, NETWORKS: valid networks; hears, Hears, usable, Usable.
-/
import Derived.Test.YtnddjcadkbjjhaaGreatDoorNe
namespace Go.Proofs.YtnddjcadkbjjhaaGreatDoor
open Go.RowKit

/-- What Check has found of a valid network. -/
structure NetV (N : NT) : Prop where
  k2 : 2 ≤ N.k
  k32 : N.k ≤ 32
  np : (N.np : Int) = N.k
  rl : ∀ r ∈ N.rows, (r.length : Int) = N.k
  pr : ∀ r ∈ N.rows, ∀ x ∈ r, 0 ≤ x ∧ x ≤ 68719476736
  z0 : 0 ≤ N.z
  z1 : N.z ≤ 68719476736
  h0 : 1000 ≤ N.h
  h1 : N.h ≤ 100000
  nl : N.nl ≤ 128
  nm : N.nm = N.nl
  lk : ∀ (i : Nat) (l : L3), N.ls[i]? = some l → linkAt N i l = 0
  lrows : N.rows.length = N.np
  lls : N.ls.length = N.nl
  lms : N.ms.length = N.nm
theorem links_zero (N : NT) : ∀ (j : Nat) (L : List L3), linksE N j L = 0 → ∀ (i : Nat) (l : L3), L[i]? = some l → linkAt N (j + i) l = 0
  | _, [], _, i, l, h => by simp at h
  | j, x :: r, hz, i, l, h => by
    unfold linksE at hz
    split at hz
    · rename_i hx
      cases i with
      | zero => simp at h; subst h; exact hx
      | succ i =>
        have := links_zero N (j + 1) r hz i l (by simpa using h)
        rwa [show j + (i + 1) = j + 1 + i by omega]
    · rename_i hx
      exact absurd hz hx
theorem netV_of {N : NT} (h : netE N = 0) (l1 : N.rows.length = N.np) (l2 : N.ls.length = N.nl) (l3 : N.ms.length = N.nm) : NetV N := by
  unfold netE at h
  by_cases h1 : N.k < 2
  · rw [if_pos h1] at h; omega
  rw [if_neg h1] at h
  by_cases h2 : 32 < N.k
  · rw [if_pos h2] at h; omega
  rw [if_neg h2] at h
  by_cases h3 : powE N = 0
  case neg => rw [if_pos h3] at h; exact absurd h h3
  rw [if_neg (by simpa using h3)] at h
  by_cases h4 : N.z < 0
  · rw [if_pos h4] at h; omega
  rw [if_neg h4] at h
  by_cases h5 : 68719476736 < N.z
  · rw [if_pos h5] at h; omega
  rw [if_neg h5] at h
  by_cases h6 : N.h < 1000
  · rw [if_pos h6] at h; omega
  rw [if_neg h6] at h
  by_cases h7 : 100000 < N.h
  · rw [if_pos h7] at h; omega
  rw [if_neg h7] at h
  by_cases h8 : 128 < N.nl
  · rw [if_pos h8] at h; omega
  rw [if_neg h8] at h
  by_cases h9 : N.nm = N.nl
  case neg => rw [if_pos h9] at h; omega
  rw [if_neg (by simpa using h9)] at h
  obtain ⟨p1, p2, p3⟩ := pow_zero h3 l1
  exact ⟨by omega, by omega, p1, p2, p3, by omega, by omega, by omega, by omega, by omega, h9, fun i l hl => by have := links_zero N 0 N.ls h i l hl; rwa [Nat.zero_add] at this, l1, l2, l3⟩
theorem linkE_zero {N : NT} {prev : Option L3} {l : L3} {m : Int} (h : linkE N prev l m = 0) : rangeL N.k l = true ∧ orderL prev l = false ∧ 0 ≤ m ∧ m ≤ pw N.rows l.f l.t := by
  unfold linkE at h
  cases h1 : rangeL N.k l
  · rw [if_pos h1] at h; omega
  rw [if_neg (by simp [h1])] at h
  cases h2 : orderL prev l
  case true => rw [if_pos h2] at h; omega
  rw [if_neg (by simp [h2])] at h
  by_cases h3 : m < 0
  · rw [if_pos h3] at h; omega
  rw [if_neg h3] at h
  by_cases h4 : pw N.rows l.f l.t < m
  · rw [if_pos h4] at h; omega
  exact ⟨rfl, rfl, by omega, by omega⟩
theorem rangeL_iff {k : Int} {l : L3} (h : rangeL k l = true) : 0 ≤ l.f ∧ l.f < k ∧ 0 ≤ l.t ∧ l.t < k ∧ l.f ≠ l.t ∧ 0 ≤ l.l ∧ l.l ≤ 7 := by
  unfold rangeL insB at h
  simp at h
  omega
theorem NetV.pw_le {N : NT} (h : NetV N) (a b : Int) : 0 ≤ pw N.rows a b ∧ pw N.rows a b ≤ 68719476736 := by
  unfold pw
  rw [List.getD_eq_getElem?_getD]
  cases hb : (N.rows.getD a.toNat [])[b.toNat]? with
  | none => simp
  | some x =>
    have hx := List.mem_of_getElem? hb
    rw [List.getD_eq_getElem?_getD] at hx
    cases ha : N.rows[a.toNat]? with
    | none => rw [ha] at hx; simp at hx
    | some r =>
      rw [ha] at hx
      exact h.pr r (List.mem_of_getElem? ha) x hx
theorem NetV.mar {N : NT} (h : NetV N) (i : Nat) (m : Int) (hm : N.ms[i]? = some m) : 0 ≤ m ∧ m ≤ 68719476736 := by
  have hi : i < N.ls.length := by
    have := (List.getElem?_eq_some_iff.1 hm).1
    have h1 := h.lms
    have h2 := h.lls
    have h3 := h.nm
    omega
  have hl := h.lk i _ (List.getElem?_eq_getElem hi)
  unfold linkAt at hl
  rw [List.getD_eq_getElem?_getD, hm] at hl
  obtain ⟨_, _, h3, h4⟩ := linkE_zero hl
  have := (h.pw_le N.ls[i].f N.ls[i].t).2
  simp only [Option.getD_some] at h3 h4
  omega
theorem srtK_of : ∀ (ls : List L3), (∀ (i : Nat) (a b : L3), ls[i]? = some a → ls[i + 1]? = some b → cmpLk a b < 0) → SrtK ls
  | [], _ => List.Pairwise.nil
  | x :: l, h => by
    have ih := srtK_of l (fun i a b ha hb => h (i + 1) a b (by simpa using ha) (by simpa using hb))
    refine List.Pairwise.cons (fun z hz => ?_) ih
    cases l with
    | nil => cases hz
    | cons y r =>
      have hxy := h 0 x y rfl rfl
      rcases List.mem_cons.1 hz with rfl | hz
      · exact hxy
      · have hyz := (List.pairwise_cons.1 ih).1 z hz
        rw [cmpLk_lt] at *
        omega
theorem NetV.srt {N : NT} (h : NetV N) : SrtK N.ls := by
  refine srtK_of N.ls (fun i a b ha hb => ?_)
  have hl := h.lk (i + 1) b hb
  unfold linkAt at hl
  have h2 := (linkE_zero hl).2.1
  have e : prevL N.ls (i + 1) = some a := ha
  rw [e] at h2
  simp [orderL] at h2
  exact h2
def hearsB (N : NT) (s d : Int) : Bool := decide (N.h * (N.z + d) ≤ s * 1000)
theorem hears_bd {h x : Int} (h0 : 0 ≤ h) (h1 : h ≤ 100000) (x0 : 0 ≤ x) (x1 : x ≤ 8864812498944) : 0 ≤ h * x ∧ h * x ≤ 886481249894400000 := by
  have := Int.mul_le_mul h1 x1 x0 (by omega : (0 : Int) ≤ 100000)
  exact ⟨Int.mul_nonneg h0 x0, by omega⟩
set_option maxHeartbeats 1600000 in
theorem hears_lit (N : NT) (s d : Int) (s0 : 0 ≤ s) (s1 : s ≤ 8796093022208) (d0 : 0 ≤ d) (d1 : d ≤ 8796093022208) (z0 : 0 ≤ N.z) (z1 : N.z ≤ 68719476736) (h0 : 0 ≤ N.h) (h1 : N.h ≤ 100000) (r : Bool) (hr : Hid (hearsB N s d = r)) (w : World) :
    Calls Tryz.prog 121 #[.agg #[.int .i64 N.k, .slice N.Ap N.np N.cp, .int .i64 N.z, .int .i64 N.h, .slice N.Al N.nl N.cl, .slice N.Am N.nm N.cm], .int .i64 s, .int .i64 d] w fun e w' => e = .returned (.bool r) ∧ Below w.heap.size w w' := by
  have hbd := hears_bd h0 h1 (show 0 ≤ N.z + d by omega) (by omega)
  have hw1 : IntKind.i64.wrap (N.h * (N.z + d)) = N.h * (N.z + d) := IntWalk.i64_in _ (by omega)
  clear hbd
  go_enter Tryz.func121, Tryz.ntmps121
  go_wp2_with fail
  go_ret
  refine ⟨ret_bool ?_, alloc_below _ _⟩
  rw [← hr.out]
  unfold hearsB
  rfl
def hearsC (N : NT) (s d : Int) : Bool := decide (d ≤ 8796093022208) && hearsB N s d
set_option maxHeartbeats 1600000 in
set_option maxRecDepth 100000 in
theorem Hears_big (N : NT) (s d : Int) (s0 : 0 ≤ s) (s1 : s ≤ 68719476736) (d1 : 8796093022208 < d) (hv : Hid (netE N = 0)) (hsm : N.small) (w : World) (hN : Hid (NetM w w.heap.size N)) :
    Calls Tryz.prog 88 #[.agg #[.int .i64 N.k, .slice N.Ap N.np N.cp, .int .i64 N.z, .int .i64 N.h, .slice N.Al N.nl N.cl, .slice N.Am N.nm N.cm], .int .i64 s, .int .i64 d] w fun e w' => e = .returned (.bool false) ∧ Below w.heap.size w w' := by
  have hb0 := alloc_below w (ONT N)
  have hM0 := Lib.hid ((hN.out.below hb0).more hb0.size)
  clear hN
  go_enter Tryz.func88, Tryz.ntmps88
  go_wp2_with fail
  refine (net_lit N hsm 0 hv.out _ hM0.out).mono ?_
  rintro e w1 ⟨rfl, hb1⟩
  have hmn : ¬ min s d < 0 := by omega
  have hmx : 8796093022208 < max s d := by omega
  go_wp2_with fail
  go_ret
  exact ⟨rfl, bstep hb0 hb1 (Nat.le_refl _)⟩
set_option maxHeartbeats 1600000 in
set_option maxRecDepth 100000 in
theorem Hears_small (N : NT) (s d : Int) (s0 : 0 ≤ s) (s1 : s ≤ 68719476736) (d0 : 0 ≤ d) (d1 : d ≤ 8796093022208) (hv : Hid (netE N = 0)) (hV : NetV N) (hsm : N.small) (r : Bool) (hr : Hid (hearsB N s d = r)) (w : World) (hN : Hid (NetM w w.heap.size N)) :
    Calls Tryz.prog 88 #[.agg #[.int .i64 N.k, .slice N.Ap N.np N.cp, .int .i64 N.z, .int .i64 N.h, .slice N.Al N.nl N.cl, .slice N.Am N.nm N.cm], .int .i64 s, .int .i64 d] w fun e w' => e = .returned (.bool r) ∧ Below w.heap.size w w' := by
  have hb0 := alloc_below w (ONT N)
  have hB0 := Lib.hid (BoxNT.new N w)
  have hl0 : w.heap.size < (w.alloc (ONT N)).heap.size := by simp
  have hM0 := Lib.hid ((hN.out.below hb0).more hb0.size)
  have hz0 := hV.z0
  have hz1 := hV.z1
  have hh0 : 0 ≤ N.h := by have := hV.h0; omega
  have hh1 := hV.h1
  clear hN
  go_enter Tryz.func88, Tryz.ntmps88
  go_wp2_with fail
  revert hb0 hB0 hl0 hM0
  generalize w.alloc (ONT N) = w0
  intro hb0 hB0 hl0 hM0
  refine (net_lit N hsm 0 hv.out _ hM0.out).mono ?_
  rintro e w1 ⟨rfl, hb1⟩
  obtain ⟨n0, n1, n2, n3, n4, n5⟩ := hB0.out.below hb1 hl0
  have hmn : ¬ min s d < 0 := by omega
  have hmx : ¬ 8796093022208 < max s d := by omega
  go_wp2_with fail
  all_goals
    refine (hears_lit N s d s0 (by omega) d0 d1 hz0 hz1 hh0 hh1 r hr _).mono ?_
    rintro e w2 ⟨rfl, hb2⟩
    go_wp2_with fail
    go_ret
    exact ⟨rfl, bstep (bstep hb0 hb1 (Nat.le_refl _)) hb2 (Nat.le_refl _)⟩
/-- network.Hears, of a valid network. -/
theorem Hears_lit (N : NT) (s d : Int) (s0 : 0 ≤ s) (s1 : s ≤ 68719476736) (d0 : 0 ≤ d) (hv : netE N = 0) (hV : NetV N) (hsm : N.small) (r : Bool) (hr : hearsC N s d = r) (w : World) (hN : NetM w w.heap.size N) :
    Calls Tryz.prog 88 #[.agg #[.int .i64 N.k, .slice N.Ap N.np N.cp, .int .i64 N.z, .int .i64 N.h, .slice N.Al N.nl N.cl, .slice N.Am N.nm N.cm], .int .i64 s, .int .i64 d] w fun e w' => e = .returned (.bool r) ∧ Below w.heap.size w w' := by
  subst hr
  unfold hearsC
  by_cases h : d ≤ 8796093022208
  · rw [decide_eq_true h, Bool.true_and]
    exact Hears_small N s d s0 s1 d0 h (Lib.hid hv) hV hsm _ (Lib.hid rfl) w (Lib.hid hN)
  · rw [decide_eq_false h, Bool.false_and]
    exact Hears_big N s d s0 s1 (by omega) (Lib.hid hv) hsm w (Lib.hid hN)
/-- Is the link with an index usable. -/
def usableB (N : NT) (i : Nat) : Bool :=
  match N.ls[i]? with
  | none => false
  | some l => decide (0 ≤ findL N.ls l.t l.f) && hearsB N (N.ms.getD i 0) 0 && hearsB N (N.ms.getD (findL N.ls l.t l.f).toNat 0) 0
set_option maxHeartbeats 4000000 in
set_option maxRecDepth 100000 in
theorem usable_none (N : NT) (i : Nat) (l : L3) (m : Int) (hi : i < N.nl) (him : i < N.nm) (hl : Hid (N.ls[i]? = some l)) (hm : Hid (N.ms[i]? = some m)) (_hm0 : 0 ≤ m) (_hm1 : m ≤ 68719476736) (back : Int) (hbk : Hid (findL N.ls l.t l.f = back)) (hbn0 : back < 0) (hV : NetV N) (w : World) (hN : Hid (NetM w w.heap.size N)) :
    Calls Tryz.prog 118 #[.agg #[.int .i64 N.k, .slice N.Ap N.np N.cp, .int .i64 N.z, .int .i64 N.h, .slice N.Al N.nl N.cl, .slice N.Am N.nm N.cm], .int .i64 i] w fun e w' => e = .returned (.bool false) ∧ Below w.heap.size w w' := by
  have hz0 := hV.z0
  have hz1 := hV.z1
  have hh0 : 0 ≤ N.h := by have := hV.h0; omega
  have hh1 := hV.h1
  have hnl := hV.nl
  have hsr := Lib.hid hV.srt
  clear hV
  have hb0 := alloc_below w (ONT N)
  have hB0 := Lib.hid (BoxNT.new N w)
  have hl0 : w.heap.size < (w.alloc (ONT N)).heap.size := by simp
  have hM0 := Lib.hid ((hN.out.below hb0).more hb0.size)
  clear hN
  have hi0 : (0 : Int) ≤ (i : Int) := by omega
  have hi1 : (i : Int) < (N.nl : Int) := by omega
  have hi2 : (i : Int) < (N.nm : Int) := by omega
  go_enter Tryz.func118, Tryz.ntmps118
  go_upto_region 1 with fail
  revert hb0 hB0 hl0 hM0
  generalize w.alloc (ONT N) = w0
  intro hb0 hB0 hl0 hM0
  obtain ⟨n0, n1, n2, n3, n4, n5⟩ := id hB0.out
  obtain ⟨bl, ofl, l', hAl, hbl, el, q0⟩ := hM0.out.2.1.at_ hi
  obtain rfl : l = l' := Option.some.inj (hl.out.symm.trans el)
  obtain ⟨bm, om, m', hAm, hbm, em, mm0⟩ := hM0.out.2.2.at_ him
  obtain rfl : m = m' := Option.some.inj (hm.out.symm.trans em)
  rw [hAl] at n4
  rw [hAm] at n5
  have hAl' := Lib.hid hAl
  have hAm' := Lib.hid hAm
  have hQ := Lib.hid (show RowL3 w0 bl (ofl + i * 3) l from q0)
  have hmc := Lib.hid mm0
  have hn0 := Lib.hid n0
  have hn1 := Lib.hid n1
  have hn2 := Lib.hid n2
  have hn3 := Lib.hid n3
  have hn4 := Lib.hid n4
  have hn5 := Lib.hid n5
  clear hAl el hAm em q0 mm0 n0 n1 n2 n3 n4 n5
  have hk1 : Hid (∀ W, Below w0.heap.size w0 W → (fun W => W.cell? ⟨w.heap.size, 0, none⟩ = some (.int .i64 N.k) ∧ W.cell? ⟨w.heap.size, 1, none⟩ = some (.slice N.Ap N.np N.cp) ∧ W.cell? ⟨w.heap.size, 2, none⟩ = some (.int .i64 N.z) ∧ W.cell? ⟨w.heap.size, 3, none⟩ = some (.int .i64 N.h) ∧ W.cell? ⟨w.heap.size, 4, none⟩ = some (.slice (some ⟨bl, ofl, none⟩) N.nl N.cl) ∧ W.cell? ⟨w.heap.size, 5, none⟩ = some (.slice (some ⟨bm, om, none⟩) N.nm N.cm) ∧ W.cell? ⟨bl, ofl + i * 3, none⟩ = some (.int .i64 l.f) ∧ W.cell? ⟨bl, ofl + i * 3 + 1, none⟩ = some (.int .i64 l.t) ∧ W.cell? ⟨bl, ofl + i * 3 + 2, none⟩ = some (.int .i64 l.l)) W) := Lib.hid (fun W h => by
    obtain ⟨e0, e1, e2⟩ := hQ.out.below h hbl
    exact ⟨(h.cell (p := ⟨w.heap.size, 0, none⟩) hl0).trans hn0.out, (h.cell (p := ⟨w.heap.size, 1, none⟩) hl0).trans hn1.out, (h.cell (p := ⟨w.heap.size, 2, none⟩) hl0).trans hn2.out, (h.cell (p := ⟨w.heap.size, 3, none⟩) hl0).trans hn3.out, (h.cell (p := ⟨w.heap.size, 4, none⟩) hl0).trans hn4.out, (h.cell (p := ⟨w.heap.size, 5, none⟩) hl0).trans hn5.out, e0, e1, e2⟩)
  have hbn : decide (0 ≤ back) = false := by simp; omega
  refine wp_region_held_drew (S := (fun W => W.cell? ⟨w.heap.size, 0, none⟩ = some (.int .i64 N.k) ∧ W.cell? ⟨w.heap.size, 1, none⟩ = some (.slice N.Ap N.np N.cp) ∧ W.cell? ⟨w.heap.size, 2, none⟩ = some (.int .i64 N.z) ∧ W.cell? ⟨w.heap.size, 3, none⟩ = some (.int .i64 N.h) ∧ W.cell? ⟨w.heap.size, 4, none⟩ = some (.slice (some ⟨bl, ofl, none⟩) N.nl N.cl) ∧ W.cell? ⟨w.heap.size, 5, none⟩ = some (.slice (some ⟨bm, om, none⟩) N.nm N.cm) ∧ W.cell? ⟨bl, ofl + i * 3, none⟩ = some (.int .i64 l.f) ∧ W.cell? ⟨bl, ofl + i * 3 + 1, none⟩ = some (.int .i64 l.t) ∧ W.cell? ⟨bl, ofl + i * 3 + 2, none⟩ = some (.int .i64 l.l))) (by kernel_rfl) (hk1.out _ (Below.refl _ w0).drew) (fun hHeld => ?_)
  refine wpAnyH_take (i := 0) (oi := ?o1) (v := ?hv1) ?hi1 (by kernel_rfl) (by kernel_rfl) (by kernel_rfl) ?hq1 ?hy1 (by assumption) ?hr1
  case hi1 => (simp only [List.getElem?_toArray, List.getElem?_cons_zero]; rfl)
  case hq1 => exact fun _ _ _ h => h
  case hy1 => exact Or.inl ⟨by rfl, by intro w hSw; (try dsimp only at hSw); go_simp; try with_reducible rfl⟩
  simp only [Act.put, List.setIfInBounds_toArray, List.set_cons_zero, List.set_cons_succ]
  refine wpAnyH_take (i := 1) (oi := ?o2) (v := ?hv2) ?hi2 (by kernel_rfl) (by kernel_rfl) (by kernel_rfl) ?hq2 ?hy2 (by assumption) ?hr2
  case hi2 => (simp only [List.getElem?_toArray, List.getElem?_cons_succ, List.getElem?_cons_zero]; rfl)
  case hq2 => exact fun _ _ _ h => h
  case hy2 => exact Or.inl ⟨by rfl, by intro w hSw; (try dsimp only at hSw); go_simp; try with_reducible rfl⟩
  simp only [Act.put, List.setIfInBounds_toArray, List.set_cons_zero, List.set_cons_succ]
  refine wpAnyH_take (i := 2) (oi := ?o3) (v := ?hv3) ?hi3 (by kernel_rfl) (by kernel_rfl) (by kernel_rfl) ?hq3 ?hy3 (by assumption) ?hr3
  case hi3 => (simp only [List.getElem?_toArray, List.getElem?_cons_succ, List.getElem?_cons_zero]; rfl)
  case hq3 => exact fun _ _ _ h => h
  case hy3 => exact Or.inl ⟨by rfl, by intro w hSw; (try dsimp only at hSw); go_simp; try with_reducible rfl⟩
  simp only [Act.put, List.setIfInBounds_toArray, List.set_cons_zero, List.set_cons_succ]
  refine wpAnyH_take (i := 3) (oi := ?o4) (v := ?hv4) ?hi4 (by kernel_rfl) (by kernel_rfl) (by kernel_rfl) ?hq4 ?hy4 (by assumption) ?hr4
  case hi4 => (simp only [List.getElem?_toArray, List.getElem?_cons_succ, List.getElem?_cons_zero]; rfl)
  case hq4 => exact fun _ _ _ h => h
  case hy4 => exact Or.inl ⟨by rfl, by intro w hSw; (try dsimp only at hSw); go_simp; try with_reducible rfl⟩
  simp only [Act.put, List.setIfInBounds_toArray, List.set_cons_zero, List.set_cons_succ]
  refine wpAnyH_take (i := 4) (oi := ?o5) (v := ?hv5) ?hi5 (by kernel_rfl) (by kernel_rfl) (by kernel_rfl) ?hq5 ?hy5 (by assumption) ?hr5
  case hi5 => (simp only [List.getElem?_toArray, List.getElem?_cons_succ, List.getElem?_cons_zero]; rfl)
  case hq5 => exact fun _ _ _ h => h
  case hy5 => exact Or.inl ⟨by rfl, by intro w hSw; (try dsimp only at hSw); go_simp; try with_reducible rfl⟩
  simp only [Act.put, List.setIfInBounds_toArray, List.set_cons_zero, List.set_cons_succ]
  refine wpAnyH_take (i := 5) (oi := ?o6) (v := ?hv6) ?hi6 (by kernel_rfl) (by kernel_rfl) (by kernel_rfl) ?hq6 ?hy6 (by assumption) ?hr6
  case hi6 => (simp only [List.getElem?_toArray, List.getElem?_cons_succ, List.getElem?_cons_zero]; rfl)
  case hq6 => exact fun _ _ _ h => h
  case hy6 => exact Or.inl ⟨by rfl, by intro w hSw; (try dsimp only at hSw); go_simp; try with_reducible rfl⟩
  simp only [Act.put, List.setIfInBounds_toArray, List.set_cons_zero, List.set_cons_succ]
  refine wpAnyH_take (i := 6) (oi := ?o7) (v := ?hv7) ?hi7 (by kernel_rfl) (by kernel_rfl) (by kernel_rfl) ?hq7 ?hy7 (by assumption) ?hr7
  case hi7 => (simp only [List.getElem?_toArray, List.getElem?_cons_succ, List.getElem?_cons_zero]; rfl)
  case hq7 => exact fun _ _ _ h => h
  case hy7 => exact Or.inl ⟨by rfl, by intro w hSw; (try dsimp only at hSw); go_simp; try with_reducible rfl⟩
  simp only [Act.put, List.setIfInBounds_toArray, List.set_cons_zero, List.set_cons_succ]
  refine wpAnyH_take (i := 7) (oi := ?o8) (v := ?hv8) ?hi8 (by kernel_rfl) (by kernel_rfl) (by kernel_rfl) ?hq8 ?hy8 (by assumption) ?hr8
  case hi8 => (simp only [List.getElem?_toArray, List.getElem?_cons_succ, List.getElem?_cons_zero]; rfl)
  case hq8 => exact fun _ _ _ h => h
  case hy8 => exact Or.inl ⟨by rfl, by intro w hSw; (try dsimp only at hSw); go_simp; try with_reducible rfl⟩
  simp only [Act.put, List.setIfInBounds_toArray, List.set_cons_zero, List.set_cons_succ]
  refine wpAnyH_take (i := 8) (oi := ?o9) (v := ?hv9) ?hi9 (by kernel_rfl) (by kernel_rfl) (by kernel_rfl) ?hq9 ?hy9 (by assumption) ?hr9
  case hi9 => (simp only [List.getElem?_toArray, List.getElem?_cons_succ, List.getElem?_cons_zero]; rfl)
  case hq9 => exact fun _ _ _ h => h
  case hy9 => exact Or.inl ⟨by rfl, by intro w hSw; (try dsimp only at hSw); go_simp; try with_reducible rfl⟩
  simp only [Act.put, List.setIfInBounds_toArray, List.set_cons_zero, List.set_cons_succ]
  refine wpAnyH_take (i := 9) (oi := ?o10) (v := ?hv10) ?hi10 (by kernel_rfl) (by kernel_rfl) (by kernel_rfl) ?hq10 ?hy10 (by assumption) ?hr10
  case hi10 => (simp only [List.getElem?_toArray, List.getElem?_cons_succ, List.getElem?_cons_zero]; rfl)
  case hq10 => exact fun _ _ _ h => h
  case hy10 => exact Or.inl ⟨by rfl, by intro w hSw; (try dsimp only at hSw); go_simp; try with_reducible rfl⟩
  simp only [Act.put, List.setIfInBounds_toArray, List.set_cons_zero, List.set_cons_succ]
  refine wpAnyH_take (i := 10) (oi := ?o11) (v := ?hv11) ?hi11 (by kernel_rfl) (by kernel_rfl) (by kernel_rfl) ?hq11 ?hy11 (by assumption) ?hr11
  case hi11 => (simp only [List.getElem?_toArray, List.getElem?_cons_succ, List.getElem?_cons_zero]; rfl)
  case hq11 => exact fun _ _ _ h => h
  case hy11 => exact Or.inl ⟨by rfl, by intro w hSw; (try dsimp only at hSw); go_simp; try with_reducible rfl⟩
  simp only [Act.put, List.setIfInBounds_toArray, List.set_cons_zero, List.set_cons_succ]
  refine wpAnyH_take (i := 11) (oi := ?o12) (v := ?hv12) ?hi12 (by kernel_rfl) (by kernel_rfl) (by kernel_rfl) ?hq12 ?hy12 (by assumption) ?hr12
  case hi12 => (simp only [List.getElem?_toArray, List.getElem?_cons_succ, List.getElem?_cons_zero]; rfl)
  case hq12 => exact fun _ _ _ h => h
  case hy12 => exact Or.inl ⟨by rfl, by intro w hSw; (try dsimp only at hSw); go_simp; try with_reducible rfl⟩
  simp only [Act.put, List.setIfInBounds_toArray, List.set_cons_zero, List.set_cons_succ]
  refine wpAnyH_take (i := 12) (oi := ?o13) (v := ?hv13) ?hi13 (by kernel_rfl) (by kernel_rfl) (by kernel_rfl) ?hq13 ?hy13 (by assumption) ?hr13
  case hi13 => (simp only [List.getElem?_toArray, List.getElem?_cons_succ, List.getElem?_cons_zero]; rfl)
  case hq13 => exact fun _ _ _ h => h
  case hy13 => exact Or.inl ⟨by rfl, by intro w hSw; (try dsimp only at hSw); go_simp; try with_reducible rfl⟩
  simp only [Act.put, List.setIfInBounds_toArray, List.set_cons_zero, List.set_cons_succ]
  have hc := fun W hW => find_lit N l.t l.f back hbk.out (by omega) hsr.out W hW
  simp only [hAl'.out, hAm'.out] at hc
  refine wpAnyH_ready (rs := [13]) (by kernel_rfl) (by simp) ?_
  refine (AllReadyH.cons (o := ?o14) ?hi14 (fun K hK => ?hr14) AllReadyH.nil)
  case hi14 => (simp only [List.getElem?_toArray, List.getElem?_cons_succ, List.getElem?_cons_zero]; rfl)
  go_simp
  refine (hc _ (by exact (hM0.out.below (Below.refl _ w0).drew))).mono ?_
  rintro e w1 ⟨rfl, hb1⟩
  have hb1d : Below w0.heap.size w0 w1 := (Below.refl _ w0).drew.trans hb1
  go_wp2_with fail
  refine hK.out _ _ ?_ (fun hHeld => ?_)
  · exact hk1.out _ hb1d
  clear hK K
  try simp only [Act.put, List.setIfInBounds_toArray, List.set_cons_zero, List.set_cons_succ]
  clear hc
  refine wpAnyH_take (i := 14) (oi := ?o15) (v := ?hv15) ?hi15 (by kernel_rfl) (by kernel_rfl) (by kernel_rfl) ?hq15 ?hy15 (by assumption) ?hr15
  case hi15 => (simp only [List.getElem?_toArray, List.getElem?_cons_succ, List.getElem?_cons_zero]; rfl)
  case hq15 => exact fun _ _ _ h => h
  case hy15 => exact Or.inl ⟨by rfl, by intro w hSw; (try dsimp only at hSw); go_simp; try with_reducible rfl⟩
  simp only [Act.put, List.setIfInBounds_toArray, List.set_cons_zero, List.set_cons_succ]
  refine wpAnyH_done (by kernel_rfl) ?_ _
  go_wp2_with fail
  have hw1 := bstep hb0 hb1d (Nat.le_refl _)
  have hk2 : Hid (∀ W, Below w0.heap.size w0 W → (fun W => W.cell? ⟨w.heap.size, 0, none⟩ = some (.int .i64 N.k) ∧ W.cell? ⟨w.heap.size, 1, none⟩ = some (.slice N.Ap N.np N.cp) ∧ W.cell? ⟨w.heap.size, 2, none⟩ = some (.int .i64 N.z) ∧ W.cell? ⟨w.heap.size, 3, none⟩ = some (.int .i64 N.h) ∧ W.cell? ⟨w.heap.size, 4, none⟩ = some (.slice (some ⟨bl, ofl, none⟩) N.nl N.cl) ∧ W.cell? ⟨w.heap.size, 5, none⟩ = some (.slice (some ⟨bm, om, none⟩) N.nm N.cm) ∧ W.cell? ⟨bm, om + i, none⟩ = some (.int .i64 m)) W) := Lib.hid (fun W h => ⟨(h.cell (p := ⟨w.heap.size, 0, none⟩) hl0).trans hn0.out, (h.cell (p := ⟨w.heap.size, 1, none⟩) hl0).trans hn1.out, (h.cell (p := ⟨w.heap.size, 2, none⟩) hl0).trans hn2.out, (h.cell (p := ⟨w.heap.size, 3, none⟩) hl0).trans hn3.out, (h.cell (p := ⟨w.heap.size, 4, none⟩) hl0).trans hn4.out, (h.cell (p := ⟨w.heap.size, 5, none⟩) hl0).trans hn5.out, (h.cell (p := ⟨bm, _, none⟩) hbm).trans hmc.out⟩)
  refine wp_region_held_drew (S := (fun W => W.cell? ⟨w.heap.size, 0, none⟩ = some (.int .i64 N.k) ∧ W.cell? ⟨w.heap.size, 1, none⟩ = some (.slice N.Ap N.np N.cp) ∧ W.cell? ⟨w.heap.size, 2, none⟩ = some (.int .i64 N.z) ∧ W.cell? ⟨w.heap.size, 3, none⟩ = some (.int .i64 N.h) ∧ W.cell? ⟨w.heap.size, 4, none⟩ = some (.slice (some ⟨bl, ofl, none⟩) N.nl N.cl) ∧ W.cell? ⟨w.heap.size, 5, none⟩ = some (.slice (some ⟨bm, om, none⟩) N.nm N.cm) ∧ W.cell? ⟨bm, om + i, none⟩ = some (.int .i64 m))) (by kernel_rfl) (hk2.out _ hb1d.drew) (fun hHeld => ?_)
  refine wpAnyH_take (i := 0) (oi := ?o16) (v := ?hv16) ?hi16 (by kernel_rfl) (by kernel_rfl) (by kernel_rfl) ?hq16 ?hy16 (by assumption) ?hr16
  case hi16 => (simp only [List.getElem?_toArray, List.getElem?_cons_zero]; rfl)
  case hq16 => exact fun _ _ _ h => h
  case hy16 => exact Or.inl ⟨by rfl, by intro w hSw; (try dsimp only at hSw); go_simp; try with_reducible rfl⟩
  simp only [Act.put, List.setIfInBounds_toArray, List.set_cons_zero, List.set_cons_succ]
  refine wpAnyH_take (i := 1) (oi := ?o17) (v := .bool false) ?hi17 (by kernel_rfl) (by kernel_rfl) (by kernel_rfl) ?hq17 ?hy17 (by assumption) ?hr17
  case hi17 => (simp only [List.getElem?_toArray, List.getElem?_cons_succ, List.getElem?_cons_zero]; rfl)
  case hq17 => exact fun _ _ _ h => h
  case hy17 => exact Or.inl ⟨by rfl, by intro w hSw; (try dsimp only at hSw); go_simp; try simp only [hbn]; try with_reducible rfl⟩
  simp only [Act.put, List.setIfInBounds_toArray, List.set_cons_zero, List.set_cons_succ]
  refine wpAnyH_take (i := 2) (oi := ?o18) (v := ?hv18) ?hi18 (by kernel_rfl) (by kernel_rfl) (by kernel_rfl) ?hq18 ?hy18 (by assumption) ?hr18
  case hi18 => (simp only [List.getElem?_toArray, List.getElem?_cons_succ, List.getElem?_cons_zero]; rfl)
  case hq18 => exact fun _ _ _ h => h
  case hy18 => exact Or.inl ⟨by rfl, by intro w hSw; (try dsimp only at hSw); go_simp; try with_reducible rfl⟩
  simp only [Act.put, List.setIfInBounds_toArray, List.set_cons_zero, List.set_cons_succ]
  refine wpAnyH_take (i := 3) (oi := ?o19) (v := undef) ?hi19 (by kernel_rfl) (by kernel_rfl) (by kernel_rfl) ?hq19 ?hy19 (by assumption) ?hr19
  case hi19 => (simp only [List.getElem?_toArray, List.getElem?_cons_succ, List.getElem?_cons_zero]; rfl)
  case hq19 => exact fun _ _ _ h => h
  case hy19 => exact Or.inr ⟨by rfl, rfl⟩
  simp only [Act.put, List.setIfInBounds_toArray, List.set_cons_zero, List.set_cons_succ]
  refine wpAnyH_take (i := 4) (oi := ?o20) (v := undef) ?hi20 (by kernel_rfl) (by kernel_rfl) (by kernel_rfl) ?hq20 ?hy20 (by assumption) ?hr20
  case hi20 => (simp only [List.getElem?_toArray, List.getElem?_cons_succ, List.getElem?_cons_zero]; rfl)
  case hq20 => exact fun _ _ _ h => h
  case hy20 => exact Or.inr ⟨by rfl, rfl⟩
  simp only [Act.put, List.setIfInBounds_toArray, List.set_cons_zero, List.set_cons_succ]
  refine wpAnyH_take (i := 5) (oi := ?o21) (v := undef) ?hi21 (by kernel_rfl) (by kernel_rfl) (by kernel_rfl) ?hq21 ?hy21 (by assumption) ?hr21
  case hi21 => (simp only [List.getElem?_toArray, List.getElem?_cons_succ, List.getElem?_cons_zero]; rfl)
  case hq21 => exact fun _ _ _ h => h
  case hy21 => exact Or.inr ⟨by rfl, rfl⟩
  simp only [Act.put, List.setIfInBounds_toArray, List.set_cons_zero, List.set_cons_succ]
  refine wpAnyH_take (i := 6) (oi := ?o22) (v := undef) ?hi22 (by kernel_rfl) (by kernel_rfl) (by kernel_rfl) ?hq22 ?hy22 (by assumption) ?hr22
  case hi22 => (simp only [List.getElem?_toArray, List.getElem?_cons_succ, List.getElem?_cons_zero]; rfl)
  case hq22 => exact fun _ _ _ h => h
  case hy22 => exact Or.inr ⟨by rfl, rfl⟩
  simp only [Act.put, List.setIfInBounds_toArray, List.set_cons_zero, List.set_cons_succ]
  refine wpAnyH_take (i := 7) (oi := ?o23) (v := undef) ?hi23 (by kernel_rfl) (by kernel_rfl) (by kernel_rfl) ?hq23 ?hy23 (by assumption) ?hr23
  case hi23 => (simp only [List.getElem?_toArray, List.getElem?_cons_succ, List.getElem?_cons_zero]; rfl)
  case hq23 => exact fun _ _ _ h => h
  case hy23 => exact Or.inr ⟨by rfl, rfl⟩
  simp only [Act.put, List.setIfInBounds_toArray, List.set_cons_zero, List.set_cons_succ]
  refine wpAnyH_take (i := 8) (oi := ?o24) (v := undef) ?hi24 (by kernel_rfl) (by kernel_rfl) (by kernel_rfl) ?hq24 ?hy24 (by assumption) ?hr24
  case hi24 => (simp only [List.getElem?_toArray, List.getElem?_cons_succ, List.getElem?_cons_zero]; rfl)
  case hq24 => exact fun _ _ _ h => h
  case hy24 => exact Or.inr ⟨by rfl, rfl⟩
  simp only [Act.put, List.setIfInBounds_toArray, List.set_cons_zero, List.set_cons_succ]
  refine wpAnyH_take (i := 9) (oi := ?o25) (v := undef) ?hi25 (by kernel_rfl) (by kernel_rfl) (by kernel_rfl) ?hq25 ?hy25 (by assumption) ?hr25
  case hi25 => (simp only [List.getElem?_toArray, List.getElem?_cons_succ, List.getElem?_cons_zero]; rfl)
  case hq25 => exact fun _ _ _ h => h
  case hy25 => exact Or.inr ⟨by rfl, rfl⟩
  simp only [Act.put, List.setIfInBounds_toArray, List.set_cons_zero, List.set_cons_succ]
  refine wpAnyH_take (i := 10) (oi := ?o26) (v := ?hv26) ?hi26 (by kernel_rfl) (by kernel_rfl) (by kernel_rfl) ?hq26 ?hy26 (by assumption) ?hr26
  case hi26 => (simp only [List.getElem?_toArray, List.getElem?_cons_succ, List.getElem?_cons_zero]; rfl)
  case hq26 => exact fun _ _ _ h => h
  case hy26 => exact Or.inl ⟨by rfl, by intro w hSw; (try dsimp only at hSw); go_simp; try with_reducible rfl⟩
  simp only [Act.put, List.setIfInBounds_toArray, List.set_cons_zero, List.set_cons_succ]
  refine wpAnyH_take (i := 11) (oi := ?o27) (v := ?hv27) ?hi27 (by kernel_rfl) (by kernel_rfl) (by kernel_rfl) ?hq27 ?hy27 (by assumption) ?hr27
  case hi27 => (simp only [List.getElem?_toArray, List.getElem?_cons_succ, List.getElem?_cons_zero]; rfl)
  case hq27 => exact fun _ _ _ h => h
  case hy27 => exact Or.inl ⟨by rfl, by intro w hSw; (try dsimp only at hSw); go_simp; try with_reducible rfl⟩
  simp only [Act.put, List.setIfInBounds_toArray, List.set_cons_zero, List.set_cons_succ]
  refine wpAnyH_take (i := 12) (oi := ?o28) (v := undef) ?hi28 (by kernel_rfl) (by kernel_rfl) (by kernel_rfl) ?hq28 ?hy28 (by assumption) ?hr28
  case hi28 => (simp only [List.getElem?_toArray, List.getElem?_cons_succ, List.getElem?_cons_zero]; rfl)
  case hq28 => exact fun _ _ _ h => h
  case hy28 => exact Or.inr ⟨by rfl, rfl⟩
  simp only [Act.put, List.setIfInBounds_toArray, List.set_cons_zero, List.set_cons_succ]
  refine wpAnyH_take (i := 13) (oi := ?o29) (v := undef) ?hi29 (by kernel_rfl) (by kernel_rfl) (by kernel_rfl) ?hq29 ?hy29 (by assumption) ?hr29
  case hi29 => (simp only [List.getElem?_toArray, List.getElem?_cons_succ, List.getElem?_cons_zero]; rfl)
  case hq29 => exact fun _ _ _ h => h
  case hy29 => exact Or.inr ⟨by rfl, rfl⟩
  simp only [Act.put, List.setIfInBounds_toArray, List.set_cons_zero, List.set_cons_succ]
  refine wpAnyH_take (i := 14) (oi := ?o30) (v := undef) ?hi30 (by kernel_rfl) (by kernel_rfl) (by kernel_rfl) ?hq30 ?hy30 (by assumption) ?hr30
  case hi30 => (simp only [List.getElem?_toArray, List.getElem?_cons_succ, List.getElem?_cons_zero]; rfl)
  case hq30 => exact fun _ _ _ h => h
  case hy30 => exact Or.inr ⟨by rfl, rfl⟩
  simp only [Act.put, List.setIfInBounds_toArray, List.set_cons_zero, List.set_cons_succ]
  refine wpAnyH_take (i := 15) (oi := ?o31) (v := undef) ?hi31 (by kernel_rfl) (by kernel_rfl) (by kernel_rfl) ?hq31 ?hy31 (by assumption) ?hr31
  case hi31 => (simp only [List.getElem?_toArray, List.getElem?_cons_succ, List.getElem?_cons_zero]; rfl)
  case hq31 => exact fun _ _ _ h => h
  case hy31 => exact Or.inr ⟨by rfl, rfl⟩
  simp only [Act.put, List.setIfInBounds_toArray, List.set_cons_zero, List.set_cons_succ]
  refine wpAnyH_take (i := 16) (oi := ?o32) (v := undef) ?hi32 (by kernel_rfl) (by kernel_rfl) (by kernel_rfl) ?hq32 ?hy32 (by assumption) ?hr32
  case hi32 => (simp only [List.getElem?_toArray, List.getElem?_cons_succ, List.getElem?_cons_zero]; rfl)
  case hq32 => exact fun _ _ _ h => h
  case hy32 => exact Or.inr ⟨by rfl, rfl⟩
  simp only [Act.put, List.setIfInBounds_toArray, List.set_cons_zero, List.set_cons_succ]
  refine wpAnyH_take (i := 17) (oi := ?o33) (v := undef) ?hi33 (by kernel_rfl) (by kernel_rfl) (by kernel_rfl) ?hq33 ?hy33 (by assumption) ?hr33
  case hi33 => (simp only [List.getElem?_toArray, List.getElem?_cons_succ, List.getElem?_cons_zero]; rfl)
  case hq33 => exact fun _ _ _ h => h
  case hy33 => exact Or.inr ⟨by rfl, rfl⟩
  simp only [Act.put, List.setIfInBounds_toArray, List.set_cons_zero, List.set_cons_succ]
  refine wpAnyH_take (i := 18) (oi := ?o34) (v := undef) ?hi34 (by kernel_rfl) (by kernel_rfl) (by kernel_rfl) ?hq34 ?hy34 (by assumption) ?hr34
  case hi34 => (simp only [List.getElem?_toArray, List.getElem?_cons_succ, List.getElem?_cons_zero]; rfl)
  case hq34 => exact fun _ _ _ h => h
  case hy34 => exact Or.inr ⟨by rfl, rfl⟩
  simp only [Act.put, List.setIfInBounds_toArray, List.set_cons_zero, List.set_cons_succ]
  refine wpAnyH_take (i := 19) (oi := ?o35) (v := ?hv35) ?hi35 (by kernel_rfl) (by kernel_rfl) (by kernel_rfl) ?hq35 ?hy35 (by assumption) ?hr35
  case hi35 => (simp only [List.getElem?_toArray, List.getElem?_cons_succ, List.getElem?_cons_zero]; rfl)
  case hq35 => exact fun _ _ _ h => h
  case hy35 => exact Or.inl ⟨by rfl, by intro w hSw; (try dsimp only at hSw); go_simp; try with_reducible rfl⟩
  simp only [Act.put, List.setIfInBounds_toArray, List.set_cons_zero, List.set_cons_succ]
  refine wpAnyH_take (i := 20) (oi := ?o36) (v := ?hv36) ?hi36 (by kernel_rfl) (by kernel_rfl) (by kernel_rfl) ?hq36 ?hy36 (by assumption) ?hr36
  case hi36 => (simp only [List.getElem?_toArray, List.getElem?_cons_succ, List.getElem?_cons_zero]; rfl)
  case hq36 => exact fun _ _ _ h => h
  case hy36 => exact Or.inl ⟨by rfl, by intro w hSw; (try dsimp only at hSw); go_simp; try with_reducible rfl⟩
  simp only [Act.put, List.setIfInBounds_toArray, List.set_cons_zero, List.set_cons_succ]
  refine wpAnyH_done (by kernel_rfl) ?_ _
  go_wp2_with fail
  go_ret
  exact ⟨rfl, bstep hw1 (Below.refl _ w1).drew (Nat.le_refl _)⟩
set_option maxHeartbeats 4000000 in
set_option maxRecDepth 100000 in
theorem usable_no (N : NT) (i : Nat) (l : L3) (m : Int) (hi : i < N.nl) (him : i < N.nm) (hl : Hid (N.ls[i]? = some l)) (hm : Hid (N.ms[i]? = some m)) (hm0 : 0 ≤ m) (hm1 : m ≤ 68719476736) (back : Int) (hbk : Hid (findL N.ls l.t l.f = back)) (hbn0 : 0 ≤ back) (hh : Hid (hearsB N m 0 = false)) (hV : NetV N) (w : World) (hN : Hid (NetM w w.heap.size N)) :
    Calls Tryz.prog 118 #[.agg #[.int .i64 N.k, .slice N.Ap N.np N.cp, .int .i64 N.z, .int .i64 N.h, .slice N.Al N.nl N.cl, .slice N.Am N.nm N.cm], .int .i64 i] w fun e w' => e = .returned (.bool false) ∧ Below w.heap.size w w' := by
  have hz0 := hV.z0
  have hz1 := hV.z1
  have hh0 : 0 ≤ N.h := by have := hV.h0; omega
  have hh1 := hV.h1
  have hnl := hV.nl
  have hsr := Lib.hid hV.srt
  clear hV
  have hb0 := alloc_below w (ONT N)
  have hB0 := Lib.hid (BoxNT.new N w)
  have hl0 : w.heap.size < (w.alloc (ONT N)).heap.size := by simp
  have hM0 := Lib.hid ((hN.out.below hb0).more hb0.size)
  clear hN
  have hi0 : (0 : Int) ≤ (i : Int) := by omega
  have hi1 : (i : Int) < (N.nl : Int) := by omega
  have hi2 : (i : Int) < (N.nm : Int) := by omega
  go_enter Tryz.func118, Tryz.ntmps118
  go_upto_region 1 with fail
  revert hb0 hB0 hl0 hM0
  generalize w.alloc (ONT N) = w0
  intro hb0 hB0 hl0 hM0
  obtain ⟨n0, n1, n2, n3, n4, n5⟩ := id hB0.out
  obtain ⟨bl, ofl, l', hAl, hbl, el, q0⟩ := hM0.out.2.1.at_ hi
  obtain rfl : l = l' := Option.some.inj (hl.out.symm.trans el)
  obtain ⟨bm, om, m', hAm, hbm, em, mm0⟩ := hM0.out.2.2.at_ him
  obtain rfl : m = m' := Option.some.inj (hm.out.symm.trans em)
  rw [hAl] at n4
  rw [hAm] at n5
  have hAl' := Lib.hid hAl
  have hAm' := Lib.hid hAm
  have hQ := Lib.hid (show RowL3 w0 bl (ofl + i * 3) l from q0)
  have hmc := Lib.hid mm0
  have hn0 := Lib.hid n0
  have hn1 := Lib.hid n1
  have hn2 := Lib.hid n2
  have hn3 := Lib.hid n3
  have hn4 := Lib.hid n4
  have hn5 := Lib.hid n5
  clear hAl el hAm em q0 mm0 n0 n1 n2 n3 n4 n5
  have hk1 : Hid (∀ W, Below w0.heap.size w0 W → (fun W => W.cell? ⟨w.heap.size, 0, none⟩ = some (.int .i64 N.k) ∧ W.cell? ⟨w.heap.size, 1, none⟩ = some (.slice N.Ap N.np N.cp) ∧ W.cell? ⟨w.heap.size, 2, none⟩ = some (.int .i64 N.z) ∧ W.cell? ⟨w.heap.size, 3, none⟩ = some (.int .i64 N.h) ∧ W.cell? ⟨w.heap.size, 4, none⟩ = some (.slice (some ⟨bl, ofl, none⟩) N.nl N.cl) ∧ W.cell? ⟨w.heap.size, 5, none⟩ = some (.slice (some ⟨bm, om, none⟩) N.nm N.cm) ∧ W.cell? ⟨bl, ofl + i * 3, none⟩ = some (.int .i64 l.f) ∧ W.cell? ⟨bl, ofl + i * 3 + 1, none⟩ = some (.int .i64 l.t) ∧ W.cell? ⟨bl, ofl + i * 3 + 2, none⟩ = some (.int .i64 l.l)) W) := Lib.hid (fun W h => by
    obtain ⟨e0, e1, e2⟩ := hQ.out.below h hbl
    exact ⟨(h.cell (p := ⟨w.heap.size, 0, none⟩) hl0).trans hn0.out, (h.cell (p := ⟨w.heap.size, 1, none⟩) hl0).trans hn1.out, (h.cell (p := ⟨w.heap.size, 2, none⟩) hl0).trans hn2.out, (h.cell (p := ⟨w.heap.size, 3, none⟩) hl0).trans hn3.out, (h.cell (p := ⟨w.heap.size, 4, none⟩) hl0).trans hn4.out, (h.cell (p := ⟨w.heap.size, 5, none⟩) hl0).trans hn5.out, e0, e1, e2⟩)
  have hbn : decide (0 ≤ back) = true := by simp; omega
  refine wp_region_held_drew (S := (fun W => W.cell? ⟨w.heap.size, 0, none⟩ = some (.int .i64 N.k) ∧ W.cell? ⟨w.heap.size, 1, none⟩ = some (.slice N.Ap N.np N.cp) ∧ W.cell? ⟨w.heap.size, 2, none⟩ = some (.int .i64 N.z) ∧ W.cell? ⟨w.heap.size, 3, none⟩ = some (.int .i64 N.h) ∧ W.cell? ⟨w.heap.size, 4, none⟩ = some (.slice (some ⟨bl, ofl, none⟩) N.nl N.cl) ∧ W.cell? ⟨w.heap.size, 5, none⟩ = some (.slice (some ⟨bm, om, none⟩) N.nm N.cm) ∧ W.cell? ⟨bl, ofl + i * 3, none⟩ = some (.int .i64 l.f) ∧ W.cell? ⟨bl, ofl + i * 3 + 1, none⟩ = some (.int .i64 l.t) ∧ W.cell? ⟨bl, ofl + i * 3 + 2, none⟩ = some (.int .i64 l.l))) (by kernel_rfl) (hk1.out _ (Below.refl _ w0).drew) (fun hHeld => ?_)
  refine wpAnyH_take (i := 0) (oi := ?o1) (v := ?hv1) ?hi1 (by kernel_rfl) (by kernel_rfl) (by kernel_rfl) ?hq1 ?hy1 (by assumption) ?hr1
  case hi1 => (simp only [List.getElem?_toArray, List.getElem?_cons_zero]; rfl)
  case hq1 => exact fun _ _ _ h => h
  case hy1 => exact Or.inl ⟨by rfl, by intro w hSw; (try dsimp only at hSw); go_simp; try with_reducible rfl⟩
  simp only [Act.put, List.setIfInBounds_toArray, List.set_cons_zero, List.set_cons_succ]
  refine wpAnyH_take (i := 1) (oi := ?o2) (v := ?hv2) ?hi2 (by kernel_rfl) (by kernel_rfl) (by kernel_rfl) ?hq2 ?hy2 (by assumption) ?hr2
  case hi2 => (simp only [List.getElem?_toArray, List.getElem?_cons_succ, List.getElem?_cons_zero]; rfl)
  case hq2 => exact fun _ _ _ h => h
  case hy2 => exact Or.inl ⟨by rfl, by intro w hSw; (try dsimp only at hSw); go_simp; try with_reducible rfl⟩
  simp only [Act.put, List.setIfInBounds_toArray, List.set_cons_zero, List.set_cons_succ]
  refine wpAnyH_take (i := 2) (oi := ?o3) (v := ?hv3) ?hi3 (by kernel_rfl) (by kernel_rfl) (by kernel_rfl) ?hq3 ?hy3 (by assumption) ?hr3
  case hi3 => (simp only [List.getElem?_toArray, List.getElem?_cons_succ, List.getElem?_cons_zero]; rfl)
  case hq3 => exact fun _ _ _ h => h
  case hy3 => exact Or.inl ⟨by rfl, by intro w hSw; (try dsimp only at hSw); go_simp; try with_reducible rfl⟩
  simp only [Act.put, List.setIfInBounds_toArray, List.set_cons_zero, List.set_cons_succ]
  refine wpAnyH_take (i := 3) (oi := ?o4) (v := ?hv4) ?hi4 (by kernel_rfl) (by kernel_rfl) (by kernel_rfl) ?hq4 ?hy4 (by assumption) ?hr4
  case hi4 => (simp only [List.getElem?_toArray, List.getElem?_cons_succ, List.getElem?_cons_zero]; rfl)
  case hq4 => exact fun _ _ _ h => h
  case hy4 => exact Or.inl ⟨by rfl, by intro w hSw; (try dsimp only at hSw); go_simp; try with_reducible rfl⟩
  simp only [Act.put, List.setIfInBounds_toArray, List.set_cons_zero, List.set_cons_succ]
  refine wpAnyH_take (i := 4) (oi := ?o5) (v := ?hv5) ?hi5 (by kernel_rfl) (by kernel_rfl) (by kernel_rfl) ?hq5 ?hy5 (by assumption) ?hr5
  case hi5 => (simp only [List.getElem?_toArray, List.getElem?_cons_succ, List.getElem?_cons_zero]; rfl)
  case hq5 => exact fun _ _ _ h => h
  case hy5 => exact Or.inl ⟨by rfl, by intro w hSw; (try dsimp only at hSw); go_simp; try with_reducible rfl⟩
  simp only [Act.put, List.setIfInBounds_toArray, List.set_cons_zero, List.set_cons_succ]
  refine wpAnyH_take (i := 5) (oi := ?o6) (v := ?hv6) ?hi6 (by kernel_rfl) (by kernel_rfl) (by kernel_rfl) ?hq6 ?hy6 (by assumption) ?hr6
  case hi6 => (simp only [List.getElem?_toArray, List.getElem?_cons_succ, List.getElem?_cons_zero]; rfl)
  case hq6 => exact fun _ _ _ h => h
  case hy6 => exact Or.inl ⟨by rfl, by intro w hSw; (try dsimp only at hSw); go_simp; try with_reducible rfl⟩
  simp only [Act.put, List.setIfInBounds_toArray, List.set_cons_zero, List.set_cons_succ]
  refine wpAnyH_take (i := 6) (oi := ?o7) (v := ?hv7) ?hi7 (by kernel_rfl) (by kernel_rfl) (by kernel_rfl) ?hq7 ?hy7 (by assumption) ?hr7
  case hi7 => (simp only [List.getElem?_toArray, List.getElem?_cons_succ, List.getElem?_cons_zero]; rfl)
  case hq7 => exact fun _ _ _ h => h
  case hy7 => exact Or.inl ⟨by rfl, by intro w hSw; (try dsimp only at hSw); go_simp; try with_reducible rfl⟩
  simp only [Act.put, List.setIfInBounds_toArray, List.set_cons_zero, List.set_cons_succ]
  refine wpAnyH_take (i := 7) (oi := ?o8) (v := ?hv8) ?hi8 (by kernel_rfl) (by kernel_rfl) (by kernel_rfl) ?hq8 ?hy8 (by assumption) ?hr8
  case hi8 => (simp only [List.getElem?_toArray, List.getElem?_cons_succ, List.getElem?_cons_zero]; rfl)
  case hq8 => exact fun _ _ _ h => h
  case hy8 => exact Or.inl ⟨by rfl, by intro w hSw; (try dsimp only at hSw); go_simp; try with_reducible rfl⟩
  simp only [Act.put, List.setIfInBounds_toArray, List.set_cons_zero, List.set_cons_succ]
  refine wpAnyH_take (i := 8) (oi := ?o9) (v := ?hv9) ?hi9 (by kernel_rfl) (by kernel_rfl) (by kernel_rfl) ?hq9 ?hy9 (by assumption) ?hr9
  case hi9 => (simp only [List.getElem?_toArray, List.getElem?_cons_succ, List.getElem?_cons_zero]; rfl)
  case hq9 => exact fun _ _ _ h => h
  case hy9 => exact Or.inl ⟨by rfl, by intro w hSw; (try dsimp only at hSw); go_simp; try with_reducible rfl⟩
  simp only [Act.put, List.setIfInBounds_toArray, List.set_cons_zero, List.set_cons_succ]
  refine wpAnyH_take (i := 9) (oi := ?o10) (v := ?hv10) ?hi10 (by kernel_rfl) (by kernel_rfl) (by kernel_rfl) ?hq10 ?hy10 (by assumption) ?hr10
  case hi10 => (simp only [List.getElem?_toArray, List.getElem?_cons_succ, List.getElem?_cons_zero]; rfl)
  case hq10 => exact fun _ _ _ h => h
  case hy10 => exact Or.inl ⟨by rfl, by intro w hSw; (try dsimp only at hSw); go_simp; try with_reducible rfl⟩
  simp only [Act.put, List.setIfInBounds_toArray, List.set_cons_zero, List.set_cons_succ]
  refine wpAnyH_take (i := 10) (oi := ?o11) (v := ?hv11) ?hi11 (by kernel_rfl) (by kernel_rfl) (by kernel_rfl) ?hq11 ?hy11 (by assumption) ?hr11
  case hi11 => (simp only [List.getElem?_toArray, List.getElem?_cons_succ, List.getElem?_cons_zero]; rfl)
  case hq11 => exact fun _ _ _ h => h
  case hy11 => exact Or.inl ⟨by rfl, by intro w hSw; (try dsimp only at hSw); go_simp; try with_reducible rfl⟩
  simp only [Act.put, List.setIfInBounds_toArray, List.set_cons_zero, List.set_cons_succ]
  refine wpAnyH_take (i := 11) (oi := ?o12) (v := ?hv12) ?hi12 (by kernel_rfl) (by kernel_rfl) (by kernel_rfl) ?hq12 ?hy12 (by assumption) ?hr12
  case hi12 => (simp only [List.getElem?_toArray, List.getElem?_cons_succ, List.getElem?_cons_zero]; rfl)
  case hq12 => exact fun _ _ _ h => h
  case hy12 => exact Or.inl ⟨by rfl, by intro w hSw; (try dsimp only at hSw); go_simp; try with_reducible rfl⟩
  simp only [Act.put, List.setIfInBounds_toArray, List.set_cons_zero, List.set_cons_succ]
  refine wpAnyH_take (i := 12) (oi := ?o13) (v := ?hv13) ?hi13 (by kernel_rfl) (by kernel_rfl) (by kernel_rfl) ?hq13 ?hy13 (by assumption) ?hr13
  case hi13 => (simp only [List.getElem?_toArray, List.getElem?_cons_succ, List.getElem?_cons_zero]; rfl)
  case hq13 => exact fun _ _ _ h => h
  case hy13 => exact Or.inl ⟨by rfl, by intro w hSw; (try dsimp only at hSw); go_simp; try with_reducible rfl⟩
  simp only [Act.put, List.setIfInBounds_toArray, List.set_cons_zero, List.set_cons_succ]
  have hc := fun W hW => find_lit N l.t l.f back hbk.out (by omega) hsr.out W hW
  simp only [hAl'.out, hAm'.out] at hc
  refine wpAnyH_ready (rs := [13]) (by kernel_rfl) (by simp) ?_
  refine (AllReadyH.cons (o := ?o14) ?hi14 (fun K hK => ?hr14) AllReadyH.nil)
  case hi14 => (simp only [List.getElem?_toArray, List.getElem?_cons_succ, List.getElem?_cons_zero]; rfl)
  go_simp
  refine (hc _ (by exact (hM0.out.below (Below.refl _ w0).drew))).mono ?_
  rintro e w1 ⟨rfl, hb1⟩
  have hb1d : Below w0.heap.size w0 w1 := (Below.refl _ w0).drew.trans hb1
  go_wp2_with fail
  refine hK.out _ _ ?_ (fun hHeld => ?_)
  · exact hk1.out _ hb1d
  clear hK K
  try simp only [Act.put, List.setIfInBounds_toArray, List.set_cons_zero, List.set_cons_succ]
  clear hc
  refine wpAnyH_take (i := 14) (oi := ?o15) (v := ?hv15) ?hi15 (by kernel_rfl) (by kernel_rfl) (by kernel_rfl) ?hq15 ?hy15 (by assumption) ?hr15
  case hi15 => (simp only [List.getElem?_toArray, List.getElem?_cons_succ, List.getElem?_cons_zero]; rfl)
  case hq15 => exact fun _ _ _ h => h
  case hy15 => exact Or.inl ⟨by rfl, by intro w hSw; (try dsimp only at hSw); go_simp; try with_reducible rfl⟩
  simp only [Act.put, List.setIfInBounds_toArray, List.set_cons_zero, List.set_cons_succ]
  refine wpAnyH_done (by kernel_rfl) ?_ _
  go_wp2_with fail
  have hw1 := bstep hb0 hb1d (Nat.le_refl _)
  have hk2 : Hid (∀ W, Below w0.heap.size w0 W → (fun W => W.cell? ⟨w.heap.size, 0, none⟩ = some (.int .i64 N.k) ∧ W.cell? ⟨w.heap.size, 1, none⟩ = some (.slice N.Ap N.np N.cp) ∧ W.cell? ⟨w.heap.size, 2, none⟩ = some (.int .i64 N.z) ∧ W.cell? ⟨w.heap.size, 3, none⟩ = some (.int .i64 N.h) ∧ W.cell? ⟨w.heap.size, 4, none⟩ = some (.slice (some ⟨bl, ofl, none⟩) N.nl N.cl) ∧ W.cell? ⟨w.heap.size, 5, none⟩ = some (.slice (some ⟨bm, om, none⟩) N.nm N.cm) ∧ W.cell? ⟨bm, om + i, none⟩ = some (.int .i64 m)) W) := Lib.hid (fun W h => ⟨(h.cell (p := ⟨w.heap.size, 0, none⟩) hl0).trans hn0.out, (h.cell (p := ⟨w.heap.size, 1, none⟩) hl0).trans hn1.out, (h.cell (p := ⟨w.heap.size, 2, none⟩) hl0).trans hn2.out, (h.cell (p := ⟨w.heap.size, 3, none⟩) hl0).trans hn3.out, (h.cell (p := ⟨w.heap.size, 4, none⟩) hl0).trans hn4.out, (h.cell (p := ⟨w.heap.size, 5, none⟩) hl0).trans hn5.out, (h.cell (p := ⟨bm, _, none⟩) hbm).trans hmc.out⟩)
  refine wp_region_held_drew (S := (fun W => W.cell? ⟨w.heap.size, 0, none⟩ = some (.int .i64 N.k) ∧ W.cell? ⟨w.heap.size, 1, none⟩ = some (.slice N.Ap N.np N.cp) ∧ W.cell? ⟨w.heap.size, 2, none⟩ = some (.int .i64 N.z) ∧ W.cell? ⟨w.heap.size, 3, none⟩ = some (.int .i64 N.h) ∧ W.cell? ⟨w.heap.size, 4, none⟩ = some (.slice (some ⟨bl, ofl, none⟩) N.nl N.cl) ∧ W.cell? ⟨w.heap.size, 5, none⟩ = some (.slice (some ⟨bm, om, none⟩) N.nm N.cm) ∧ W.cell? ⟨bm, om + i, none⟩ = some (.int .i64 m))) (by kernel_rfl) (hk2.out _ hb1d.drew) (fun hHeld => ?_)
  refine wpAnyH_take (i := 0) (oi := ?o37) (v := ?hv37) ?hi37 (by kernel_rfl) (by kernel_rfl) (by kernel_rfl) ?hq37 ?hy37 (by assumption) ?hr37
  case hi37 => (simp only [List.getElem?_toArray, List.getElem?_cons_zero]; rfl)
  case hq37 => exact fun _ _ _ h => h
  case hy37 => exact Or.inl ⟨by rfl, by intro w hSw; (try dsimp only at hSw); go_simp; try with_reducible rfl⟩
  simp only [Act.put, List.setIfInBounds_toArray, List.set_cons_zero, List.set_cons_succ]
  refine wpAnyH_take (i := 1) (oi := ?o38) (v := .bool true) ?hi38 (by kernel_rfl) (by kernel_rfl) (by kernel_rfl) ?hq38 ?hy38 (by assumption) ?hr38
  case hi38 => (simp only [List.getElem?_toArray, List.getElem?_cons_succ, List.getElem?_cons_zero]; rfl)
  case hq38 => exact fun _ _ _ h => h
  case hy38 => exact Or.inl ⟨by rfl, by intro w hSw; (try dsimp only at hSw); go_simp; try simp only [hbn]; try with_reducible rfl⟩
  simp only [Act.put, List.setIfInBounds_toArray, List.set_cons_zero, List.set_cons_succ]
  refine wpAnyH_take (i := 2) (oi := ?o39) (v := ?hv39) ?hi39 (by kernel_rfl) (by kernel_rfl) (by kernel_rfl) ?hq39 ?hy39 (by assumption) ?hr39
  case hi39 => (simp only [List.getElem?_toArray, List.getElem?_cons_succ, List.getElem?_cons_zero]; rfl)
  case hq39 => exact fun _ _ _ h => h
  case hy39 => exact Or.inl ⟨by rfl, by intro w hSw; (try dsimp only at hSw); go_simp; try with_reducible rfl⟩
  simp only [Act.put, List.setIfInBounds_toArray, List.set_cons_zero, List.set_cons_succ]
  refine wpAnyH_take (i := 3) (oi := ?o40) (v := ?hv40) ?hi40 (by kernel_rfl) (by kernel_rfl) (by kernel_rfl) ?hq40 ?hy40 (by assumption) ?hr40
  case hi40 => (simp only [List.getElem?_toArray, List.getElem?_cons_succ, List.getElem?_cons_zero]; rfl)
  case hq40 => exact fun _ _ _ h => h
  case hy40 => exact Or.inl ⟨by rfl, by intro w hSw; (try dsimp only at hSw); go_simp; try with_reducible rfl⟩
  simp only [Act.put, List.setIfInBounds_toArray, List.set_cons_zero, List.set_cons_succ]
  refine wpAnyH_take (i := 4) (oi := ?o41) (v := ?hv41) ?hi41 (by kernel_rfl) (by kernel_rfl) (by kernel_rfl) ?hq41 ?hy41 (by assumption) ?hr41
  case hi41 => (simp only [List.getElem?_toArray, List.getElem?_cons_succ, List.getElem?_cons_zero]; rfl)
  case hq41 => exact fun _ _ _ h => h
  case hy41 => exact Or.inl ⟨by rfl, by intro w hSw; (try dsimp only at hSw); go_simp; try with_reducible rfl⟩
  simp only [Act.put, List.setIfInBounds_toArray, List.set_cons_zero, List.set_cons_succ]
  refine wpAnyH_take (i := 5) (oi := ?o42) (v := ?hv42) ?hi42 (by kernel_rfl) (by kernel_rfl) (by kernel_rfl) ?hq42 ?hy42 (by assumption) ?hr42
  case hi42 => (simp only [List.getElem?_toArray, List.getElem?_cons_succ, List.getElem?_cons_zero]; rfl)
  case hq42 => exact fun _ _ _ h => h
  case hy42 => exact Or.inl ⟨by rfl, by intro w hSw; (try dsimp only at hSw); go_simp; try with_reducible rfl⟩
  simp only [Act.put, List.setIfInBounds_toArray, List.set_cons_zero, List.set_cons_succ]
  refine wpAnyH_take (i := 6) (oi := ?o43) (v := ?hv43) ?hi43 (by kernel_rfl) (by kernel_rfl) (by kernel_rfl) ?hq43 ?hy43 (by assumption) ?hr43
  case hi43 => (simp only [List.getElem?_toArray, List.getElem?_cons_succ, List.getElem?_cons_zero]; rfl)
  case hq43 => exact fun _ _ _ h => h
  case hy43 => exact Or.inl ⟨by rfl, by intro w hSw; (try dsimp only at hSw); go_simp; try with_reducible rfl⟩
  simp only [Act.put, List.setIfInBounds_toArray, List.set_cons_zero, List.set_cons_succ]
  refine wpAnyH_take (i := 7) (oi := ?o44) (v := ?hv44) ?hi44 (by kernel_rfl) (by kernel_rfl) (by kernel_rfl) ?hq44 ?hy44 (by assumption) ?hr44
  case hi44 => (simp only [List.getElem?_toArray, List.getElem?_cons_succ, List.getElem?_cons_zero]; rfl)
  case hq44 => exact fun _ _ _ h => h
  case hy44 => exact Or.inl ⟨by rfl, by intro w hSw; (try dsimp only at hSw); go_simp; try with_reducible rfl⟩
  simp only [Act.put, List.setIfInBounds_toArray, List.set_cons_zero, List.set_cons_succ]
  refine wpAnyH_take (i := 8) (oi := ?o45) (v := ?hv45) ?hi45 (by kernel_rfl) (by kernel_rfl) (by kernel_rfl) ?hq45 ?hy45 (by assumption) ?hr45
  case hi45 => (simp only [List.getElem?_toArray, List.getElem?_cons_succ, List.getElem?_cons_zero]; rfl)
  case hq45 => exact fun _ _ _ h => h
  case hy45 => exact Or.inl ⟨by rfl, by intro w hSw; (try dsimp only at hSw); go_simp; try with_reducible rfl⟩
  simp only [Act.put, List.setIfInBounds_toArray, List.set_cons_zero, List.set_cons_succ]
  have hc := fun W => hears_lit N m 0 hm0 (by omega) (by omega) (by omega) hz0 hz1 hh0 hh1 false hh W
  simp only [hAl'.out, hAm'.out] at hc
  refine wpAnyH_ready (rs := [9]) (by kernel_rfl) (by simp) ?_
  refine (AllReadyH.cons (o := ?o46) ?hi46 (fun K hK => ?hr46) AllReadyH.nil)
  case hi46 => (simp only [List.getElem?_toArray, List.getElem?_cons_succ, List.getElem?_cons_zero]; rfl)
  go_simp
  refine (hc _).mono ?_
  rintro e w2 ⟨rfl, hb2⟩
  have hb2d : Below w0.heap.size w0 w2 := hb1d.drew.trans (hb2.mono (by have := hb1d.size; exact this))
  go_wp2_with fail
  refine hK.out _ _ ?_ (fun hHeld => ?_)
  · exact hk2.out _ hb2d
  clear hK K
  try simp only [Act.put, List.setIfInBounds_toArray, List.set_cons_zero, List.set_cons_succ]
  clear hc
  refine wpAnyH_take (i := 10) (oi := ?o47) (v := ?hv47) ?hi47 (by kernel_rfl) (by kernel_rfl) (by kernel_rfl) ?hq47 ?hy47 (by assumption) ?hr47
  case hi47 => (simp only [List.getElem?_toArray, List.getElem?_cons_succ, List.getElem?_cons_zero]; rfl)
  case hq47 => exact fun _ _ _ h => h
  case hy47 => exact Or.inl ⟨by rfl, by intro w hSw; (try dsimp only at hSw); go_simp; try with_reducible rfl⟩
  simp only [Act.put, List.setIfInBounds_toArray, List.set_cons_zero, List.set_cons_succ]
  refine wpAnyH_take (i := 11) (oi := ?o48) (v := ?hv48) ?hi48 (by kernel_rfl) (by kernel_rfl) (by kernel_rfl) ?hq48 ?hy48 (by assumption) ?hr48
  case hi48 => (simp only [List.getElem?_toArray, List.getElem?_cons_succ, List.getElem?_cons_zero]; rfl)
  case hq48 => exact fun _ _ _ h => h
  case hy48 => exact Or.inl ⟨by rfl, by intro w hSw; (try dsimp only at hSw); go_simp; try with_reducible rfl⟩
  simp only [Act.put, List.setIfInBounds_toArray, List.set_cons_zero, List.set_cons_succ]
  refine wpAnyH_take (i := 12) (oi := ?o49) (v := undef) ?hi49 (by kernel_rfl) (by kernel_rfl) (by kernel_rfl) ?hq49 ?hy49 (by assumption) ?hr49
  case hi49 => (simp only [List.getElem?_toArray, List.getElem?_cons_succ, List.getElem?_cons_zero]; rfl)
  case hq49 => exact fun _ _ _ h => h
  case hy49 => exact Or.inr ⟨by rfl, rfl⟩
  simp only [Act.put, List.setIfInBounds_toArray, List.set_cons_zero, List.set_cons_succ]
  refine wpAnyH_take (i := 13) (oi := ?o50) (v := undef) ?hi50 (by kernel_rfl) (by kernel_rfl) (by kernel_rfl) ?hq50 ?hy50 (by assumption) ?hr50
  case hi50 => (simp only [List.getElem?_toArray, List.getElem?_cons_succ, List.getElem?_cons_zero]; rfl)
  case hq50 => exact fun _ _ _ h => h
  case hy50 => exact Or.inr ⟨by rfl, rfl⟩
  simp only [Act.put, List.setIfInBounds_toArray, List.set_cons_zero, List.set_cons_succ]
  refine wpAnyH_take (i := 14) (oi := ?o51) (v := undef) ?hi51 (by kernel_rfl) (by kernel_rfl) (by kernel_rfl) ?hq51 ?hy51 (by assumption) ?hr51
  case hi51 => (simp only [List.getElem?_toArray, List.getElem?_cons_succ, List.getElem?_cons_zero]; rfl)
  case hq51 => exact fun _ _ _ h => h
  case hy51 => exact Or.inr ⟨by rfl, rfl⟩
  simp only [Act.put, List.setIfInBounds_toArray, List.set_cons_zero, List.set_cons_succ]
  refine wpAnyH_take (i := 15) (oi := ?o52) (v := undef) ?hi52 (by kernel_rfl) (by kernel_rfl) (by kernel_rfl) ?hq52 ?hy52 (by assumption) ?hr52
  case hi52 => (simp only [List.getElem?_toArray, List.getElem?_cons_succ, List.getElem?_cons_zero]; rfl)
  case hq52 => exact fun _ _ _ h => h
  case hy52 => exact Or.inr ⟨by rfl, rfl⟩
  simp only [Act.put, List.setIfInBounds_toArray, List.set_cons_zero, List.set_cons_succ]
  refine wpAnyH_take (i := 16) (oi := ?o53) (v := undef) ?hi53 (by kernel_rfl) (by kernel_rfl) (by kernel_rfl) ?hq53 ?hy53 (by assumption) ?hr53
  case hi53 => (simp only [List.getElem?_toArray, List.getElem?_cons_succ, List.getElem?_cons_zero]; rfl)
  case hq53 => exact fun _ _ _ h => h
  case hy53 => exact Or.inr ⟨by rfl, rfl⟩
  simp only [Act.put, List.setIfInBounds_toArray, List.set_cons_zero, List.set_cons_succ]
  refine wpAnyH_take (i := 17) (oi := ?o54) (v := undef) ?hi54 (by kernel_rfl) (by kernel_rfl) (by kernel_rfl) ?hq54 ?hy54 (by assumption) ?hr54
  case hi54 => (simp only [List.getElem?_toArray, List.getElem?_cons_succ, List.getElem?_cons_zero]; rfl)
  case hq54 => exact fun _ _ _ h => h
  case hy54 => exact Or.inr ⟨by rfl, rfl⟩
  simp only [Act.put, List.setIfInBounds_toArray, List.set_cons_zero, List.set_cons_succ]
  refine wpAnyH_take (i := 18) (oi := ?o55) (v := undef) ?hi55 (by kernel_rfl) (by kernel_rfl) (by kernel_rfl) ?hq55 ?hy55 (by assumption) ?hr55
  case hi55 => (simp only [List.getElem?_toArray, List.getElem?_cons_succ, List.getElem?_cons_zero]; rfl)
  case hq55 => exact fun _ _ _ h => h
  case hy55 => exact Or.inr ⟨by rfl, rfl⟩
  simp only [Act.put, List.setIfInBounds_toArray, List.set_cons_zero, List.set_cons_succ]
  refine wpAnyH_take (i := 19) (oi := ?o56) (v := ?hv56) ?hi56 (by kernel_rfl) (by kernel_rfl) (by kernel_rfl) ?hq56 ?hy56 (by assumption) ?hr56
  case hi56 => (simp only [List.getElem?_toArray, List.getElem?_cons_succ, List.getElem?_cons_zero]; rfl)
  case hq56 => exact fun _ _ _ h => h
  case hy56 => exact Or.inl ⟨by rfl, by intro w hSw; (try dsimp only at hSw); go_simp; try with_reducible rfl⟩
  simp only [Act.put, List.setIfInBounds_toArray, List.set_cons_zero, List.set_cons_succ]
  refine wpAnyH_take (i := 20) (oi := ?o57) (v := ?hv57) ?hi57 (by kernel_rfl) (by kernel_rfl) (by kernel_rfl) ?hq57 ?hy57 (by assumption) ?hr57
  case hi57 => (simp only [List.getElem?_toArray, List.getElem?_cons_succ, List.getElem?_cons_zero]; rfl)
  case hq57 => exact fun _ _ _ h => h
  case hy57 => exact Or.inl ⟨by rfl, by intro w hSw; (try dsimp only at hSw); go_simp; try with_reducible rfl⟩
  simp only [Act.put, List.setIfInBounds_toArray, List.set_cons_zero, List.set_cons_succ]
  refine wpAnyH_done (by kernel_rfl) ?_ _
  go_wp2_with fail
  go_ret
  exact ⟨rfl, bstep hb0 hb2d (Nat.le_refl _)⟩
set_option maxHeartbeats 4000000 in
set_option maxRecDepth 100000 in
theorem usable_yes (N : NT) (i : Nat) (l : L3) (m : Int) (hi : i < N.nl) (him : i < N.nm) (hl : Hid (N.ls[i]? = some l)) (hm : Hid (N.ms[i]? = some m)) (hm0 : 0 ≤ m) (hm1 : m ≤ 68719476736) (j : Nat) (hbk : Hid (findL N.ls l.t l.f = j)) (hjm : j < N.nm) (m2 : Int) (hm2 : Hid (N.ms[j]? = some m2)) (hm20 : 0 ≤ m2) (hm21 : m2 ≤ 68719476736) (hh : Hid (hearsB N m 0 = true)) (r2 : Bool) (hh2 : Hid (hearsB N m2 0 = r2)) (hV : NetV N) (w : World) (hN : Hid (NetM w w.heap.size N)) :
    Calls Tryz.prog 118 #[.agg #[.int .i64 N.k, .slice N.Ap N.np N.cp, .int .i64 N.z, .int .i64 N.h, .slice N.Al N.nl N.cl, .slice N.Am N.nm N.cm], .int .i64 i] w fun e w' => e = .returned (.bool r2) ∧ Below w.heap.size w w' := by
  have hz0 := hV.z0
  have hz1 := hV.z1
  have hh0 : 0 ≤ N.h := by have := hV.h0; omega
  have hh1 := hV.h1
  have hnl := hV.nl
  have hsr := Lib.hid hV.srt
  clear hV
  have hb0 := alloc_below w (ONT N)
  have hB0 := Lib.hid (BoxNT.new N w)
  have hl0 : w.heap.size < (w.alloc (ONT N)).heap.size := by simp
  have hM0 := Lib.hid ((hN.out.below hb0).more hb0.size)
  clear hN
  have hi0 : (0 : Int) ≤ (i : Int) := by omega
  have hi1 : (i : Int) < (N.nl : Int) := by omega
  have hi2 : (i : Int) < (N.nm : Int) := by omega
  go_enter Tryz.func118, Tryz.ntmps118
  go_upto_region 1 with fail
  revert hb0 hB0 hl0 hM0
  generalize w.alloc (ONT N) = w0
  intro hb0 hB0 hl0 hM0
  obtain ⟨n0, n1, n2, n3, n4, n5⟩ := id hB0.out
  obtain ⟨bl, ofl, l', hAl, hbl, el, q0⟩ := hM0.out.2.1.at_ hi
  obtain rfl : l = l' := Option.some.inj (hl.out.symm.trans el)
  obtain ⟨bm, om, m', hAm, hbm, em, mm0⟩ := hM0.out.2.2.at_ him
  obtain rfl : m = m' := Option.some.inj (hm.out.symm.trans em)
  rw [hAl] at n4
  rw [hAm] at n5
  have hAl' := Lib.hid hAl
  have hAm' := Lib.hid hAm
  have hQ := Lib.hid (show RowL3 w0 bl (ofl + i * 3) l from q0)
  have hmc := Lib.hid mm0
  have hn0 := Lib.hid n0
  have hn1 := Lib.hid n1
  have hn2 := Lib.hid n2
  have hn3 := Lib.hid n3
  have hn4 := Lib.hid n4
  have hn5 := Lib.hid n5
  clear hAl el hAm em q0 mm0 n0 n1 n2 n3 n4 n5
  have hk1 : Hid (∀ W, Below w0.heap.size w0 W → (fun W => W.cell? ⟨w.heap.size, 0, none⟩ = some (.int .i64 N.k) ∧ W.cell? ⟨w.heap.size, 1, none⟩ = some (.slice N.Ap N.np N.cp) ∧ W.cell? ⟨w.heap.size, 2, none⟩ = some (.int .i64 N.z) ∧ W.cell? ⟨w.heap.size, 3, none⟩ = some (.int .i64 N.h) ∧ W.cell? ⟨w.heap.size, 4, none⟩ = some (.slice (some ⟨bl, ofl, none⟩) N.nl N.cl) ∧ W.cell? ⟨w.heap.size, 5, none⟩ = some (.slice (some ⟨bm, om, none⟩) N.nm N.cm) ∧ W.cell? ⟨bl, ofl + i * 3, none⟩ = some (.int .i64 l.f) ∧ W.cell? ⟨bl, ofl + i * 3 + 1, none⟩ = some (.int .i64 l.t) ∧ W.cell? ⟨bl, ofl + i * 3 + 2, none⟩ = some (.int .i64 l.l)) W) := Lib.hid (fun W h => by
    obtain ⟨e0, e1, e2⟩ := hQ.out.below h hbl
    exact ⟨(h.cell (p := ⟨w.heap.size, 0, none⟩) hl0).trans hn0.out, (h.cell (p := ⟨w.heap.size, 1, none⟩) hl0).trans hn1.out, (h.cell (p := ⟨w.heap.size, 2, none⟩) hl0).trans hn2.out, (h.cell (p := ⟨w.heap.size, 3, none⟩) hl0).trans hn3.out, (h.cell (p := ⟨w.heap.size, 4, none⟩) hl0).trans hn4.out, (h.cell (p := ⟨w.heap.size, 5, none⟩) hl0).trans hn5.out, e0, e1, e2⟩)
  have hbn : decide ((0 : Int) ≤ (j : Int)) = true := by simp
  have hj0 : (0 : Int) ≤ (j : Int) := by omega
  have hj1 : (j : Int) < (N.nm : Int) := by omega
  refine wp_region_held_drew (S := (fun W => W.cell? ⟨w.heap.size, 0, none⟩ = some (.int .i64 N.k) ∧ W.cell? ⟨w.heap.size, 1, none⟩ = some (.slice N.Ap N.np N.cp) ∧ W.cell? ⟨w.heap.size, 2, none⟩ = some (.int .i64 N.z) ∧ W.cell? ⟨w.heap.size, 3, none⟩ = some (.int .i64 N.h) ∧ W.cell? ⟨w.heap.size, 4, none⟩ = some (.slice (some ⟨bl, ofl, none⟩) N.nl N.cl) ∧ W.cell? ⟨w.heap.size, 5, none⟩ = some (.slice (some ⟨bm, om, none⟩) N.nm N.cm) ∧ W.cell? ⟨bl, ofl + i * 3, none⟩ = some (.int .i64 l.f) ∧ W.cell? ⟨bl, ofl + i * 3 + 1, none⟩ = some (.int .i64 l.t) ∧ W.cell? ⟨bl, ofl + i * 3 + 2, none⟩ = some (.int .i64 l.l))) (by kernel_rfl) (hk1.out _ (Below.refl _ w0).drew) (fun hHeld => ?_)
  refine wpAnyH_take (i := 0) (oi := ?o1) (v := ?hv1) ?hi1 (by kernel_rfl) (by kernel_rfl) (by kernel_rfl) ?hq1 ?hy1 (by assumption) ?hr1
  case hi1 => (simp only [List.getElem?_toArray, List.getElem?_cons_zero]; rfl)
  case hq1 => exact fun _ _ _ h => h
  case hy1 => exact Or.inl ⟨by rfl, by intro w hSw; (try dsimp only at hSw); go_simp; try with_reducible rfl⟩
  simp only [Act.put, List.setIfInBounds_toArray, List.set_cons_zero, List.set_cons_succ]
  refine wpAnyH_take (i := 1) (oi := ?o2) (v := ?hv2) ?hi2 (by kernel_rfl) (by kernel_rfl) (by kernel_rfl) ?hq2 ?hy2 (by assumption) ?hr2
  case hi2 => (simp only [List.getElem?_toArray, List.getElem?_cons_succ, List.getElem?_cons_zero]; rfl)
  case hq2 => exact fun _ _ _ h => h
  case hy2 => exact Or.inl ⟨by rfl, by intro w hSw; (try dsimp only at hSw); go_simp; try with_reducible rfl⟩
  simp only [Act.put, List.setIfInBounds_toArray, List.set_cons_zero, List.set_cons_succ]
  refine wpAnyH_take (i := 2) (oi := ?o3) (v := ?hv3) ?hi3 (by kernel_rfl) (by kernel_rfl) (by kernel_rfl) ?hq3 ?hy3 (by assumption) ?hr3
  case hi3 => (simp only [List.getElem?_toArray, List.getElem?_cons_succ, List.getElem?_cons_zero]; rfl)
  case hq3 => exact fun _ _ _ h => h
  case hy3 => exact Or.inl ⟨by rfl, by intro w hSw; (try dsimp only at hSw); go_simp; try with_reducible rfl⟩
  simp only [Act.put, List.setIfInBounds_toArray, List.set_cons_zero, List.set_cons_succ]
  refine wpAnyH_take (i := 3) (oi := ?o4) (v := ?hv4) ?hi4 (by kernel_rfl) (by kernel_rfl) (by kernel_rfl) ?hq4 ?hy4 (by assumption) ?hr4
  case hi4 => (simp only [List.getElem?_toArray, List.getElem?_cons_succ, List.getElem?_cons_zero]; rfl)
  case hq4 => exact fun _ _ _ h => h
  case hy4 => exact Or.inl ⟨by rfl, by intro w hSw; (try dsimp only at hSw); go_simp; try with_reducible rfl⟩
  simp only [Act.put, List.setIfInBounds_toArray, List.set_cons_zero, List.set_cons_succ]
  refine wpAnyH_take (i := 4) (oi := ?o5) (v := ?hv5) ?hi5 (by kernel_rfl) (by kernel_rfl) (by kernel_rfl) ?hq5 ?hy5 (by assumption) ?hr5
  case hi5 => (simp only [List.getElem?_toArray, List.getElem?_cons_succ, List.getElem?_cons_zero]; rfl)
  case hq5 => exact fun _ _ _ h => h
  case hy5 => exact Or.inl ⟨by rfl, by intro w hSw; (try dsimp only at hSw); go_simp; try with_reducible rfl⟩
  simp only [Act.put, List.setIfInBounds_toArray, List.set_cons_zero, List.set_cons_succ]
  refine wpAnyH_take (i := 5) (oi := ?o6) (v := ?hv6) ?hi6 (by kernel_rfl) (by kernel_rfl) (by kernel_rfl) ?hq6 ?hy6 (by assumption) ?hr6
  case hi6 => (simp only [List.getElem?_toArray, List.getElem?_cons_succ, List.getElem?_cons_zero]; rfl)
  case hq6 => exact fun _ _ _ h => h
  case hy6 => exact Or.inl ⟨by rfl, by intro w hSw; (try dsimp only at hSw); go_simp; try with_reducible rfl⟩
  simp only [Act.put, List.setIfInBounds_toArray, List.set_cons_zero, List.set_cons_succ]
  refine wpAnyH_take (i := 6) (oi := ?o7) (v := ?hv7) ?hi7 (by kernel_rfl) (by kernel_rfl) (by kernel_rfl) ?hq7 ?hy7 (by assumption) ?hr7
  case hi7 => (simp only [List.getElem?_toArray, List.getElem?_cons_succ, List.getElem?_cons_zero]; rfl)
  case hq7 => exact fun _ _ _ h => h
  case hy7 => exact Or.inl ⟨by rfl, by intro w hSw; (try dsimp only at hSw); go_simp; try with_reducible rfl⟩
  simp only [Act.put, List.setIfInBounds_toArray, List.set_cons_zero, List.set_cons_succ]
  refine wpAnyH_take (i := 7) (oi := ?o8) (v := ?hv8) ?hi8 (by kernel_rfl) (by kernel_rfl) (by kernel_rfl) ?hq8 ?hy8 (by assumption) ?hr8
  case hi8 => (simp only [List.getElem?_toArray, List.getElem?_cons_succ, List.getElem?_cons_zero]; rfl)
  case hq8 => exact fun _ _ _ h => h
  case hy8 => exact Or.inl ⟨by rfl, by intro w hSw; (try dsimp only at hSw); go_simp; try with_reducible rfl⟩
  simp only [Act.put, List.setIfInBounds_toArray, List.set_cons_zero, List.set_cons_succ]
  refine wpAnyH_take (i := 8) (oi := ?o9) (v := ?hv9) ?hi9 (by kernel_rfl) (by kernel_rfl) (by kernel_rfl) ?hq9 ?hy9 (by assumption) ?hr9
  case hi9 => (simp only [List.getElem?_toArray, List.getElem?_cons_succ, List.getElem?_cons_zero]; rfl)
  case hq9 => exact fun _ _ _ h => h
  case hy9 => exact Or.inl ⟨by rfl, by intro w hSw; (try dsimp only at hSw); go_simp; try with_reducible rfl⟩
  simp only [Act.put, List.setIfInBounds_toArray, List.set_cons_zero, List.set_cons_succ]
  refine wpAnyH_take (i := 9) (oi := ?o10) (v := ?hv10) ?hi10 (by kernel_rfl) (by kernel_rfl) (by kernel_rfl) ?hq10 ?hy10 (by assumption) ?hr10
  case hi10 => (simp only [List.getElem?_toArray, List.getElem?_cons_succ, List.getElem?_cons_zero]; rfl)
  case hq10 => exact fun _ _ _ h => h
  case hy10 => exact Or.inl ⟨by rfl, by intro w hSw; (try dsimp only at hSw); go_simp; try with_reducible rfl⟩
  simp only [Act.put, List.setIfInBounds_toArray, List.set_cons_zero, List.set_cons_succ]
  refine wpAnyH_take (i := 10) (oi := ?o11) (v := ?hv11) ?hi11 (by kernel_rfl) (by kernel_rfl) (by kernel_rfl) ?hq11 ?hy11 (by assumption) ?hr11
  case hi11 => (simp only [List.getElem?_toArray, List.getElem?_cons_succ, List.getElem?_cons_zero]; rfl)
  case hq11 => exact fun _ _ _ h => h
  case hy11 => exact Or.inl ⟨by rfl, by intro w hSw; (try dsimp only at hSw); go_simp; try with_reducible rfl⟩
  simp only [Act.put, List.setIfInBounds_toArray, List.set_cons_zero, List.set_cons_succ]
  refine wpAnyH_take (i := 11) (oi := ?o12) (v := ?hv12) ?hi12 (by kernel_rfl) (by kernel_rfl) (by kernel_rfl) ?hq12 ?hy12 (by assumption) ?hr12
  case hi12 => (simp only [List.getElem?_toArray, List.getElem?_cons_succ, List.getElem?_cons_zero]; rfl)
  case hq12 => exact fun _ _ _ h => h
  case hy12 => exact Or.inl ⟨by rfl, by intro w hSw; (try dsimp only at hSw); go_simp; try with_reducible rfl⟩
  simp only [Act.put, List.setIfInBounds_toArray, List.set_cons_zero, List.set_cons_succ]
  refine wpAnyH_take (i := 12) (oi := ?o13) (v := ?hv13) ?hi13 (by kernel_rfl) (by kernel_rfl) (by kernel_rfl) ?hq13 ?hy13 (by assumption) ?hr13
  case hi13 => (simp only [List.getElem?_toArray, List.getElem?_cons_succ, List.getElem?_cons_zero]; rfl)
  case hq13 => exact fun _ _ _ h => h
  case hy13 => exact Or.inl ⟨by rfl, by intro w hSw; (try dsimp only at hSw); go_simp; try with_reducible rfl⟩
  simp only [Act.put, List.setIfInBounds_toArray, List.set_cons_zero, List.set_cons_succ]
  have hc := fun W hW => find_lit N l.t l.f j hbk.out (by omega) hsr.out W hW
  simp only [hAl'.out, hAm'.out] at hc
  refine wpAnyH_ready (rs := [13]) (by kernel_rfl) (by simp) ?_
  refine (AllReadyH.cons (o := ?o14) ?hi14 (fun K hK => ?hr14) AllReadyH.nil)
  case hi14 => (simp only [List.getElem?_toArray, List.getElem?_cons_succ, List.getElem?_cons_zero]; rfl)
  go_simp
  refine (hc _ (by exact (hM0.out.below (Below.refl _ w0).drew))).mono ?_
  rintro e w1 ⟨rfl, hb1⟩
  have hb1d : Below w0.heap.size w0 w1 := (Below.refl _ w0).drew.trans hb1
  go_wp2_with fail
  refine hK.out _ _ ?_ (fun hHeld => ?_)
  · exact hk1.out _ hb1d
  clear hK K
  try simp only [Act.put, List.setIfInBounds_toArray, List.set_cons_zero, List.set_cons_succ]
  clear hc
  refine wpAnyH_take (i := 14) (oi := ?o15) (v := ?hv15) ?hi15 (by kernel_rfl) (by kernel_rfl) (by kernel_rfl) ?hq15 ?hy15 (by assumption) ?hr15
  case hi15 => (simp only [List.getElem?_toArray, List.getElem?_cons_succ, List.getElem?_cons_zero]; rfl)
  case hq15 => exact fun _ _ _ h => h
  case hy15 => exact Or.inl ⟨by rfl, by intro w hSw; (try dsimp only at hSw); go_simp; try with_reducible rfl⟩
  simp only [Act.put, List.setIfInBounds_toArray, List.set_cons_zero, List.set_cons_succ]
  refine wpAnyH_done (by kernel_rfl) ?_ _
  go_wp2_with fail
  have hw1 := bstep hb0 hb1d (Nat.le_refl _)
  obtain ⟨bm2, om2, m2', hAm2, hbm2, em2, mm2⟩ := hM0.out.2.2.at_ hjm
  obtain rfl : m2 = m2' := Option.some.inj (hm2.out.symm.trans em2)
  obtain ⟨rfl, rfl⟩ : bm2 = bm ∧ om2 = om := by have := hAm'.out; rw [hAm2] at this; cases this; exact ⟨rfl, rfl⟩
  have hmc2 := Lib.hid mm2
  clear hAm2 em2 mm2
  have hk2 : Hid (∀ W, Below w0.heap.size w0 W → (fun W => W.cell? ⟨w.heap.size, 0, none⟩ = some (.int .i64 N.k) ∧ W.cell? ⟨w.heap.size, 1, none⟩ = some (.slice N.Ap N.np N.cp) ∧ W.cell? ⟨w.heap.size, 2, none⟩ = some (.int .i64 N.z) ∧ W.cell? ⟨w.heap.size, 3, none⟩ = some (.int .i64 N.h) ∧ W.cell? ⟨w.heap.size, 4, none⟩ = some (.slice (some ⟨bl, ofl, none⟩) N.nl N.cl) ∧ W.cell? ⟨w.heap.size, 5, none⟩ = some (.slice (some ⟨bm2, om2, none⟩) N.nm N.cm) ∧ W.cell? ⟨bm2, om2 + i, none⟩ = some (.int .i64 m) ∧ W.cell? ⟨bm2, om2 + j, none⟩ = some (.int .i64 m2)) W) := Lib.hid (fun W h => ⟨(h.cell (p := ⟨w.heap.size, 0, none⟩) hl0).trans hn0.out, (h.cell (p := ⟨w.heap.size, 1, none⟩) hl0).trans hn1.out, (h.cell (p := ⟨w.heap.size, 2, none⟩) hl0).trans hn2.out, (h.cell (p := ⟨w.heap.size, 3, none⟩) hl0).trans hn3.out, (h.cell (p := ⟨w.heap.size, 4, none⟩) hl0).trans hn4.out, (h.cell (p := ⟨w.heap.size, 5, none⟩) hl0).trans hn5.out, (h.cell (p := ⟨bm2, _, none⟩) hbm2).trans hmc.out, (h.cell (p := ⟨bm2, _, none⟩) hbm2).trans hmc2.out⟩)
  refine wp_region_held_drew (S := (fun W => W.cell? ⟨w.heap.size, 0, none⟩ = some (.int .i64 N.k) ∧ W.cell? ⟨w.heap.size, 1, none⟩ = some (.slice N.Ap N.np N.cp) ∧ W.cell? ⟨w.heap.size, 2, none⟩ = some (.int .i64 N.z) ∧ W.cell? ⟨w.heap.size, 3, none⟩ = some (.int .i64 N.h) ∧ W.cell? ⟨w.heap.size, 4, none⟩ = some (.slice (some ⟨bl, ofl, none⟩) N.nl N.cl) ∧ W.cell? ⟨w.heap.size, 5, none⟩ = some (.slice (some ⟨bm2, om2, none⟩) N.nm N.cm) ∧ W.cell? ⟨bm2, om2 + i, none⟩ = some (.int .i64 m) ∧ W.cell? ⟨bm2, om2 + j, none⟩ = some (.int .i64 m2))) (by kernel_rfl) (hk2.out _ hb1d.drew) (fun hHeld => ?_)
  refine wpAnyH_take (i := 0) (oi := ?o58) (v := ?hv58) ?hi58 (by kernel_rfl) (by kernel_rfl) (by kernel_rfl) ?hq58 ?hy58 (by assumption) ?hr58
  case hi58 => (simp only [List.getElem?_toArray, List.getElem?_cons_zero]; rfl)
  case hq58 => exact fun _ _ _ h => h
  case hy58 => exact Or.inl ⟨by rfl, by intro w hSw; (try dsimp only at hSw); go_simp; try with_reducible rfl⟩
  simp only [Act.put, List.setIfInBounds_toArray, List.set_cons_zero, List.set_cons_succ]
  refine wpAnyH_take (i := 1) (oi := ?o59) (v := .bool true) ?hi59 (by kernel_rfl) (by kernel_rfl) (by kernel_rfl) ?hq59 ?hy59 (by assumption) ?hr59
  case hi59 => (simp only [List.getElem?_toArray, List.getElem?_cons_succ, List.getElem?_cons_zero]; rfl)
  case hq59 => exact fun _ _ _ h => h
  case hy59 => exact Or.inl ⟨by rfl, by intro w hSw; (try dsimp only at hSw); go_simp; try simp only [hbn]; try with_reducible rfl⟩
  simp only [Act.put, List.setIfInBounds_toArray, List.set_cons_zero, List.set_cons_succ]
  refine wpAnyH_take (i := 2) (oi := ?o60) (v := ?hv60) ?hi60 (by kernel_rfl) (by kernel_rfl) (by kernel_rfl) ?hq60 ?hy60 (by assumption) ?hr60
  case hi60 => (simp only [List.getElem?_toArray, List.getElem?_cons_succ, List.getElem?_cons_zero]; rfl)
  case hq60 => exact fun _ _ _ h => h
  case hy60 => exact Or.inl ⟨by rfl, by intro w hSw; (try dsimp only at hSw); go_simp; try with_reducible rfl⟩
  simp only [Act.put, List.setIfInBounds_toArray, List.set_cons_zero, List.set_cons_succ]
  refine wpAnyH_take (i := 3) (oi := ?o61) (v := ?hv61) ?hi61 (by kernel_rfl) (by kernel_rfl) (by kernel_rfl) ?hq61 ?hy61 (by assumption) ?hr61
  case hi61 => (simp only [List.getElem?_toArray, List.getElem?_cons_succ, List.getElem?_cons_zero]; rfl)
  case hq61 => exact fun _ _ _ h => h
  case hy61 => exact Or.inl ⟨by rfl, by intro w hSw; (try dsimp only at hSw); go_simp; try with_reducible rfl⟩
  simp only [Act.put, List.setIfInBounds_toArray, List.set_cons_zero, List.set_cons_succ]
  refine wpAnyH_take (i := 4) (oi := ?o62) (v := ?hv62) ?hi62 (by kernel_rfl) (by kernel_rfl) (by kernel_rfl) ?hq62 ?hy62 (by assumption) ?hr62
  case hi62 => (simp only [List.getElem?_toArray, List.getElem?_cons_succ, List.getElem?_cons_zero]; rfl)
  case hq62 => exact fun _ _ _ h => h
  case hy62 => exact Or.inl ⟨by rfl, by intro w hSw; (try dsimp only at hSw); go_simp; try with_reducible rfl⟩
  simp only [Act.put, List.setIfInBounds_toArray, List.set_cons_zero, List.set_cons_succ]
  refine wpAnyH_take (i := 5) (oi := ?o63) (v := ?hv63) ?hi63 (by kernel_rfl) (by kernel_rfl) (by kernel_rfl) ?hq63 ?hy63 (by assumption) ?hr63
  case hi63 => (simp only [List.getElem?_toArray, List.getElem?_cons_succ, List.getElem?_cons_zero]; rfl)
  case hq63 => exact fun _ _ _ h => h
  case hy63 => exact Or.inl ⟨by rfl, by intro w hSw; (try dsimp only at hSw); go_simp; try with_reducible rfl⟩
  simp only [Act.put, List.setIfInBounds_toArray, List.set_cons_zero, List.set_cons_succ]
  refine wpAnyH_take (i := 6) (oi := ?o64) (v := ?hv64) ?hi64 (by kernel_rfl) (by kernel_rfl) (by kernel_rfl) ?hq64 ?hy64 (by assumption) ?hr64
  case hi64 => (simp only [List.getElem?_toArray, List.getElem?_cons_succ, List.getElem?_cons_zero]; rfl)
  case hq64 => exact fun _ _ _ h => h
  case hy64 => exact Or.inl ⟨by rfl, by intro w hSw; (try dsimp only at hSw); go_simp; try with_reducible rfl⟩
  simp only [Act.put, List.setIfInBounds_toArray, List.set_cons_zero, List.set_cons_succ]
  refine wpAnyH_take (i := 7) (oi := ?o65) (v := ?hv65) ?hi65 (by kernel_rfl) (by kernel_rfl) (by kernel_rfl) ?hq65 ?hy65 (by assumption) ?hr65
  case hi65 => (simp only [List.getElem?_toArray, List.getElem?_cons_succ, List.getElem?_cons_zero]; rfl)
  case hq65 => exact fun _ _ _ h => h
  case hy65 => exact Or.inl ⟨by rfl, by intro w hSw; (try dsimp only at hSw); go_simp; try with_reducible rfl⟩
  simp only [Act.put, List.setIfInBounds_toArray, List.set_cons_zero, List.set_cons_succ]
  refine wpAnyH_take (i := 8) (oi := ?o66) (v := ?hv66) ?hi66 (by kernel_rfl) (by kernel_rfl) (by kernel_rfl) ?hq66 ?hy66 (by assumption) ?hr66
  case hi66 => (simp only [List.getElem?_toArray, List.getElem?_cons_succ, List.getElem?_cons_zero]; rfl)
  case hq66 => exact fun _ _ _ h => h
  case hy66 => exact Or.inl ⟨by rfl, by intro w hSw; (try dsimp only at hSw); go_simp; try with_reducible rfl⟩
  simp only [Act.put, List.setIfInBounds_toArray, List.set_cons_zero, List.set_cons_succ]
  have hc := fun W => hears_lit N m 0 hm0 (by omega) (by omega) (by omega) hz0 hz1 hh0 hh1 true hh W
  simp only [hAl'.out, hAm'.out] at hc
  refine wpAnyH_ready (rs := [9]) (by kernel_rfl) (by simp) ?_
  refine (AllReadyH.cons (o := ?o67) ?hi67 (fun K hK => ?hr67) AllReadyH.nil)
  case hi67 => (simp only [List.getElem?_toArray, List.getElem?_cons_succ, List.getElem?_cons_zero]; rfl)
  go_simp
  refine (hc _).mono ?_
  rintro e w2 ⟨rfl, hb2⟩
  have hb2d : Below w0.heap.size w0 w2 := hb1d.drew.trans (hb2.mono (by have := hb1d.size; exact this))
  go_wp2_with fail
  refine hK.out _ _ ?_ (fun hHeld => ?_)
  · exact hk2.out _ hb2d
  clear hK K
  try simp only [Act.put, List.setIfInBounds_toArray, List.set_cons_zero, List.set_cons_succ]
  clear hc
  refine wpAnyH_take (i := 10) (oi := ?o68) (v := ?hv68) ?hi68 (by kernel_rfl) (by kernel_rfl) (by kernel_rfl) ?hq68 ?hy68 (by assumption) ?hr68
  case hi68 => (simp only [List.getElem?_toArray, List.getElem?_cons_succ, List.getElem?_cons_zero]; rfl)
  case hq68 => exact fun _ _ _ h => h
  case hy68 => exact Or.inl ⟨by rfl, by intro w hSw; (try dsimp only at hSw); go_simp; try with_reducible rfl⟩
  simp only [Act.put, List.setIfInBounds_toArray, List.set_cons_zero, List.set_cons_succ]
  refine wpAnyH_take (i := 11) (oi := ?o69) (v := ?hv69) ?hi69 (by kernel_rfl) (by kernel_rfl) (by kernel_rfl) ?hq69 ?hy69 (by assumption) ?hr69
  case hi69 => (simp only [List.getElem?_toArray, List.getElem?_cons_succ, List.getElem?_cons_zero]; rfl)
  case hq69 => exact fun _ _ _ h => h
  case hy69 => exact Or.inl ⟨by rfl, by intro w hSw; (try dsimp only at hSw); go_simp; try with_reducible rfl⟩
  simp only [Act.put, List.setIfInBounds_toArray, List.set_cons_zero, List.set_cons_succ]
  refine wpAnyH_take (i := 12) (oi := ?o70) (v := ?hv70) ?hi70 (by kernel_rfl) (by kernel_rfl) (by kernel_rfl) ?hq70 ?hy70 (by assumption) ?hr70
  case hi70 => (simp only [List.getElem?_toArray, List.getElem?_cons_succ, List.getElem?_cons_zero]; rfl)
  case hq70 => exact fun _ _ _ h => h
  case hy70 => exact Or.inl ⟨by rfl, by intro w hSw; (try dsimp only at hSw); go_simp; try with_reducible rfl⟩
  simp only [Act.put, List.setIfInBounds_toArray, List.set_cons_zero, List.set_cons_succ]
  refine wpAnyH_take (i := 13) (oi := ?o71) (v := ?hv71) ?hi71 (by kernel_rfl) (by kernel_rfl) (by kernel_rfl) ?hq71 ?hy71 (by assumption) ?hr71
  case hi71 => (simp only [List.getElem?_toArray, List.getElem?_cons_succ, List.getElem?_cons_zero]; rfl)
  case hq71 => exact fun _ _ _ h => h
  case hy71 => exact Or.inl ⟨by rfl, by intro w hSw; (try dsimp only at hSw); go_simp; try with_reducible rfl⟩
  simp only [Act.put, List.setIfInBounds_toArray, List.set_cons_zero, List.set_cons_succ]
  refine wpAnyH_take (i := 14) (oi := ?o72) (v := ?hv72) ?hi72 (by kernel_rfl) (by kernel_rfl) (by kernel_rfl) ?hq72 ?hy72 (by assumption) ?hr72
  case hi72 => (simp only [List.getElem?_toArray, List.getElem?_cons_succ, List.getElem?_cons_zero]; rfl)
  case hq72 => exact fun _ _ _ h => h
  case hy72 => exact Or.inl ⟨by rfl, by intro w hSw; (try dsimp only at hSw); go_simp; try with_reducible rfl⟩
  simp only [Act.put, List.setIfInBounds_toArray, List.set_cons_zero, List.set_cons_succ]
  refine wpAnyH_take (i := 15) (oi := ?o73) (v := ?hv73) ?hi73 (by kernel_rfl) (by kernel_rfl) (by kernel_rfl) ?hq73 ?hy73 (by assumption) ?hr73
  case hi73 => (simp only [List.getElem?_toArray, List.getElem?_cons_succ, List.getElem?_cons_zero]; rfl)
  case hq73 => exact fun _ _ _ h => h
  case hy73 => exact Or.inl ⟨by rfl, by intro w hSw; (try dsimp only at hSw); go_simp; try with_reducible rfl⟩
  simp only [Act.put, List.setIfInBounds_toArray, List.set_cons_zero, List.set_cons_succ]
  refine wpAnyH_take (i := 16) (oi := ?o74) (v := ?hv74) ?hi74 (by kernel_rfl) (by kernel_rfl) (by kernel_rfl) ?hq74 ?hy74 (by assumption) ?hr74
  case hi74 => (simp only [List.getElem?_toArray, List.getElem?_cons_succ, List.getElem?_cons_zero]; rfl)
  case hq74 => exact fun _ _ _ h => h
  case hy74 => exact Or.inl ⟨by rfl, by intro w hSw; (try dsimp only at hSw); go_simp; try with_reducible rfl⟩
  simp only [Act.put, List.setIfInBounds_toArray, List.set_cons_zero, List.set_cons_succ]
  refine wpAnyH_take (i := 17) (oi := ?o75) (v := ?hv75) ?hi75 (by kernel_rfl) (by kernel_rfl) (by kernel_rfl) ?hq75 ?hy75 (by assumption) ?hr75
  case hi75 => (simp only [List.getElem?_toArray, List.getElem?_cons_succ, List.getElem?_cons_zero]; rfl)
  case hq75 => exact fun _ _ _ h => h
  case hy75 => exact Or.inl ⟨by rfl, by intro w hSw; (try dsimp only at hSw); go_simp; try with_reducible rfl⟩
  simp only [Act.put, List.setIfInBounds_toArray, List.set_cons_zero, List.set_cons_succ]
  have hc := fun W => hears_lit N m2 0 hm20 (by omega) (by omega) (by omega) hz0 hz1 hh0 hh1 r2 hh2 W
  simp only [hAl'.out, hAm'.out] at hc
  refine wpAnyH_ready (rs := [18]) (by kernel_rfl) (by simp) ?_
  refine (AllReadyH.cons (o := ?o76) ?hi76 (fun K hK => ?hr76) AllReadyH.nil)
  case hi76 => (simp only [List.getElem?_toArray, List.getElem?_cons_succ, List.getElem?_cons_zero]; rfl)
  go_simp
  refine (hc _).mono ?_
  rintro e w3 ⟨rfl, hb3⟩
  have hb3d : Below w0.heap.size w0 w3 := bstep hb2d hb3 (Nat.le_refl _)
  go_wp2_with fail
  refine hK.out _ _ ?_ (fun hHeld => ?_)
  · exact hk2.out _ hb3d
  clear hK K
  try simp only [Act.put, List.setIfInBounds_toArray, List.set_cons_zero, List.set_cons_succ]
  clear hc
  refine wpAnyH_take (i := 19) (oi := ?o77) (v := ?hv77) ?hi77 (by kernel_rfl) (by kernel_rfl) (by kernel_rfl) ?hq77 ?hy77 (by assumption) ?hr77
  case hi77 => (simp only [List.getElem?_toArray, List.getElem?_cons_succ, List.getElem?_cons_zero]; rfl)
  case hq77 => exact fun _ _ _ h => h
  case hy77 => exact Or.inl ⟨by rfl, by intro w hSw; (try dsimp only at hSw); go_simp; try with_reducible rfl⟩
  simp only [Act.put, List.setIfInBounds_toArray, List.set_cons_zero, List.set_cons_succ]
  refine wpAnyH_take (i := 20) (oi := ?o78) (v := ?hv78) ?hi78 (by kernel_rfl) (by kernel_rfl) (by kernel_rfl) ?hq78 ?hy78 (by assumption) ?hr78
  case hi78 => (simp only [List.getElem?_toArray, List.getElem?_cons_succ, List.getElem?_cons_zero]; rfl)
  case hq78 => exact fun _ _ _ h => h
  case hy78 => exact Or.inl ⟨by rfl, by intro w hSw; (try dsimp only at hSw); go_simp; try with_reducible rfl⟩
  simp only [Act.put, List.setIfInBounds_toArray, List.set_cons_zero, List.set_cons_succ]
  refine wpAnyH_done (by kernel_rfl) ?_ _
  go_wp2_with fail
  go_ret
  exact ⟨rfl, bstep hb0 hb3d (Nat.le_refl _)⟩
theorem findL_lt (ls : List L3) (a b : Int) (h : 0 ≤ findL ls a b) : (findL ls a b).toNat < ls.length := by
  unfold findL at *
  have hg : ∀ (xs : List L3) (k : Nat), 0 ≤ fidx (fun l => decide (l.f = a) && decide (l.t = b)) k xs → (fidx (fun l => decide (l.f = a) && decide (l.t = b)) k xs).toNat < k + xs.length := by
    intro xs
    induction xs with
    | nil => intro k h; simp [fidx] at h
    | cons x l ih =>
      intro k h
      unfold fidx at h ⊢
      split
      · simp
      · rename_i hx
        rw [if_neg hx] at h
        have := ih (k + 1) h
        simp at *
        omega
  have := hg ls 0 h
  omega
theorem usable_lit (N : NT) (i : Nat) (hi : i < N.nl) (hV : NetV N) (r : Bool) (hr : usableB N i = r) (w : World) (hN : NetM w w.heap.size N) :
    Calls Tryz.prog 118 #[.agg #[.int .i64 N.k, .slice N.Ap N.np N.cp, .int .i64 N.z, .int .i64 N.h, .slice N.Al N.nl N.cl, .slice N.Am N.nm N.cm], .int .i64 i] w fun e w' => e = .returned (.bool r) ∧ Below w.heap.size w w' := by
  subst hr
  have hll := hV.lls
  have hlm := hV.lms
  have hnm := hV.nm
  obtain ⟨l, hl⟩ : ∃ l, N.ls[i]? = some l := ⟨_, List.getElem?_eq_getElem (by omega)⟩
  obtain ⟨m, hm⟩ : ∃ m, N.ms[i]? = some m := ⟨_, List.getElem?_eq_getElem (by omega)⟩
  have hmm := hV.mar i m hm
  have e : usableB N i = (decide (0 ≤ findL N.ls l.t l.f) && hearsB N m 0 && hearsB N (N.ms.getD (findL N.ls l.t l.f).toNat 0) 0) := by
    unfold usableB; rw [hl]; simp [List.getD_eq_getElem?_getD, hm]
  rw [e]
  obtain ⟨back, hbk⟩ : ∃ back, findL N.ls l.t l.f = back := ⟨_, rfl⟩
  rw [hbk]
  by_cases hb : back < 0
  · rw [decide_eq_false (by omega), Bool.false_and, Bool.false_and]
    exact usable_none N i l m hi (by omega) (Lib.hid hl) (Lib.hid hm) hmm.1 hmm.2 back (Lib.hid hbk) hb hV w (Lib.hid hN)
  rw [decide_eq_true (by omega), Bool.true_and]
  cases hh : hearsB N m 0
  · rw [Bool.false_and]
    exact usable_no N i l m hi (by omega) (Lib.hid hl) (Lib.hid hm) hmm.1 hmm.2 back (Lib.hid hbk) (by omega) (Lib.hid hh) hV w (Lib.hid hN)
  rw [Bool.true_and]
  have hlt := findL_lt N.ls l.t l.f (by omega)
  rw [hbk] at hlt
  obtain ⟨j, rfl⟩ : ∃ j : Nat, back = j := ⟨back.toNat, by omega⟩
  rw [Int.toNat_natCast] at hlt ⊢
  obtain ⟨m2, hm2⟩ : ∃ m2, N.ms[j]? = some m2 := ⟨_, List.getElem?_eq_getElem (by omega)⟩
  have hmm2 := hV.mar j m2 hm2
  have e2 : N.ms.getD j 0 = m2 := by simp [List.getD_eq_getElem?_getD, hm2]
  rw [e2]
  exact usable_yes N i l m hi (by omega) (Lib.hid hl) (Lib.hid hm) hmm.1 hmm.2 j (Lib.hid hbk) (by omega) m2 (Lib.hid hm2) hmm2.1 hmm2.2 (Lib.hid hh) _ (Lib.hid rfl) hV w (Lib.hid hN)
/-- Usable, of a number. -/
def usableI (N : NT) (i : Int) : Bool := decide (0 ≤ i) && decide (i < N.nl) && usableB N i.toNat
set_option maxHeartbeats 1600000 in
set_option maxRecDepth 100000 in
theorem Usable_bad (N : NT) (i : Int) (h : i < 0 ∨ (0 ≤ i ∧ (N.nl : Int) ≤ i)) (hv : Hid (netE N = 0)) (hsm : N.small) (w : World) (hN : Hid (NetM w w.heap.size N)) :
    Calls Tryz.prog 85 #[.agg #[.int .i64 N.k, .slice N.Ap N.np N.cp, .int .i64 N.z, .int .i64 N.h, .slice N.Al N.nl N.cl, .slice N.Am N.nm N.cm], .int .i64 i] w fun e w' => e = .returned (.bool false) ∧ Below w.heap.size w w' := by
  have hb0 := alloc_below w (ONT N)
  have hB0 := Lib.hid (BoxNT.new N w)
  have hl0 : w.heap.size < (w.alloc (ONT N)).heap.size := by simp
  have hM0 := Lib.hid ((hN.out.below hb0).more hb0.size)
  have hsz := hsm.2.1
  clear hN
  rcases h with h | ⟨h, h2⟩
  all_goals
    go_enter Tryz.func85, Tryz.ntmps85
    go_wp2_with fail
    revert hb0 hB0 hl0 hM0
    generalize w.alloc (ONT N) = w0
    intro hb0 hB0 hl0 hM0
    refine (net_lit N hsm 0 hv.out _ hM0.out).mono ?_
    rintro e w1 ⟨rfl, hb1⟩
    obtain ⟨n0, n1, n2, n3, n4, n5⟩ := hB0.out.below hb1 hl0
    go_wp2_with fail
    go_ret
    exact ⟨rfl, bstep hb0 hb1 (Nat.le_refl _)⟩
set_option maxHeartbeats 1600000 in
set_option maxRecDepth 100000 in
theorem Usable_in (N : NT) (i : Nat) (hi : i < N.nl) (hv : Hid (netE N = 0)) (hV : NetV N) (hsm : N.small) (r : Bool) (hr : Hid (usableB N i = r)) (w : World) (hN : Hid (NetM w w.heap.size N)) :
    Calls Tryz.prog 85 #[.agg #[.int .i64 N.k, .slice N.Ap N.np N.cp, .int .i64 N.z, .int .i64 N.h, .slice N.Al N.nl N.cl, .slice N.Am N.nm N.cm], .int .i64 i] w fun e w' => e = .returned (.bool r) ∧ Below w.heap.size w w' := by
  have hb0 := alloc_below w (ONT N)
  have hB0 := Lib.hid (BoxNT.new N w)
  have hl0 : w.heap.size < (w.alloc (ONT N)).heap.size := by simp
  have hM0 := Lib.hid ((hN.out.below hb0).more hb0.size)
  have hsz := hsm.2.1
  clear hN
  go_enter Tryz.func85, Tryz.ntmps85
  go_wp2_with fail
  revert hb0 hB0 hl0 hM0
  generalize w.alloc (ONT N) = w0
  intro hb0 hB0 hl0 hM0
  refine (net_lit N hsm 0 hv.out _ hM0.out).mono ?_
  rintro e w1 ⟨rfl, hb1⟩
  have hM1 := Lib.hid ((hM0.out.below hb1).more hb1.size)
  obtain ⟨n0, n1, n2, n3, n4, n5⟩ := hB0.out.below hb1 hl0
  have hi0 : (0 : Int) ≤ (i : Int) := by omega
  have hi1 : (i : Int) < (N.nl : Int) := by omega
  go_wp2_with fail
  refine (usable_lit N i hi hV r hr.out _ hM1.out).mono ?_
  rintro e w2 ⟨rfl, hb2⟩
  go_wp2_with fail
  go_ret
  exact ⟨rfl, bstep (bstep hb0 hb1 (Nat.le_refl _)) hb2 (Nat.le_refl _)⟩
/-- network.Usable, of a valid network. -/
theorem Usable_lit (N : NT) (i : Int) (hv : netE N = 0) (hV : NetV N) (hsm : N.small) (r : Bool) (hr : usableI N i = r) (w : World) (hN : NetM w w.heap.size N) :
    Calls Tryz.prog 85 #[.agg #[.int .i64 N.k, .slice N.Ap N.np N.cp, .int .i64 N.z, .int .i64 N.h, .slice N.Al N.nl N.cl, .slice N.Am N.nm N.cm], .int .i64 i] w fun e w' => e = .returned (.bool r) ∧ Below w.heap.size w w' := by
  subst hr
  unfold usableI
  by_cases h : 0 ≤ i ∧ i < N.nl
  · rw [decide_eq_true h.1, decide_eq_true h.2, Bool.true_and, Bool.true_and]
    obtain ⟨j, rfl⟩ : ∃ j : Nat, i = j := ⟨i.toNat, by omega⟩
    rw [Int.toNat_natCast]
    exact Usable_in N j (by omega) (Lib.hid hv) hV hsm _ (Lib.hid rfl) w (Lib.hid hN)
  · have e : (decide (0 ≤ i) && decide (i < (N.nl : Int)) && usableB N i.toNat) = false := by
      by_cases h0 : 0 ≤ i
      · rw [decide_eq_false (show ¬ i < (N.nl : Int) from fun h1 => h ⟨h0, h1⟩)]; simp
      · rw [decide_eq_false h0]; simp
    rw [e]
    exact Usable_bad N i (by omega) (Lib.hid hv) hsm w (Lib.hid hN)
end Go.Proofs.YtnddjcadkbjjhaaGreatDoor
