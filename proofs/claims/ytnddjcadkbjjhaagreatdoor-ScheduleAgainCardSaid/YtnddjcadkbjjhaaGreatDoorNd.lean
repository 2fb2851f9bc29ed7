/-
  CHAPTER 35, NETWORKS: network.Check.
-/
import Derived.Test.YtnddjcadkbjjhaaGreatDoorNc
namespace Go.Proofs.YtnddjcadkbjjhaaGreatDoor
open Go.RowKit

theorem link_any (N : NT) (i : Nat) (l : L3) (m : Int) (hs : N.nl ≤ 1000000) (hkk : (N.np : Int) = N.k) (hrow : ∀ r ∈ N.rows, (r.length : Int) = N.k) (hi : i < N.nl) (him : i < N.nm) (hl : N.ls[i]? = some l) (hm : N.ms[i]? = some m) (e : Int) (hE : linkE N (prevL N.ls i) l m = e) (w : World) (hN : NetM w w.heap.size N) :
    Calls Tryz.prog 81 #[.agg #[.int .i64 N.k, .slice N.Ap N.np N.cp, .int .i64 N.z, .int .i64 N.h, .slice N.Al N.nl N.cl, .slice N.Am N.nm N.cm], .int .i64 i] w fun e' w' => e' = .returned (.int .i64 e) ∧ Below w.heap.size w w' := by
  subst hE
  unfold linkE
  have hlen := hN.1.1
  cases hf : insB l.f N.k
  · rw [if_pos (by unfold rangeL; simp [hf])]
    exact link_0 N i l (Lib.hid hf) hs hi (Lib.hid hl) w (Lib.hid hN)
  cases ht : insB l.t N.k
  · rw [if_pos (by unfold rangeL; simp [ht])]
    exact link_1 N i l (Lib.hid hf) (Lib.hid ht) hs hi (Lib.hid hl) w (Lib.hid hN)
  rcases Bool.eq_false_or_eq_true (l.f == l.t) with he | he
  · rw [if_pos (by unfold rangeL; rw [he]; simp)]
    exact link_2 N i l (Lib.hid hf) (Lib.hid ht) he hs hi (Lib.hid hl) w (Lib.hid hN)
  by_cases hp' : l.l < 0
  · rw [if_pos (by unfold rangeL; simp; omega)]
    exact link_3 N i l (Lib.hid hf) (Lib.hid ht) he hp' hs hi (Lib.hid hl) w (Lib.hid hN)
  by_cases hq' : 7 < l.l
  · rw [if_pos (by unfold rangeL; simp; omega)]
    exact link_4 N i l (Lib.hid hf) (Lib.hid ht) he (by omega) hq' hs hi (Lib.hid hl) w (Lib.hid hN)
  have hp : 0 ≤ l.l := by omega
  have hq : l.l ≤ 7 := by omega
  rw [if_neg (by unfold rangeL; rw [hf, ht, he]; simp [hp, hq])]
  have hf' := (insB_iff _ _).1 hf
  have ht' := (insB_iff _ _).1 ht
  have ha : l.f.toNat < N.np := by omega
  obtain ⟨row, hr⟩ : ∃ row, N.rows[l.f.toNat]? = some row := ⟨_, List.getElem?_eq_getElem (by omega)⟩
  have hrl := hrow row (List.mem_of_getElem? hr)
  obtain ⟨p, hpp⟩ : ∃ p, row[l.t.toNat]? = some p := ⟨_, List.getElem?_eq_getElem (by omega)⟩
  have hpw : pw N.rows l.f l.t = p := by unfold pw; simp [List.getD_eq_getElem?_getD, hr, hpp]
  rw [hpw]
  exact link_5 N i l (Lib.hid hf) (Lib.hid ht) he hp hq _ (Lib.hid rfl) m (Lib.hid hm) him l.f.toNat l.t.toNat (Lib.hid (by omega)) (Lib.hid (by omega)) ha row (Lib.hid hr) (by omega) p (Lib.hid hpp) hs hi (Lib.hid hl) w (Lib.hid hN)
def linkAt (N : NT) (i : Nat) (l : L3) : Int := linkE N (prevL N.ls i) l (N.ms.getD i 0)
def linksE (N : NT) : Nat → List L3 → Int
  | _, [] => 0
  | i, l :: r => if linkAt N i l = 0 then linksE N (i + 1) r else linkAt N i l
theorem linksE_drop (N : NT) (i : Nat) (l : L3) (h : N.ls[i]? = some l) : linksE N i (N.ls.drop i) = if linkAt N i l = 0 then linksE N (i + 1) (N.ls.drop (i + 1)) else linkAt N i l := by
  obtain ⟨h1, e1⟩ := List.getElem?_eq_some_iff.1 h
  rw [List.drop_eq_getElem_cons h1, e1]; rfl
def netE (N : NT) : Int :=
  if N.k < 2 then 2 else if 32 < N.k then 2 else if powE N ≠ 0 then powE N
  else if N.z < 0 then 2 else if 68719476736 < N.z then 2 else if N.h < 1000 then 2 else if 100000 < N.h then 2
  else if 128 < N.nl then 8 else if N.nm ≠ N.nl then 11 else linksE N 0 N.ls
theorem pow_zero {N : NT} (h : powE N = 0) (_hl : N.rows.length = N.np) : (N.np : Int) = N.k ∧ (∀ r ∈ N.rows, (r.length : Int) = N.k) ∧ ∀ r ∈ N.rows, ∀ x ∈ r, 0 ≤ x ∧ x ≤ 68719476736 := by
  unfold powE at h
  split at h
  · omega
  · rename_i h1
    split at h
    · omega
    · rename_i h2
      split at h
      · omega
      · rename_i h3
        refine ⟨by simpa using h1, fun r hr => ?_, fun r hr x hx => ?_⟩
        · have : ¬ lenB N.k r = true := fun e => h2 (List.any_eq_true.2 ⟨r, hr, e⟩)
          simpa [lenB] using this
        · have : ¬ outB x = true := fun e => h3 (List.any_eq_true.2 ⟨r, hr, List.any_eq_true.2 ⟨x, hx, e⟩⟩)
          unfold outB at this
          simp at this
          exact this
set_option maxHeartbeats 4000000 in
set_option maxRecDepth 100000 in
theorem net_1 (N : NT) (h1 : N.k < 2) (w : World) (hN : Hid (NetM w w.heap.size N)) :
    Calls Tryz.prog 38 #[.agg #[.int .i64 N.k, .slice N.Ap N.np N.cp, .int .i64 N.z, .int .i64 N.h, .slice N.Al N.nl N.cl, .slice N.Am N.nm N.cm]] w fun e w' => e = .returned (.int .i64 2) ∧ Below w.heap.size w w' := by
  have hb0 := alloc_below w (ONT N)
  have hB0 := Lib.hid (BoxNT.new N w)
  have hl0 : w.heap.size < (w.alloc (ONT N)).heap.size := by simp
  have hM0 := Lib.hid ((hN.out.below hb0).more hb0.size)
  clear hN
  go_enter Tryz.func38, Tryz.ntmps38
  go_upto_region 1 with fail
  revert hb0 hB0 hl0 hM0
  generalize w.alloc (ONT N) = w0
  intro hb0 hB0 hl0 hM0
  obtain ⟨n0, n1, n2, n3, n4, n5⟩ := id hB0.out
  go_wp2_with fail
  go_ret
  exact ⟨rfl, hb0⟩
set_option maxHeartbeats 4000000 in
set_option maxRecDepth 100000 in
theorem net_2 (N : NT) (h1 : 2 ≤ N.k) (h2 : 32 < N.k) (w : World) (hN : Hid (NetM w w.heap.size N)) :
    Calls Tryz.prog 38 #[.agg #[.int .i64 N.k, .slice N.Ap N.np N.cp, .int .i64 N.z, .int .i64 N.h, .slice N.Al N.nl N.cl, .slice N.Am N.nm N.cm]] w fun e w' => e = .returned (.int .i64 2) ∧ Below w.heap.size w w' := by
  have hb0 := alloc_below w (ONT N)
  have hB0 := Lib.hid (BoxNT.new N w)
  have hl0 : w.heap.size < (w.alloc (ONT N)).heap.size := by simp
  have hM0 := Lib.hid ((hN.out.below hb0).more hb0.size)
  clear hN
  go_enter Tryz.func38, Tryz.ntmps38
  go_upto_region 1 with fail
  revert hb0 hB0 hl0 hM0
  generalize w.alloc (ONT N) = w0
  intro hb0 hB0 hl0 hM0
  obtain ⟨n0, n1, n2, n3, n4, n5⟩ := id hB0.out
  go_wp2_with fail
  go_ret
  exact ⟨rfl, hb0⟩
set_option maxHeartbeats 4000000 in
set_option maxRecDepth 100000 in
theorem net_3 (N : NT) (h1 : 2 ≤ N.k) (h2 : N.k ≤ 32) (hnp : N.np ≤ 1000000) (r : Int) (hp : Hid (powE N = r)) (hr : (r != 0) = true) (w : World) (hN : Hid (NetM w w.heap.size N)) :
    Calls Tryz.prog 38 #[.agg #[.int .i64 N.k, .slice N.Ap N.np N.cp, .int .i64 N.z, .int .i64 N.h, .slice N.Al N.nl N.cl, .slice N.Am N.nm N.cm]] w fun e w' => e = .returned (.int .i64 r) ∧ Below w.heap.size w w' := by
  have hb0 := alloc_below w (ONT N)
  have hB0 := Lib.hid (BoxNT.new N w)
  have hl0 : w.heap.size < (w.alloc (ONT N)).heap.size := by simp
  have hM0 := Lib.hid ((hN.out.below hb0).more hb0.size)
  clear hN
  go_enter Tryz.func38, Tryz.ntmps38
  go_upto_region 1 with fail
  revert hb0 hB0 hl0 hM0
  generalize w.alloc (ONT N) = w0
  intro hb0 hB0 hl0 hM0
  obtain ⟨n0, n1, n2, n3, n4, n5⟩ := id hB0.out
  go_wp2_with fail
  refine (pow_lit N hnp r hp.out _ hM0.out).mono ?_
  rintro e w1 ⟨rfl, hb1⟩
  have hB1 := Lib.hid (hB0.out.below hb1 hl0)
  have hM1 := Lib.hid ((hM0.out.below hb1).more hb1.size)
  have hw1 := bstep hb0 hb1 (Nat.le_refl _)
  have hl1 := Nat.lt_of_lt_of_le hl0 hb1.size
  clear n0 n1 n2 n3 n4 n5
  obtain ⟨n0, n1, n2, n3, n4, n5⟩ := id hB1.out
  go_wp2_with fail
  go_ret
  exact ⟨rfl, hw1⟩
set_option maxHeartbeats 4000000 in
set_option maxRecDepth 100000 in
theorem net_4a (N : NT) (h1 : 2 ≤ N.k) (h2 : N.k ≤ 32) (hnp : N.np ≤ 1000000) (hp : Hid (powE N = 0))  (z1 : N.z < 0) (w : World) (hN : Hid (NetM w w.heap.size N)) :
    Calls Tryz.prog 38 #[.agg #[.int .i64 N.k, .slice N.Ap N.np N.cp, .int .i64 N.z, .int .i64 N.h, .slice N.Al N.nl N.cl, .slice N.Am N.nm N.cm]] w fun e w' => e = .returned (.int .i64 2) ∧ Below w.heap.size w w' := by
  have hb0 := alloc_below w (ONT N)
  have hB0 := Lib.hid (BoxNT.new N w)
  have hl0 : w.heap.size < (w.alloc (ONT N)).heap.size := by simp
  have hM0 := Lib.hid ((hN.out.below hb0).more hb0.size)
  clear hN
  go_enter Tryz.func38, Tryz.ntmps38
  go_upto_region 1 with fail
  revert hb0 hB0 hl0 hM0
  generalize w.alloc (ONT N) = w0
  intro hb0 hB0 hl0 hM0
  obtain ⟨n0, n1, n2, n3, n4, n5⟩ := id hB0.out
  go_wp2_with fail
  refine (pow_lit N hnp 0 hp.out _ hM0.out).mono ?_
  rintro e w1 ⟨rfl, hb1⟩
  have hB1 := Lib.hid (hB0.out.below hb1 hl0)
  have hM1 := Lib.hid ((hM0.out.below hb1).more hb1.size)
  have hw1 := bstep hb0 hb1 (Nat.le_refl _)
  have hl1 := Nat.lt_of_lt_of_le hl0 hb1.size
  clear n0 n1 n2 n3 n4 n5
  obtain ⟨n0, n1, n2, n3, n4, n5⟩ := id hB1.out
  go_wp2_with fail
  go_ret
  exact ⟨rfl, hw1⟩
set_option maxHeartbeats 4000000 in
set_option maxRecDepth 100000 in
theorem net_4b (N : NT) (h1 : 2 ≤ N.k) (h2 : N.k ≤ 32) (hnp : N.np ≤ 1000000) (hp : Hid (powE N = 0)) (z1 : 0 ≤ N.z) (z2 : 68719476736 < N.z) (w : World) (hN : Hid (NetM w w.heap.size N)) :
    Calls Tryz.prog 38 #[.agg #[.int .i64 N.k, .slice N.Ap N.np N.cp, .int .i64 N.z, .int .i64 N.h, .slice N.Al N.nl N.cl, .slice N.Am N.nm N.cm]] w fun e w' => e = .returned (.int .i64 2) ∧ Below w.heap.size w w' := by
  have hb0 := alloc_below w (ONT N)
  have hB0 := Lib.hid (BoxNT.new N w)
  have hl0 : w.heap.size < (w.alloc (ONT N)).heap.size := by simp
  have hM0 := Lib.hid ((hN.out.below hb0).more hb0.size)
  clear hN
  go_enter Tryz.func38, Tryz.ntmps38
  go_upto_region 1 with fail
  revert hb0 hB0 hl0 hM0
  generalize w.alloc (ONT N) = w0
  intro hb0 hB0 hl0 hM0
  obtain ⟨n0, n1, n2, n3, n4, n5⟩ := id hB0.out
  go_wp2_with fail
  refine (pow_lit N hnp 0 hp.out _ hM0.out).mono ?_
  rintro e w1 ⟨rfl, hb1⟩
  have hB1 := Lib.hid (hB0.out.below hb1 hl0)
  have hM1 := Lib.hid ((hM0.out.below hb1).more hb1.size)
  have hw1 := bstep hb0 hb1 (Nat.le_refl _)
  have hl1 := Nat.lt_of_lt_of_le hl0 hb1.size
  clear n0 n1 n2 n3 n4 n5
  obtain ⟨n0, n1, n2, n3, n4, n5⟩ := id hB1.out
  go_wp2_with fail
  go_ret
  exact ⟨rfl, hw1⟩
set_option maxHeartbeats 4000000 in
set_option maxRecDepth 100000 in
theorem net_4c (N : NT) (h1 : 2 ≤ N.k) (h2 : N.k ≤ 32) (hnp : N.np ≤ 1000000) (hp : Hid (powE N = 0)) (z1 : 0 ≤ N.z) (z2 : N.z ≤ 68719476736) (z3 : N.h < 1000) (w : World) (hN : Hid (NetM w w.heap.size N)) :
    Calls Tryz.prog 38 #[.agg #[.int .i64 N.k, .slice N.Ap N.np N.cp, .int .i64 N.z, .int .i64 N.h, .slice N.Al N.nl N.cl, .slice N.Am N.nm N.cm]] w fun e w' => e = .returned (.int .i64 2) ∧ Below w.heap.size w w' := by
  have hb0 := alloc_below w (ONT N)
  have hB0 := Lib.hid (BoxNT.new N w)
  have hl0 : w.heap.size < (w.alloc (ONT N)).heap.size := by simp
  have hM0 := Lib.hid ((hN.out.below hb0).more hb0.size)
  clear hN
  go_enter Tryz.func38, Tryz.ntmps38
  go_upto_region 1 with fail
  revert hb0 hB0 hl0 hM0
  generalize w.alloc (ONT N) = w0
  intro hb0 hB0 hl0 hM0
  obtain ⟨n0, n1, n2, n3, n4, n5⟩ := id hB0.out
  go_wp2_with fail
  refine (pow_lit N hnp 0 hp.out _ hM0.out).mono ?_
  rintro e w1 ⟨rfl, hb1⟩
  have hB1 := Lib.hid (hB0.out.below hb1 hl0)
  have hM1 := Lib.hid ((hM0.out.below hb1).more hb1.size)
  have hw1 := bstep hb0 hb1 (Nat.le_refl _)
  have hl1 := Nat.lt_of_lt_of_le hl0 hb1.size
  clear n0 n1 n2 n3 n4 n5
  obtain ⟨n0, n1, n2, n3, n4, n5⟩ := id hB1.out
  go_wp2_with fail
  go_ret
  exact ⟨rfl, hw1⟩
set_option maxHeartbeats 4000000 in
set_option maxRecDepth 100000 in
theorem net_4d (N : NT) (h1 : 2 ≤ N.k) (h2 : N.k ≤ 32) (hnp : N.np ≤ 1000000) (hp : Hid (powE N = 0)) (z1 : 0 ≤ N.z) (z2 : N.z ≤ 68719476736) (z3 : 1000 ≤ N.h) (z4 : 100000 < N.h) (w : World) (hN : Hid (NetM w w.heap.size N)) :
    Calls Tryz.prog 38 #[.agg #[.int .i64 N.k, .slice N.Ap N.np N.cp, .int .i64 N.z, .int .i64 N.h, .slice N.Al N.nl N.cl, .slice N.Am N.nm N.cm]] w fun e w' => e = .returned (.int .i64 2) ∧ Below w.heap.size w w' := by
  have hb0 := alloc_below w (ONT N)
  have hB0 := Lib.hid (BoxNT.new N w)
  have hl0 : w.heap.size < (w.alloc (ONT N)).heap.size := by simp
  have hM0 := Lib.hid ((hN.out.below hb0).more hb0.size)
  clear hN
  go_enter Tryz.func38, Tryz.ntmps38
  go_upto_region 1 with fail
  revert hb0 hB0 hl0 hM0
  generalize w.alloc (ONT N) = w0
  intro hb0 hB0 hl0 hM0
  obtain ⟨n0, n1, n2, n3, n4, n5⟩ := id hB0.out
  go_wp2_with fail
  refine (pow_lit N hnp 0 hp.out _ hM0.out).mono ?_
  rintro e w1 ⟨rfl, hb1⟩
  have hB1 := Lib.hid (hB0.out.below hb1 hl0)
  have hM1 := Lib.hid ((hM0.out.below hb1).more hb1.size)
  have hw1 := bstep hb0 hb1 (Nat.le_refl _)
  have hl1 := Nat.lt_of_lt_of_le hl0 hb1.size
  clear n0 n1 n2 n3 n4 n5
  obtain ⟨n0, n1, n2, n3, n4, n5⟩ := id hB1.out
  go_wp2_with fail
  go_ret
  exact ⟨rfl, hw1⟩
set_option maxHeartbeats 4000000 in
set_option maxRecDepth 100000 in
theorem net_5 (N : NT) (h1 : 2 ≤ N.k) (h2 : N.k ≤ 32) (hnp : N.np ≤ 1000000) (hp : Hid (powE N = 0)) (z1 : 0 ≤ N.z) (z2 : N.z ≤ 68719476736) (z3 : 1000 ≤ N.h) (z4 : N.h ≤ 100000) (hs : N.nl ≤ 1000000) (hgt : 128 < N.nl) (w : World) (hN : Hid (NetM w w.heap.size N)) :
    Calls Tryz.prog 38 #[.agg #[.int .i64 N.k, .slice N.Ap N.np N.cp, .int .i64 N.z, .int .i64 N.h, .slice N.Al N.nl N.cl, .slice N.Am N.nm N.cm]] w fun e w' => e = .returned (.int .i64 8) ∧ Below w.heap.size w w' := by
  have hb0 := alloc_below w (ONT N)
  have hB0 := Lib.hid (BoxNT.new N w)
  have hl0 : w.heap.size < (w.alloc (ONT N)).heap.size := by simp
  have hM0 := Lib.hid ((hN.out.below hb0).more hb0.size)
  clear hN
  go_enter Tryz.func38, Tryz.ntmps38
  go_upto_region 1 with fail
  revert hb0 hB0 hl0 hM0
  generalize w.alloc (ONT N) = w0
  intro hb0 hB0 hl0 hM0
  obtain ⟨n0, n1, n2, n3, n4, n5⟩ := id hB0.out
  go_wp2_with fail
  refine (pow_lit N hnp 0 hp.out _ hM0.out).mono ?_
  rintro e w1 ⟨rfl, hb1⟩
  have hB1 := Lib.hid (hB0.out.below hb1 hl0)
  have hM1 := Lib.hid ((hM0.out.below hb1).more hb1.size)
  have hw1 := bstep hb0 hb1 (Nat.le_refl _)
  have hl1 := Nat.lt_of_lt_of_le hl0 hb1.size
  clear n0 n1 n2 n3 n4 n5
  obtain ⟨n0, n1, n2, n3, n4, n5⟩ := id hB1.out
  go_wp2_with fail
  go_ret
  exact ⟨rfl, hw1⟩
set_option maxHeartbeats 4000000 in
set_option maxRecDepth 100000 in
theorem net_6 (N : NT) (h1 : 2 ≤ N.k) (h2 : N.k ≤ 32) (hnp : N.np ≤ 1000000) (hp : Hid (powE N = 0)) (z1 : 0 ≤ N.z) (z2 : N.z ≤ 68719476736) (z3 : 1000 ≤ N.h) (z4 : N.h ≤ 100000) (hs : N.nl ≤ 128) (_hms : N.nm ≤ 1000000) (hne : ((N.nm : Int) != (N.nl : Int)) = true) (w : World) (hN : Hid (NetM w w.heap.size N)) :
    Calls Tryz.prog 38 #[.agg #[.int .i64 N.k, .slice N.Ap N.np N.cp, .int .i64 N.z, .int .i64 N.h, .slice N.Al N.nl N.cl, .slice N.Am N.nm N.cm]] w fun e w' => e = .returned (.int .i64 11) ∧ Below w.heap.size w w' := by
  have hb0 := alloc_below w (ONT N)
  have hB0 := Lib.hid (BoxNT.new N w)
  have hl0 : w.heap.size < (w.alloc (ONT N)).heap.size := by simp
  have hM0 := Lib.hid ((hN.out.below hb0).more hb0.size)
  clear hN
  go_enter Tryz.func38, Tryz.ntmps38
  go_upto_region 1 with fail
  revert hb0 hB0 hl0 hM0
  generalize w.alloc (ONT N) = w0
  intro hb0 hB0 hl0 hM0
  obtain ⟨n0, n1, n2, n3, n4, n5⟩ := id hB0.out
  go_wp2_with fail
  refine (pow_lit N hnp 0 hp.out _ hM0.out).mono ?_
  rintro e w1 ⟨rfl, hb1⟩
  have hB1 := Lib.hid (hB0.out.below hb1 hl0)
  have hM1 := Lib.hid ((hM0.out.below hb1).more hb1.size)
  have hw1 := bstep hb0 hb1 (Nat.le_refl _)
  have hl1 := Nat.lt_of_lt_of_le hl0 hb1.size
  clear n0 n1 n2 n3 n4 n5
  obtain ⟨n0, n1, n2, n3, n4, n5⟩ := id hB1.out
  go_wp2_with fail
  go_ret
  exact ⟨rfl, hw1⟩
set_option maxHeartbeats 4000000 in
set_option maxRecDepth 100000 in
theorem net_7 (N : NT) (h1 : 2 ≤ N.k) (h2 : N.k ≤ 32) (hnp : N.np ≤ 1000000) (hp : Hid (powE N = 0)) (z1 : 0 ≤ N.z) (z2 : N.z ≤ 68719476736) (z3 : 1000 ≤ N.h) (z4 : N.h ≤ 100000) (hs : N.nl ≤ 128) (hms : Hid (N.nm = N.nl)) (hne : ((N.nm : Int) != (N.nl : Int)) = false) (r : Int) (hr : Hid (linksE N 0 N.ls = r)) (w : World) (hN : Hid (NetM w w.heap.size N)) :
    Calls Tryz.prog 38 #[.agg #[.int .i64 N.k, .slice N.Ap N.np N.cp, .int .i64 N.z, .int .i64 N.h, .slice N.Al N.nl N.cl, .slice N.Am N.nm N.cm]] w fun e w' => e = .returned (.int .i64 r) ∧ Below w.heap.size w w' := by
  have hb0 := alloc_below w (ONT N)
  have hB0 := Lib.hid (BoxNT.new N w)
  have hl0 : w.heap.size < (w.alloc (ONT N)).heap.size := by simp
  have hM0 := Lib.hid ((hN.out.below hb0).more hb0.size)
  clear hN
  go_enter Tryz.func38, Tryz.ntmps38
  go_upto_region 1 with fail
  revert hb0 hB0 hl0 hM0
  generalize w.alloc (ONT N) = w0
  intro hb0 hB0 hl0 hM0
  obtain ⟨n0, n1, n2, n3, n4, n5⟩ := id hB0.out
  go_wp2_with fail
  refine (pow_lit N hnp 0 hp.out _ hM0.out).mono ?_
  rintro e w1 ⟨rfl, hb1⟩
  have hB1 := Lib.hid (hB0.out.below hb1 hl0)
  have hM1 := Lib.hid ((hM0.out.below hb1).more hb1.size)
  have hw1 := bstep hb0 hb1 (Nat.le_refl _)
  have hl1 := Nat.lt_of_lt_of_le hl0 hb1.size
  clear n0 n1 n2 n3 n4 n5
  obtain ⟨n0, n1, n2, n3, n4, n5⟩ := id hB1.out
  have hz := Lib.hid (pow_zero hp.out hM0.out.1.1)
  have hnn : N.nm ≤ 128 := by have := hms.out; omega
  go_wp2_with fail
  clear n0 n1 n2 n3 n4 n5
  go_loopw [54] (fun i wx => ∃ k : Nat, k ≤ N.nl ∧ i = .int .i64 k ∧ Below w1.heap.size w1 wx ∧ Hid (linksE N k (N.ls.drop k) = r)) (fun i _ => N.nl - (intOf i).toNat)
  case atStart => exact ⟨0, Nat.zero_le _, rfl, Below.refl _ _, hr⟩
  case round =>
    obtain ⟨k, hk, rfl, hwx, H⟩ := hrel
    have hBr := Lib.hid (hB1.out.below hwx hl1)
    have hMr := Lib.hid ((hM1.out.below hwx).more hwx.size)
    obtain ⟨n0, n1, n2, n3, n4, n5⟩ := id hBr.out
    by_cases hlt : k < N.nl
    · have hll : k < N.ls.length := by have := hMr.out.2.1.1; omega
      have hml : k < N.ms.length := by have := hMr.out.2.2.1; have := hms.out; omega
      have hmk : k < N.nm := by have := hms.out; omega
      obtain ⟨l, hl'⟩ : ∃ l, N.ls[k]? = some l := ⟨_, List.getElem?_eq_getElem hll⟩
      obtain ⟨m, hm'⟩ : ∃ m, N.ms[k]? = some m := ⟨_, List.getElem?_eq_getElem hml⟩
      have hd := Lib.hid (linksE_drop N k l hl')
      have hma : Hid (linkAt N k l = linkE N (prevL N.ls k) l m) := Lib.hid (by unfold linkAt; rw [List.getD_eq_getElem?_getD, hm']; rfl)
      have hl := Lib.hid hl'
      have hm := Lib.hid hm'
      clear hl' hm'
      obtain ⟨e, he'⟩ : ∃ e, linkE N (prevL N.ls k) l m = e := ⟨_, rfl⟩
      have he := Lib.hid he'
      clear he'
      by_cases hez : e = 0
      · subst hez
        go_wp2_with fail
        refine (link_any N k l m (by omega) hz.out.1 hz.out.2.1 hlt hmk hl.out hm.out 0 he.out _ hMr.out).mono ?_
        rintro e w2 ⟨rfl, hb2⟩
        go_wp2_with fail
        go_roundw
        case rel => exact ⟨k + 1, by omega, by go_num, bstep hwx hb2 (Nat.le_refl _), Lib.hid (by rw [← H.out, hd.out, if_pos (by rw [hma.out, he.out])])⟩
        case measure => simp [intOf]; omega
      · have hne2 : (e != 0) = true := by simp [hez]
        have hre : Hid (r = e) := Lib.hid (by rw [← H.out, hd.out, hma.out, he.out, if_neg hez])
        have hez := Lib.hid hez
        go_wp2_with fail
        refine (link_any N k l m (by omega) hz.out.1 hz.out.2.1 hlt hmk hl.out hm.out e he.out _ hMr.out).mono ?_
        rintro e w2 ⟨rfl, hb2⟩
        go_wp2_with fail
        go_ret
        exact ⟨ret_int hre.out.symm, bstep hw1 (bstep hwx hb2 (Nat.le_refl _)) (Nat.le_refl _)⟩
    · have hre : Hid (r = 0) := Lib.hid (by rw [← H.out, List.drop_eq_nil_of_le (by have := hMr.out.2.1.1; omega)]; rfl)
      go_wp2_with fail
      go_ret
      exact ⟨ret_int hre.out.symm, bstep hw1 hwx (Nat.le_refl _)⟩
/-- network.Check. -/
theorem net_lit (N : NT) (hs : N.small) (r : Int) (hr : netE N = r) (w : World) (hN : NetM w w.heap.size N) :
    Calls Tryz.prog 38 #[.agg #[.int .i64 N.k, .slice N.Ap N.np N.cp, .int .i64 N.z, .int .i64 N.h, .slice N.Al N.nl N.cl, .slice N.Am N.nm N.cm]] w fun e w' => e = .returned (.int .i64 r) ∧ Below w.heap.size w w' := by
  subst hr
  obtain ⟨hnp, hnl, hnm⟩ := hs
  unfold netE
  by_cases h1 : N.k < 2
  · rw [if_pos h1]; exact net_1 N h1 w (Lib.hid hN)
  rw [if_neg h1]
  by_cases h2 : 32 < N.k
  · rw [if_pos h2]; exact net_2 N (by omega) h2 w (Lib.hid hN)
  rw [if_neg h2]
  by_cases h3 : powE N = 0
  case neg => rw [if_pos h3]; exact net_3 N (by omega) (by omega) hnp _ (Lib.hid rfl) (by simpa using h3) w (Lib.hid hN)
  rw [if_neg (by simpa using h3)]
  by_cases h4 : N.z < 0
  · rw [if_pos h4]; exact net_4a N (by omega) (by omega) hnp (Lib.hid h3) h4 w (Lib.hid hN)
  rw [if_neg h4]
  by_cases h5 : 68719476736 < N.z
  · rw [if_pos h5]; exact net_4b N (by omega) (by omega) hnp (Lib.hid h3) (by omega) h5 w (Lib.hid hN)
  rw [if_neg h5]
  by_cases h6 : N.h < 1000
  · rw [if_pos h6]; exact net_4c N (by omega) (by omega) hnp (Lib.hid h3) (by omega) (by omega) h6 w (Lib.hid hN)
  rw [if_neg h6]
  by_cases h7 : 100000 < N.h
  · rw [if_pos h7]; exact net_4d N (by omega) (by omega) hnp (Lib.hid h3) (by omega) (by omega) (by omega) h7 w (Lib.hid hN)
  rw [if_neg h7]
  by_cases h8 : 128 < N.nl
  · rw [if_pos h8]; exact net_5 N (by omega) (by omega) hnp (Lib.hid h3) (by omega) (by omega) (by omega) (by omega) hnl h8 w (Lib.hid hN)
  rw [if_neg h8]
  by_cases h9 : N.nm = N.nl
  · rw [if_neg (by simpa using h9)]
    exact net_7 N (by omega) (by omega) hnp (Lib.hid h3) (by omega) (by omega) (by omega) (by omega) (by omega) (Lib.hid h9) (by simp [h9]) _ (Lib.hid rfl) w (Lib.hid hN)
  · rw [if_pos h9]
    exact net_6 N (by omega) (by omega) hnp (Lib.hid h3) (by omega) (by omega) (by omega) (by omega) (by omega) hnm (by rw [bne_iff_ne]; omega) w (Lib.hid hN)
end Go.Proofs.YtnddjcadkbjjhaaGreatDoor
