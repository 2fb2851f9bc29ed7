/-
  CHAPTER 35, NETWORKS: checkLink.
-/
import Derived.Test.YtnddjcadkbjjhaaGreatDoorNb
namespace Go.Proofs.YtnddjcadkbjjhaaGreatDoor
open Go.RowKit

set_option maxHeartbeats 400000 in
theorem node_lit (x k : Int) (b : Nat) (r : Bool) (h : insB x k = r) (w : World) (hb : w.cell? ⟨b, 0, none⟩ = some (.int .i64 k)) : Calls Tryz.prog 115 #[.int .i64 x, .pointer (some ⟨b, 0, none⟩)] w fun e w' => e = .returned (.bool r) ∧ w = w' := by
  subst h
  by_cases h0 : 0 ≤ x
  · have e : insB x k = decide (x < k) := by unfold insB; simp [h0]
    rw [e]
    clear e
    go_enter Tryz.func115, Tryz.ntmps115
    go_wp2
    go_ret
    exact ⟨rfl, rfl⟩
  · have e : insB x k = false := by unfold insB; simp [h0]
    rw [e]
    clear e
    go_enter Tryz.func115, Tryz.ntmps115
    go_wp2
    go_ret
    exact ⟨rfl, rfl⟩
def pw (rows : List (List Int)) (a b : Int) : Int := (rows.getD a.toNat []).getD b.toNat 0
def rangeL (k : Int) (l : L3) : Bool := insB l.f k && insB l.t k && !(l.f == l.t) && decide (0 ≤ l.l) && decide (l.l ≤ 7)
def orderL (prev : Option L3) (l : L3) : Bool := match prev with | none => false | some q => decide (0 ≤ cmpLk q l)
def linkE (N : NT) (prev : Option L3) (l : L3) (m : Int) : Int :=
  if rangeL N.k l = false then 2 else if orderL prev l = true then 5 else if m < 0 then 2 else if pw N.rows l.f l.t < m then 2 else 0
def prevL (ls : List L3) : Nat → Option L3
  | 0 => none
  | k + 1 => ls[k]?
set_option maxHeartbeats 4000000 in
set_option maxRecDepth 100000 in
theorem link_0 (N : NT) (i : Nat) (l : L3) (hf : Hid (insB l.f N.k = false)) (_hs : N.nl ≤ 1000000) (hi : i < N.nl) (hl : Hid (N.ls[i]? = some l)) (w : World) (hN : Hid (NetM w w.heap.size N)) :
    Calls Tryz.prog 81 #[.agg #[.int .i64 N.k, .slice N.Ap N.np N.cp, .int .i64 N.z, .int .i64 N.h, .slice N.Al N.nl N.cl, .slice N.Am N.nm N.cm], .int .i64 i] w fun e w' => e = .returned (.int .i64 2) ∧ Below w.heap.size w w' := by
  have hb0 := alloc_below w (ONT N)
  have hB0 := Lib.hid (BoxNT.new N w)
  have hl0 : w.heap.size < (w.alloc (ONT N)).heap.size := by simp
  have hM0 := Lib.hid ((hN.out.below hb0).more hb0.size)
  clear hN
  have hi0 : (0 : Int) ≤ (i : Int) := by omega
  have hi1 : (i : Int) < (N.nl : Int) := by omega
  go_enter Tryz.func81, Tryz.ntmps81
  go_upto_region 1 with fail
  revert hb0 hB0 hl0 hM0
  generalize w.alloc (ONT N) = w0
  intro hb0 hB0 hl0 hM0
  obtain ⟨n0, n1, n2, n3, n4, n5⟩ := id hB0.out
  obtain ⟨bl, ofl, l', hAl, hbl, el, l0, l1, l2⟩ := hM0.out.2.1.at_ hi
  obtain rfl : l = l' := Option.some.inj (hl.out.symm.trans el)
  rw [hAl] at n4
  have hAl' := Lib.hid hAl
  clear hAl el
  have hbl0 := alloc_below w0 (OL3 l)
  have hL0 := Lib.hid (BoxL3.new l w0)
  have hl1 : w0.heap.size < (w0.alloc (OL3 l)).heap.size := by simp
  go_wp2_with fail
  clear n0 n1 n2 n3 n4 n5 l0 l1 l2
  revert hbl0 hL0 hl1
  generalize w0.alloc (OL3 l) = w1
  intro hbl0 hL0 hl1
  have hB1 := Lib.hid (hB0.out.below hbl0 hl0)
  have hM1 := Lib.hid ((hM0.out.below hbl0).more hbl0.size)
  have hw1 := bstep hb0 hbl0 (Nat.le_refl _)
  have hl01 := Nat.lt_of_lt_of_le hl0 hbl0.size
  obtain ⟨n0, n1, n2, n3, n4, n5⟩ := id hB1.out
  obtain ⟨l0, l1, l2⟩ := id hL0.out
  refine (node_lit l.f N.k w.heap.size false hf.out _ n0).mono ?_
  rintro e w' ⟨rfl, rfl⟩
  go_wp2_with fail
  go_ret
  exact ⟨rfl, hw1⟩
set_option maxHeartbeats 4000000 in
set_option maxRecDepth 100000 in
theorem link_1 (N : NT) (i : Nat) (l : L3) (hf : Hid (insB l.f N.k = true)) (ht : Hid (insB l.t N.k = false)) (_hs : N.nl ≤ 1000000) (hi : i < N.nl) (hl : Hid (N.ls[i]? = some l)) (w : World) (hN : Hid (NetM w w.heap.size N)) :
    Calls Tryz.prog 81 #[.agg #[.int .i64 N.k, .slice N.Ap N.np N.cp, .int .i64 N.z, .int .i64 N.h, .slice N.Al N.nl N.cl, .slice N.Am N.nm N.cm], .int .i64 i] w fun e w' => e = .returned (.int .i64 2) ∧ Below w.heap.size w w' := by
  have hb0 := alloc_below w (ONT N)
  have hB0 := Lib.hid (BoxNT.new N w)
  have hl0 : w.heap.size < (w.alloc (ONT N)).heap.size := by simp
  have hM0 := Lib.hid ((hN.out.below hb0).more hb0.size)
  clear hN
  have hi0 : (0 : Int) ≤ (i : Int) := by omega
  have hi1 : (i : Int) < (N.nl : Int) := by omega
  go_enter Tryz.func81, Tryz.ntmps81
  go_upto_region 1 with fail
  revert hb0 hB0 hl0 hM0
  generalize w.alloc (ONT N) = w0
  intro hb0 hB0 hl0 hM0
  obtain ⟨n0, n1, n2, n3, n4, n5⟩ := id hB0.out
  obtain ⟨bl, ofl, l', hAl, hbl, el, l0, l1, l2⟩ := hM0.out.2.1.at_ hi
  obtain rfl : l = l' := Option.some.inj (hl.out.symm.trans el)
  rw [hAl] at n4
  have hAl' := Lib.hid hAl
  clear hAl el
  have hbl0 := alloc_below w0 (OL3 l)
  have hL0 := Lib.hid (BoxL3.new l w0)
  have hl1 : w0.heap.size < (w0.alloc (OL3 l)).heap.size := by simp
  go_wp2_with fail
  clear n0 n1 n2 n3 n4 n5 l0 l1 l2
  revert hbl0 hL0 hl1
  generalize w0.alloc (OL3 l) = w1
  intro hbl0 hL0 hl1
  have hB1 := Lib.hid (hB0.out.below hbl0 hl0)
  have hM1 := Lib.hid ((hM0.out.below hbl0).more hbl0.size)
  have hw1 := bstep hb0 hbl0 (Nat.le_refl _)
  have hl01 := Nat.lt_of_lt_of_le hl0 hbl0.size
  obtain ⟨n0, n1, n2, n3, n4, n5⟩ := id hB1.out
  obtain ⟨l0, l1, l2⟩ := id hL0.out
  refine (node_lit l.f N.k w.heap.size true hf.out _ n0).mono ?_
  rintro e w' ⟨rfl, rfl⟩
  go_wp2_with fail
  refine (node_lit l.t N.k w.heap.size false ht.out _ n0).mono ?_
  rintro e w' ⟨rfl, rfl⟩
  go_wp2_with fail
  go_ret
  exact ⟨rfl, hw1⟩
set_option maxHeartbeats 4000000 in
set_option maxRecDepth 100000 in
theorem link_2 (N : NT) (i : Nat) (l : L3) (hf : Hid (insB l.f N.k = true)) (ht : Hid (insB l.t N.k = true)) (he : (l.f == l.t) = true) (_hs : N.nl ≤ 1000000) (hi : i < N.nl) (hl : Hid (N.ls[i]? = some l)) (w : World) (hN : Hid (NetM w w.heap.size N)) :
    Calls Tryz.prog 81 #[.agg #[.int .i64 N.k, .slice N.Ap N.np N.cp, .int .i64 N.z, .int .i64 N.h, .slice N.Al N.nl N.cl, .slice N.Am N.nm N.cm], .int .i64 i] w fun e w' => e = .returned (.int .i64 2) ∧ Below w.heap.size w w' := by
  have hb0 := alloc_below w (ONT N)
  have hB0 := Lib.hid (BoxNT.new N w)
  have hl0 : w.heap.size < (w.alloc (ONT N)).heap.size := by simp
  have hM0 := Lib.hid ((hN.out.below hb0).more hb0.size)
  clear hN
  have hi0 : (0 : Int) ≤ (i : Int) := by omega
  have hi1 : (i : Int) < (N.nl : Int) := by omega
  go_enter Tryz.func81, Tryz.ntmps81
  go_upto_region 1 with fail
  revert hb0 hB0 hl0 hM0
  generalize w.alloc (ONT N) = w0
  intro hb0 hB0 hl0 hM0
  obtain ⟨n0, n1, n2, n3, n4, n5⟩ := id hB0.out
  obtain ⟨bl, ofl, l', hAl, hbl, el, l0, l1, l2⟩ := hM0.out.2.1.at_ hi
  obtain rfl : l = l' := Option.some.inj (hl.out.symm.trans el)
  rw [hAl] at n4
  have hAl' := Lib.hid hAl
  clear hAl el
  have hbl0 := alloc_below w0 (OL3 l)
  have hL0 := Lib.hid (BoxL3.new l w0)
  have hl1 : w0.heap.size < (w0.alloc (OL3 l)).heap.size := by simp
  go_wp2_with fail
  clear n0 n1 n2 n3 n4 n5 l0 l1 l2
  revert hbl0 hL0 hl1
  generalize w0.alloc (OL3 l) = w1
  intro hbl0 hL0 hl1
  have hB1 := Lib.hid (hB0.out.below hbl0 hl0)
  have hM1 := Lib.hid ((hM0.out.below hbl0).more hbl0.size)
  have hw1 := bstep hb0 hbl0 (Nat.le_refl _)
  have hl01 := Nat.lt_of_lt_of_le hl0 hbl0.size
  obtain ⟨n0, n1, n2, n3, n4, n5⟩ := id hB1.out
  obtain ⟨l0, l1, l2⟩ := id hL0.out
  refine (node_lit l.f N.k w.heap.size true hf.out _ n0).mono ?_
  rintro e w' ⟨rfl, rfl⟩
  go_wp2_with fail
  refine (node_lit l.t N.k w.heap.size true ht.out _ n0).mono ?_
  rintro e w' ⟨rfl, rfl⟩
  go_wp2_with fail
  go_ret
  exact ⟨rfl, hw1⟩
set_option maxHeartbeats 4000000 in
set_option maxRecDepth 100000 in
theorem link_3 (N : NT) (i : Nat) (l : L3) (hf : Hid (insB l.f N.k = true)) (ht : Hid (insB l.t N.k = true)) (he : (l.f == l.t) = false) (hp : l.l < 0) (_hs : N.nl ≤ 1000000) (hi : i < N.nl) (hl : Hid (N.ls[i]? = some l)) (w : World) (hN : Hid (NetM w w.heap.size N)) :
    Calls Tryz.prog 81 #[.agg #[.int .i64 N.k, .slice N.Ap N.np N.cp, .int .i64 N.z, .int .i64 N.h, .slice N.Al N.nl N.cl, .slice N.Am N.nm N.cm], .int .i64 i] w fun e w' => e = .returned (.int .i64 2) ∧ Below w.heap.size w w' := by
  have hb0 := alloc_below w (ONT N)
  have hB0 := Lib.hid (BoxNT.new N w)
  have hl0 : w.heap.size < (w.alloc (ONT N)).heap.size := by simp
  have hM0 := Lib.hid ((hN.out.below hb0).more hb0.size)
  clear hN
  have hi0 : (0 : Int) ≤ (i : Int) := by omega
  have hi1 : (i : Int) < (N.nl : Int) := by omega
  go_enter Tryz.func81, Tryz.ntmps81
  go_upto_region 1 with fail
  revert hb0 hB0 hl0 hM0
  generalize w.alloc (ONT N) = w0
  intro hb0 hB0 hl0 hM0
  obtain ⟨n0, n1, n2, n3, n4, n5⟩ := id hB0.out
  obtain ⟨bl, ofl, l', hAl, hbl, el, l0, l1, l2⟩ := hM0.out.2.1.at_ hi
  obtain rfl : l = l' := Option.some.inj (hl.out.symm.trans el)
  rw [hAl] at n4
  have hAl' := Lib.hid hAl
  clear hAl el
  have hbl0 := alloc_below w0 (OL3 l)
  have hL0 := Lib.hid (BoxL3.new l w0)
  have hl1 : w0.heap.size < (w0.alloc (OL3 l)).heap.size := by simp
  go_wp2_with fail
  clear n0 n1 n2 n3 n4 n5 l0 l1 l2
  revert hbl0 hL0 hl1
  generalize w0.alloc (OL3 l) = w1
  intro hbl0 hL0 hl1
  have hB1 := Lib.hid (hB0.out.below hbl0 hl0)
  have hM1 := Lib.hid ((hM0.out.below hbl0).more hbl0.size)
  have hw1 := bstep hb0 hbl0 (Nat.le_refl _)
  have hl01 := Nat.lt_of_lt_of_le hl0 hbl0.size
  obtain ⟨n0, n1, n2, n3, n4, n5⟩ := id hB1.out
  obtain ⟨l0, l1, l2⟩ := id hL0.out
  refine (node_lit l.f N.k w.heap.size true hf.out _ n0).mono ?_
  rintro e w' ⟨rfl, rfl⟩
  go_wp2_with fail
  refine (node_lit l.t N.k w.heap.size true ht.out _ n0).mono ?_
  rintro e w' ⟨rfl, rfl⟩
  go_wp2_with fail
  go_ret
  exact ⟨rfl, hw1⟩
set_option maxHeartbeats 4000000 in
set_option maxRecDepth 100000 in
theorem link_4 (N : NT) (i : Nat) (l : L3) (hf : Hid (insB l.f N.k = true)) (ht : Hid (insB l.t N.k = true)) (he : (l.f == l.t) = false) (hp : 0 ≤ l.l) (hq : 7 < l.l) (_hs : N.nl ≤ 1000000) (hi : i < N.nl) (hl : Hid (N.ls[i]? = some l)) (w : World) (hN : Hid (NetM w w.heap.size N)) :
    Calls Tryz.prog 81 #[.agg #[.int .i64 N.k, .slice N.Ap N.np N.cp, .int .i64 N.z, .int .i64 N.h, .slice N.Al N.nl N.cl, .slice N.Am N.nm N.cm], .int .i64 i] w fun e w' => e = .returned (.int .i64 2) ∧ Below w.heap.size w w' := by
  have hb0 := alloc_below w (ONT N)
  have hB0 := Lib.hid (BoxNT.new N w)
  have hl0 : w.heap.size < (w.alloc (ONT N)).heap.size := by simp
  have hM0 := Lib.hid ((hN.out.below hb0).more hb0.size)
  clear hN
  have hi0 : (0 : Int) ≤ (i : Int) := by omega
  have hi1 : (i : Int) < (N.nl : Int) := by omega
  go_enter Tryz.func81, Tryz.ntmps81
  go_upto_region 1 with fail
  revert hb0 hB0 hl0 hM0
  generalize w.alloc (ONT N) = w0
  intro hb0 hB0 hl0 hM0
  obtain ⟨n0, n1, n2, n3, n4, n5⟩ := id hB0.out
  obtain ⟨bl, ofl, l', hAl, hbl, el, l0, l1, l2⟩ := hM0.out.2.1.at_ hi
  obtain rfl : l = l' := Option.some.inj (hl.out.symm.trans el)
  rw [hAl] at n4
  have hAl' := Lib.hid hAl
  clear hAl el
  have hbl0 := alloc_below w0 (OL3 l)
  have hL0 := Lib.hid (BoxL3.new l w0)
  have hl1 : w0.heap.size < (w0.alloc (OL3 l)).heap.size := by simp
  go_wp2_with fail
  clear n0 n1 n2 n3 n4 n5 l0 l1 l2
  revert hbl0 hL0 hl1
  generalize w0.alloc (OL3 l) = w1
  intro hbl0 hL0 hl1
  have hB1 := Lib.hid (hB0.out.below hbl0 hl0)
  have hM1 := Lib.hid ((hM0.out.below hbl0).more hbl0.size)
  have hw1 := bstep hb0 hbl0 (Nat.le_refl _)
  have hl01 := Nat.lt_of_lt_of_le hl0 hbl0.size
  obtain ⟨n0, n1, n2, n3, n4, n5⟩ := id hB1.out
  obtain ⟨l0, l1, l2⟩ := id hL0.out
  refine (node_lit l.f N.k w.heap.size true hf.out _ n0).mono ?_
  rintro e w' ⟨rfl, rfl⟩
  go_wp2_with fail
  refine (node_lit l.t N.k w.heap.size true ht.out _ n0).mono ?_
  rintro e w' ⟨rfl, rfl⟩
  go_wp2_with fail
  go_ret
  exact ⟨rfl, hw1⟩
set_option maxHeartbeats 4000000 in
set_option maxRecDepth 100000 in
theorem link_5 (N : NT) (i : Nat) (l : L3) (hf : Hid (insB l.f N.k = true)) (ht : Hid (insB l.t N.k = true)) (he : (l.f == l.t) = false) (hp : 0 ≤ l.l) (hq : l.l ≤ 7) (ob : Bool) (hob : Hid (orderL (prevL N.ls i) l = ob)) (m : Int) (hm : Hid (N.ms[i]? = some m)) (him : i < N.nm) (a b : Nat) (hfa : Hid (l.f = a)) (htb : Hid (l.t = b)) (ha : a < N.np) (row : List Int) (hrow : Hid (N.rows[a]? = some row)) (hbr : b < row.length) (p : Int) (hpw : Hid (row[b]? = some p)) (hs : N.nl ≤ 1000000) (hi : i < N.nl) (hl : Hid (N.ls[i]? = some l)) (w : World) (hN : Hid (NetM w w.heap.size N)) :
    Calls Tryz.prog 81 #[.agg #[.int .i64 N.k, .slice N.Ap N.np N.cp, .int .i64 N.z, .int .i64 N.h, .slice N.Al N.nl N.cl, .slice N.Am N.nm N.cm], .int .i64 i] w fun e w' => e = .returned (.int .i64 (if ob = true then 5 else if m < 0 then 2 else if p < m then 2 else 0)) ∧ Below w.heap.size w w' := by
  have hb0 := alloc_below w (ONT N)
  have hB0 := Lib.hid (BoxNT.new N w)
  have hl0 : w.heap.size < (w.alloc (ONT N)).heap.size := by simp
  have hM0 := Lib.hid ((hN.out.below hb0).more hb0.size)
  clear hN
  have hi0 : (0 : Int) ≤ (i : Int) := by omega
  have hi1 : (i : Int) < (N.nl : Int) := by omega
  have ha0 : (0 : Int) ≤ (a : Int) := by omega
  have ha1 : (a : Int) < (N.np : Int) := by omega
  have hbb0 : (0 : Int) ≤ (b : Int) := by omega
  have hbb1 : (b : Int) < (row.length : Int) := by omega
  have hi2 : (i : Int) < (N.nm : Int) := by omega
  go_enter Tryz.func81, Tryz.ntmps81
  go_upto_region 1 with fail
  revert hb0 hB0 hl0 hM0
  generalize w.alloc (ONT N) = w0
  intro hb0 hB0 hl0 hM0
  obtain ⟨n0, n1, n2, n3, n4, n5⟩ := id hB0.out
  obtain ⟨bl, ofl, l', hAl, hbl, el, l0, l1, l2⟩ := hM0.out.2.1.at_ hi
  obtain rfl : l = l' := Option.some.inj (hl.out.symm.trans el)
  rw [hAl] at n4
  have hAl' := Lib.hid hAl
  clear hAl el
  have hbl0 := alloc_below w0 (OL3 l)
  have hL0 := Lib.hid (BoxL3.new l w0)
  have hl1 : w0.heap.size < (w0.alloc (OL3 l)).heap.size := by simp
  go_wp2_with fail
  clear n0 n1 n2 n3 n4 n5 l0 l1 l2
  revert hbl0 hL0 hl1
  generalize w0.alloc (OL3 l) = w1
  intro hbl0 hL0 hl1
  have hB1 := Lib.hid (hB0.out.below hbl0 hl0)
  have hM1 := Lib.hid ((hM0.out.below hbl0).more hbl0.size)
  have hw1 := bstep hb0 hbl0 (Nat.le_refl _)
  have hl01 := Nat.lt_of_lt_of_le hl0 hbl0.size
  obtain ⟨n0, n1, n2, n3, n4, n5⟩ := id hB1.out
  obtain ⟨l0, l1, l2⟩ := id hL0.out
  refine (node_lit l.f N.k w.heap.size true hf.out _ n0).mono ?_
  rintro e w' ⟨rfl, rfl⟩
  go_wp2_with fail
  refine (node_lit l.t N.k w.heap.size true ht.out _ n0).mono ?_
  rintro e w' ⟨rfl, rfl⟩
  go_wp2_with fail
  go_cut [43] from 44 to 56 (fun v wx => v = .bool ob ∧ Below w1.heap.size w1 wx)
  case first =>
    rcases Nat.eq_zero_or_pos i with hi00 | hi00
    · have hob0 : Hid (ob = false) := Lib.hid (by rw [← hob.out, hi00]; rfl)
      clear n0 n1 n2 n3 n4 n5 l0 l1 l2
      have hkn : decide (0 < i) = false := by simp; omega
      clear hi00
      refine wp_region_held_drew (S := (fun _ => True)) (by kernel_rfl) (trivial) (fun hHeld => ?_)
      refine wpAnyH_take (i := 0) (oi := ?o26) (v := ?hv26) ?hi26 (by kernel_rfl) (by kernel_rfl) (by kernel_rfl) ?hq26 ?hy26 (by assumption) ?hr26
      case hi26 => (simp only [List.getElem?_toArray, List.getElem?_cons_zero]; rfl)
      case hq26 => exact fun _ _ _ h => h
      case hy26 => exact Or.inl ⟨by rfl, by intro w hSw; (try dsimp only at hSw); go_simp; try with_reducible rfl⟩
      simp only [Act.put, List.setIfInBounds_toArray, List.set_cons_zero, List.set_cons_succ]
      refine wpAnyH_take (i := 1) (oi := ?o27) (v := .bool false) ?hi27 (by kernel_rfl) (by kernel_rfl) (by kernel_rfl) ?hq27 ?hy27 (by assumption) ?hr27
      case hi27 => (simp only [List.getElem?_toArray, List.getElem?_cons_succ, List.getElem?_cons_zero]; rfl)
      case hq27 => exact fun _ _ _ h => h
      case hy27 => exact Or.inl ⟨by rfl, by intro w hSw; (try dsimp only at hSw); go_simp; try simp only [hkn]; try with_reducible rfl⟩
      simp only [Act.put, List.setIfInBounds_toArray, List.set_cons_zero, List.set_cons_succ]
      refine wpAnyH_take (i := 2) (oi := ?o28) (v := ?hv28) ?hi28 (by kernel_rfl) (by kernel_rfl) (by kernel_rfl) ?hq28 ?hy28 (by assumption) ?hr28
      case hi28 => (simp only [List.getElem?_toArray, List.getElem?_cons_succ, List.getElem?_cons_zero]; rfl)
      case hq28 => exact fun _ _ _ h => h
      case hy28 => exact Or.inl ⟨by rfl, by intro w hSw; (try dsimp only at hSw); go_simp; try with_reducible rfl⟩
      simp only [Act.put, List.setIfInBounds_toArray, List.set_cons_zero, List.set_cons_succ]
      refine wpAnyH_take (i := 3) (oi := ?o29) (v := undef) ?hi29 (by kernel_rfl) (by kernel_rfl) (by kernel_rfl) ?hq29 ?hy29 (by assumption) ?hr29
      case hi29 => (simp only [List.getElem?_toArray, List.getElem?_cons_succ, List.getElem?_cons_zero]; rfl)
      case hq29 => exact fun _ _ _ h => h
      case hy29 => exact Or.inr ⟨by rfl, rfl⟩
      simp only [Act.put, List.setIfInBounds_toArray, List.set_cons_zero, List.set_cons_succ]
      refine wpAnyH_take (i := 4) (oi := ?o30) (v := undef) ?hi30 (by kernel_rfl) (by kernel_rfl) (by kernel_rfl) ?hq30 ?hy30 (by assumption) ?hr30
      case hi30 => (simp only [List.getElem?_toArray, List.getElem?_cons_succ, List.getElem?_cons_zero]; rfl)
      case hq30 => exact fun _ _ _ h => h
      case hy30 => exact Or.inr ⟨by rfl, rfl⟩
      simp only [Act.put, List.setIfInBounds_toArray, List.set_cons_zero, List.set_cons_succ]
      refine wpAnyH_take (i := 5) (oi := ?o31) (v := undef) ?hi31 (by kernel_rfl) (by kernel_rfl) (by kernel_rfl) ?hq31 ?hy31 (by assumption) ?hr31
      case hi31 => (simp only [List.getElem?_toArray, List.getElem?_cons_succ, List.getElem?_cons_zero]; rfl)
      case hq31 => exact fun _ _ _ h => h
      case hy31 => exact Or.inr ⟨by rfl, rfl⟩
      simp only [Act.put, List.setIfInBounds_toArray, List.set_cons_zero, List.set_cons_succ]
      refine wpAnyH_take (i := 6) (oi := ?o32) (v := undef) ?hi32 (by kernel_rfl) (by kernel_rfl) (by kernel_rfl) ?hq32 ?hy32 (by assumption) ?hr32
      case hi32 => (simp only [List.getElem?_toArray, List.getElem?_cons_succ, List.getElem?_cons_zero]; rfl)
      case hq32 => exact fun _ _ _ h => h
      case hy32 => exact Or.inr ⟨by rfl, rfl⟩
      simp only [Act.put, List.setIfInBounds_toArray, List.set_cons_zero, List.set_cons_succ]
      refine wpAnyH_take (i := 7) (oi := ?o33) (v := undef) ?hi33 (by kernel_rfl) (by kernel_rfl) (by kernel_rfl) ?hq33 ?hy33 (by assumption) ?hr33
      case hi33 => (simp only [List.getElem?_toArray, List.getElem?_cons_succ, List.getElem?_cons_zero]; rfl)
      case hq33 => exact fun _ _ _ h => h
      case hy33 => exact Or.inr ⟨by rfl, rfl⟩
      simp only [Act.put, List.setIfInBounds_toArray, List.set_cons_zero, List.set_cons_succ]
      refine wpAnyH_take (i := 8) (oi := ?o34) (v := undef) ?hi34 (by kernel_rfl) (by kernel_rfl) (by kernel_rfl) ?hq34 ?hy34 (by assumption) ?hr34
      case hi34 => (simp only [List.getElem?_toArray, List.getElem?_cons_succ, List.getElem?_cons_zero]; rfl)
      case hq34 => exact fun _ _ _ h => h
      case hy34 => exact Or.inr ⟨by rfl, rfl⟩
      simp only [Act.put, List.setIfInBounds_toArray, List.set_cons_zero, List.set_cons_succ]
      refine wpAnyH_take (i := 9) (oi := ?o35) (v := undef) ?hi35 (by kernel_rfl) (by kernel_rfl) (by kernel_rfl) ?hq35 ?hy35 (by assumption) ?hr35
      case hi35 => (simp only [List.getElem?_toArray, List.getElem?_cons_succ, List.getElem?_cons_zero]; rfl)
      case hq35 => exact fun _ _ _ h => h
      case hy35 => exact Or.inr ⟨by rfl, rfl⟩
      simp only [Act.put, List.setIfInBounds_toArray, List.set_cons_zero, List.set_cons_succ]
      refine wpAnyH_take (i := 10) (oi := ?o36) (v := undef) ?hi36 (by kernel_rfl) (by kernel_rfl) (by kernel_rfl) ?hq36 ?hy36 (by assumption) ?hr36
      case hi36 => (simp only [List.getElem?_toArray, List.getElem?_cons_succ, List.getElem?_cons_zero]; rfl)
      case hq36 => exact fun _ _ _ h => h
      case hy36 => exact Or.inr ⟨by rfl, rfl⟩
      simp only [Act.put, List.setIfInBounds_toArray, List.set_cons_zero, List.set_cons_succ]
      refine wpAnyH_take (i := 11) (oi := ?o37) (v := undef) ?hi37 (by kernel_rfl) (by kernel_rfl) (by kernel_rfl) ?hq37 ?hy37 (by assumption) ?hr37
      case hi37 => (simp only [List.getElem?_toArray, List.getElem?_cons_succ, List.getElem?_cons_zero]; rfl)
      case hq37 => exact fun _ _ _ h => h
      case hy37 => exact Or.inr ⟨by rfl, rfl⟩
      simp only [Act.put, List.setIfInBounds_toArray, List.set_cons_zero, List.set_cons_succ]
      refine wpAnyH_take (i := 12) (oi := ?o38) (v := ?hv38) ?hi38 (by kernel_rfl) (by kernel_rfl) (by kernel_rfl) ?hq38 ?hy38 (by assumption) ?hr38
      case hi38 => (simp only [List.getElem?_toArray, List.getElem?_cons_succ, List.getElem?_cons_zero]; rfl)
      case hq38 => exact fun _ _ _ h => h
      case hy38 => exact Or.inl ⟨by rfl, by intro w hSw; (try dsimp only at hSw); go_simp; try with_reducible rfl⟩
      simp only [Act.put, List.setIfInBounds_toArray, List.set_cons_zero, List.set_cons_succ]
      refine wpAnyH_take (i := 13) (oi := ?o39) (v := ?hv39) ?hi39 (by kernel_rfl) (by kernel_rfl) (by kernel_rfl) ?hq39 ?hy39 (by assumption) ?hr39
      case hi39 => (simp only [List.getElem?_toArray, List.getElem?_cons_succ, List.getElem?_cons_zero]; rfl)
      case hq39 => exact fun _ _ _ h => h
      case hy39 => exact Or.inl ⟨by rfl, by intro w hSw; (try dsimp only at hSw); go_simp; try with_reducible rfl⟩
      simp only [Act.put, List.setIfInBounds_toArray, List.set_cons_zero, List.set_cons_succ]
      refine wpAnyH_done (by kernel_rfl) ?_ _
      go_wp2_with fail
      go_meet
      exact ⟨by rw [hob0.out], (Below.refl _ w1).drew⟩
    · obtain ⟨j, hj'⟩ : ∃ j, i = j + 1 := ⟨i - 1, by omega⟩
      have hj := Lib.hid hj'
      have hjn : j < N.nl := by omega
      have hsub : IntKind.i64.wrap ((i : Int) - 1) = (j : Int) := by rw [IntWalk.i64_in _ (by omega)]; omega
      have hwj : IntKind.i64.wrap (j : Int) = (j : Int) := IntWalk.i64_in _ (by omega)
      have hj0 : (0 : Int) ≤ (j : Int) := by omega
      have hj1 : (j : Int) < (N.nl : Int) := by omega
      clear hj'
      have hjl : j < N.ls.length := by have := hM1.out.2.1.1; omega
      obtain ⟨q, hq⟩ : ∃ q, N.ls[j]? = some q := ⟨_, List.getElem?_eq_getElem hjl⟩
      have hq1 := Lib.hid hq
      clear hq
      obtain ⟨rc, hrcc⟩ : ∃ rc, cmpLk q l = rc := ⟨_, rfl⟩
      have hcmp : decide (0 ≤ rc) = ob := by rw [← hob.out, hj.out, ← hrcc]; show _ = orderL (N.ls[j]?) l; rw [hq1.out]; rfl
      have hrc := Lib.hid hrcc
      clear hrcc
      have hkn : decide (0 < i) = true := by simp; omega
      obtain ⟨bq, ofq, q', hAq, hbq, eq, q0⟩ := hM1.out.2.1.at_ hjn
      obtain rfl : q = q' := Option.some.inj (hq1.out.symm.trans eq)
      obtain ⟨rfl, rfl⟩ : bq = bl ∧ ofq = ofl := by have := hAl'.out; rw [hAq] at this; cases this; exact ⟨rfl, rfl⟩
      clear eq
      rw [hAq] at n4
      clear hAq
      have hQ1 : Hid (RowL3 w1 bq (ofq + j * 3) q) := Lib.hid q0
      clear q0
      have hn4 := Lib.hid n4
      have hk : Hid (∀ W, Below w1.heap.size w1 W → (fun W => W.cell? ⟨w.heap.size, 4, none⟩ = some (.slice (some ⟨bq, ofq, none⟩) N.nl N.cl) ∧ W.cell? ⟨w0.heap.size, 0, none⟩ = some (.int .i64 l.f) ∧ W.cell? ⟨w0.heap.size, 1, none⟩ = some (.int .i64 l.t) ∧ W.cell? ⟨w0.heap.size, 2, none⟩ = some (.int .i64 l.l) ∧ W.cell? ⟨bq, ofq + j * 3, none⟩ = some (.int .i64 q.f) ∧ W.cell? ⟨bq, ofq + j * 3 + 1, none⟩ = some (.int .i64 q.t) ∧ W.cell? ⟨bq, ofq + j * 3 + 2, none⟩ = some (.int .i64 q.l)) W) := Lib.hid (fun W h => by
        obtain ⟨a0, a1, a2⟩ := hL0.out.below h hl1
        obtain ⟨b0, b1, b2⟩ := hQ1.out.below h hbq
        exact ⟨(h.cell (p := ⟨w.heap.size, 4, none⟩) hl01).trans hn4.out, a0, a1, a2, b0, b1, b2⟩)
      clear n0 n1 n2 n3 n4 n5 l0 l1 l2
      refine wp_region_held_drew (S := (fun W => W.cell? ⟨w.heap.size, 4, none⟩ = some (.slice (some ⟨bq, ofq, none⟩) N.nl N.cl) ∧ W.cell? ⟨w0.heap.size, 0, none⟩ = some (.int .i64 l.f) ∧ W.cell? ⟨w0.heap.size, 1, none⟩ = some (.int .i64 l.t) ∧ W.cell? ⟨w0.heap.size, 2, none⟩ = some (.int .i64 l.l) ∧ W.cell? ⟨bq, ofq + j * 3, none⟩ = some (.int .i64 q.f) ∧ W.cell? ⟨bq, ofq + j * 3 + 1, none⟩ = some (.int .i64 q.t) ∧ W.cell? ⟨bq, ofq + j * 3 + 2, none⟩ = some (.int .i64 q.l))) (by kernel_rfl) (hk.out _ (Below.refl _ w1).drew) (fun hHeld => ?_)
      refine wpAnyH_take (i := 0) (oi := ?o40) (v := ?hv40) ?hi40 (by kernel_rfl) (by kernel_rfl) (by kernel_rfl) ?hq40 ?hy40 (by assumption) ?hr40
      case hi40 => (simp only [List.getElem?_toArray, List.getElem?_cons_zero]; rfl)
      case hq40 => exact fun _ _ _ h => h
      case hy40 => exact Or.inl ⟨by rfl, by intro w hSw; (try dsimp only at hSw); go_simp; try with_reducible rfl⟩
      simp only [Act.put, List.setIfInBounds_toArray, List.set_cons_zero, List.set_cons_succ]
      refine wpAnyH_take (i := 1) (oi := ?o41) (v := .bool true) ?hi41 (by kernel_rfl) (by kernel_rfl) (by kernel_rfl) ?hq41 ?hy41 (by assumption) ?hr41
      case hi41 => (simp only [List.getElem?_toArray, List.getElem?_cons_succ, List.getElem?_cons_zero]; rfl)
      case hq41 => exact fun _ _ _ h => h
      case hy41 => exact Or.inl ⟨by rfl, by intro w hSw; (try dsimp only at hSw); go_simp; try simp only [hkn]; try with_reducible rfl⟩
      simp only [Act.put, List.setIfInBounds_toArray, List.set_cons_zero, List.set_cons_succ]
      refine wpAnyH_take (i := 2) (oi := ?o42) (v := ?hv42) ?hi42 (by kernel_rfl) (by kernel_rfl) (by kernel_rfl) ?hq42 ?hy42 (by assumption) ?hr42
      case hi42 => (simp only [List.getElem?_toArray, List.getElem?_cons_succ, List.getElem?_cons_zero]; rfl)
      case hq42 => exact fun _ _ _ h => h
      case hy42 => exact Or.inl ⟨by rfl, by intro w hSw; (try dsimp only at hSw); go_simp; try with_reducible rfl⟩
      simp only [Act.put, List.setIfInBounds_toArray, List.set_cons_zero, List.set_cons_succ]
      refine wpAnyH_take (i := 3) (oi := ?o43) (v := ?hv43) ?hi43 (by kernel_rfl) (by kernel_rfl) (by kernel_rfl) ?hq43 ?hy43 (by assumption) ?hr43
      case hi43 => (simp only [List.getElem?_toArray, List.getElem?_cons_succ, List.getElem?_cons_zero]; rfl)
      case hq43 => exact fun _ _ _ h => h
      case hy43 => exact Or.inl ⟨by rfl, by intro w hSw; (try dsimp only at hSw); go_simp; try with_reducible rfl⟩
      simp only [Act.put, List.setIfInBounds_toArray, List.set_cons_zero, List.set_cons_succ]
      refine wpAnyH_take (i := 4) (oi := ?o44) (v := ?hv44) ?hi44 (by kernel_rfl) (by kernel_rfl) (by kernel_rfl) ?hq44 ?hy44 (by assumption) ?hr44
      case hi44 => (simp only [List.getElem?_toArray, List.getElem?_cons_succ, List.getElem?_cons_zero]; rfl)
      case hq44 => exact fun _ _ _ h => h
      case hy44 => exact Or.inl ⟨by rfl, by intro w hSw; (try dsimp only at hSw); go_simp; try with_reducible rfl⟩
      simp only [Act.put, List.setIfInBounds_toArray, List.set_cons_zero, List.set_cons_succ]
      refine wpAnyH_take (i := 5) (oi := ?o45) (v := ?hv45) ?hi45 (by kernel_rfl) (by kernel_rfl) (by kernel_rfl) ?hq45 ?hy45 (by assumption) ?hr45
      case hi45 => (simp only [List.getElem?_toArray, List.getElem?_cons_succ, List.getElem?_cons_zero]; rfl)
      case hq45 => exact fun _ _ _ h => h
      case hy45 => exact Or.inl ⟨by rfl, by intro w hSw; (try dsimp only at hSw); go_simp; try with_reducible rfl⟩
      simp only [Act.put, List.setIfInBounds_toArray, List.set_cons_zero, List.set_cons_succ]
      refine wpAnyH_take (i := 6) (oi := ?o46) (v := .int .i64 (j : Int)) ?hi46 (by kernel_rfl) (by kernel_rfl) (by kernel_rfl) ?hq46 ?hy46 (by assumption) ?hr46
      case hi46 => (simp only [List.getElem?_toArray, List.getElem?_cons_succ, List.getElem?_cons_zero]; rfl)
      case hq46 => exact fun _ _ _ h => h
      case hy46 => exact Or.inl ⟨by rfl, by intro w hSw; (try dsimp only at hSw); go_simp; try simp only [hsub, hwj]; try with_reducible rfl⟩
      simp only [Act.put, List.setIfInBounds_toArray, List.set_cons_zero, List.set_cons_succ]
      refine wpAnyH_take (i := 7) (oi := ?o47) (v := ?hv47) ?hi47 (by kernel_rfl) (by kernel_rfl) (by kernel_rfl) ?hq47 ?hy47 (by assumption) ?hr47
      case hi47 => (simp only [List.getElem?_toArray, List.getElem?_cons_succ, List.getElem?_cons_zero]; rfl)
      case hq47 => exact fun _ _ _ h => h
      case hy47 => exact Or.inl ⟨by rfl, by intro w hSw; (try dsimp only at hSw); go_simp; try with_reducible rfl⟩
      simp only [Act.put, List.setIfInBounds_toArray, List.set_cons_zero, List.set_cons_succ]
      refine wpAnyH_take (i := 8) (oi := ?o48) (v := ?hv48) ?hi48 (by kernel_rfl) (by kernel_rfl) (by kernel_rfl) ?hq48 ?hy48 (by assumption) ?hr48
      case hi48 => (simp only [List.getElem?_toArray, List.getElem?_cons_succ, List.getElem?_cons_zero]; rfl)
      case hq48 => exact fun _ _ _ h => h
      case hy48 => exact Or.inl ⟨by rfl, by intro w hSw; (try dsimp only at hSw); go_simp; try with_reducible rfl⟩
      simp only [Act.put, List.setIfInBounds_toArray, List.set_cons_zero, List.set_cons_succ]
      refine wpAnyH_take (i := 9) (oi := ?o49) (v := ?hv49) ?hi49 (by kernel_rfl) (by kernel_rfl) (by kernel_rfl) ?hq49 ?hy49 (by assumption) ?hr49
      case hi49 => (simp only [List.getElem?_toArray, List.getElem?_cons_succ, List.getElem?_cons_zero]; rfl)
      case hq49 => exact fun _ _ _ h => h
      case hy49 => exact Or.inl ⟨by rfl, by intro w hSw; (try dsimp only at hSw); go_simp; try with_reducible rfl⟩
      simp only [Act.put, List.setIfInBounds_toArray, List.set_cons_zero, List.set_cons_succ]
      refine wpAnyH_ready (rs := [10]) (by kernel_rfl) (by simp) ?_
      refine (AllReadyH.cons (o := ?o50) ?hi50 (fun K hK => ?hr50) AllReadyH.nil)
      case hi50 => (simp only [List.getElem?_toArray, List.getElem?_cons_succ, List.getElem?_cons_zero]; rfl)
      go_simp
      refine (cmpLk_lit q l rc hrc _).mono ?_
      rintro e w2 ⟨rfl, hb2⟩
      have hb2d : Below w1.heap.size w1 w2 := (Below.refl _ w1).drew.trans hb2
      go_wp2_with fail
      refine hK.out _ _ ?_ (fun hHeld => ?_)
      · exact hk.out _ hb2d
      clear hK K
      try simp only [Act.put, List.setIfInBounds_toArray, List.set_cons_zero, List.set_cons_succ]
      refine wpAnyH_take (i := 11) (oi := ?o51) (v := .bool ob) ?hi51 (by kernel_rfl) (by kernel_rfl) (by kernel_rfl) ?hq51 ?hy51 (by assumption) ?hr51
      case hi51 => (simp only [List.getElem?_toArray, List.getElem?_cons_succ, List.getElem?_cons_zero]; rfl)
      case hq51 => exact fun _ _ _ h => h
      case hy51 => exact Or.inl ⟨by rfl, by intro w hSw; (try dsimp only at hSw); go_simp; try simp only [hcmp]; try with_reducible rfl⟩
      simp only [Act.put, List.setIfInBounds_toArray, List.set_cons_zero, List.set_cons_succ]
      refine wpAnyH_take (i := 12) (oi := ?o52) (v := ?hv52) ?hi52 (by kernel_rfl) (by kernel_rfl) (by kernel_rfl) ?hq52 ?hy52 (by assumption) ?hr52
      case hi52 => (simp only [List.getElem?_toArray, List.getElem?_cons_succ, List.getElem?_cons_zero]; rfl)
      case hq52 => exact fun _ _ _ h => h
      case hy52 => exact Or.inl ⟨by rfl, by intro w hSw; (try dsimp only at hSw); go_simp; try with_reducible rfl⟩
      simp only [Act.put, List.setIfInBounds_toArray, List.set_cons_zero, List.set_cons_succ]
      refine wpAnyH_take (i := 13) (oi := ?o53) (v := ?hv53) ?hi53 (by kernel_rfl) (by kernel_rfl) (by kernel_rfl) ?hq53 ?hy53 (by assumption) ?hr53
      case hi53 => (simp only [List.getElem?_toArray, List.getElem?_cons_succ, List.getElem?_cons_zero]; rfl)
      case hq53 => exact fun _ _ _ h => h
      case hy53 => exact Or.inl ⟨by rfl, by intro w hSw; (try dsimp only at hSw); go_simp; try with_reducible rfl⟩
      simp only [Act.put, List.setIfInBounds_toArray, List.set_cons_zero, List.set_cons_succ]
      refine wpAnyH_done (by kernel_rfl) ?_ _
      go_wp2_with fail
      go_meet
      exact ⟨rfl, hb2d⟩
  case rest =>
    obtain ⟨rfl, hcut⟩ := hcut
    cases ob
    · clear hob
      obtain ⟨bm, om, m', hAm, hbm, em, m0⟩ := hM1.out.2.2.at_ him
      obtain rfl : m = m' := Option.some.inj (hm.out.symm.trans em)
      have n5' := hB1.out.2.2.2.2.2
      rw [hAm] at n5'
      clear hAm em
      have hm0 := Lib.hid m0
      have hn5 := Lib.hid n5'
      clear m0 n5'
      obtain ⟨bp, op, row', Ar, cr, hAp, hbp, er, r0, hRr, _⟩ := hM1.out.1.at_ ha
      obtain rfl : row = row' := Option.some.inj (hrow.out.symm.trans er)
      obtain ⟨br, or, p', hAr, hbr2, ep, p0⟩ := hRr.at_ hbr
      obtain rfl : p = p' := Option.some.inj (hpw.out.symm.trans ep)
      rw [hAr] at r0
      have n1' := hB1.out.2.1
      rw [hAp] at n1'
      have hlf := hL0.out.1
      have hlt2 := hL0.out.2.1
      rw [hfa.out] at hlf
      rw [htb.out] at hlt2
      have hn1 := Lib.hid n1'
      have hr0 := Lib.hid r0
      have hp0 := Lib.hid p0
      have hlf' := Lib.hid hlf
      have hlt' := Lib.hid hlt2
      clear hAp er hAr ep hRr r0 n1' p0 hlf hlt2
      have hk7 : Hid (∀ W, Below w1.heap.size w1 W → (fun W => W.cell? ⟨w.heap.size, 5, none⟩ = some (.slice (some ⟨bm, om, none⟩) N.nm N.cm) ∧ W.cell? ⟨bm, om + i, none⟩ = some (.int .i64 m) ∧ W.cell? ⟨w.heap.size, 1, none⟩ = some (.slice (some ⟨bp, op, none⟩) N.np N.cp) ∧ W.cell? ⟨w0.heap.size, 0, none⟩ = some (.int .i64 a) ∧ W.cell? ⟨w0.heap.size, 1, none⟩ = some (.int .i64 b) ∧ W.cell? ⟨bp, op + a, none⟩ = some (.slice (some ⟨br, or, none⟩) row.length cr) ∧ W.cell? ⟨br, or + b, none⟩ = some (.int .i64 p)) W) := Lib.hid (fun W h => ⟨(h.cell (p := ⟨w.heap.size, 5, none⟩) hl01).trans hn5.out, (h.cell (p := ⟨bm, _, none⟩) hbm).trans hm0.out, (h.cell (p := ⟨w.heap.size, 1, none⟩) hl01).trans hn1.out, (h.cell (p := ⟨w0.heap.size, 0, none⟩) hl1).trans hlf'.out, (h.cell (p := ⟨w0.heap.size, 1, none⟩) hl1).trans hlt'.out, (h.cell (p := ⟨bp, _, none⟩) hbp).trans hr0.out, (h.cell (p := ⟨br, _, none⟩) hbr2).trans hp0.out⟩)
      clear n0 n1 n2 n3 n4 n5 l0 l1 l2
      go_wp2_with fail
      by_cases hmz : m < 0
      · have hmn : decide (m < 0) = true := by simp; omega
        refine wp_region_held_drew (S := (fun W => W.cell? ⟨w.heap.size, 5, none⟩ = some (.slice (some ⟨bm, om, none⟩) N.nm N.cm) ∧ W.cell? ⟨bm, om + i, none⟩ = some (.int .i64 m) ∧ W.cell? ⟨w.heap.size, 1, none⟩ = some (.slice (some ⟨bp, op, none⟩) N.np N.cp) ∧ W.cell? ⟨w0.heap.size, 0, none⟩ = some (.int .i64 a) ∧ W.cell? ⟨w0.heap.size, 1, none⟩ = some (.int .i64 b) ∧ W.cell? ⟨bp, op + a, none⟩ = some (.slice (some ⟨br, or, none⟩) row.length cr) ∧ W.cell? ⟨br, or + b, none⟩ = some (.int .i64 p))) (by kernel_rfl) (hk7.out _ hcut.drew) (fun hHeld => ?_)
        refine wpAnyH_take (i := 0) (oi := ?o54) (v := ?hv54) ?hi54 (by kernel_rfl) (by kernel_rfl) (by kernel_rfl) ?hq54 ?hy54 (by assumption) ?hr54
        case hi54 => (simp only [List.getElem?_toArray, List.getElem?_cons_zero]; rfl)
        case hq54 => exact fun _ _ _ h => h
        case hy54 => exact Or.inl ⟨by rfl, by intro w hSw; (try dsimp only at hSw); go_simp; try with_reducible rfl⟩
        simp only [Act.put, List.setIfInBounds_toArray, List.set_cons_zero, List.set_cons_succ]
        refine wpAnyH_take (i := 1) (oi := ?o55) (v := ?hv55) ?hi55 (by kernel_rfl) (by kernel_rfl) (by kernel_rfl) ?hq55 ?hy55 (by assumption) ?hr55
        case hi55 => (simp only [List.getElem?_toArray, List.getElem?_cons_succ, List.getElem?_cons_zero]; rfl)
        case hq55 => exact fun _ _ _ h => h
        case hy55 => exact Or.inl ⟨by rfl, by intro w hSw; (try dsimp only at hSw); go_simp; try with_reducible rfl⟩
        simp only [Act.put, List.setIfInBounds_toArray, List.set_cons_zero, List.set_cons_succ]
        refine wpAnyH_take (i := 2) (oi := ?o56) (v := ?hv56) ?hi56 (by kernel_rfl) (by kernel_rfl) (by kernel_rfl) ?hq56 ?hy56 (by assumption) ?hr56
        case hi56 => (simp only [List.getElem?_toArray, List.getElem?_cons_succ, List.getElem?_cons_zero]; rfl)
        case hq56 => exact fun _ _ _ h => h
        case hy56 => exact Or.inl ⟨by rfl, by intro w hSw; (try dsimp only at hSw); go_simp; try with_reducible rfl⟩
        simp only [Act.put, List.setIfInBounds_toArray, List.set_cons_zero, List.set_cons_succ]
        refine wpAnyH_take (i := 3) (oi := ?o57) (v := ?hv57) ?hi57 (by kernel_rfl) (by kernel_rfl) (by kernel_rfl) ?hq57 ?hy57 (by assumption) ?hr57
        case hi57 => (simp only [List.getElem?_toArray, List.getElem?_cons_succ, List.getElem?_cons_zero]; rfl)
        case hq57 => exact fun _ _ _ h => h
        case hy57 => exact Or.inl ⟨by rfl, by intro w hSw; (try dsimp only at hSw); go_simp; try with_reducible rfl⟩
        simp only [Act.put, List.setIfInBounds_toArray, List.set_cons_zero, List.set_cons_succ]
        refine wpAnyH_take (i := 4) (oi := ?o58) (v := ?hv58) ?hi58 (by kernel_rfl) (by kernel_rfl) (by kernel_rfl) ?hq58 ?hy58 (by assumption) ?hr58
        case hi58 => (simp only [List.getElem?_toArray, List.getElem?_cons_succ, List.getElem?_cons_zero]; rfl)
        case hq58 => exact fun _ _ _ h => h
        case hy58 => exact Or.inl ⟨by rfl, by intro w hSw; (try dsimp only at hSw); go_simp; try with_reducible rfl⟩
        simp only [Act.put, List.setIfInBounds_toArray, List.set_cons_zero, List.set_cons_succ]
        refine wpAnyH_take (i := 5) (oi := ?o59) (v := .bool true) ?hi59 (by kernel_rfl) (by kernel_rfl) (by kernel_rfl) ?hq59 ?hy59 (by assumption) ?hr59
        case hi59 => (simp only [List.getElem?_toArray, List.getElem?_cons_succ, List.getElem?_cons_zero]; rfl)
        case hq59 => exact fun _ _ _ h => h
        case hy59 => exact Or.inl ⟨by rfl, by intro w hSw; (try dsimp only at hSw); go_simp; try simp only [hmn]; try with_reducible rfl⟩
        simp only [Act.put, List.setIfInBounds_toArray, List.set_cons_zero, List.set_cons_succ]
        refine wpAnyH_take (i := 6) (oi := ?o60) (v := ?hv60) ?hi60 (by kernel_rfl) (by kernel_rfl) (by kernel_rfl) ?hq60 ?hy60 (by assumption) ?hr60
        case hi60 => (simp only [List.getElem?_toArray, List.getElem?_cons_succ, List.getElem?_cons_zero]; rfl)
        case hq60 => exact fun _ _ _ h => h
        case hy60 => exact Or.inl ⟨by rfl, by intro w hSw; (try dsimp only at hSw); go_simp; try with_reducible rfl⟩
        simp only [Act.put, List.setIfInBounds_toArray, List.set_cons_zero, List.set_cons_succ]
        refine wpAnyH_take (i := 7) (oi := ?o61) (v := undef) ?hi61 (by kernel_rfl) (by kernel_rfl) (by kernel_rfl) ?hq61 ?hy61 (by assumption) ?hr61
        case hi61 => (simp only [List.getElem?_toArray, List.getElem?_cons_succ, List.getElem?_cons_zero]; rfl)
        case hq61 => exact fun _ _ _ h => h
        case hy61 => exact Or.inr ⟨by rfl, rfl⟩
        simp only [Act.put, List.setIfInBounds_toArray, List.set_cons_zero, List.set_cons_succ]
        refine wpAnyH_take (i := 8) (oi := ?o62) (v := undef) ?hi62 (by kernel_rfl) (by kernel_rfl) (by kernel_rfl) ?hq62 ?hy62 (by assumption) ?hr62
        case hi62 => (simp only [List.getElem?_toArray, List.getElem?_cons_succ, List.getElem?_cons_zero]; rfl)
        case hq62 => exact fun _ _ _ h => h
        case hy62 => exact Or.inr ⟨by rfl, rfl⟩
        simp only [Act.put, List.setIfInBounds_toArray, List.set_cons_zero, List.set_cons_succ]
        refine wpAnyH_take (i := 9) (oi := ?o63) (v := undef) ?hi63 (by kernel_rfl) (by kernel_rfl) (by kernel_rfl) ?hq63 ?hy63 (by assumption) ?hr63
        case hi63 => (simp only [List.getElem?_toArray, List.getElem?_cons_succ, List.getElem?_cons_zero]; rfl)
        case hq63 => exact fun _ _ _ h => h
        case hy63 => exact Or.inr ⟨by rfl, rfl⟩
        simp only [Act.put, List.setIfInBounds_toArray, List.set_cons_zero, List.set_cons_succ]
        refine wpAnyH_take (i := 10) (oi := ?o64) (v := undef) ?hi64 (by kernel_rfl) (by kernel_rfl) (by kernel_rfl) ?hq64 ?hy64 (by assumption) ?hr64
        case hi64 => (simp only [List.getElem?_toArray, List.getElem?_cons_succ, List.getElem?_cons_zero]; rfl)
        case hq64 => exact fun _ _ _ h => h
        case hy64 => exact Or.inr ⟨by rfl, rfl⟩
        simp only [Act.put, List.setIfInBounds_toArray, List.set_cons_zero, List.set_cons_succ]
        refine wpAnyH_take (i := 11) (oi := ?o65) (v := undef) ?hi65 (by kernel_rfl) (by kernel_rfl) (by kernel_rfl) ?hq65 ?hy65 (by assumption) ?hr65
        case hi65 => (simp only [List.getElem?_toArray, List.getElem?_cons_succ, List.getElem?_cons_zero]; rfl)
        case hq65 => exact fun _ _ _ h => h
        case hy65 => exact Or.inr ⟨by rfl, rfl⟩
        simp only [Act.put, List.setIfInBounds_toArray, List.set_cons_zero, List.set_cons_succ]
        refine wpAnyH_take (i := 12) (oi := ?o66) (v := undef) ?hi66 (by kernel_rfl) (by kernel_rfl) (by kernel_rfl) ?hq66 ?hy66 (by assumption) ?hr66
        case hi66 => (simp only [List.getElem?_toArray, List.getElem?_cons_succ, List.getElem?_cons_zero]; rfl)
        case hq66 => exact fun _ _ _ h => h
        case hy66 => exact Or.inr ⟨by rfl, rfl⟩
        simp only [Act.put, List.setIfInBounds_toArray, List.set_cons_zero, List.set_cons_succ]
        refine wpAnyH_take (i := 13) (oi := ?o67) (v := undef) ?hi67 (by kernel_rfl) (by kernel_rfl) (by kernel_rfl) ?hq67 ?hy67 (by assumption) ?hr67
        case hi67 => (simp only [List.getElem?_toArray, List.getElem?_cons_succ, List.getElem?_cons_zero]; rfl)
        case hq67 => exact fun _ _ _ h => h
        case hy67 => exact Or.inr ⟨by rfl, rfl⟩
        simp only [Act.put, List.setIfInBounds_toArray, List.set_cons_zero, List.set_cons_succ]
        refine wpAnyH_take (i := 14) (oi := ?o68) (v := undef) ?hi68 (by kernel_rfl) (by kernel_rfl) (by kernel_rfl) ?hq68 ?hy68 (by assumption) ?hr68
        case hi68 => (simp only [List.getElem?_toArray, List.getElem?_cons_succ, List.getElem?_cons_zero]; rfl)
        case hq68 => exact fun _ _ _ h => h
        case hy68 => exact Or.inr ⟨by rfl, rfl⟩
        simp only [Act.put, List.setIfInBounds_toArray, List.set_cons_zero, List.set_cons_succ]
        refine wpAnyH_take (i := 15) (oi := ?o69) (v := undef) ?hi69 (by kernel_rfl) (by kernel_rfl) (by kernel_rfl) ?hq69 ?hy69 (by assumption) ?hr69
        case hi69 => (simp only [List.getElem?_toArray, List.getElem?_cons_succ, List.getElem?_cons_zero]; rfl)
        case hq69 => exact fun _ _ _ h => h
        case hy69 => exact Or.inr ⟨by rfl, rfl⟩
        simp only [Act.put, List.setIfInBounds_toArray, List.set_cons_zero, List.set_cons_succ]
        refine wpAnyH_take (i := 16) (oi := ?o70) (v := undef) ?hi70 (by kernel_rfl) (by kernel_rfl) (by kernel_rfl) ?hq70 ?hy70 (by assumption) ?hr70
        case hi70 => (simp only [List.getElem?_toArray, List.getElem?_cons_succ, List.getElem?_cons_zero]; rfl)
        case hq70 => exact fun _ _ _ h => h
        case hy70 => exact Or.inr ⟨by rfl, rfl⟩
        simp only [Act.put, List.setIfInBounds_toArray, List.set_cons_zero, List.set_cons_succ]
        refine wpAnyH_take (i := 17) (oi := ?o71) (v := undef) ?hi71 (by kernel_rfl) (by kernel_rfl) (by kernel_rfl) ?hq71 ?hy71 (by assumption) ?hr71
        case hi71 => (simp only [List.getElem?_toArray, List.getElem?_cons_succ, List.getElem?_cons_zero]; rfl)
        case hq71 => exact fun _ _ _ h => h
        case hy71 => exact Or.inr ⟨by rfl, rfl⟩
        simp only [Act.put, List.setIfInBounds_toArray, List.set_cons_zero, List.set_cons_succ]
        refine wpAnyH_take (i := 18) (oi := ?o72) (v := undef) ?hi72 (by kernel_rfl) (by kernel_rfl) (by kernel_rfl) ?hq72 ?hy72 (by assumption) ?hr72
        case hi72 => (simp only [List.getElem?_toArray, List.getElem?_cons_succ, List.getElem?_cons_zero]; rfl)
        case hq72 => exact fun _ _ _ h => h
        case hy72 => exact Or.inr ⟨by rfl, rfl⟩
        simp only [Act.put, List.setIfInBounds_toArray, List.set_cons_zero, List.set_cons_succ]
        refine wpAnyH_take (i := 19) (oi := ?o73) (v := undef) ?hi73 (by kernel_rfl) (by kernel_rfl) (by kernel_rfl) ?hq73 ?hy73 (by assumption) ?hr73
        case hi73 => (simp only [List.getElem?_toArray, List.getElem?_cons_succ, List.getElem?_cons_zero]; rfl)
        case hq73 => exact fun _ _ _ h => h
        case hy73 => exact Or.inr ⟨by rfl, rfl⟩
        simp only [Act.put, List.setIfInBounds_toArray, List.set_cons_zero, List.set_cons_succ]
        refine wpAnyH_take (i := 20) (oi := ?o74) (v := undef) ?hi74 (by kernel_rfl) (by kernel_rfl) (by kernel_rfl) ?hq74 ?hy74 (by assumption) ?hr74
        case hi74 => (simp only [List.getElem?_toArray, List.getElem?_cons_succ, List.getElem?_cons_zero]; rfl)
        case hq74 => exact fun _ _ _ h => h
        case hy74 => exact Or.inr ⟨by rfl, rfl⟩
        simp only [Act.put, List.setIfInBounds_toArray, List.set_cons_zero, List.set_cons_succ]
        refine wpAnyH_take (i := 21) (oi := ?o75) (v := undef) ?hi75 (by kernel_rfl) (by kernel_rfl) (by kernel_rfl) ?hq75 ?hy75 (by assumption) ?hr75
        case hi75 => (simp only [List.getElem?_toArray, List.getElem?_cons_succ, List.getElem?_cons_zero]; rfl)
        case hq75 => exact fun _ _ _ h => h
        case hy75 => exact Or.inr ⟨by rfl, rfl⟩
        simp only [Act.put, List.setIfInBounds_toArray, List.set_cons_zero, List.set_cons_succ]
        refine wpAnyH_take (i := 22) (oi := ?o76) (v := undef) ?hi76 (by kernel_rfl) (by kernel_rfl) (by kernel_rfl) ?hq76 ?hy76 (by assumption) ?hr76
        case hi76 => (simp only [List.getElem?_toArray, List.getElem?_cons_succ, List.getElem?_cons_zero]; rfl)
        case hq76 => exact fun _ _ _ h => h
        case hy76 => exact Or.inr ⟨by rfl, rfl⟩
        simp only [Act.put, List.setIfInBounds_toArray, List.set_cons_zero, List.set_cons_succ]
        refine wpAnyH_take (i := 23) (oi := ?o77) (v := ?hv77) ?hi77 (by kernel_rfl) (by kernel_rfl) (by kernel_rfl) ?hq77 ?hy77 (by assumption) ?hr77
        case hi77 => (simp only [List.getElem?_toArray, List.getElem?_cons_succ, List.getElem?_cons_zero]; rfl)
        case hq77 => exact fun _ _ _ h => h
        case hy77 => exact Or.inl ⟨by rfl, by intro w hSw; (try dsimp only at hSw); go_simp; try with_reducible rfl⟩
        simp only [Act.put, List.setIfInBounds_toArray, List.set_cons_zero, List.set_cons_succ]
        refine wpAnyH_take (i := 24) (oi := ?o78) (v := ?hv78) ?hi78 (by kernel_rfl) (by kernel_rfl) (by kernel_rfl) ?hq78 ?hy78 (by assumption) ?hr78
        case hi78 => (simp only [List.getElem?_toArray, List.getElem?_cons_succ, List.getElem?_cons_zero]; rfl)
        case hq78 => exact fun _ _ _ h => h
        case hy78 => exact Or.inl ⟨by rfl, by intro w hSw; (try dsimp only at hSw); go_simp; try with_reducible rfl⟩
        simp only [Act.put, List.setIfInBounds_toArray, List.set_cons_zero, List.set_cons_succ]
        refine wpAnyH_done (by kernel_rfl) ?_ _
        go_wp2_with fail
        go_ret
        exact ⟨rfl, bstep hw1 hcut.drew (Nat.le_refl _)⟩
      · have hmn : decide (m < 0) = false := by simp; omega
        by_cases hpm : p < m
        · have hpm2 : decide (p < m) = true := by simp; omega
          refine wp_region_held_drew (S := (fun W => W.cell? ⟨w.heap.size, 5, none⟩ = some (.slice (some ⟨bm, om, none⟩) N.nm N.cm) ∧ W.cell? ⟨bm, om + i, none⟩ = some (.int .i64 m) ∧ W.cell? ⟨w.heap.size, 1, none⟩ = some (.slice (some ⟨bp, op, none⟩) N.np N.cp) ∧ W.cell? ⟨w0.heap.size, 0, none⟩ = some (.int .i64 a) ∧ W.cell? ⟨w0.heap.size, 1, none⟩ = some (.int .i64 b) ∧ W.cell? ⟨bp, op + a, none⟩ = some (.slice (some ⟨br, or, none⟩) row.length cr) ∧ W.cell? ⟨br, or + b, none⟩ = some (.int .i64 p))) (by kernel_rfl) (hk7.out _ hcut.drew) (fun hHeld => ?_)
          refine wpAnyH_take (i := 0) (oi := ?o79) (v := ?hv79) ?hi79 (by kernel_rfl) (by kernel_rfl) (by kernel_rfl) ?hq79 ?hy79 (by assumption) ?hr79
          case hi79 => (simp only [List.getElem?_toArray, List.getElem?_cons_zero]; rfl)
          case hq79 => exact fun _ _ _ h => h
          case hy79 => exact Or.inl ⟨by rfl, by intro w hSw; (try dsimp only at hSw); go_simp; try with_reducible rfl⟩
          simp only [Act.put, List.setIfInBounds_toArray, List.set_cons_zero, List.set_cons_succ]
          refine wpAnyH_take (i := 1) (oi := ?o80) (v := ?hv80) ?hi80 (by kernel_rfl) (by kernel_rfl) (by kernel_rfl) ?hq80 ?hy80 (by assumption) ?hr80
          case hi80 => (simp only [List.getElem?_toArray, List.getElem?_cons_succ, List.getElem?_cons_zero]; rfl)
          case hq80 => exact fun _ _ _ h => h
          case hy80 => exact Or.inl ⟨by rfl, by intro w hSw; (try dsimp only at hSw); go_simp; try with_reducible rfl⟩
          simp only [Act.put, List.setIfInBounds_toArray, List.set_cons_zero, List.set_cons_succ]
          refine wpAnyH_take (i := 2) (oi := ?o81) (v := ?hv81) ?hi81 (by kernel_rfl) (by kernel_rfl) (by kernel_rfl) ?hq81 ?hy81 (by assumption) ?hr81
          case hi81 => (simp only [List.getElem?_toArray, List.getElem?_cons_succ, List.getElem?_cons_zero]; rfl)
          case hq81 => exact fun _ _ _ h => h
          case hy81 => exact Or.inl ⟨by rfl, by intro w hSw; (try dsimp only at hSw); go_simp; try with_reducible rfl⟩
          simp only [Act.put, List.setIfInBounds_toArray, List.set_cons_zero, List.set_cons_succ]
          refine wpAnyH_take (i := 3) (oi := ?o82) (v := ?hv82) ?hi82 (by kernel_rfl) (by kernel_rfl) (by kernel_rfl) ?hq82 ?hy82 (by assumption) ?hr82
          case hi82 => (simp only [List.getElem?_toArray, List.getElem?_cons_succ, List.getElem?_cons_zero]; rfl)
          case hq82 => exact fun _ _ _ h => h
          case hy82 => exact Or.inl ⟨by rfl, by intro w hSw; (try dsimp only at hSw); go_simp; try with_reducible rfl⟩
          simp only [Act.put, List.setIfInBounds_toArray, List.set_cons_zero, List.set_cons_succ]
          refine wpAnyH_take (i := 4) (oi := ?o83) (v := ?hv83) ?hi83 (by kernel_rfl) (by kernel_rfl) (by kernel_rfl) ?hq83 ?hy83 (by assumption) ?hr83
          case hi83 => (simp only [List.getElem?_toArray, List.getElem?_cons_succ, List.getElem?_cons_zero]; rfl)
          case hq83 => exact fun _ _ _ h => h
          case hy83 => exact Or.inl ⟨by rfl, by intro w hSw; (try dsimp only at hSw); go_simp; try with_reducible rfl⟩
          simp only [Act.put, List.setIfInBounds_toArray, List.set_cons_zero, List.set_cons_succ]
          refine wpAnyH_take (i := 5) (oi := ?o84) (v := .bool false) ?hi84 (by kernel_rfl) (by kernel_rfl) (by kernel_rfl) ?hq84 ?hy84 (by assumption) ?hr84
          case hi84 => (simp only [List.getElem?_toArray, List.getElem?_cons_succ, List.getElem?_cons_zero]; rfl)
          case hq84 => exact fun _ _ _ h => h
          case hy84 => exact Or.inl ⟨by rfl, by intro w hSw; (try dsimp only at hSw); go_simp; try simp only [hmn]; try with_reducible rfl⟩
          simp only [Act.put, List.setIfInBounds_toArray, List.set_cons_zero, List.set_cons_succ]
          refine wpAnyH_take (i := 6) (oi := ?o85) (v := ?hv85) ?hi85 (by kernel_rfl) (by kernel_rfl) (by kernel_rfl) ?hq85 ?hy85 (by assumption) ?hr85
          case hi85 => (simp only [List.getElem?_toArray, List.getElem?_cons_succ, List.getElem?_cons_zero]; rfl)
          case hq85 => exact fun _ _ _ h => h
          case hy85 => exact Or.inl ⟨by rfl, by intro w hSw; (try dsimp only at hSw); go_simp; try with_reducible rfl⟩
          simp only [Act.put, List.setIfInBounds_toArray, List.set_cons_zero, List.set_cons_succ]
          refine wpAnyH_take (i := 7) (oi := ?o86) (v := ?hv86) ?hi86 (by kernel_rfl) (by kernel_rfl) (by kernel_rfl) ?hq86 ?hy86 (by assumption) ?hr86
          case hi86 => (simp only [List.getElem?_toArray, List.getElem?_cons_succ, List.getElem?_cons_zero]; rfl)
          case hq86 => exact fun _ _ _ h => h
          case hy86 => exact Or.inl ⟨by rfl, by intro w hSw; (try dsimp only at hSw); go_simp; try with_reducible rfl⟩
          simp only [Act.put, List.setIfInBounds_toArray, List.set_cons_zero, List.set_cons_succ]
          refine wpAnyH_take (i := 8) (oi := ?o87) (v := ?hv87) ?hi87 (by kernel_rfl) (by kernel_rfl) (by kernel_rfl) ?hq87 ?hy87 (by assumption) ?hr87
          case hi87 => (simp only [List.getElem?_toArray, List.getElem?_cons_succ, List.getElem?_cons_zero]; rfl)
          case hq87 => exact fun _ _ _ h => h
          case hy87 => exact Or.inl ⟨by rfl, by intro w hSw; (try dsimp only at hSw); go_simp; try with_reducible rfl⟩
          simp only [Act.put, List.setIfInBounds_toArray, List.set_cons_zero, List.set_cons_succ]
          refine wpAnyH_take (i := 9) (oi := ?o88) (v := ?hv88) ?hi88 (by kernel_rfl) (by kernel_rfl) (by kernel_rfl) ?hq88 ?hy88 (by assumption) ?hr88
          case hi88 => (simp only [List.getElem?_toArray, List.getElem?_cons_succ, List.getElem?_cons_zero]; rfl)
          case hq88 => exact fun _ _ _ h => h
          case hy88 => exact Or.inl ⟨by rfl, by intro w hSw; (try dsimp only at hSw); go_simp; try with_reducible rfl⟩
          simp only [Act.put, List.setIfInBounds_toArray, List.set_cons_zero, List.set_cons_succ]
          refine wpAnyH_take (i := 10) (oi := ?o89) (v := ?hv89) ?hi89 (by kernel_rfl) (by kernel_rfl) (by kernel_rfl) ?hq89 ?hy89 (by assumption) ?hr89
          case hi89 => (simp only [List.getElem?_toArray, List.getElem?_cons_succ, List.getElem?_cons_zero]; rfl)
          case hq89 => exact fun _ _ _ h => h
          case hy89 => exact Or.inl ⟨by rfl, by intro w hSw; (try dsimp only at hSw); go_simp; try with_reducible rfl⟩
          simp only [Act.put, List.setIfInBounds_toArray, List.set_cons_zero, List.set_cons_succ]
          refine wpAnyH_take (i := 11) (oi := ?o90) (v := ?hv90) ?hi90 (by kernel_rfl) (by kernel_rfl) (by kernel_rfl) ?hq90 ?hy90 (by assumption) ?hr90
          case hi90 => (simp only [List.getElem?_toArray, List.getElem?_cons_succ, List.getElem?_cons_zero]; rfl)
          case hq90 => exact fun _ _ _ h => h
          case hy90 => exact Or.inl ⟨by rfl, by intro w hSw; (try dsimp only at hSw); go_simp; try with_reducible rfl⟩
          simp only [Act.put, List.setIfInBounds_toArray, List.set_cons_zero, List.set_cons_succ]
          refine wpAnyH_take (i := 12) (oi := ?o91) (v := ?hv91) ?hi91 (by kernel_rfl) (by kernel_rfl) (by kernel_rfl) ?hq91 ?hy91 (by assumption) ?hr91
          case hi91 => (simp only [List.getElem?_toArray, List.getElem?_cons_succ, List.getElem?_cons_zero]; rfl)
          case hq91 => exact fun _ _ _ h => h
          case hy91 => exact Or.inl ⟨by rfl, by intro w hSw; (try dsimp only at hSw); go_simp; try with_reducible rfl⟩
          simp only [Act.put, List.setIfInBounds_toArray, List.set_cons_zero, List.set_cons_succ]
          refine wpAnyH_take (i := 13) (oi := ?o92) (v := ?hv92) ?hi92 (by kernel_rfl) (by kernel_rfl) (by kernel_rfl) ?hq92 ?hy92 (by assumption) ?hr92
          case hi92 => (simp only [List.getElem?_toArray, List.getElem?_cons_succ, List.getElem?_cons_zero]; rfl)
          case hq92 => exact fun _ _ _ h => h
          case hy92 => exact Or.inl ⟨by rfl, by intro w hSw; (try dsimp only at hSw); go_simp; try with_reducible rfl⟩
          simp only [Act.put, List.setIfInBounds_toArray, List.set_cons_zero, List.set_cons_succ]
          refine wpAnyH_take (i := 14) (oi := ?o93) (v := ?hv93) ?hi93 (by kernel_rfl) (by kernel_rfl) (by kernel_rfl) ?hq93 ?hy93 (by assumption) ?hr93
          case hi93 => (simp only [List.getElem?_toArray, List.getElem?_cons_succ, List.getElem?_cons_zero]; rfl)
          case hq93 => exact fun _ _ _ h => h
          case hy93 => exact Or.inl ⟨by rfl, by intro w hSw; (try dsimp only at hSw); go_simp; try with_reducible rfl⟩
          simp only [Act.put, List.setIfInBounds_toArray, List.set_cons_zero, List.set_cons_succ]
          refine wpAnyH_take (i := 15) (oi := ?o94) (v := ?hv94) ?hi94 (by kernel_rfl) (by kernel_rfl) (by kernel_rfl) ?hq94 ?hy94 (by assumption) ?hr94
          case hi94 => (simp only [List.getElem?_toArray, List.getElem?_cons_succ, List.getElem?_cons_zero]; rfl)
          case hq94 => exact fun _ _ _ h => h
          case hy94 => exact Or.inl ⟨by rfl, by intro w hSw; (try dsimp only at hSw); go_simp; try with_reducible rfl⟩
          simp only [Act.put, List.setIfInBounds_toArray, List.set_cons_zero, List.set_cons_succ]
          refine wpAnyH_take (i := 16) (oi := ?o95) (v := ?hv95) ?hi95 (by kernel_rfl) (by kernel_rfl) (by kernel_rfl) ?hq95 ?hy95 (by assumption) ?hr95
          case hi95 => (simp only [List.getElem?_toArray, List.getElem?_cons_succ, List.getElem?_cons_zero]; rfl)
          case hq95 => exact fun _ _ _ h => h
          case hy95 => exact Or.inl ⟨by rfl, by intro w hSw; (try dsimp only at hSw); go_simp; try with_reducible rfl⟩
          simp only [Act.put, List.setIfInBounds_toArray, List.set_cons_zero, List.set_cons_succ]
          refine wpAnyH_take (i := 17) (oi := ?o96) (v := ?hv96) ?hi96 (by kernel_rfl) (by kernel_rfl) (by kernel_rfl) ?hq96 ?hy96 (by assumption) ?hr96
          case hi96 => (simp only [List.getElem?_toArray, List.getElem?_cons_succ, List.getElem?_cons_zero]; rfl)
          case hq96 => exact fun _ _ _ h => h
          case hy96 => exact Or.inl ⟨by rfl, by intro w hSw; (try dsimp only at hSw); go_simp; try with_reducible rfl⟩
          simp only [Act.put, List.setIfInBounds_toArray, List.set_cons_zero, List.set_cons_succ]
          refine wpAnyH_take (i := 18) (oi := ?o97) (v := ?hv97) ?hi97 (by kernel_rfl) (by kernel_rfl) (by kernel_rfl) ?hq97 ?hy97 (by assumption) ?hr97
          case hi97 => (simp only [List.getElem?_toArray, List.getElem?_cons_succ, List.getElem?_cons_zero]; rfl)
          case hq97 => exact fun _ _ _ h => h
          case hy97 => exact Or.inl ⟨by rfl, by intro w hSw; (try dsimp only at hSw); go_simp; try with_reducible rfl⟩
          simp only [Act.put, List.setIfInBounds_toArray, List.set_cons_zero, List.set_cons_succ]
          refine wpAnyH_take (i := 19) (oi := ?o98) (v := ?hv98) ?hi98 (by kernel_rfl) (by kernel_rfl) (by kernel_rfl) ?hq98 ?hy98 (by assumption) ?hr98
          case hi98 => (simp only [List.getElem?_toArray, List.getElem?_cons_succ, List.getElem?_cons_zero]; rfl)
          case hq98 => exact fun _ _ _ h => h
          case hy98 => exact Or.inl ⟨by rfl, by intro w hSw; (try dsimp only at hSw); go_simp; try with_reducible rfl⟩
          simp only [Act.put, List.setIfInBounds_toArray, List.set_cons_zero, List.set_cons_succ]
          refine wpAnyH_take (i := 20) (oi := ?o99) (v := ?hv99) ?hi99 (by kernel_rfl) (by kernel_rfl) (by kernel_rfl) ?hq99 ?hy99 (by assumption) ?hr99
          case hi99 => (simp only [List.getElem?_toArray, List.getElem?_cons_succ, List.getElem?_cons_zero]; rfl)
          case hq99 => exact fun _ _ _ h => h
          case hy99 => exact Or.inl ⟨by rfl, by intro w hSw; (try dsimp only at hSw); go_simp; try with_reducible rfl⟩
          simp only [Act.put, List.setIfInBounds_toArray, List.set_cons_zero, List.set_cons_succ]
          refine wpAnyH_take (i := 21) (oi := ?o100) (v := ?hv100) ?hi100 (by kernel_rfl) (by kernel_rfl) (by kernel_rfl) ?hq100 ?hy100 (by assumption) ?hr100
          case hi100 => (simp only [List.getElem?_toArray, List.getElem?_cons_succ, List.getElem?_cons_zero]; rfl)
          case hq100 => exact fun _ _ _ h => h
          case hy100 => exact Or.inl ⟨by rfl, by intro w hSw; (try dsimp only at hSw); go_simp; try with_reducible rfl⟩
          simp only [Act.put, List.setIfInBounds_toArray, List.set_cons_zero, List.set_cons_succ]
          refine wpAnyH_take (i := 22) (oi := ?o101) (v := ?hv101) ?hi101 (by kernel_rfl) (by kernel_rfl) (by kernel_rfl) ?hq101 ?hy101 (by assumption) ?hr101
          case hi101 => (simp only [List.getElem?_toArray, List.getElem?_cons_succ, List.getElem?_cons_zero]; rfl)
          case hq101 => exact fun _ _ _ h => h
          case hy101 => exact Or.inl ⟨by rfl, by intro w hSw; (try dsimp only at hSw); go_simp; try with_reducible rfl⟩
          simp only [Act.put, List.setIfInBounds_toArray, List.set_cons_zero, List.set_cons_succ]
          refine wpAnyH_take (i := 23) (oi := ?o102) (v := ?hv102) ?hi102 (by kernel_rfl) (by kernel_rfl) (by kernel_rfl) ?hq102 ?hy102 (by assumption) ?hr102
          case hi102 => (simp only [List.getElem?_toArray, List.getElem?_cons_succ, List.getElem?_cons_zero]; rfl)
          case hq102 => exact fun _ _ _ h => h
          case hy102 => exact Or.inl ⟨by rfl, by intro w hSw; (try dsimp only at hSw); go_simp; try with_reducible rfl⟩
          simp only [Act.put, List.setIfInBounds_toArray, List.set_cons_zero, List.set_cons_succ]
          refine wpAnyH_take (i := 24) (oi := ?o103) (v := ?hv103) ?hi103 (by kernel_rfl) (by kernel_rfl) (by kernel_rfl) ?hq103 ?hy103 (by assumption) ?hr103
          case hi103 => (simp only [List.getElem?_toArray, List.getElem?_cons_succ, List.getElem?_cons_zero]; rfl)
          case hq103 => exact fun _ _ _ h => h
          case hy103 => exact Or.inl ⟨by rfl, by intro w hSw; (try dsimp only at hSw); go_simp; try with_reducible rfl⟩
          simp only [Act.put, List.setIfInBounds_toArray, List.set_cons_zero, List.set_cons_succ]
          refine wpAnyH_done (by kernel_rfl) ?_ _
          go_wp2_with fail
          go_ret
          exact ⟨rfl, bstep hw1 hcut.drew (Nat.le_refl _)⟩
        · have hpm2 : decide (p < m) = false := by simp; omega
          refine wp_region_held_drew (S := (fun W => W.cell? ⟨w.heap.size, 5, none⟩ = some (.slice (some ⟨bm, om, none⟩) N.nm N.cm) ∧ W.cell? ⟨bm, om + i, none⟩ = some (.int .i64 m) ∧ W.cell? ⟨w.heap.size, 1, none⟩ = some (.slice (some ⟨bp, op, none⟩) N.np N.cp) ∧ W.cell? ⟨w0.heap.size, 0, none⟩ = some (.int .i64 a) ∧ W.cell? ⟨w0.heap.size, 1, none⟩ = some (.int .i64 b) ∧ W.cell? ⟨bp, op + a, none⟩ = some (.slice (some ⟨br, or, none⟩) row.length cr) ∧ W.cell? ⟨br, or + b, none⟩ = some (.int .i64 p))) (by kernel_rfl) (hk7.out _ hcut.drew) (fun hHeld => ?_)
          refine wpAnyH_take (i := 0) (oi := ?o104) (v := ?hv104) ?hi104 (by kernel_rfl) (by kernel_rfl) (by kernel_rfl) ?hq104 ?hy104 (by assumption) ?hr104
          case hi104 => (simp only [List.getElem?_toArray, List.getElem?_cons_zero]; rfl)
          case hq104 => exact fun _ _ _ h => h
          case hy104 => exact Or.inl ⟨by rfl, by intro w hSw; (try dsimp only at hSw); go_simp; try with_reducible rfl⟩
          simp only [Act.put, List.setIfInBounds_toArray, List.set_cons_zero, List.set_cons_succ]
          refine wpAnyH_take (i := 1) (oi := ?o105) (v := ?hv105) ?hi105 (by kernel_rfl) (by kernel_rfl) (by kernel_rfl) ?hq105 ?hy105 (by assumption) ?hr105
          case hi105 => (simp only [List.getElem?_toArray, List.getElem?_cons_succ, List.getElem?_cons_zero]; rfl)
          case hq105 => exact fun _ _ _ h => h
          case hy105 => exact Or.inl ⟨by rfl, by intro w hSw; (try dsimp only at hSw); go_simp; try with_reducible rfl⟩
          simp only [Act.put, List.setIfInBounds_toArray, List.set_cons_zero, List.set_cons_succ]
          refine wpAnyH_take (i := 2) (oi := ?o106) (v := ?hv106) ?hi106 (by kernel_rfl) (by kernel_rfl) (by kernel_rfl) ?hq106 ?hy106 (by assumption) ?hr106
          case hi106 => (simp only [List.getElem?_toArray, List.getElem?_cons_succ, List.getElem?_cons_zero]; rfl)
          case hq106 => exact fun _ _ _ h => h
          case hy106 => exact Or.inl ⟨by rfl, by intro w hSw; (try dsimp only at hSw); go_simp; try with_reducible rfl⟩
          simp only [Act.put, List.setIfInBounds_toArray, List.set_cons_zero, List.set_cons_succ]
          refine wpAnyH_take (i := 3) (oi := ?o107) (v := ?hv107) ?hi107 (by kernel_rfl) (by kernel_rfl) (by kernel_rfl) ?hq107 ?hy107 (by assumption) ?hr107
          case hi107 => (simp only [List.getElem?_toArray, List.getElem?_cons_succ, List.getElem?_cons_zero]; rfl)
          case hq107 => exact fun _ _ _ h => h
          case hy107 => exact Or.inl ⟨by rfl, by intro w hSw; (try dsimp only at hSw); go_simp; try with_reducible rfl⟩
          simp only [Act.put, List.setIfInBounds_toArray, List.set_cons_zero, List.set_cons_succ]
          refine wpAnyH_take (i := 4) (oi := ?o108) (v := ?hv108) ?hi108 (by kernel_rfl) (by kernel_rfl) (by kernel_rfl) ?hq108 ?hy108 (by assumption) ?hr108
          case hi108 => (simp only [List.getElem?_toArray, List.getElem?_cons_succ, List.getElem?_cons_zero]; rfl)
          case hq108 => exact fun _ _ _ h => h
          case hy108 => exact Or.inl ⟨by rfl, by intro w hSw; (try dsimp only at hSw); go_simp; try with_reducible rfl⟩
          simp only [Act.put, List.setIfInBounds_toArray, List.set_cons_zero, List.set_cons_succ]
          refine wpAnyH_take (i := 5) (oi := ?o109) (v := .bool false) ?hi109 (by kernel_rfl) (by kernel_rfl) (by kernel_rfl) ?hq109 ?hy109 (by assumption) ?hr109
          case hi109 => (simp only [List.getElem?_toArray, List.getElem?_cons_succ, List.getElem?_cons_zero]; rfl)
          case hq109 => exact fun _ _ _ h => h
          case hy109 => exact Or.inl ⟨by rfl, by intro w hSw; (try dsimp only at hSw); go_simp; try simp only [hmn]; try with_reducible rfl⟩
          simp only [Act.put, List.setIfInBounds_toArray, List.set_cons_zero, List.set_cons_succ]
          refine wpAnyH_take (i := 6) (oi := ?o110) (v := ?hv110) ?hi110 (by kernel_rfl) (by kernel_rfl) (by kernel_rfl) ?hq110 ?hy110 (by assumption) ?hr110
          case hi110 => (simp only [List.getElem?_toArray, List.getElem?_cons_succ, List.getElem?_cons_zero]; rfl)
          case hq110 => exact fun _ _ _ h => h
          case hy110 => exact Or.inl ⟨by rfl, by intro w hSw; (try dsimp only at hSw); go_simp; try with_reducible rfl⟩
          simp only [Act.put, List.setIfInBounds_toArray, List.set_cons_zero, List.set_cons_succ]
          refine wpAnyH_take (i := 7) (oi := ?o111) (v := ?hv111) ?hi111 (by kernel_rfl) (by kernel_rfl) (by kernel_rfl) ?hq111 ?hy111 (by assumption) ?hr111
          case hi111 => (simp only [List.getElem?_toArray, List.getElem?_cons_succ, List.getElem?_cons_zero]; rfl)
          case hq111 => exact fun _ _ _ h => h
          case hy111 => exact Or.inl ⟨by rfl, by intro w hSw; (try dsimp only at hSw); go_simp; try with_reducible rfl⟩
          simp only [Act.put, List.setIfInBounds_toArray, List.set_cons_zero, List.set_cons_succ]
          refine wpAnyH_take (i := 8) (oi := ?o112) (v := ?hv112) ?hi112 (by kernel_rfl) (by kernel_rfl) (by kernel_rfl) ?hq112 ?hy112 (by assumption) ?hr112
          case hi112 => (simp only [List.getElem?_toArray, List.getElem?_cons_succ, List.getElem?_cons_zero]; rfl)
          case hq112 => exact fun _ _ _ h => h
          case hy112 => exact Or.inl ⟨by rfl, by intro w hSw; (try dsimp only at hSw); go_simp; try with_reducible rfl⟩
          simp only [Act.put, List.setIfInBounds_toArray, List.set_cons_zero, List.set_cons_succ]
          refine wpAnyH_take (i := 9) (oi := ?o113) (v := ?hv113) ?hi113 (by kernel_rfl) (by kernel_rfl) (by kernel_rfl) ?hq113 ?hy113 (by assumption) ?hr113
          case hi113 => (simp only [List.getElem?_toArray, List.getElem?_cons_succ, List.getElem?_cons_zero]; rfl)
          case hq113 => exact fun _ _ _ h => h
          case hy113 => exact Or.inl ⟨by rfl, by intro w hSw; (try dsimp only at hSw); go_simp; try with_reducible rfl⟩
          simp only [Act.put, List.setIfInBounds_toArray, List.set_cons_zero, List.set_cons_succ]
          refine wpAnyH_take (i := 10) (oi := ?o114) (v := ?hv114) ?hi114 (by kernel_rfl) (by kernel_rfl) (by kernel_rfl) ?hq114 ?hy114 (by assumption) ?hr114
          case hi114 => (simp only [List.getElem?_toArray, List.getElem?_cons_succ, List.getElem?_cons_zero]; rfl)
          case hq114 => exact fun _ _ _ h => h
          case hy114 => exact Or.inl ⟨by rfl, by intro w hSw; (try dsimp only at hSw); go_simp; try with_reducible rfl⟩
          simp only [Act.put, List.setIfInBounds_toArray, List.set_cons_zero, List.set_cons_succ]
          refine wpAnyH_take (i := 11) (oi := ?o115) (v := ?hv115) ?hi115 (by kernel_rfl) (by kernel_rfl) (by kernel_rfl) ?hq115 ?hy115 (by assumption) ?hr115
          case hi115 => (simp only [List.getElem?_toArray, List.getElem?_cons_succ, List.getElem?_cons_zero]; rfl)
          case hq115 => exact fun _ _ _ h => h
          case hy115 => exact Or.inl ⟨by rfl, by intro w hSw; (try dsimp only at hSw); go_simp; try with_reducible rfl⟩
          simp only [Act.put, List.setIfInBounds_toArray, List.set_cons_zero, List.set_cons_succ]
          refine wpAnyH_take (i := 12) (oi := ?o116) (v := ?hv116) ?hi116 (by kernel_rfl) (by kernel_rfl) (by kernel_rfl) ?hq116 ?hy116 (by assumption) ?hr116
          case hi116 => (simp only [List.getElem?_toArray, List.getElem?_cons_succ, List.getElem?_cons_zero]; rfl)
          case hq116 => exact fun _ _ _ h => h
          case hy116 => exact Or.inl ⟨by rfl, by intro w hSw; (try dsimp only at hSw); go_simp; try with_reducible rfl⟩
          simp only [Act.put, List.setIfInBounds_toArray, List.set_cons_zero, List.set_cons_succ]
          refine wpAnyH_take (i := 13) (oi := ?o117) (v := ?hv117) ?hi117 (by kernel_rfl) (by kernel_rfl) (by kernel_rfl) ?hq117 ?hy117 (by assumption) ?hr117
          case hi117 => (simp only [List.getElem?_toArray, List.getElem?_cons_succ, List.getElem?_cons_zero]; rfl)
          case hq117 => exact fun _ _ _ h => h
          case hy117 => exact Or.inl ⟨by rfl, by intro w hSw; (try dsimp only at hSw); go_simp; try with_reducible rfl⟩
          simp only [Act.put, List.setIfInBounds_toArray, List.set_cons_zero, List.set_cons_succ]
          refine wpAnyH_take (i := 14) (oi := ?o118) (v := ?hv118) ?hi118 (by kernel_rfl) (by kernel_rfl) (by kernel_rfl) ?hq118 ?hy118 (by assumption) ?hr118
          case hi118 => (simp only [List.getElem?_toArray, List.getElem?_cons_succ, List.getElem?_cons_zero]; rfl)
          case hq118 => exact fun _ _ _ h => h
          case hy118 => exact Or.inl ⟨by rfl, by intro w hSw; (try dsimp only at hSw); go_simp; try with_reducible rfl⟩
          simp only [Act.put, List.setIfInBounds_toArray, List.set_cons_zero, List.set_cons_succ]
          refine wpAnyH_take (i := 15) (oi := ?o119) (v := ?hv119) ?hi119 (by kernel_rfl) (by kernel_rfl) (by kernel_rfl) ?hq119 ?hy119 (by assumption) ?hr119
          case hi119 => (simp only [List.getElem?_toArray, List.getElem?_cons_succ, List.getElem?_cons_zero]; rfl)
          case hq119 => exact fun _ _ _ h => h
          case hy119 => exact Or.inl ⟨by rfl, by intro w hSw; (try dsimp only at hSw); go_simp; try with_reducible rfl⟩
          simp only [Act.put, List.setIfInBounds_toArray, List.set_cons_zero, List.set_cons_succ]
          refine wpAnyH_take (i := 16) (oi := ?o120) (v := ?hv120) ?hi120 (by kernel_rfl) (by kernel_rfl) (by kernel_rfl) ?hq120 ?hy120 (by assumption) ?hr120
          case hi120 => (simp only [List.getElem?_toArray, List.getElem?_cons_succ, List.getElem?_cons_zero]; rfl)
          case hq120 => exact fun _ _ _ h => h
          case hy120 => exact Or.inl ⟨by rfl, by intro w hSw; (try dsimp only at hSw); go_simp; try with_reducible rfl⟩
          simp only [Act.put, List.setIfInBounds_toArray, List.set_cons_zero, List.set_cons_succ]
          refine wpAnyH_take (i := 17) (oi := ?o121) (v := ?hv121) ?hi121 (by kernel_rfl) (by kernel_rfl) (by kernel_rfl) ?hq121 ?hy121 (by assumption) ?hr121
          case hi121 => (simp only [List.getElem?_toArray, List.getElem?_cons_succ, List.getElem?_cons_zero]; rfl)
          case hq121 => exact fun _ _ _ h => h
          case hy121 => exact Or.inl ⟨by rfl, by intro w hSw; (try dsimp only at hSw); go_simp; try with_reducible rfl⟩
          simp only [Act.put, List.setIfInBounds_toArray, List.set_cons_zero, List.set_cons_succ]
          refine wpAnyH_take (i := 18) (oi := ?o122) (v := ?hv122) ?hi122 (by kernel_rfl) (by kernel_rfl) (by kernel_rfl) ?hq122 ?hy122 (by assumption) ?hr122
          case hi122 => (simp only [List.getElem?_toArray, List.getElem?_cons_succ, List.getElem?_cons_zero]; rfl)
          case hq122 => exact fun _ _ _ h => h
          case hy122 => exact Or.inl ⟨by rfl, by intro w hSw; (try dsimp only at hSw); go_simp; try with_reducible rfl⟩
          simp only [Act.put, List.setIfInBounds_toArray, List.set_cons_zero, List.set_cons_succ]
          refine wpAnyH_take (i := 19) (oi := ?o123) (v := ?hv123) ?hi123 (by kernel_rfl) (by kernel_rfl) (by kernel_rfl) ?hq123 ?hy123 (by assumption) ?hr123
          case hi123 => (simp only [List.getElem?_toArray, List.getElem?_cons_succ, List.getElem?_cons_zero]; rfl)
          case hq123 => exact fun _ _ _ h => h
          case hy123 => exact Or.inl ⟨by rfl, by intro w hSw; (try dsimp only at hSw); go_simp; try with_reducible rfl⟩
          simp only [Act.put, List.setIfInBounds_toArray, List.set_cons_zero, List.set_cons_succ]
          refine wpAnyH_take (i := 20) (oi := ?o124) (v := ?hv124) ?hi124 (by kernel_rfl) (by kernel_rfl) (by kernel_rfl) ?hq124 ?hy124 (by assumption) ?hr124
          case hi124 => (simp only [List.getElem?_toArray, List.getElem?_cons_succ, List.getElem?_cons_zero]; rfl)
          case hq124 => exact fun _ _ _ h => h
          case hy124 => exact Or.inl ⟨by rfl, by intro w hSw; (try dsimp only at hSw); go_simp; try with_reducible rfl⟩
          simp only [Act.put, List.setIfInBounds_toArray, List.set_cons_zero, List.set_cons_succ]
          refine wpAnyH_take (i := 21) (oi := ?o125) (v := ?hv125) ?hi125 (by kernel_rfl) (by kernel_rfl) (by kernel_rfl) ?hq125 ?hy125 (by assumption) ?hr125
          case hi125 => (simp only [List.getElem?_toArray, List.getElem?_cons_succ, List.getElem?_cons_zero]; rfl)
          case hq125 => exact fun _ _ _ h => h
          case hy125 => exact Or.inl ⟨by rfl, by intro w hSw; (try dsimp only at hSw); go_simp; try with_reducible rfl⟩
          simp only [Act.put, List.setIfInBounds_toArray, List.set_cons_zero, List.set_cons_succ]
          refine wpAnyH_take (i := 22) (oi := ?o126) (v := ?hv126) ?hi126 (by kernel_rfl) (by kernel_rfl) (by kernel_rfl) ?hq126 ?hy126 (by assumption) ?hr126
          case hi126 => (simp only [List.getElem?_toArray, List.getElem?_cons_succ, List.getElem?_cons_zero]; rfl)
          case hq126 => exact fun _ _ _ h => h
          case hy126 => exact Or.inl ⟨by rfl, by intro w hSw; (try dsimp only at hSw); go_simp; try with_reducible rfl⟩
          simp only [Act.put, List.setIfInBounds_toArray, List.set_cons_zero, List.set_cons_succ]
          refine wpAnyH_take (i := 23) (oi := ?o127) (v := ?hv127) ?hi127 (by kernel_rfl) (by kernel_rfl) (by kernel_rfl) ?hq127 ?hy127 (by assumption) ?hr127
          case hi127 => (simp only [List.getElem?_toArray, List.getElem?_cons_succ, List.getElem?_cons_zero]; rfl)
          case hq127 => exact fun _ _ _ h => h
          case hy127 => exact Or.inl ⟨by rfl, by intro w hSw; (try dsimp only at hSw); go_simp; try with_reducible rfl⟩
          simp only [Act.put, List.setIfInBounds_toArray, List.set_cons_zero, List.set_cons_succ]
          refine wpAnyH_take (i := 24) (oi := ?o128) (v := ?hv128) ?hi128 (by kernel_rfl) (by kernel_rfl) (by kernel_rfl) ?hq128 ?hy128 (by assumption) ?hr128
          case hi128 => (simp only [List.getElem?_toArray, List.getElem?_cons_succ, List.getElem?_cons_zero]; rfl)
          case hq128 => exact fun _ _ _ h => h
          case hy128 => exact Or.inl ⟨by rfl, by intro w hSw; (try dsimp only at hSw); go_simp; try with_reducible rfl⟩
          simp only [Act.put, List.setIfInBounds_toArray, List.set_cons_zero, List.set_cons_succ]
          refine wpAnyH_done (by kernel_rfl) ?_ _
          go_wp2_with fail
          go_ret
          exact ⟨rfl, bstep hw1 hcut.drew (Nat.le_refl _)⟩
    · clear hob
      go_wp2_with fail
      go_ret
      exact ⟨rfl, bstep hw1 hcut (Nat.le_refl _)⟩
end Go.Proofs.YtnddjcadkbjjhaaGreatDoor
