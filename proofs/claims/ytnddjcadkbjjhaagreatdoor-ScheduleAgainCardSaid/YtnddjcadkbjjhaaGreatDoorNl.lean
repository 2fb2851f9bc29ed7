/-
  CHAPTER 35: disturbed, the cells that share a place.
-/
import Derived.Test.YtnddjcadkbjjhaaGreatDoorNk
namespace Go.Proofs.YtnddjcadkbjjhaaGreatDoor
open Go.RowKit Go.Shelf

attribute [local go_sem] Oper.semAt_some
/-- What a round keeps: the cells below n₀, but those of some blocks. -/
def KE (n₀ : Nat) (X : Nat → Prop) (A B : World) : Prop := A.heap.size ≤ B.heap.size ∧ ∀ p : Addr, p.block < n₀ → ¬ X p.block → B.cell? p = A.cell? p
theorem KE.refl (n₀ : Nat) (X : Nat → Prop) (A : World) : KE n₀ X A A := ⟨Nat.le_refl _, fun _ _ _ => rfl⟩
theorem KE.trans {n₀ : Nat} {X : Nat → Prop} {A B C : World} (h : KE n₀ X A B) (k : KE n₀ X B C) : KE n₀ X A C := ⟨Nat.le_trans h.1 k.1, fun _ hp hx => (k.2 _ hp hx).trans (h.2 _ hp hx)⟩
theorem KE.of_below {n₀ : Nat} {X : Nat → Prop} {A B : World} (h : Below n₀ A B) : KE n₀ X A B := ⟨h.size, fun _ hp _ => h.cell hp⟩
theorem KE.alloc {n₀ : Nat} {X : Nat → Prop} {A B : World} (h : KE n₀ X A B) (hB : n₀ ≤ B.heap.size) (o : Obj) : KE n₀ X A (B.alloc o) := h.trans (KE.of_below ((Below.refl n₀ B).alloc hB o))
theorem KE.set {n₀ : Nat} {X : Nat → Prop} {A B : World} (h : KE n₀ X A B) (a : Addr) (ha : X a.block) (v : Value) : KE n₀ X A (B.setCell a v) :=
  ⟨by simpa [World.setCell] using h.1, fun p hp hx => (World.cell?_setCell_other _ _ _ _ (fun e => hx (by rw [← e]; exact ha))).trans (h.2 p hp hx)⟩
set_option maxRecDepth 100000 in
set_option maxHeartbeats 2000000 in
theorem in2_in (F : Fence) (n : Nat) (hf : F.fn 102) (hro : F.round = none) (hn : 1 ≤ n) (l Bs Bn n₀ nc c : Nat) (X : Nat → Prop) (A : Option Addr) (L O sl : Int) (cs : List C5) (hlen : cs.length ≤ 1000000) (hBn : Bn < n₀) (hBX : ¬ X Bn) (hnc : nc ≤ n₀) (hcX : ∀ b, b < nc → ¬ X b) (J Jx : List (Fin cs.length) → World → Prop)
    (hJa : ∀ pre W o, J pre W → J pre (W.alloc o))
    (hY : ∀ pre (x : Fin cs.length) W, J pre W → pre.length < cs.length → YieldAt F (n - 1) Tryz.prog l #[.int .i64 ((x : Nat) : Int)] W fun e W' =>
      (e = .returned (.bool true) ∧ J (pre ++ [x]) W' ∧ KE n₀ X W W') ∨ (e = .returned (.bool false) ∧ Jx (pre ++ [x]) W'))
    (W : World) (hn₀ : n₀ ≤ W.heap.size) (hS : Hid (BoxS W Bs L O (.slice A cs.length c))) (hsl : W.cell? ⟨Bn, 0, none⟩ = some (.int .i64 sl)) (hC : Hid (Cells W nc A cs.length cs)) (h0 : J [] W) :
    CallsIn F n Tryz.prog 102 #[.func (.yield l) #[] #[], .pointer (some ⟨Bs, 0, none⟩), .pointer (some ⟨Bn, 0, none⟩)] W fun e W' => (∃ v, e = .returned v) ∧
      ((∃ ys, ys = hits sl cs ∧ J ys W') ∨ (∃ pre, (∃ k, k ≤ cs.length ∧ pre = hitsTo sl cs k) ∧ Jx pre W')) := by
  have hsl := Lib.hid hsl
  obtain ⟨s0, s1, s2⟩ := id hS.out
  refine callsIn_of_wp Tryz.func102 rfl hf ?_ hro
  simp only [Tryz.ntmps102, List.size_toArray, List.length_cons, List.length_nil, Nat.reduceAdd, Nat.reduceSub, Array.replicate_succ, Array.replicate_zero, List.push_toArray, List.append_toArray, List.nil_append, List.cons_append]
  gi_wp2
  clear s0 s1 s2
  gi_loopw [9] (fun i wr => ∃ k : Nat, k ≤ cs.length ∧ i = .int .i64 k ∧ J (hitsTo sl cs k) wr ∧ KE n₀ X W wr)
    (fun i _ => cs.length - (intOf i).toNat)
  case atStart => exact ⟨0, Nat.zero_le _, rfl, h0, KE.refl _ _ _⟩
  case round =>
    obtain ⟨k, hk, rfl, hJs, hnx⟩ := hrel
    by_cases hlt : k < cs.length
    · obtain ⟨b, off, x, rfl, hb, ex, x0, x1, x2, x3, x4⟩ := (hC.out.keep (fun p hp => hnx.2 p (by omega) (hcX _ hp))).at_ hlt
      have hxs : Hid (cs[k] = x) := Lib.hid (Option.some.inj ((List.getElem?_eq_getElem hlt).symm.trans ex))
      have hsuc := Lib.hid (hitsTo_succ sl cs k hlt)
      have hsl' := (hnx.2 ⟨Bn, 0, none⟩ hBn hBX).trans hsl.out
      have hsl2 := (World.cell?_alloc_lt wr (N51 x) ⟨Bn, 0, none⟩ (Nat.lt_of_lt_of_le hBn (Nat.le_trans hn₀ hnx.1))).trans hsl'
      have hnx' : KE n₀ X W (wr.alloc (N51 x)) := hnx.alloc (Nat.le_trans hn₀ hnx.1) _
      have hJ1 := Lib.hid (hJa _ _ (N51 x) hJs)
      have hBlt : Bn < wr.heap.size := Nat.lt_of_lt_of_le hBn (Nat.le_trans hn₀ hnx.1)
      have hBne : Bn ≠ wr.heap.size := Nat.ne_of_lt hBlt
      clear ex
      by_cases hh : x.s = sl
      · have hsuc' : Hid (hitsTo sl cs (k + 1) = hitsTo sl cs k ++ [⟨k, hlt⟩]) := Lib.hid (by rw [hsuc.out, hxs.out, if_pos hh])
        subst hh
        obtain ⟨fn, tmps, assign, body, hy, hR⟩ := hY _ ⟨k, hlt⟩ (wr.alloc (N51 x)) hJ1.out (Nat.lt_of_le_of_lt (hitsTo_le _ _ _) hlt)
        dsimp only at hy
        gi_wp2
        refine hR.mono ?_
        rintro e W3 (⟨rfl, hJ3, hk3⟩ | ⟨rfl, hJx3⟩)
        · gi_wp2
          go_roundw
          case rel => exact ⟨k + 1, by omega, by go_num, by rw [hsuc'.out]; exact hJ3, hnx'.trans hk3⟩
          case measure => simp [intOf]; omega
        · gi_wp2
          refine bodyPost_ret (results_none rfl _ _ _) rfl ?_
          exact ⟨⟨_, rfl⟩, .inr ⟨_, ⟨k + 1, by omega, hsuc'.out.symm⟩, hJx3⟩⟩
      · have hb1 : (x.s == sl) = false := by simpa using hh
        have hsuc' : Hid (hitsTo sl cs (k + 1) = hitsTo sl cs k) := Lib.hid (by rw [hsuc.out, hxs.out, if_neg hh, List.append_nil])
        have hh := Lib.hid hh
        gi_wp2
        refine ⟨fun _ h => (by cases h), ?_⟩
        gi_wp2
        go_roundw
        case rel => exact ⟨k + 1, by omega, by go_num, by rw [hsuc'.out]; exact hJ1.out, hnx'⟩
        case measure => simp [intOf]; omega
    · obtain rfl : k = cs.length := by omega
      gi_wp2
      go_end0
      exact ⟨⟨_, rfl⟩, .inl ⟨_, rfl, hJs⟩⟩
theorem in2_stops (F : Fence) (n : Nat) (hf : F.fn 102) (hro : F.round = none) (hn : 1 ≤ n) (Bs Bn n₀ nc c : Nat) (X : Nat → Prop) (A : Option Addr) (L O sl : Int) (cs : List C5) (hlen : cs.length ≤ 1000000) (w : World) (hBs : Bs < w.heap.size) (hBn : Bn < n₀) (hBX : ¬ X Bn) (hnc : nc ≤ n₀) (hcX : ∀ b, b < nc → ¬ X b) (hn₀ : n₀ ≤ w.heap.size)
    (hS : BoxS w Bs L O (.slice A cs.length c)) (hsl : w.cell? ⟨Bn, 0, none⟩ = some (.int .i64 sl)) (hC : Cells w nc A cs.length cs) :
    SeqStopsK F n Tryz.prog 102 #[.pointer (some ⟨Bs, 0, none⟩), .pointer (some ⟨Bn, 0, none⟩)] (fun x : Fin cs.length => #[Value.int .i64 ((x : Nat) : Int)]) (KE n₀ X) (fun ys => ys = hits sl cs)
      (fun pre => ∃ k, k ≤ cs.length ∧ pre = hitsTo sl cs k) cs.length w := fun l J Jx W hW hJ _ hY h0 =>
  in2_in F n hf hro hn l Bs Bn n₀ nc c X A L O sl cs hlen hBn hBX hnc hcX J Jx (fun pre W1 o h => hJ pre W1 (W1.alloc o) none h (World.grownBy_alloc W1 o none) (fun r e => by cases e)) hY W (Nat.le_trans hn₀ hW.size)
    (Lib.hid (hS.below hW hBs)) ((hW.cell (p := ⟨Bn, 0, none⟩) (Nat.lt_of_lt_of_le hBn hn₀)).trans hsl) (Lib.hid (hC.keep fun p hp => hW.cell (Nat.lt_of_lt_of_le hp (Nat.le_trans hnc hn₀)))) h0

/-- The cells of a slot and an offset. -/
def shareC (q : C5) (cs : List C5) : List C5 := cs.filter fun d => decide (d.s = q.s) && decide (d.o = q.o)
def shareL (q : C5) (cs : List C5) (pre : List (Fin cs.length)) : List C5 := (pre.map fun x => cs[x]).filter fun d => decide (d.o = q.o)
theorem shareL_hits (q : C5) (cs : List C5) : shareL q cs (hits q.s cs) = shareC q cs := by
  unfold shareL shareC
  rw [hits_cells]
  unfold slotC
  rw [List.filter_filter]
  congr 1
  funext d
  rw [Bool.and_comm]
theorem shareL_snoc (q : C5) (cs : List C5) (pre : List (Fin cs.length)) (x : Fin cs.length) : shareL q cs (pre ++ [x]) = if cs[x].o = q.o then shareL q cs pre ++ [cs[x]] else shareL q cs pre := by
  unfold shareL
  rw [List.map_append, List.filter_append]
  show _ ++ [cs[x]].filter _ = _
  generalize cs[x] = y
  by_cases h : y.o = q.o <;> simp [h]
theorem shareL_le (q : C5) (cs : List C5) (pre : List (Fin cs.length)) : (shareL q cs pre).length ≤ pre.length := by
  unfold shareL
  refine Nat.le_trans (List.length_filter_le _ _) ?_
  simp
/-- Where the cell with an index stands among those that share its place. -/
def AtP (q : C5) (cs : List C5) (i : Nat) (pre : List (Fin cs.length)) (a : Nat) : Prop :=
  ((∀ x ∈ pre, (x : Nat) ≠ i) ∧ a = 0) ∨ ∃ (p1 : List (Fin cs.length)) (x : Fin cs.length) (p2 : List (Fin cs.length)), pre = p1 ++ x :: p2 ∧ (x : Nat) = i ∧ a = (shareL q cs p1).length
theorem AtP.no {q : C5} {cs : List C5} {i : Nat} {pre : List (Fin cs.length)} {a : Nat} {x : Fin cs.length} (h : AtP q cs i pre a) (hx : (x : Nat) ≠ i) : AtP q cs i (pre ++ [x]) a := by
  rcases h with ⟨h1, h2⟩ | ⟨p1, y, p2, h1, h2, h3⟩
  · exact Or.inl ⟨fun z hz => by
      rcases List.mem_append.1 hz with hz | hz
      · exact h1 z hz
      · rw [List.mem_singleton.1 hz]; exact hx, h2⟩
  · exact Or.inr ⟨p1, y, p2 ++ [x], by rw [h1]; simp, h2, h3⟩
theorem AtP.yes {q : C5} {cs : List C5} {i : Nat} {pre : List (Fin cs.length)} {x : Fin cs.length} (hx : (x : Nat) = i) : AtP q cs i (pre ++ [x]) (shareL q cs pre).length := Or.inr ⟨pre, x, [], rfl, hx, rfl⟩
end Go.Proofs.YtnddjcadkbjjhaaGreatDoor
