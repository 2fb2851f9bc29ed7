/-
  CHAPTER 35: At, and the iterator over the cells of a slot.
-/
import Derived.Test.YtnddjcadkbjjhaaGreatDoorH
import Derived.RangeFuncBox
import Derived.RangeFuncLeaves
import Derived.Shelf.Abstract
import Derived.OwnWalkIn
import Derived.TacticsInMore
import Derived.LoopNIn
import Derived.LoopIn
import Derived.Maps.AppendAt
import Derived.Test.YtnddjcadkbjjhaaGreatDoorR
namespace Go.Proofs.YtnddjcadkbjjhaaGreatDoor
open Go.RowKit Go.Shelf

attribute [local go_sem] Oper.semAt_some

theorem stepIn_append_lies {F : Fence} {n : Nat} {P : Program} (w : World) {ops : Array Oper} {o : Oper} {a : Act} {K : Act → World → Prop} {Q : Exit → Act → World → Prop} {E : Prop} (hgd : o.guard = none) (s x : Operand) (t : TypeId)
    (hop : o.op = .call { callee := .builtin .append, args := #[s, x], argTypes := #[t, t] })
    (base : Nat) (e : TypeId) (i : TypeInfo) (z : Value) (size bytes : Nat) (ht : P.underlying t = some (.slice e)) (hi : P.info? e = some i) (hz : i.zero = some z)
    (hsize : i.size = size) (hby : i.bytes = bytes) (hzs : z.cells.size = size) (hsz : 0 < size)
    (v : Value) (k : Nat) (xs : List Value) (hs : a.eval s = v) (hown : w.ownsRow base e size v k xs)
    (ad : Addr) (m c : Nat) (news : List Value) (hx : a.eval x = .slice (some ad) m c) (hl : news.length = m * size) (hnews : ∀ j u, news[j]? = some u → w.cell? (ad.add j) = some u) (h1 : ∀ u ∈ news, u.oneCell' = true)
    (hm : 0 < m) (h63 : k + m ≤ maxLen) (hbytes : (k + m) * bytes ≤ 140737488355328) (hbase : base ≤ w.heap.size)
    (h : ∀ g cap w', w'.ownsRow base e size (.slice (some ⟨g, 0, none⟩) (k + m) cap) (k + m) (xs ++ news) → w.grownBy w' v.ownBlock → K (a.put o.dst (.slice (some ⟨g, 0, none⟩) (k + m) cap)) w') :
    if Region.wanted o (yielded ops a.tmps) = true then Oper.wpIn F n P o a w K Q else E := by
  have hw : Region.wanted o (yielded ops a.tmps) = true := by simp [Region.wanted, hgd]
  rw [if_pos hw]
  obtain ⟨g, cap, w', hrun, r1, r2, _, _⟩ := run_append_lies (P := P) w t o.type base e i z size bytes ht hi hz hsize hby hzs hsz v k xs hown ad m c news hl hnews h1 hm h63 hbytes hbase _ rfl
  unfold Oper.wpIn
  refine ⟨?_, ?_⟩
  · simp [Oper.about, hop, resolve, Target.leads, Sem.run_pure]
  · rw [Oper.semAt_plain F _ _ (by rw [hop]; intro c hc'; cases hc')]
    simp [execOp, hop, resolve, invoke, builtin, hs, hx, hrun, Result.andThen]
    exact h _ _ _ r1 r2

/-- The cells of a slot, by their places, up to place k. -/
def hitsTo (sl : Int) (cs : List C5) (k : Nat) : List (Fin cs.length) := ((List.finRange cs.length).take k).filter fun x => decide (cs[x].s = sl)
theorem hitsTo_succ (sl : Int) (cs : List C5) (k : Nat) (h : k < cs.length) : hitsTo sl cs (k + 1) = hitsTo sl cs k ++ (if cs[k].s = sl then [⟨k, h⟩] else []) := by
  unfold hitsTo
  rw [List.take_succ_eq_append_getElem (by simpa using h), List.filter_append]
  congr 1
  simp only [List.getElem_finRange, List.filter_cons, List.filter_nil]
  by_cases hs : cs[k].s = sl <;> simp [hs]
theorem hitsTo_le (sl : Int) (cs : List C5) (k : Nat) : (hitsTo sl cs k).length ≤ k := Nat.le_trans (List.length_filter_le _ _) (List.length_take_le _ _)
def hits (sl : Int) (cs : List C5) : List (Fin cs.length) := hitsTo sl cs cs.length
/-- The cells of a slot. -/
def slotC (sl : Int) (cs : List C5) : List C5 := cs.filter fun c => decide (c.s = sl)
theorem finRange_map (cs : List C5) : (List.finRange cs.length).map (fun x => cs[x]) = cs := by
  apply List.ext_getElem
  · simp
  · intro i h1 h2; simp
theorem hits_cells (sl : Int) (cs : List C5) : (hits sl cs).map (fun x => cs[x]) = slotC sl cs := by
  unfold hits hitsTo slotC
  rw [List.take_of_length_le (by simp)]
  have h := List.filter_map (f := fun x : Fin cs.length => cs[x]) (p := fun c : C5 => decide (c.s = sl)) (l := List.finRange cs.length)
  rw [finRange_map] at h
  rw [h]; rfl

/-- What a round keeps: the cells below n₀, but those of block X. -/
def KB (n₀ X : Nat) (A B : World) : Prop := A.heap.size ≤ B.heap.size ∧ ∀ p : Addr, p.block < n₀ → p.block ≠ X → B.cell? p = A.cell? p
theorem KB.refl (n₀ X : Nat) (A : World) : KB n₀ X A A := ⟨Nat.le_refl _, fun _ _ _ => rfl⟩
theorem KB.trans {n₀ X : Nat} {A B C : World} (h : KB n₀ X A B) (k : KB n₀ X B C) : KB n₀ X A C := ⟨Nat.le_trans h.1 k.1, fun _ hp hx => (k.2 _ hp hx).trans (h.2 _ hp hx)⟩
theorem KB.of_below {n₀ X : Nat} {A B : World} (h : Below n₀ A B) : KB n₀ X A B := ⟨h.size, fun _ hp _ => h.cell hp⟩
theorem KB.alloc {n₀ X : Nat} {A B : World} (h : KB n₀ X A B) (hB : n₀ ≤ B.heap.size) (o : Obj) : KB n₀ X A (B.alloc o) := h.trans (KB.of_below ((Below.refl n₀ B).alloc hB o))
set_option maxRecDepth 100000 in
set_option maxHeartbeats 2000000 in
theorem in1_in (F : Fence) (n : Nat) (hf : F.fn 102) (hro : F.round = none) (hn : 1 ≤ n) (l Bs Bn n₀ nc X c : Nat) (A : Option Addr) (L O sl : Int) (cs : List C5) (hlen : cs.length ≤ 1000000) (hBn : Bn < n₀) (hBX : Bn ≠ X) (hnc : nc ≤ n₀) (hcX : nc ≤ X) (J Jx : List (Fin cs.length) → World → Prop)
    (hJa : ∀ pre W o, J pre W → J pre (W.alloc o))
    (hY : ∀ pre (x : Fin cs.length) W, J pre W → pre.length < cs.length → YieldAt F (n - 1) Tryz.prog l #[.int .i64 ((x : Nat) : Int)] W fun e W' =>
      (e = .returned (.bool true) ∧ J (pre ++ [x]) W' ∧ KB n₀ X W W') ∨ (e = .returned (.bool false) ∧ Jx (pre ++ [x]) W'))
    (W : World) (hn₀ : n₀ ≤ W.heap.size) (hS : Hid (BoxS W Bs L O (.slice A cs.length c))) (hsl : W.cell? ⟨Bn, 0, none⟩ = some (.int .i64 sl)) (hC : Hid (Cells W nc A cs.length cs)) (h0 : J [] W) :
    CallsIn F n Tryz.prog 102 #[.func (.yield l) #[] #[], .pointer (some ⟨Bs, 0, none⟩), .pointer (some ⟨Bn, 0, none⟩)] W fun e W' => (∃ v, e = .returned v) ∧
      ((∃ ys, ys = hits sl cs ∧ J ys W') ∨ (∃ pre, (∃ k, k ≤ cs.length ∧ pre = hitsTo sl cs k) ∧ Jx pre W')) := by
  have hsl := Lib.hid hsl
  obtain ⟨s0, s1, s2⟩ := id hS.out
  refine callsIn_of_wp Tryz.func102 rfl hf ?_ hro
  simp only [Tryz.ntmps102, List.size_toArray, List.length_cons, List.length_nil, Nat.reduceAdd, Nat.reduceSub, Array.replicate_succ, Array.replicate_zero, List.push_toArray, List.append_toArray, List.nil_append, List.cons_append]
  gi_wp2
  clear s0 s1 s2
  gi_loopw [9] (fun i wr => ∃ k : Nat, k ≤ cs.length ∧ i = .int .i64 k ∧ J (hitsTo sl cs k) wr ∧ KB n₀ X W wr)
    (fun i _ => cs.length - (intOf i).toNat)
  case atStart => exact ⟨0, Nat.zero_le _, rfl, h0, KB.refl _ _ _⟩
  case round =>
    obtain ⟨k, hk, rfl, hJs, hnx⟩ := hrel
    by_cases hlt : k < cs.length
    · obtain ⟨b, off, x, rfl, hb, ex, x0, x1, x2, x3, x4⟩ := (hC.out.keep (fun p hp => hnx.2 p (by omega) (by omega))).at_ hlt
      have hxs : Hid (cs[k] = x) := Lib.hid (Option.some.inj ((List.getElem?_eq_getElem hlt).symm.trans ex))
      have hsuc := Lib.hid (hitsTo_succ sl cs k hlt)
      have hsl' := (hnx.2 ⟨Bn, 0, none⟩ hBn hBX).trans hsl.out
      have hsl2 := (World.cell?_alloc_lt wr (N51 x) ⟨Bn, 0, none⟩ (Nat.lt_of_lt_of_le hBn (Nat.le_trans hn₀ hnx.1))).trans hsl'
      have hnx' : KB n₀ X W (wr.alloc (N51 x)) := hnx.alloc (Nat.le_trans hn₀ hnx.1) _
      have hJ1 := Lib.hid (hJa _ _ (N51 x) hJs)
      have hBlt : Bn < wr.heap.size := Nat.lt_of_lt_of_le hBn (Nat.le_trans hn₀ hnx.1)
      have hBne : Bn ≠ wr.heap.size := Nat.ne_of_lt hBlt
      clear ex
      by_cases hh : x.s = sl
      · have hsuc' : Hid (hitsTo sl cs (k + 1) = hitsTo sl cs k ++ [⟨k, hlt⟩]) := Lib.hid (by rw [hsuc.out, hxs.out, if_pos hh])
        subst hh
        obtain ⟨fn, tmps, assign, body, hy, hR⟩ := hY _ ⟨k, hlt⟩ (wr.alloc (N51 x)) hJ1.out (Nat.lt_of_le_of_lt (hitsTo_le _ _ _) hlt)
        dsimp only at hy
        gi_wp2
        refine hR.mono ?_
        rintro e W3 (⟨rfl, hJ3, hk3⟩ | ⟨rfl, hJx3⟩)
        · gi_wp2
          go_roundw
          case rel => exact ⟨k + 1, by omega, by go_num, by rw [hsuc'.out]; exact hJ3, hnx'.trans hk3⟩
          case measure => simp [intOf]; omega
        · gi_wp2
          refine bodyPost_ret (results_none rfl _ _ _) rfl ?_
          exact ⟨⟨_, rfl⟩, .inr ⟨_, ⟨k + 1, by omega, hsuc'.out.symm⟩, hJx3⟩⟩
      · have hb1 : (x.s == sl) = false := by simpa using hh
        have hsuc' : Hid (hitsTo sl cs (k + 1) = hitsTo sl cs k) := Lib.hid (by rw [hsuc.out, hxs.out, if_neg hh, List.append_nil])
        have hh := Lib.hid hh
        gi_wp2
        refine ⟨fun _ h => (by cases h), ?_⟩
        gi_wp2
        go_roundw
        case rel => exact ⟨k + 1, by omega, by go_num, by rw [hsuc'.out]; exact hJ1.out, hnx'⟩
        case measure => simp [intOf]; omega
    · obtain rfl : k = cs.length := by omega
      gi_wp2
      go_end0
      exact ⟨⟨_, rfl⟩, .inl ⟨_, rfl, hJs⟩⟩
set_option maxHeartbeats 800000 in
/-- in(s, slot): the two parameters are boxed; the function value captures the boxes. -/
theorem in_any (L O sl : Int) (A : Option Addr) (n c : Nat) (w : World) :
    Calls Tryz.prog 65 #[.agg #[.int .i64 L, .int .i64 O, .slice A n c], .int .i64 sl] w fun e w' => e = .returned (.func (.func 102) #[] #[.pointer (some ⟨w.heap.size, 0, none⟩), .pointer (some ⟨w.heap.size + 1, 0, none⟩)]) ∧ (w.alloc (N30 L O (.slice A n c))).alloc (.cells #[.int .i64 sl] 3) = w' := by
  go_enter Tryz.func65, Tryz.ntmps65
  go_wp2
  go_ret
  exact ⟨rfl, rfl⟩
theorem in_stops (F : Fence) (n : Nat) (hf : F.fn 102) (hro : F.round = none) (hn : 1 ≤ n) (Bs Bn n₀ nc X c : Nat) (A : Option Addr) (L O sl : Int) (cs : List C5) (hlen : cs.length ≤ 1000000) (w : World) (hBs : Bs < w.heap.size) (hBn : Bn < n₀) (hBX : Bn ≠ X) (hnc : nc ≤ n₀) (hcX : nc ≤ X) (hn₀ : n₀ ≤ w.heap.size)
    (hS : BoxS w Bs L O (.slice A cs.length c)) (hsl : w.cell? ⟨Bn, 0, none⟩ = some (.int .i64 sl)) (hC : Cells w nc A cs.length cs) :
    SeqStopsK F n Tryz.prog 102 #[.pointer (some ⟨Bs, 0, none⟩), .pointer (some ⟨Bn, 0, none⟩)] (fun x : Fin cs.length => #[Value.int .i64 ((x : Nat) : Int)]) (KB n₀ X) (fun ys => ys = hits sl cs)
      (fun pre => ∃ k, k ≤ cs.length ∧ pre = hitsTo sl cs k) cs.length w := fun l J Jx W hW hJ _ hY h0 =>
  in1_in F n hf hro hn l Bs Bn n₀ nc X c A L O sl cs hlen hBn hBX hnc hcX J Jx (fun pre W1 o h => hJ pre W1 (W1.alloc o) none h (World.grownBy_alloc W1 o none) (fun r e => by cases e)) hY W (Nat.le_trans hn₀ hW.size)
    (Lib.hid (hS.below hW hBs)) ((hW.cell (p := ⟨Bn, 0, none⟩) (Nat.lt_of_lt_of_le hBn hn₀)).trans hsl) (Lib.hid (hC.keep fun p hp => hW.cell (Nat.lt_of_lt_of_le hp (Nat.le_trans hnc hn₀)))) h0

theorem app_below2 {W w4 : World} {o : Obj} {X N k : Nat} {e : TypeId} {sz : Nat} {v : Value} {xs : List Value} (hrow : W.ownsRow (N + 2) e sz v k xs) (hg : (W.alloc o).drew.grownBy w4 v.ownBlock) (hX : X + 1 = N) (hs : N + 2 ≤ W.heap.size) : Below X W w4 :=
  ((Below.refl X W).alloc (by omega) o).drew.grown hg (by simp; omega) (fun j hj => by have := (hrow.lt j hj).1; omega)
theorem own_base {w : World} {b b' sz n : Nat} {e : TypeId} {v : Value} {xs : List Value} (h : w.ownsRow b e sz v n xs) (hb : b' ≤ b) : w.ownsRow b' e sz v n xs := by
  refine ⟨h.1, ?_⟩
  rcases h.2 with h | ⟨g, cap, cur, h1, h2, h3⟩
  · exact .inl h
  · exact .inr ⟨g, cap, cur, h1, by omega, h3⟩
/-- What a round of At leaves. -/
theorem at_round {W3 W w4 : World} {X N cap g : Nat} {o : Obj} {cs : List C5} {pre : List (Fin cs.length)} {x : Fin cs.length} {q : C5} {v : Value} (hX : X + 1 = N) (hs : N + 2 ≤ W.heap.size) (hv : Boxed W X 28 v)
    (hrow : W.ownsRow (N + 2) 51 5 v pre.length ((pre.map fun x => cs[x]).flatMap C5.cells)) (hg : (W.alloc o).drew.grownBy w4 v.ownBlock)
    (hown : w4.ownsRow (N + 2) 51 5 (.slice (some ⟨g, 0, none⟩) (pre.length + 1) cap) (pre.length + 1) ((pre.map fun x => cs[x]).flatMap C5.cells ++ [.int .i64 q.s, .int .i64 q.o, .int .i64 q.f, .int .i64 q.t, .int .i64 q.w]))
    (hq : cs[x] = q) (hB : Below X W3 W) :
    KeepsFrom W3.heap.size W (w4.setCell ⟨X, 0, none⟩ (.slice (some ⟨g, 0, none⟩) (pre.length + 1) cap)) ∧ KB (N + 2) X W (w4.setCell ⟨X, 0, none⟩ (.slice (some ⟨g, 0, none⟩) (pre.length + 1) cap)) ∧
      ((∃ v', Boxed (w4.setCell ⟨X, 0, none⟩ (.slice (some ⟨g, 0, none⟩) (pre.length + 1) cap)) X 28 v' ∧ (w4.setCell ⟨X, 0, none⟩ (.slice (some ⟨g, 0, none⟩) (pre.length + 1) cap)).ownsRow (N + 2) 51 5 v' (pre ++ [x]).length (((pre ++ [x]).map fun x => cs[x]).flatMap C5.cells) ∧ True) ∧
        Below X W3 (w4.setCell ⟨X, 0, none⟩ (.slice (some ⟨g, 0, none⟩) (pre.length + 1) cap))) := by
  have hg' : (W.alloc o).grownBy w4 v.ownBlock := ⟨hg.os, hg.tape, hg.output, hg.size, hg.block⟩
  obtain ⟨_, hv2, _, hk2, hb2⟩ := hv.appended (n₀ := X) (by decide) (own_base hrow (by omega)) (by omega) (Nat.le_refl X) (own_base hown (by omega)) hg'
  have hbN : Below (N + 2) W w4 := ((Below.refl (N + 2) W).alloc hs o).grown hg' (by simp; omega) (fun j hj => (hrow.lt j hj).1)
  refine ⟨hk2.from _, ⟨by have := hbN.size; simpa [World.setCell] using this, fun p hp hx => ?_⟩, ⟨_, hv2, ?_, trivial⟩, hB.trans hb2⟩
  · rw [World.cell?_setCell_other _ _ _ _ (fun e => hx (by rw [← e]))]
    exact hbN.cell hp
  · have := ownsRow_setCell_below hown (a := ⟨X, 0, none⟩) (by show X < N + 2; omega) (.slice (some ⟨g, 0, none⟩) (pre.length + 1) cap)
    subst hq
    simpa [C5.cells] using this
/-- How At ends. -/
def CellsEnd (w : World) (rs : List C5) (e : Ending) (w' : World) : Prop :=
  ∃ A c, e = .returned (.slice A rs.length c) ∧ Cells w' w'.heap.size A rs.length rs ∧ rs.length ≤ c ∧ Below w.heap.size w w'
theorem CellsEnd.nil {w w' : World} (hb : Below w.heap.size w w') : CellsEnd w [] (.returned (.slice none 0 0)) w' := ⟨none, 0, rfl, ⟨rfl, fun h => absurd h (by simp)⟩, Nat.zero_le _, hb⟩
set_option maxHeartbeats 1600000 in
theorem At_form (L O slot : Int) (A : Option Addr) (n c : Nat) (cs : List C5) (hn : n ≤ 1000000) (hr : Hid (formB L O cs = false)) (w : World) (hcs : Hid (Cells w w.heap.size A n cs)) :
    Calls Tryz.prog 23 #[.agg #[.int .i64 L, .int .i64 O, .slice A n c], .int .i64 slot] w fun e w' => e = .returned (.slice none 0 0) ∧ Below w.heap.size w w' := by
  have hb0 : Below w.heap.size w (w.alloc (N30 L O (.slice A n c))) := (Below.refl _ _).alloc (Nat.le_refl _) _
  have hC := Lib.hid ((hcs.out.below hb0).more hb0.size)
  go_enter Tryz.func23, Tryz.ntmps23
  go_wp2_with (first | (go_at_call 53; refine (carry (form_lit L O A n c cs hn false hr.out _ hC.out) hb0).mono ?_; rintro e w1 ⟨rfl, hb1⟩))
  go_ret
  exact ⟨rfl, hb1⟩
set_option maxHeartbeats 1600000 in
theorem At_neg (L O slot : Int) (A : Option Addr) (n c : Nat) (cs : List C5) (hn : n ≤ 1000000) (hr : Hid (formB L O cs = true)) (hs : slot < 0) (w : World) (hcs : Hid (Cells w w.heap.size A n cs)) :
    Calls Tryz.prog 23 #[.agg #[.int .i64 L, .int .i64 O, .slice A n c], .int .i64 slot] w fun e w' => e = .returned (.slice none 0 0) ∧ Below w.heap.size w w' := by
  have hb0 : Below w.heap.size w (w.alloc (N30 L O (.slice A n c))) := (Below.refl _ _).alloc (Nat.le_refl _) _
  have hC := Lib.hid ((hcs.out.below hb0).more hb0.size)
  go_enter Tryz.func23, Tryz.ntmps23
  go_wp2_with (first | (go_at_call 53; refine (carry (form_lit L O A n c cs hn true hr.out _ hC.out) hb0).mono ?_; rintro e w1 ⟨rfl, hb1⟩))
  go_ret
  exact ⟨rfl, hb1⟩
set_option maxHeartbeats 4000000 in
set_option maxRecDepth 100000 in
theorem At_yes (L O slot : Int) (A : Option Addr) (c : Nat) (cs : List C5) (hr : Hid (formB L O cs = true)) (hs : 0 ≤ slot) (hs2 : slot ≤ 9223372036854775807) (w : World) (hcs : Hid (Cells w w.heap.size A cs.length cs)) :
    Calls Tryz.prog 23 #[.agg #[.int .i64 L, .int .i64 O, .slice A cs.length c], .int .i64 slot] w (CellsEnd w (slotC (slot % L) cs)) := by
  have hsz := form_sized hr.out
  have hL1 := hsz.1
  have hL2 := hsz.2.1
  have hn : cs.length ≤ 512 := by omega
  have hb0 : Below w.heap.size w (w.alloc (N30 L O (.slice A cs.length c))) := (Below.refl _ _).alloc (Nat.le_refl _) _
  have hB0 := Lib.hid (BoxS.new L O (.slice A cs.length c) 30 w)
  have hC := Lib.hid ((hcs.out.below hb0).more hb0.size)
  obtain ⟨i0, hi, hj0', hj1', hj2'⟩ := info_parts Tryz.info51
  refine (callsIn_wide (n := 3)).1 (callsIn_of_wp_marks Tryz.func23 rfl trivial ?_ rfl)
  refine wpIn_wide.2 ?_
  simp only [Tryz.ntmps23, List.size_toArray, List.length_cons, List.length_nil, Nat.reduceAdd, Nat.reduceSub, Array.replicate_succ, Array.replicate_zero, List.push_toArray, List.append_toArray, List.nil_append, List.cons_append]
  go_wp2_with fail
  refine (form_lit L O A cs.length c cs (by omega) true hr.out _ hC.out).mono ?_
  rintro e w1 ⟨rfl, hb1⟩
  have HB := Lib.hid (hB0.out.below hb1 (by simp))
  have hw1 := bstep hb0 hb1 (Nat.le_refl _)
  have HC := Lib.hid ((hcs.out.below hw1).more hw1.size)
  have hz : w.heap.size < w1.heap.size := by have := hb1.size; simp at this; omega
  clear hB0 hcs hb1 hb0 hC
  obtain ⟨c0, c1, c2⟩ := id HB.out
  go_wp2_with fail
  clear c0 c1 c2
  have hn1 : Below w1.heap.size w1 (w1.alloc (.cells #[.slice none 0 0] 28)) := (Below.refl _ _).alloc (Nat.le_refl _) _
  have bO := Lib.hid (Boxed.new w1 28 (.slice none 0 0))
  have hsz2 : (w1.alloc (.cells #[.slice none 0 0] 28)).heap.size = w1.heap.size + 1 := by simp
  have hsz2 := Lib.hid hsz2
  have HB2 := Lib.hid (HB.out.below hn1 hz)
  have HC2 := Lib.hid (HC.out.below hn1)
  have hw2 := bstep hw1 hn1 (Nat.le_refl _)
  have hlt2 : w1.heap.size < (w1.alloc (.cells #[.slice none 0 0] 28)).heap.size := by simp
  clear HB HC hn1
  revert bO hsz2 HB2 HC2 hw2 hlt2
  generalize w1.alloc (.cells #[.slice none 0 0] 28) = W2
  intro bO hsz2 HB2 HC2 hw2 hlt2
  obtain ⟨c0, c1, c2⟩ := id HB2.out
  have hrem : IntKind.i64.wrap (Int.tmod slot L) = slot % L := by
    rw [Int.tmod_eq_emod_of_nonneg hs]
    have h1 := Int.emod_nonneg slot (show L ≠ 0 by omega)
    have h2 := Int.emod_lt_of_pos slot (show 0 < L by omega)
    exact IntWalk.i64_in _ (by omega)
  have hL0 : ¬ L = 0 := by omega
  have hL00 : (L == 0) = false := by rw [beq_eq_false_iff_ne]; omega
  go_region_held3 (fun w' => w'.cell? ⟨w.heap.size, 0, none⟩ = some (.int .i64 L) ∧ w'.cell? ⟨w.heap.size, 1, none⟩ = some (.int .i64 O) ∧ w'.cell? ⟨w.heap.size, 2, none⟩ = some (.slice A cs.length c))
    (first | go_keep | exact ⟨(World.cell?_alloc_lt _ _ ⟨_, _, none⟩ (by simp; omega)).trans ((World.cell?_alloc_lt _ _ ⟨_, _, none⟩ (by simp; omega)).trans c0), (World.cell?_alloc_lt _ _ ⟨_, _, none⟩ (by simp; omega)).trans ((World.cell?_alloc_lt _ _ ⟨_, _, none⟩ (by simp; omega)).trans c1), (World.cell?_alloc_lt _ _ ⟨_, _, none⟩ (by simp; omega)).trans ((World.cell?_alloc_lt _ _ ⟨_, _, none⟩ (by simp; omega)).trans c2)⟩)
    (first | (go_at_call 65; refine (in_any L O _ A cs.length c _).mono ?_; rintro e w' ⟨rfl, rfl⟩))
  have h3 : Below W2.heap.size W2 ((W2.alloc (N30 L O (.slice A cs.length c))).alloc (.cells #[.int .i64 (slot.tmod L)] 3)).drew := (((Below.refl _ _).alloc (Nat.le_refl _) _).alloc (by simp) _).drew
  have hsz3 : ((W2.alloc (N30 L O (.slice A cs.length c))).alloc (.cells #[.int .i64 (slot.tmod L)] 3)).drew.heap.size = W2.heap.size + 2 := by simp
  have hS3 : BoxS ((W2.alloc (N30 L O (.slice A cs.length c))).alloc (.cells #[.int .i64 (slot.tmod L)] 3)).drew W2.heap.size L O (.slice A cs.length c) := (BoxS.new L O (.slice A cs.length c) 30 W2).below ((Below.alloc (Below.refl _ _) (Nat.le_refl _) _).drew) (by simp)
  have hsl3 : ((W2.alloc (N30 L O (.slice A cs.length c))).alloc (.cells #[.int .i64 (slot.tmod L)] 3)).drew.cell? ⟨W2.heap.size + 1, 0, none⟩ = some (.int .i64 (slot.tmod L)) := by
    have := (Boxed.new (W2.alloc (N30 L O (.slice A cs.length c))) 3 (.int .i64 (slot.tmod L))).cell
    rwa [World.size_alloc] at this
  clear c0 c1 c2
  have h3 := Lib.hid h3
  have hsz3 := Lib.hid hsz3
  have hS3 := Lib.hid hS3
  have hsl3 := Lib.hid hsl3
  revert h3 hsz3 hS3 hsl3
  generalize ((W2.alloc (N30 L O (.slice A cs.length c))).alloc (.cells #[.int .i64 (slot.tmod L)] 3)).drew = W3
  intro h3 hsz3 hS3 hsl3
  have hlt3 : W2.heap.size + 2 ≤ W3.heap.size := Nat.le_of_eq hsz3.out.symm
  have hX2 : w1.heap.size + 1 = W2.heap.size := hsz2.out.symm
  have hX2 := Lib.hid hX2
  go_wp2_with fail
  refine (wpIn_wide (n := 3)).1 ?_
  refine wpIn_rangeFunc_ownG (F := Fence.wide) rfl (by omega) (gf := 102) (lb := #[.pointer (some ⟨W2.heap.size, 0, none⟩), .pointer (some ⟨W2.heap.size + 1, 0, none⟩)]) rfl trivial (enters_of Tryz.func102 (by kernel_rfl) rfl)
    (in_stops Fence.wide 2 trivial rfl (by omega) W2.heap.size (W2.heap.size + 1) (W2.heap.size + 2) w1.heap.size w1.heap.size c A L O (slot.tmod L) cs (by omega) W3 (by omega) (by omega) (by have := hX2.out; omega) (by omega) (Nat.le_refl _) hlt3 hS3.out hsl3.out (HC2.out.below (h3.out.mono (by omega))))
    (fun h k => h.trans k) (fun W l o o' hl hq hc _ => KB.of_below (belowK_b hlt3 W l o o' hl hq hc ‹_›)) (Below.refl _ _) (fun _ => rfl)
    (fun pre W => (∃ v, Boxed W w1.heap.size 28 v ∧ W.ownsRow (W2.heap.size + 2) 51 5 v pre.length ((pre.map fun x => cs[x]).flatMap C5.cells) ∧ True) ∧ Below w1.heap.size W3 W)
    (fun _ _ _ => False)
    (OwnFrom.and (Own.from (holdsRow_own (W2.heap.size + 2) w1.heap.size 28 51 5 (fun pre : List (Fin cs.length) => pre.length) (fun pre => (pre.map fun x => cs[x]).flatMap C5.cells) (fun _ _ => True)) _) (ownFrom_below (by omega) (by omega)))
    (fun _ _ _ _ _ hs _ _ => hs)
    ⟨⟨_, bO.out.kept (row := none) ⟨h3.out.os, h3.out.tape, h3.out.output, h3.out.size, fun k hk _ => h3.out.block k hk⟩ (by simp), World.ownsRow_nil _ _ _ _, trivial⟩, Below.refl _ _⟩
    (fun x => { tmps := #[.agg #[.int .i64 L, .int .i64 O, .slice A cs.length c], .int .i64 slot, .pointer (some ⟨w.heap.size, 0, none⟩), undef, .slice none 0 0, .pointer (some ⟨w1.heap.size, 0, none⟩), .int .i64 ((x : Nat) : Int), .agg #[.int .i64 L, .int .i64 O, .slice A cs.length c], .bool true, .bool false, .bool false, .int .i64 slot, .bool (decide (slot < 0)), .bool (decide (slot < 0)), .agg #[.int .i64 L, .int .i64 O, .slice A cs.length c], .int .i64 slot, .pointer (some ⟨w.heap.size, 0, none⟩), .int .i64 L, .int .i64 (slot % L), .func (.func 102) #[] #[.pointer (some ⟨W2.heap.size, 0, none⟩), .pointer (some ⟨W2.heap.size + 1, 0, none⟩)], .int .i64 ((x : Nat) : Int), undef, undef, undef, undef, undef, undef, undef, undef, undef], defers := [] }) ?assign ?body ?done ?stop
  case assign =>
    intro l x W K hK
    gi_wp2
    exact hK
  case body =>
    rintro l pre x W ⟨⟨v, hv, hrow, -⟩, hB⟩ hlt
    have hc := hv.cell
    have hf := hv.frozen
    have hBw : Below w1.heap.size W2 W := (h3.out.mono (by omega)).trans hB
    obtain ⟨d0, d1, d2⟩ := HB2.out.below hBw hz
    obtain ⟨b, off, q, rfl, hbq, eq, e0, e1, e2, e3, e4⟩ := (HC2.out.below hBw).at_ x.2
    have hq : Hid (cs[x] = q) := Lib.hid (Option.some.inj ((List.getElem?_eq_getElem x.2).symm.trans eq))
    clear eq
    have hsz5 : W2.heap.size + 2 ≤ W.heap.size := Nat.le_trans hlt3 hB.size
    have hjl : (x : Nat) < cs.length := x.2
    have hj0 : (0 : Int) ≤ ((x : Nat) : Int) := by omega
    have hj1 : ((x : Nat) : Int) < (cs.length : Int) := by omega
    have keepS : ∀ w', Below w1.heap.size W w' → (w'.cell? ⟨w.heap.size, 2, none⟩ = some (.slice (some ⟨b, off, none⟩) cs.length c) ∧ w'.cell? ⟨b, off + (x : Nat) * 5, none⟩ = some (.int .i64 q.s) ∧ w'.cell? ⟨b, off + (x : Nat) * 5 + 1, none⟩ = some (.int .i64 q.o) ∧ w'.cell? ⟨b, off + (x : Nat) * 5 + 2, none⟩ = some (.int .i64 q.f) ∧ w'.cell? ⟨b, off + (x : Nat) * 5 + 3, none⟩ = some (.int .i64 q.t) ∧ w'.cell? ⟨b, off + (x : Nat) * 5 + 4, none⟩ = some (.int .i64 q.w)) := fun w' h =>
      ⟨(h.cell (p := ⟨w.heap.size, 2, none⟩) hz).trans d2, (h.cell (p := ⟨b, _, none⟩) hbq).trans e0, (h.cell (p := ⟨b, _, none⟩) hbq).trans e1, (h.cell (p := ⟨b, _, none⟩) hbq).trans e2, (h.cell (p := ⟨b, _, none⟩) hbq).trans e3, (h.cell (p := ⟨b, _, none⟩) hbq).trans e4⟩
    have keepS := Lib.hid keepS
    gi_wp2
    refine wpIn_region_R (S := (fun w' => w'.cell? ⟨w.heap.size, 2, none⟩ = some (.slice (some ⟨b, off, none⟩) cs.length c) ∧ w'.cell? ⟨b, off + (x : Nat) * 5, none⟩ = some (.int .i64 q.s) ∧ w'.cell? ⟨b, off + (x : Nat) * 5 + 1, none⟩ = some (.int .i64 q.o) ∧ w'.cell? ⟨b, off + (x : Nat) * 5 + 2, none⟩ = some (.int .i64 q.f) ∧ w'.cell? ⟨b, off + (x : Nat) * 5 + 3, none⟩ = some (.int .i64 q.t) ∧ w'.cell? ⟨b, off + (x : Nat) * 5 + 4, none⟩ = some (.int .i64 q.w))) (by kernel_rfl) (keepS.out _ ((Below.refl _ W).drew)) (fun hHeld => ?_)
    refine wpAnyR_take (i := 1) (oi := ?o1) (v := ?hv1) (by kernel_rfl) ?hi1 (by kernel_rfl) (by kernel_rfl) (by kernel_rfl) ?hq1 ?hy1 (by assumption) ?hr1
    case hi1 => (simp only [List.getElem?_toArray, List.getElem?_cons_succ, List.getElem?_cons_zero]; rfl)
    case hq1 => exact fun _ _ _ h => h
    case hy1 => exact ⟨Or.inl ⟨by rfl, by intro w hSw; (try dsimp only at hSw); go_simp; try with_reducible rfl⟩, fun _ => rfl⟩
    simp only [Act.put, List.setIfInBounds_toArray, List.set_cons_zero, List.set_cons_succ]
    refine wpAnyR_take (i := 2) (oi := ?o2) (v := ?hv2) (by kernel_rfl) ?hi2 (by kernel_rfl) (by kernel_rfl) (by kernel_rfl) ?hq2 ?hy2 (by assumption) ?hr2
    case hi2 => (simp only [List.getElem?_toArray, List.getElem?_cons_succ, List.getElem?_cons_zero]; rfl)
    case hq2 => exact fun _ _ _ h => h
    case hy2 => exact ⟨Or.inl ⟨by rfl, by intro w hSw; (try dsimp only at hSw); go_simp; try with_reducible rfl⟩, fun _ => rfl⟩
    simp only [Act.put, List.setIfInBounds_toArray, List.set_cons_zero, List.set_cons_succ]
    refine wpAnyR_take (i := 3) (oi := ?o3) (v := ?hv3) (by kernel_rfl) ?hi3 (by kernel_rfl) (by kernel_rfl) (by kernel_rfl) ?hq3 ?hy3 (by assumption) ?hr3
    case hi3 => (simp only [List.getElem?_toArray, List.getElem?_cons_succ, List.getElem?_cons_zero]; rfl)
    case hq3 => exact fun _ _ _ h => h
    case hy3 => exact ⟨Or.inl ⟨by rfl, by intro w hSw; (try dsimp only at hSw); go_simp; try with_reducible rfl⟩, fun _ => rfl⟩
    simp only [Act.put, List.setIfInBounds_toArray, List.set_cons_zero, List.set_cons_succ]
    refine wpAnyR_take (i := 4) (oi := ?o4) (v := ?hv4) (by kernel_rfl) ?hi4 (by kernel_rfl) (by kernel_rfl) (by kernel_rfl) ?hq4 ?hy4 (by assumption) ?hr4
    case hi4 => (simp only [List.getElem?_toArray, List.getElem?_cons_succ, List.getElem?_cons_zero]; rfl)
    case hq4 => exact fun _ _ _ h => h
    case hy4 => exact ⟨Or.inl ⟨by rfl, by intro w hSw; (try dsimp only at hSw); go_simp; try with_reducible rfl⟩, fun _ => rfl⟩
    simp only [Act.put, List.setIfInBounds_toArray, List.set_cons_zero, List.set_cons_succ]
    refine wpAnyR_take (i := 5) (oi := ?o5) (v := ?hv5) (by kernel_rfl) ?hi5 (by kernel_rfl) (by kernel_rfl) (by kernel_rfl) ?hq5 ?hy5 (by assumption) ?hr5
    case hi5 => (simp only [List.getElem?_toArray, List.getElem?_cons_succ, List.getElem?_cons_zero]; rfl)
    case hq5 => exact fun _ _ _ h => h
    case hy5 => exact ⟨Or.inl ⟨by rfl, by intro w hSw; (try dsimp only at hSw); go_simp; try with_reducible rfl⟩, fun _ => rfl⟩
    simp only [Act.put, List.setIfInBounds_toArray, List.set_cons_zero, List.set_cons_succ]
    refine wpAnyR_ready (rs := [0, 6]) (by kernel_rfl) (by simp) ?_
    refine (AllReadyR.cons (o := ?o13) ?hi13 (fun K hK => ?hr13) (AllReadyR.cons (o := ?o12) ?hi12 (fun K hK => ?hr12) AllReadyR.nil))
    case hi13 => (simp only [List.getElem?_toArray, List.getElem?_cons_zero]; rfl)
    case hi12 => (simp only [List.getElem?_toArray, List.getElem?_cons_succ, List.getElem?_cons_zero]; rfl)
    case hr13 =>
      go_simp
      try refine ⟨fun _ h => (by cases h), ?_⟩
      refine hK _ _ ?_ (fun hHeld => ?_)
      · exact keepS.out _ ((Below.refl _ W).drew)
      clear hK K
      try simp only [Act.put, List.setIfInBounds_toArray, List.set_cons_zero, List.set_cons_succ]
      refine wpAnyR_ready (rs := [6]) (by kernel_rfl) (by simp) ?_
      refine (AllReadyR.cons (o := ?o8) ?hi8 (fun K hK => ?hr8) AllReadyR.nil)
      case hi8 => (simp only [List.getElem?_toArray, List.getElem?_cons_succ, List.getElem?_cons_zero]; rfl)
      case hr8 =>
        go_simp
        try refine ⟨fun _ h => (by cases h), ?_⟩
        refine hK _ _ ?_ (fun hHeld => ?_)
        · exact keepS.out _ (((Below.refl _ W).alloc (by omega) _).drew)
        clear hK K
        try simp only [Act.put, List.setIfInBounds_toArray, List.set_cons_zero, List.set_cons_succ]
        refine wpAnyR_ready (rs := [7]) (by kernel_rfl) (by simp) ?_
        refine (AllReadyR.cons (o := ?o7) ?hi7 (fun K hK => ?hr7) AllReadyR.nil)
        case hi7 => (simp only [List.getElem?_toArray, List.getElem?_cons_succ, List.getElem?_cons_zero]; rfl)
        case hr7 =>
          refine stepIn_append_lies _ (by rfl) _ _ _ (by rfl) (W2.heap.size + 2) 51 i0 _ 5 40 Tryz.underlying28 hi hj0' hj1' hj2' rfl (by omega) v pre.length ((pre.map fun x => cs[x]).flatMap C5.cells) (by rfl) ((hrow.alloc _).drew) ⟨W.heap.size, 0, none⟩ 1 1 [.int .i64 q.s, .int .i64 q.o, .int .i64 q.f, .int .i64 q.t, .int .i64 q.w] (by rfl) (by rfl) (World.news_of_block (cs := #[.int .i64 q.s, .int .i64 q.o, .int .i64 q.f, .int .i64 q.t, .int .i64 q.w]) (t := 51) (fr := (0, 0)) (heap_alloc_new W _)) (by simp [Value.oneCell']) (by omega) (by unfold maxLen; omega) (by omega) (by simp; omega) ?_
          intro gg cap w4 hown4 hgrow4
          have hb4 := app_below2 hrow hgrow4 hX2.out hsz5
          have hv4 : Boxed w4 w1.heap.size 28 v := (hv.alloc _).kept (W := (W.alloc _).drew) hgrow4 (fun e => by have := (hrow.lt _ e.symm).1; have := hX2.out; omega)
          have hc4 := hv4.cell
          have hf4 := hv4.frozen
          refine hK _ _ ?_ (fun hHeld => ?_)
          · exact keepS.out _ (hb4)
          clear hK K
          try simp only [Act.put, List.setIfInBounds_toArray, List.set_cons_zero, List.set_cons_succ]
          refine wpAnyR_ready (rs := [8]) (by kernel_rfl) (by simp) ?_
          refine (AllReadyR.cons (o := ?o6) ?hi6 (fun K hK => ?hr6) AllReadyR.nil)
          case hi6 => (simp only [List.getElem?_toArray, List.getElem?_cons_succ, List.getElem?_cons_zero]; rfl)
          case hr6 =>
            go_simp
            try refine ⟨fun _ h => (by cases h), ?_⟩
            refine hK _ _ ?_ (fun hHeld => ?_)
            · exact keepS.out _ (hb4.setCell (p := ⟨w1.heap.size, 0, none⟩) (Nat.le_refl _) _)
            clear hK K
            try simp only [Act.put, List.setIfInBounds_toArray, List.set_cons_zero, List.set_cons_succ]
            refine wpAnyR_done (by kernel_rfl) ?_ _
            exact at_round hX2.out hsz5 hv hrow hgrow4 hown4 hq.out hB
    case hr12 =>
      have hcb := (World.cell?_alloc_lt W (N51 q) ⟨w1.heap.size, 0, none⟩ hv.lt).trans hc
      go_simp
      try refine ⟨fun _ h => (by cases h), ?_⟩
      refine hK _ _ ?_ (fun hHeld => ?_)
      · exact keepS.out _ (((Below.refl _ W).alloc (by omega) _).drew)
      clear hK K
      try simp only [Act.put, List.setIfInBounds_toArray, List.set_cons_zero, List.set_cons_succ]
      refine wpAnyR_ready (rs := [0]) (by kernel_rfl) (by simp) ?_
      refine (AllReadyR.cons (o := ?o11) ?hi11 (fun K hK => ?hr11) AllReadyR.nil)
      case hi11 => (simp only [List.getElem?_toArray, List.getElem?_cons_zero]; rfl)
      case hr11 =>
        go_simp
        try refine ⟨fun _ h => (by cases h), ?_⟩
        refine hK _ _ ?_ (fun hHeld => ?_)
        · exact keepS.out _ (((Below.refl _ W).alloc (by omega) _).drew)
        clear hK K
        try simp only [Act.put, List.setIfInBounds_toArray, List.set_cons_zero, List.set_cons_succ]
        refine wpAnyR_ready (rs := [7]) (by kernel_rfl) (by simp) ?_
        refine (AllReadyR.cons (o := ?o10) ?hi10 (fun K hK => ?hr10) AllReadyR.nil)
        case hi10 => (simp only [List.getElem?_toArray, List.getElem?_cons_succ, List.getElem?_cons_zero]; rfl)
        case hr10 =>
          refine stepIn_append_lies _ (by rfl) _ _ _ (by rfl) (W2.heap.size + 2) 51 i0 _ 5 40 Tryz.underlying28 hi hj0' hj1' hj2' rfl (by omega) v pre.length ((pre.map fun x => cs[x]).flatMap C5.cells) (by rfl) ((hrow.alloc _).drew) ⟨W.heap.size, 0, none⟩ 1 1 [.int .i64 q.s, .int .i64 q.o, .int .i64 q.f, .int .i64 q.t, .int .i64 q.w] (by rfl) (by rfl) (World.news_of_block (cs := #[.int .i64 q.s, .int .i64 q.o, .int .i64 q.f, .int .i64 q.t, .int .i64 q.w]) (t := 51) (fr := (0, 0)) (heap_alloc_new W _)) (by simp [Value.oneCell']) (by omega) (by unfold maxLen; omega) (by omega) (by simp; omega) ?_
          intro gg cap w4 hown4 hgrow4
          have hb4 := app_below2 hrow hgrow4 hX2.out hsz5
          have hv4 : Boxed w4 w1.heap.size 28 v := (hv.alloc _).kept (W := (W.alloc _).drew) hgrow4 (fun e => by have := (hrow.lt _ e.symm).1; have := hX2.out; omega)
          have hc4 := hv4.cell
          have hf4 := hv4.frozen
          refine hK _ _ ?_ (fun hHeld => ?_)
          · exact keepS.out _ (hb4)
          clear hK K
          try simp only [Act.put, List.setIfInBounds_toArray, List.set_cons_zero, List.set_cons_succ]
          refine wpAnyR_ready (rs := [8]) (by kernel_rfl) (by simp) ?_
          refine (AllReadyR.cons (o := ?o9) ?hi9 (fun K hK => ?hr9) AllReadyR.nil)
          case hi9 => (simp only [List.getElem?_toArray, List.getElem?_cons_succ, List.getElem?_cons_zero]; rfl)
          case hr9 =>
            go_simp
            try refine ⟨fun _ h => (by cases h), ?_⟩
            refine hK _ _ ?_ (fun hHeld => ?_)
            · exact keepS.out _ (hb4.setCell (p := ⟨w1.heap.size, 0, none⟩) (Nat.le_refl _) _)
            clear hK K
            try simp only [Act.put, List.setIfInBounds_toArray, List.set_cons_zero, List.set_cons_succ]
            refine wpAnyR_done (by kernel_rfl) ?_ _
            exact at_round hX2.out hsz5 hv hrow hgrow4 hown4 hq.out hB
  case done =>
    rintro D ys W hD rfl ⟨⟨v, hv, hrow, -⟩, hB⟩ hK
    have hc := hv.cell
    have hcells : (hits (slot.tmod L) cs).map (fun x => cs[x]) = slotC (slot % L) cs := by rw [hits_cells, Int.tmod_eq_emod_of_nonneg hs]
    have hlen : (hits (slot.tmod L) cs).length = (slotC (slot % L) cs).length := by rw [← hcells, List.length_map]
    have hrow := Lib.hid hrow
    have hcells := Lib.hid hcells
    have hlen := Lib.hid hlen
    go_wp2_with fail
    refine ⟨by simp, .inl ⟨_, _, rfl, run_takeDeferred hK, ?_⟩⟩
    have hrow2 := ownsRow_putObj hrow.out (.deferred none) hK rfl
    rw [hcells.out, hlen.out] at hrow2
    obtain ⟨A2, c2, rfl, hle, hC⟩ := own_cells hrow2
    have hBf : Below w.heap.size w W := (hw2.trans (h3.out.mono (by have := hw2.size; omega))).trans (hB.mono (by omega))
    exact ⟨_, results_tmp rfl _ _ _, A2, c2, rfl, hC, hle, hBf.trans (belowK_b (w := w) (Nat.le_refl _) W D _ _ (by have := hw2.size; omega) hK rfl rfl)⟩
  case stop =>
    rintro D c pre W _ _ h _
    exact h.elim
def atR (L O : Int) (cs : List C5) (slot : Int) : List C5 := if formB L O cs = true ∧ 0 ≤ slot then slotC (slot % L) cs else []
theorem At_any (L O slot : Int) (A : Option Addr) (n c : Nat) (cs : List C5) (hn : n ≤ 1000000) (hs : slot ≤ 9223372036854775807) (w : World) (hcs : Cells w w.heap.size A n cs) :
    Calls Tryz.prog 23 #[.agg #[.int .i64 L, .int .i64 O, .slice A n c], .int .i64 slot] w (CellsEnd w (atR L O cs slot)) := by
  obtain rfl : cs.length = n := hcs.1
  unfold atR
  cases hf : formB L O cs
  · rw [if_neg (by simp)]
    exact (At_form L O slot A _ c cs hn (Lib.hid hf) w (Lib.hid hcs)).mono fun e w' ⟨he, hb⟩ => by subst he; exact CellsEnd.nil hb
  · by_cases h0 : 0 ≤ slot
    · rw [if_pos ⟨rfl, h0⟩]
      exact At_yes L O slot A c cs (Lib.hid hf) h0 hs w (Lib.hid hcs)
    · rw [if_neg (fun h => h0 h.2)]
      exact (At_neg L O slot A _ c cs hn (Lib.hid hf) (by omega) w (Lib.hid hcs)).mono fun e w' ⟨he, hb⟩ => by subst he; exact CellsEnd.nil hb
theorem Parse_lit (s : ByteArray) (R : PRes) (hR : parseR s.data.toList = R) (hs : s.size ≤ 100000) (w : World) (ht : Tabs w) : Calls Tryz.prog 18 #[.string s] w (ParseEnd w R) := by
  subst hR
  exact Parse_any s (Lib.countB s ⟨#[10]⟩) hs w (Lib.hid (partsB_length 10 s)) (Lib.hid ht)
theorem Print_any (L O : Int) (A : Option Addr) (n c : Nat) (cs : List C5) (hn : n ≤ 1000000) (S : ByteArray) (E : Int) (hS : (if formB L O cs = true then bytesOf (printL L O cs) else ⟨#[]⟩) = S) (hE : (if formB L O cs = true then 0 else 1) = E) (w : World) (hcs : Cells w w.heap.size A n cs) (ht : Tabs w) :
    Calls Tryz.prog 16 #[.agg #[.int .i64 L, .int .i64 O, .slice A n c]] w fun e w' => e = .returned (.tuple #[.string S, .int .i64 E]) ∧ Below w.heap.size w w' := by
  subst hS hE
  cases hf : formB L O cs
  · rw [if_neg (by simp), if_neg (by simp)]
    exact Print_no L O A n c cs hn (Lib.hid hf) w (Lib.hid hcs)
  · rw [if_pos rfl, if_pos rfl]
    exact Print_yes L O A n c cs (Lib.hid hf) w (Lib.hid hcs) (Lib.hid ht.tab)
end Go.Proofs.YtnddjcadkbjjhaaGreatDoor
