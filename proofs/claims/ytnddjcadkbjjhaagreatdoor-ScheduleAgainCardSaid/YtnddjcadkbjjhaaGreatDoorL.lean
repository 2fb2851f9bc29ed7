/-
  CHAPTER 35: Repeat.
-/
import Derived.Test.YtnddjcadkbjjhaaGreatDoorH
namespace Go.Proofs.YtnddjcadkbjjhaaGreatDoor
open Go.RowKit

def shiftC (d : Int) (c : C5) : C5 := ⟨c.s + d, c.o, c.f, c.t, c.w⟩
def repC (L : Int) (cs : List C5) : Nat → List C5
  | 0 => []
  | i + 1 => repC L cs i ++ cs.map (shiftC (i * L))
theorem repC_length (L : Int) (cs : List C5) : ∀ i, (repC L cs i).length = cs.length * i
  | 0 => by simp [repC]
  | i + 1 => by simp [repC, repC_length L cs i, Nat.mul_add]
theorem map_take_succ (d : Int) (cs : List C5) (k : Nat) (x : C5) (h : cs[k]? = some x) : (cs.take (k + 1)).map (shiftC d) = (cs.take k).map (shiftC d) ++ [shiftC d x] := by
  obtain ⟨h1, e1⟩ := List.getElem?_eq_some_iff.1 h
  rw [List.take_succ_eq_append_getElem h1, e1]; simp
def repR (L O : Int) (cs : List C5) (times : Int) : PRes :=
  if formB L O cs = false then ⟨0, 0, [], 0, 1⟩
  else if times < 1 ∨ 512 / L < times then ⟨0, 0, [], 0, 2⟩
  else if 512 < (cs.length : Int) * times then ⟨0, 0, [], 0, 8⟩
  else ⟨L * times, O, repC L cs times.toNat, 0, 0⟩
/-- How Repeat (and Add, Remove) end: a schedule and an error. -/
def SchedEnd (w : World) (R : PRes) (e : Ending) (w' : World) : Prop :=
  ∃ A c, e = .returned (.tuple #[.agg #[.int .i64 R.L, .int .i64 R.O, .slice A R.cs.length c], .int .i64 R.e]) ∧ Cells w' w'.heap.size A R.cs.length R.cs ∧ R.cs.length ≤ c ∧ Below w.heap.size w w'
theorem sched_bad {w W : World} (e : Int) (c : Nat) (hb : Below w.heap.size w W) (B : Nat) (hB : w.heap.size ≤ B) :
    SchedEnd w ⟨0, 0, [], 0, e⟩ (.returned (.tuple #[.agg #[.int .i64 0, .int .i64 0, .slice none 0 c], .int .i64 e]))
      (((W.setCell ⟨B, 0, none⟩ (.int .i64 0)).setCell ⟨B, 1, none⟩ (.int .i64 0)).setCell ⟨B, 2, none⟩ (.slice none 0 0)) :=
  ⟨none, c, rfl, ⟨rfl, fun h => absurd h (by simp)⟩, Nat.zero_le _, ((hb.setCell (p := ⟨B, 0, none⟩) hB _).setCell (p := ⟨B, 1, none⟩) hB _).setCell (p := ⟨B, 2, none⟩) hB _⟩
theorem sched_good {w W : World} {A : Option Addr} {c : Nat} (L O i e : Int) (cs : List C5) (B : Nat) (hB : w.heap.size ≤ B) (hle : cs.length ≤ c) (hC : Cells W W.heap.size A cs.length cs) (hb : Below w.heap.size w W) (hown : ∀ b off, A = some ⟨b, off, none⟩ → B ≠ b) :
    SchedEnd w ⟨L, O, cs, i, e⟩ (.returned (.tuple #[.agg #[.int .i64 L, .int .i64 O, .slice A cs.length c], .int .i64 e]))
      (((W.setCell ⟨B, 0, none⟩ (.int .i64 L)).setCell ⟨B, 1, none⟩ (.int .i64 O)).setCell ⟨B, 2, none⟩ (.slice A cs.length c)) := by
  refine ⟨A, c, rfl, ?_, hle, ((hb.setCell (p := ⟨B, 0, none⟩) hB _).setCell (p := ⟨B, 1, none⟩) hB _).setCell (p := ⟨B, 2, none⟩) hB _⟩
  refine ⟨rfl, fun hn => ?_⟩
  obtain ⟨b, off, hA, hlt, hc⟩ := hC.2 hn
  have hbb := hown b off hA
  refine ⟨b, off, hA, by simpa [World.setCell] using hlt, fun j x hx => ?_⟩
  have hk : ∀ o v, W.cell? ⟨b, o, none⟩ = some v → (((W.setCell ⟨B, 0, none⟩ (.int .i64 L)).setCell ⟨B, 1, none⟩ (.int .i64 O)).setCell ⟨B, 2, none⟩ (.slice A cs.length c)).cell? ⟨b, o, none⟩ = some v := fun o v h => by
    have hne : ∀ o' : Nat, (⟨B, o', none⟩ : Addr) ≠ ⟨b, o, none⟩ := fun o' e => hbb (by cases e; rfl)
    rw [World.cell?_setCell_other _ _ _ _ (hne 2), World.cell?_setCell_other _ _ _ _ (hne 1), World.cell?_setCell_other _ _ _ _ (hne 0)]; exact h
  obtain ⟨c0, c1, c2, c3, c4⟩ := hc j x hx
  exact ⟨hk _ _ c0, hk _ _ c1, hk _ _ c2, hk _ _ c3, hk _ _ c4⟩
/-- The world behind the first steps. -/
abbrev R0 (w : World) (L O : Int) (A : Option Addr) (n c : Nat) : World := (w.alloc (N30 L O (.slice A n c))).alloc (.cells Z3 30)
theorem R0_blk (w : World) (L O : Int) (A : Option Addr) (n c : Nat) : Blk (R0 w L O A n c) (w.heap.size + 1) 30 Z3 := by
  have := Blk.new (w.alloc (N30 L O (.slice A n c))) 30 Z3
  rwa [World.size_alloc] at this
theorem R0_box (w : World) (L O : Int) (A : Option Addr) (n c : Nat) : BoxS (R0 w L O A n c) w.heap.size L O (.slice A n c) :=
  (BoxS.new L O (.slice A n c) 30 w).below ((Below.refl _ _).alloc (Nat.le_refl _) _) (by simp)
theorem R0_below (w : World) (L O : Int) (A : Option Addr) (n c : Nat) : Below w.heap.size w (R0 w L O A n c) := ((Below.refl _ _).alloc (Nat.le_refl _) _).alloc (by simp) _
theorem R0_size (w : World) (L O : Int) (A : Option Addr) (n c : Nat) : w.heap.size + 1 < (R0 w L O A n c).heap.size := by simp
set_option maxHeartbeats 1600000 in
theorem Repeat_form (L O t : Int) (A : Option Addr) (n c : Nat) (cs : List C5) (hn : n ≤ 1000000) (hr : Hid (formB L O cs = false)) (w : World) (hcs : Hid (Cells w w.heap.size A n cs)) :
    Calls Tryz.prog 21 #[.agg #[.int .i64 L, .int .i64 O, .slice A n c], .int .i64 t] w (SchedEnd w ⟨0, 0, [], 0, 1⟩) := by
  have hb0 := R0_below w L O A n c
  have hC := Lib.hid ((hcs.out.below hb0).more hb0.size)
  have hZ := Lib.hid (R0_blk w L O A n c)
  have hs0 := R0_size w L O A n c
  have hs0 := Lib.hid hs0
  go_enter Tryz.func21, Tryz.ntmps21
  go_wp2_with (go_at_call 53; refine (form_lit L O A n c cs hn false hr.out _ hC.out).mono ?_; rintro e w1 ⟨rfl, hb1⟩; obtain ⟨z0, z1, z2, f0, f1, f2⟩ := (hZ.out.below hb1 hs0.out).three)
  refine bodyPost_ret (v := .tuple #[.agg #[.int .i64 0, .int .i64 0, .slice none 0 0], .int .i64 1]) (by simp [results, Tryz.results21, go_sem, z0, z1, z2]) rfl ?_
  exact sched_bad 1 0 (bstep hb0 hb1 (Nat.le_refl _)) _ (by omega)
set_option maxHeartbeats 1600000 in
theorem Repeat_range (L O t : Int) (A : Option Addr) (n c : Nat) (cs : List C5) (hn : n ≤ 1000000) (hr : Hid (formB L O cs = true)) (ht : t < 1 ∨ (1 ≤ t ∧ 512 / L < t)) (w : World) (hcs : Hid (Cells w w.heap.size A n cs)) :
    Calls Tryz.prog 21 #[.agg #[.int .i64 L, .int .i64 O, .slice A n c], .int .i64 t] w (SchedEnd w ⟨0, 0, [], 0, 2⟩) := by
  have hb0 := R0_below w L O A n c
  have hC := Lib.hid ((hcs.out.below hb0).more hb0.size)
  have hZ := Lib.hid (R0_blk w L O A n c)
  have hB := Lib.hid (R0_box w L O A n c)
  have hs0 := R0_size w L O A n c
  have hs0 := Lib.hid hs0
  have hL1 := (form_sized hr.out).1
  have hL2 := (form_sized hr.out).2.1
  have hL0 : ¬ L = 0 := by omega
  have hL00 : (L == 0) = false := by rw [beq_eq_false_iff_ne]; omega
  rcases ht with ht | ⟨ht1, ht2⟩
  · go_enter Tryz.func21, Tryz.ntmps21
    go_wp2_with (go_at_call 53; refine (form_lit L O A n c cs hn true hr.out _ hC.out).mono ?_; rintro e w1 ⟨rfl, hb1⟩; obtain ⟨z0, z1, z2, f0, f1, f2⟩ := (hZ.out.below hb1 hs0.out).three; obtain ⟨b0, b1, b2⟩ := hB.out.below hb1 (Nat.lt_of_succ_lt hs0.out))
    refine bodyPost_ret (v := .tuple #[.agg #[.int .i64 0, .int .i64 0, .slice none 0 0], .int .i64 2]) (by simp [results, Tryz.results21, go_sem, z0, z1, z2]) rfl ?_
    exact sched_bad 2 0 (bstep hb0 hb1 (Nat.le_refl _)) _ (by omega)
  · go_enter Tryz.func21, Tryz.ntmps21
    go_wp2_with (go_at_call 53; refine (form_lit L O A n c cs hn true hr.out _ hC.out).mono ?_; rintro e w1 ⟨rfl, hb1⟩; obtain ⟨z0, z1, z2, f0, f1, f2⟩ := (hZ.out.below hb1 hs0.out).three; obtain ⟨b0, b1, b2⟩ := hB.out.below hb1 (Nat.lt_of_succ_lt hs0.out))
    refine bodyPost_ret (v := .tuple #[.agg #[.int .i64 0, .int .i64 0, .slice none 0 0], .int .i64 2]) (by simp [results, Tryz.results21, go_sem, z0, z1, z2]) rfl ?_
    exact sched_bad 2 0 (bstep hb0 hb1 (Nat.le_refl _)) _ (by omega)
theorem form_slot {L O : Int} {c : C5} (h : formedB L O c = true) : 0 ≤ c.s ∧ c.s < L := by
  unfold formedB placedB at h
  simp only [Bool.and_eq_true, insB_iff] at h
  exact h.1.1.1.1
theorem rep_len {L : Int} {cs : List C5} {n m k t : Nat} (hc : cs.length = n) (hm : m < n) (hk : k < t) (hbig : (n : Int) * (t : Int) ≤ 512) : (repC L cs k ++ (cs.take m).map (shiftC (k * L))).length ≤ 512 := by
  have h1 : n * t ≤ 512 := by
    have h0 : ((n * t : Nat) : Int) ≤ 512 := by rw [Int.natCast_mul]; exact hbig
    omega
  have h2 : n * (k + 1) ≤ n * t := Nat.mul_le_mul_left n hk
  rw [List.length_append, repC_length, List.length_map, List.length_take, hc]
  rw [Nat.mul_add] at h2
  omega
theorem cells_one (c : C5) : ∀ u ∈ c.cells, u.oneCell' = true := by
  intro u hu
  simp only [C5.cells, List.mem_cons, List.not_mem_nil, or_false] at hu
  rcases hu with rfl | rfl | rfl | rfl | rfl <;> rfl
theorem news_cells (W : World) (T : TypeId) (y : C5) : ∀ (j : Nat) (u : Value), y.cells[j]? = some u → (W.alloc (.cells #[.int .i64 y.s, .int .i64 y.o, .int .i64 y.f, .int .i64 y.t, .int .i64 y.w] T)).cell? ((⟨W.heap.size, 0, none⟩ : Addr).add j) = some u :=
  World.news_of_block (cs := #[.int .i64 y.s, .int .i64 y.o, .int .i64 y.f, .int .i64 y.t, .int .i64 y.w]) (t := T) (fr := (0, 0)) (heap_alloc_new W _)
theorem news_shift (W : World) (o : Obj) (x : C5) (d : Int) : ∀ (j : Nat) (u : Value), (shiftC d x).cells[j]? = some u → ((W.alloc o).alloc (.cells #[.int .i64 (x.s + d), .int .i64 x.o, .int .i64 x.f, .int .i64 x.t, .int .i64 x.w] 51)).cell? ((⟨W.heap.size + 1, 0, none⟩ : Addr).add j) = some u := by
  have := news_cells (W.alloc o) 51 (shiftC d x)
  rwa [World.size_alloc] at this
theorem quo_le {L t : Int} (h1 : 1 ≤ L) (h2 : t ≤ 512 / L) : L * t ≤ 512 := by
  have h3 := Int.mul_le_mul_of_nonneg_left h2 (show 0 ≤ L by omega)
  have h4 := Int.mul_ediv_self_le (x := 512) (k := L) (by omega)
  omega
theorem mul_small {a b : Int} (h0 : 0 ≤ a) (h1 : a ≤ 1000000) (h2 : 0 ≤ b) (h3 : b ≤ 1000000) : 0 ≤ a * b ∧ a * b ≤ 1000000000000 := by
  have := Int.mul_le_mul h1 h3 h2 (by omega : (0 : Int) ≤ 1000000)
  exact ⟨Int.mul_nonneg h0 h2, by omega⟩
theorem wrap_mul {a b : Int} (h0 : 0 ≤ a) (h1 : a ≤ 1000000) (h2 : 0 ≤ b) (h3 : b ≤ 1000000) : IntKind.i64.wrap (a * b) = a * b := by
  have := mul_small h0 h1 h2 h3
  exact IntWalk.i64_in _ (by omega)
theorem quo_small {L t : Int} (h2 : t ≤ 512 / L) : t ≤ 512 := by
  have : (512 : Int) / L ≤ 512 := Int.ediv_le_self L (by omega)
  omega
set_option maxHeartbeats 1600000 in
theorem Repeat_large (L O t : Int) (A : Option Addr) (n c : Nat) (cs : List C5) (hr : Hid (formB L O cs = true)) (ht1 : 1 ≤ t) (ht2 : t ≤ 512 / L) (w : World) (hcs : Hid (Cells w w.heap.size A n cs)) (hbig : 512 < (n : Int) * t) :
    Calls Tryz.prog 21 #[.agg #[.int .i64 L, .int .i64 O, .slice A n c], .int .i64 t] w (SchedEnd w ⟨0, 0, [], 0, 8⟩) := by
  have hn : n ≤ 512 := by have := (form_sized hr.out).2.2.2.2; have := hcs.out.1; omega
  have hb0 := R0_below w L O A n c
  have hC := Lib.hid ((hcs.out.below hb0).more hb0.size)
  have hZ := Lib.hid (R0_blk w L O A n c)
  have hB := Lib.hid (R0_box w L O A n c)
  have hs0 := R0_size w L O A n c
  have hs0 := Lib.hid hs0
  have hL1 := (form_sized hr.out).1
  have hL2 := (form_sized hr.out).2.1
  have hL0 : ¬ L = 0 := by omega
  have hL00 : (L == 0) = false := by rw [beq_eq_false_iff_ne]; omega
  have ht5 := quo_small ht2
  have hwm : IntKind.i64.wrap ((n : Int) * t) = (n : Int) * t := wrap_mul (by omega) (by omega) (by omega) (by omega)
  go_enter Tryz.func21, Tryz.ntmps21
  go_wp2_with (go_at_call 53; refine (form_lit L O A n c cs (by omega) true hr.out _ hC.out).mono ?_; rintro e w1 ⟨rfl, hb1⟩; obtain ⟨z0, z1, z2, f0, f1, f2⟩ := (hZ.out.below hb1 hs0.out).three; obtain ⟨b0, b1, b2⟩ := hB.out.below hb1 (Nat.lt_of_succ_lt hs0.out))
  refine bodyPost_ret (v := .tuple #[.agg #[.int .i64 0, .int .i64 0, .slice none 0 0], .int .i64 8]) (by simp [results, Tryz.results21, go_sem, z0, z1, z2]) rfl ?_
  exact sched_bad 8 0 (bstep hb0 hb1 (Nat.le_refl _)) _ (by omega)
/-- What holds in Repeat's loops: acc has been gathered. -/
def QRel (w1 : World) (L O t : Int) (X : Nat) (acc : List C5) (wx : World) : Prop :=
  ∃ v, Blk wx X 30 #[.int .i64 (L * t), .int .i64 O, v] ∧ wx.ownsRow (X + 1) 51 5 v acc.length (acc.flatMap C5.cells) ∧ Below X w1 wx ∧ X + 1 ≤ wx.heap.size
theorem QRel.start (w1 : World) (L O t : Int) : QRel w1 L O t w1.heap.size [] (w1.alloc (.cells #[.int .i64 (L * t), .int .i64 O, .slice none 0 0] 30)) :=
  ⟨_, Blk.new w1 30 _, World.ownsRow_nil _ _ _ _, (Below.refl _ _).alloc (Nat.le_refl _) _, by simp⟩
theorem QRel.step {w1 wr w4 : World} {L O t : Int} {X g cap : Nat} {acc : List C5} {y : C5} {v : Value} {o1 o2 : Obj} (hB : Blk wr X 30 #[.int .i64 (L * t), .int .i64 O, v]) (hown : wr.ownsRow (X + 1) 51 5 v acc.length (acc.flatMap C5.cells)) (hb : Below X w1 wr) (hs : X + 1 ≤ wr.heap.size)
    (hown4 : w4.ownsRow (X + 1) 51 5 (.slice (some ⟨g, 0, none⟩) (acc.length + 1) cap) (acc.length + 1) (acc.flatMap C5.cells ++ y.cells)) (hg : ((wr.alloc o1).alloc o2).grownBy w4 v.ownBlock) :
    QRel w1 L O t X (acc ++ [y]) (w4.setCell ⟨X, 2, none⟩ (.slice (some ⟨g, 0, none⟩) (acc.length + 1) cap)) := by
  have hne : some X ≠ v.ownBlock := fun e => by have := (hown.lt X e.symm).1; omega
  have hB4 : Blk w4 X 30 #[.int .i64 (L * t), .int .i64 O, v] := ((hB.alloc o1).alloc o2).grown hg hne
  have hb4 : Below X w1 w4 := ((hb.alloc (by omega) o1).alloc (by simp; omega) o2).grown hg (by simp; omega) (fun j hj => by have := (hown.lt j hj).1; omega)
  refine ⟨_, hB4.set_ 2 _, ?_, hb4.setCell (p := ⟨X, 2, none⟩) (Nat.le_refl X) _, ?_⟩
  · have := ownsRow_setCell_below hown4 (a := ⟨X, 2, none⟩) (by show X < X + 1; omega) (.slice (some ⟨g, 0, none⟩) (acc.length + 1) cap)
    simpa using this
  · have := hg.size
    simp [World.setCell] at *
    omega
theorem QRel.blk4 {wr w4 : World} {X : Nat} {v : Value} {cs : Array Value} {o1 o2 : Obj} {xs : List Value} {n : Nat} (hB : Blk wr X 30 cs) (hown : wr.ownsRow (X + 1) 51 5 v n xs) (hg : ((wr.alloc o1).alloc o2).grownBy w4 v.ownBlock) : Blk w4 X 30 cs :=
  ((hB.alloc o1).alloc o2).grown hg (fun e => by have := (hown.lt X e.symm).1; omega)
set_option maxHeartbeats 4000000 in
set_option maxRecDepth 100000 in
theorem Repeat_yes (L O : Int) (t : Nat) (A : Option Addr) (n c : Nat) (cs : List C5) (hr : Hid (formB L O cs = true)) (ht1 : 1 ≤ t) (ht2 : (t : Int) ≤ 512 / L) (w : World) (hcs : Hid (Cells w w.heap.size A n cs)) (hbig : (n : Int) * t ≤ 512) :
    Calls Tryz.prog 21 #[.agg #[.int .i64 L, .int .i64 O, .slice A n c], .int .i64 (t : Int)] w (SchedEnd w ⟨L * t, O, repC L cs t, 0, 0⟩) := by
  have hn : n ≤ 512 := by have := (form_sized hr.out).2.2.2.2; have := hcs.out.1; omega
  have hb0 := R0_below w L O A n c
  have hC := Lib.hid ((hcs.out.below hb0).more hb0.size)
  have hZ := Lib.hid (R0_blk w L O A n c)
  have hB := Lib.hid (R0_box w L O A n c)
  have hs0 := R0_size w L O A n c
  have hs0 := Lib.hid hs0
  have hL1 := (form_sized hr.out).1
  have hL2 := (form_sized hr.out).2.1
  have hL0 : ¬ L = 0 := by omega
  have hL00 : (L == 0) = false := by rw [beq_eq_false_iff_ne]; omega
  have ht5 := quo_small ht2
  have hwm : IntKind.i64.wrap ((n : Int) * (t : Int)) = (n : Int) * (t : Int) := wrap_mul (by omega) (by omega) (by omega) (by omega)
  have hwl : IntKind.i64.wrap (L * (t : Int)) = L * (t : Int) := wrap_mul (by omega) (by omega) (by omega) (by omega)
  obtain ⟨i0, hi, hj0, hj1, hj2⟩ := info_parts Tryz.info51
  go_enter Tryz.func21, Tryz.ntmps21
  go_wp2_with fail
  refine (form_lit L O A n c cs (by omega) true hr.out _ hC.out).mono ?_
  rintro e w1 ⟨rfl, hb1⟩
  have hZ1 := Lib.hid (hZ.out.below hb1 hs0.out)
  have hB1 := Lib.hid (hB.out.below hb1 (Nat.lt_of_succ_lt hs0.out))
  have hbw1 := bstep hb0 hb1 (Nat.le_refl _)
  have HC1 := Lib.hid ((hcs.out.below hbw1).more hbw1.size)
  have hs1 : w.heap.size + 1 < w1.heap.size := Nat.lt_of_lt_of_le hs0.out hb1.size
  clear hC hZ hB hs0 hb1 hb0 hcs
  obtain ⟨b0, b1, b2⟩ := id hB1.out
  go_wp2_with fail
  clear b0 b1 b2
  have hq0 := Lib.hid (QRel.start w1 L O t)
  have hHI := Lib.hid (form_mem hr.out)
  go_loopw [42] (fun i wx => ∃ k : Nat, k ≤ t ∧ i = .int .i64 k ∧ Hid (QRel w1 L O t w1.heap.size (repC L cs k) wx)) (fun i _ => t - (intOf i).toNat)
  case atStart => exact ⟨0, Nat.zero_le _, rfl, hq0⟩
  case round =>
    obtain ⟨k, hk, rfl, H⟩ := hrel
    clear hq0
    by_cases hlt : k < t
    · have hkb : IntKind.i64.wrap ((k : Int) * L) = (k : Int) * L := wrap_mul (by omega) (by omega) (by omega) (by omega)
      have hkL := mul_small (a := (k : Int)) (b := L) (by omega) (by omega) (by omega) (by omega)
      have hkL1 := hkL.1
      have hkL2 := hkL.2
      clear hkL
      obtain ⟨v, hBk, hown, hbx, hsx⟩ := id H.out
      obtain ⟨b0, b1, b2⟩ := hB1.out.below hbx (by omega)
      have hq1 : Hid (QRel w1 L O t w1.heap.size (repC L cs k ++ (cs.take 0).map (shiftC (k * L))) wr) := Lib.hid (by simpa using H.out)
      clear hBk hown hbx hsx
      go_wp2_with fail
      clear b0 b1 b2
      obtain ⟨wo, hwo⟩ : ∃ wo, wo = wr := ⟨_, rfl⟩
      rw [← hwo] at H hq1 ⊢
      clear hwo
      go_loopw [48] (fun j wx => ∃ m : Nat, m ≤ n ∧ j = .int .i64 m ∧ Hid (QRel w1 L O t w1.heap.size (repC L cs k ++ (cs.take m).map (shiftC (k * L))) wx)) (fun j _ => n - (intOf j).toNat)
      case atStart => exact ⟨0, Nat.zero_le _, rfl, hq1⟩
      case round =>
        obtain ⟨m, hm, rfl, H2⟩ := hrel
        clear hq1
        obtain ⟨v, hBk, hown, hbx, hsx⟩ := id H2.out
        by_cases hlm : m < n
        · obtain ⟨b, off, x, rfl, hb, ex, x0, x1, x2, x3, x4⟩ := (HC1.out.below hbx).at_ hlm
          have hxf := form_slot (hHI.out x (List.mem_of_getElem? ex))
          have hx0 := hxf.1
          have hx1 : x.s ≤ 512 := by omega
          have hsn := Lib.hid (map_take_succ (k * L) cs m x ex)
          have hlen : (repC L cs k ++ (cs.take m).map (shiftC (k * L))).length ≤ 512 := rep_len HC1.out.1 hlm hlt hbig
          obtain ⟨acc, hacc⟩ : ∃ acc, repC L cs k ++ (cs.take m).map (shiftC (k * L)) = acc := ⟨_, rfl⟩
          rw [hacc] at hown hlen H2
          have hacc := Lib.hid hacc
          obtain ⟨b0, b1, b2⟩ := hB1.out.below hbx (by omega)
          obtain ⟨y0, y1, y2, q0, q1, q2⟩ := hBk.three
          have hBk := Lib.hid hBk
          have hwlt : w.heap.size < wr.heap.size := by omega
          have hXlt : w1.heap.size < wr.heap.size := by omega
          clear ex hxf
          go_wp2_with (at_builtin; refine wpList_append_lies _ rfl _ _ 28 rfl (w1.heap.size + 1) 51 i0 _ 5 40 Tryz.underlying28 hi hj0 hj1 hj2 rfl (by omega) v acc.length (acc.flatMap C5.cells) rfl ((hown.alloc _).alloc _) ⟨wr.heap.size + 1, 0, none⟩ 1 1 (shiftC (k * L) x).cells rfl rfl (news_shift wr _ x _) (cells_one _) (by omega) (by unfold maxLen; omega) (by omega) (by simp; omega) (wr.heap.size + 2) (by simp) ?_; intro gg cap w4 hown4 hgrow4 _ _; have hB4 := QRel.blk4 hBk.out hown hgrow4; obtain ⟨u0, u1, u2, r0, r1, r2⟩ := hB4.three)
          have H4 : Hid (QRel w1 L O t w1.heap.size (repC L cs k ++ (cs.take (m + 1)).map (shiftC (k * L))) (w4.setCell ⟨w1.heap.size, 2, none⟩ (.slice (some ⟨gg, 0, none⟩) (acc.length + 1) cap))) := Lib.hid (by
            rw [hsn.out, ← List.append_assoc, hacc.out]
            exact QRel.step hBk.out hown hbx hsx hown4 hgrow4)
          go_roundw
          case rel => exact ⟨m + 1, by omega, by go_num, H4⟩
          case measure => simp [intOf]; omega
        · have H3 : Hid (QRel w1 L O t w1.heap.size (repC L cs (k + 1)) wr) := Lib.hid (by
            have := H2.out
            rw [List.take_of_length_le (by have := HC1.out.1; omega)] at this
            exact this)
          clear hBk hown
          go_wp2_with fail
          go_roundw
          case rel => exact ⟨k + 1, by omega, by go_num, H3⟩
          case measure => simp [intOf]; omega
    · obtain rfl : k = t := by omega
      obtain ⟨v, hBk, hown, hbx, hsx⟩ := id H.out
      obtain ⟨A2, c2, rfl, hle, hC⟩ := own_cells hown
      obtain ⟨y0, y1, y2, q0, q1, q2⟩ := hBk.three
      obtain ⟨z0, z1, z2, f0, f1, f2⟩ := (hZ1.out.below hbx hs1).three
      have hown := Lib.hid hown
      have hC := Lib.hid hC
      have hle := Lib.hid hle
      go_wp2_with fail
      refine bodyPost_ret (v := .tuple #[.agg #[.int .i64 (L * k), .int .i64 O, .slice A2 (repC L cs k).length c2], .int .i64 0]) (by simp [results, Tryz.results21, go_sem, z0, z1, z2]) rfl ?_
      exact sched_good (L * k) O 0 0 (repC L cs k) (w.heap.size + 1) (by omega) hle.out hC.out (bstep hbw1 (hbx.mono (Nat.le_refl _)) (Nat.le_refl _)) (fun b off h => by have := own_block hown.out b off h; omega)
theorem Repeat_any (L O t : Int) (A : Option Addr) (n c : Nat) (cs : List C5) (hn : n ≤ 1000000) (w : World) (hcs : Cells w w.heap.size A n cs) :
    Calls Tryz.prog 21 #[.agg #[.int .i64 L, .int .i64 O, .slice A n c], .int .i64 t] w (SchedEnd w (repR L O cs t)) := by
  have hl := hcs.1
  unfold repR
  cases hf : formB L O cs
  · rw [if_pos rfl]
    exact Repeat_form L O t A n c cs hn (Lib.hid hf) w (Lib.hid hcs)
  · rw [if_neg (by simp)]
    by_cases h1 : t < 1 ∨ 512 / L < t
    · rw [if_pos h1]
      exact Repeat_range L O t A n c cs hn (Lib.hid hf) (by omega) w (Lib.hid hcs)
    · rw [if_neg h1]
      have h2 : 1 ≤ t ∧ t ≤ 512 / L := by omega
      by_cases h3 : 512 < (cs.length : Int) * t
      · rw [if_pos h3]
        exact Repeat_large L O t A n c cs (Lib.hid hf) h2.1 h2.2 w (Lib.hid hcs) (by rw [← hl]; exact h3)
      · rw [if_neg h3]
        obtain ⟨k, rfl⟩ : ∃ k : Nat, t = k := ⟨t.toNat, by omega⟩
        rw [Int.toNat_natCast]
        exact Repeat_yes L O k A n c cs (Lib.hid hf) (by omega) h2.2 w (Lib.hid hcs) (by rw [← hl]; omega)
end Go.Proofs.YtnddjcadkbjjhaaGreatDoor
