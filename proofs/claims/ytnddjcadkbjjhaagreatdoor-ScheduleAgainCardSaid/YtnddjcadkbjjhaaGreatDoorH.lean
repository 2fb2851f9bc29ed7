/-
  CHAPTER 35: Parse.
-/
import Derived.Test.YtnddjcadkbjjhaaGreatDoorG
import Derived.Deep.AppendLies
import Derived.Deep.RegionHeld3
namespace Go.Proofs.YtnddjcadkbjjhaaGreatDoor
open Go.RowKit

/-- What lines hold, one behind the other: the first that is not as described, or the schedule. -/
inductive PEnd where
  | bad (i : Nat)
  | fine (L O : Int) (cs : List C5)
def lines35 : Nat → List (List UInt8) → Int → Int → List C5 → PEnd
  | _, [], L, O, cs => .fine L O cs
  | 0, l :: r, _, _, cs => match readL l schedL 2 with
    | some [a, b] => lines35 1 r a b cs
    | _ => .bad 0
  | k + 1, l :: r, L, O, cs => match readL l cellL 5 with
    | some [a, b, c, d, e] => lines35 (k + 2) r L O (cs ++ [⟨a, b, c, d, e⟩])
    | _ => .bad (k + 1)
structure PRes where
  L : Int
  O : Int
  cs : List C5
  i : Int
  e : Int
def parseR (t : List UInt8) : PRes :=
  match lines35 0 (cutL 10 t).dropLast 0 0 [] with
  | .bad i => ⟨0, 0, [], i, 3⟩
  | .fine L O cs =>
    if (cutL 10 t).length = 1 ∨ (cutL 10 t).getLast? ≠ some [] then ⟨0, 0, [], ((cutL 10 t).length : Int) - 1, 3⟩
    else if formB L O cs = true then ⟨L, O, cs, -1, 0⟩ else ⟨0, 0, [], -1, 1⟩
/-- How Parse ends. -/
def ParseEnd (w : World) (R : PRes) (e : Ending) (w' : World) : Prop :=
  ∃ A c, e = .returned (.tuple #[.agg #[.int .i64 R.L, .int .i64 R.O, .slice A R.cs.length c], .int .i64 R.i, .int .i64 R.e]) ∧ Cells w' w'.heap.size A R.cs.length R.cs ∧ R.cs.length ≤ c ∧ Below w.heap.size w w'

/-- A block that is known whole. -/
def Blk (w : World) (g : Nat) (t : TypeId) (cs : Array Value) : Prop := w.heap[g]? = some (.cells cs t (0, 0))
section
variable {w w' : World} {g : Nat} {t : TypeId} {cs : Array Value}
theorem Blk.lt (h : Blk w g t cs) : g < w.heap.size := by
  rcases Nat.lt_or_ge g w.heap.size with hlt | hge
  · exact hlt
  · unfold Blk at h; rw [Array.getElem?_eq_none hge] at h; cases h
theorem Blk.cell (h : Blk w g t cs) (i : Nat) : w.cell? ⟨g, i, none⟩ = cs[i]? := cell_of_row w g i cs t (0, 0) h
theorem Blk.frozen (h : Blk w g t cs) (i : Nat) : w.frozen? ⟨g, i, none⟩ = false := by
  unfold Blk at h
  simp [World.frozen?, h]
theorem Blk.new (w : World) (t : TypeId) (cs : Array Value) : Blk (w.alloc (.cells cs t)) w.heap.size t cs := heap_alloc_new w _
theorem Blk.alloc (h : Blk w g t cs) (o : Obj) : Blk (w.alloc o) g t cs := (Below.heap_alloc w o g h.lt).trans h
theorem Blk.set_ (h : Blk w g t cs) (i : Nat) (u : Value) : Blk (w.setCell ⟨g, i, none⟩ u) g t (cs.setIfInBounds i u) := by
  unfold Blk at h ⊢
  simp [World.setCell, Array.getElem?_modify, h]
theorem Blk.far (h : Blk w g t cs) {p : Addr} (hp : g ≠ p.block) (u : Value) : Blk (w.setCell p u) g t cs := (Below.heap_setCell w p u g hp).trans h
theorem Blk.below {B : Nat} (h : Blk w g t cs) (hb : Below B w w') (hg : g < B) : Blk w' g t cs := (hb.block g hg).trans h
theorem Blk.grown {row : Option Nat} (h : Blk w g t cs) (hb : w.grownBy w' row) (hg : some g ≠ row) : Blk w' g t cs := (hb.block g h.lt hg).trans h
end
/-- The three cells of a schedule in a block. -/
theorem Blk.three {w : World} {g : Nat} {t : TypeId} {a b c : Value} (h : Blk w g t #[a, b, c]) : w.cell? ⟨g, 0, none⟩ = some a ∧ w.cell? ⟨g, 1, none⟩ = some b ∧ w.cell? ⟨g, 2, none⟩ = some c ∧ w.frozen? ⟨g, 0, none⟩ = false ∧ w.frozen? ⟨g, 1, none⟩ = false ∧ w.frozen? ⟨g, 2, none⟩ = false :=
  ⟨h.cell 0, h.cell 1, h.cell 2, h.frozen 0, h.frozen 1, h.frozen 2⟩
abbrev Z3 : Array Value := #[.int .i64 0, .int .i64 0, .slice none 0 0]
theorem read2 (s : ByteArray) (r : Option (List Int)) (hr : readL s.data.toList schedL 2 = r) (hs : s.size ≤ 1000000) (w : World) (ht : Tabs w) :
    Calls Tryz.prog 62 #[.string s, .string ⟨#[115, 99, 104, 101, 100, 117, 108, 101]⟩, .int .i64 2] w (ReadEnd w 2 r) := read_any s _ 2 r hr (by omega) (by omega) hs w ht
theorem read5 (s : ByteArray) (r : Option (List Int)) (hr : readL s.data.toList cellL 5 = r) (hs : s.size ≤ 1000000) (w : World) (ht : Tabs w) :
    Calls Tryz.prog 62 #[.string s, .string ⟨#[99, 101, 108, 108]⟩, .int .i64 5] w (ReadEnd w 5 r) := read_any s _ 5 r hr (by omega) (by omega) hs w ht
theorem list2 {xs : List Int} (h : xs.length = 2) : ∃ a b, xs = [a, b] := by
  match xs, h with
  | [a, b], _ => exact ⟨a, b, rfl⟩
theorem list5 {xs : List Int} (h : xs.length = 5) : ∃ a b c d e, xs = [a, b, c, d, e] := by
  match xs, h with
  | [a, b, c, d, e], _ => exact ⟨a, b, c, d, e, rfl⟩
theorem Tryz.info51 : (Tryz.prog.info? 51).map (fun i => (i.zero, i.size, i.bytes)) = some (some (.agg #[.int .i64 0, .int .i64 0, .int .i64 0, .int .i64 0, .int .i64 0]), 5, 40) := by kernel_rfl
theorem cutL_length (c : UInt8) : ∀ l : List UInt8, (cutL c l).length ≤ l.length + 1
  | [] => by simp [cutL]
  | x :: l => by
    have ih := cutL_length c l
    unfold cutL
    split
    · simp; omega
    · split
      · simp
      · rename_i hc; rw [hc] at ih; simp at *; omega
theorem lines_at {ps : List ByteArray} {s : ByteArray} (h : ps.map (·.data.toList) = cutL 10 s.data.toList) (hs : s.size ≤ 1000000) {k : Nat} (hk : k + 1 < ps.length) :
    ∃ p : ByteArray, ps[k]? = some p ∧ (cutL 10 s.data.toList).dropLast[k]? = some p.data.toList ∧ p.size ≤ 1000000 := by
  have hl : k < ps.length := by omega
  have h2 : (ps.map (·.data.toList))[k]? = some (ps[k].data.toList) := by simp [hl]
  have hn : (cutL 10 s.data.toList).length = ps.length := by rw [← h]; simp
  refine ⟨ps[k], List.getElem?_eq_getElem hl, ?_, ?_⟩
  · rw [h] at h2
    rw [List.getElem?_dropLast, if_pos (by omega)]; exact h2
  · have hm : ps[k].data.toList ∈ cutL 10 s.data.toList := by rw [← h]; exact List.mem_of_getElem? h2
    have := cutL_le 10 _ _ hm
    have e1 := size_list ps[k]; have e2 := size_list s; omega

/-- What holds at the head of a round: k lines are read. -/
def PRel (w : World) (s : ByteArray) (last : Nat) (R : PEnd) (k : Nat) (L O : Int) (v : Value) (cs : List C5) (wx : World) : Prop :=
  k ≤ last ∧ Blk wx (w.heap.size + 1 + 1) 30 #[.int .i64 L, .int .i64 O, v] ∧ Blk wx w.heap.size 30 Z3 ∧ ReadsS wx (w.heap.size + 1) 0 (partsB 10 s) ∧ wx.ownsRow (w.heap.size + 3) 51 5 v cs.length (cs.flatMap C5.cells) ∧
  Below w.heap.size w wx ∧ w.heap.size + 3 ≤ wx.heap.size ∧ lines35 k ((cutL 10 s.data.toList).dropLast.drop k) L O cs = R ∧ cs.length ≤ k

theorem PRel.start (w : World) (s : ByteArray) (last : Nat) (R : PEnd) (hR : lines35 0 (cutL 10 s.data.toList).dropLast 0 0 [] = R) :
    PRel w s last R 0 0 0 (.slice none 0 0) [] (((w.alloc (.cells Z3 30)).alloc (.cells ((partsB 10 s).map Value.string).toArray 9)).alloc (.cells Z3 30)) := by
  refine ⟨Nat.zero_le _, ?_, ?_, ?_, World.ownsRow_nil _ _ _ _, ?_, by simp, by simpa using hR, Nat.le_refl _⟩
  · have := Blk.new ((w.alloc (.cells Z3 30)).alloc (.cells ((partsB 10 s).map Value.string).toArray 9)) 30 Z3
    simpa using this
  · exact ((Blk.new w 30 Z3).alloc _).alloc _
  · have h := ReadsS.new (w.alloc (.cells Z3 30)) (partsB 10 s)
    have h2 := h.below (Below.alloc (Below.refl _ _) (Nat.le_refl _) (.cells Z3 30)) (by simp)
    simpa using h2
  · exact (((Below.refl _ w).alloc (Nat.le_refl _) _).alloc (by simp) _).alloc (by simp; omega) _
/-- The parts of the relation behind a call that makes memory. -/
theorem PRel.later {w wr w2 : World} {s : ByteArray} {last k : Nat} {R : PEnd} {L O : Int} {v : Value} {cs : List C5} (h : PRel w s last R k L O v cs wr) (hb : Below wr.heap.size wr w2) : PRel w s last R k L O v cs w2 := by
  obtain ⟨h1, h2, h3, h4, h5, h6, h7, h8, h9⟩ := h
  exact ⟨h1, h2.below hb h2.lt, h3.below hb h3.lt, h4.below hb (by omega), own_below h5 hb, h6.trans (hb.mono (by omega)), Nat.le_trans h7 hb.size, h8, h9⟩
theorem drop_cons {α : Type} {l : List α} {k : Nat} {x : α} (h : l[k]? = some x) : l.drop k = x :: l.drop (k + 1) := by
  obtain ⟨h1, e1⟩ := List.getElem?_eq_some_iff.1 h
  rw [List.drop_eq_getElem_cons h1, e1]
theorem PRel.two {w w2 : World} {s : ByteArray} {last : Nat} {R : PEnd} {L O a b : Int} {v : Value} {cs : List C5} {l : List UInt8} (h : PRel w s last R 0 L O v cs w2) (hl : (cutL 10 s.data.toList).dropLast[0]? = some l) (hr : readL l schedL 2 = some [a, b]) (hk : 0 < last) :
    PRel w s last R 1 a b v cs ((w2.setCell ⟨w.heap.size + 1 + 1, 0, none⟩ (.int .i64 a)).setCell ⟨w.heap.size + 1 + 1, 1, none⟩ (.int .i64 b)).drew := by
  obtain ⟨h1, h2, h3, h4, h5, h6, h7, h8, h9⟩ := h
  have e := h8
  rw [drop_cons hl, lines35, hr] at e
  refine ⟨hk, (h2.set_ 0 _).set_ 1 _, (h3.far (by simp; omega) _).far (by simp; omega) _, ?_, ?_, ?_, by simpa using h7, e, Nat.le_trans h9 (Nat.zero_le _)⟩
  · intro j q hq
    show World.cell? (World.setCell (World.setCell w2 _ _) _ _) _ = _
    rw [World.cell?_setCell_other _ _ _ _ (by simp), World.cell?_setCell_other _ _ _ _ (by simp)]
    exact h4 j q hq
  · exact ownsRow_setCell_below (ownsRow_setCell_below h5 (by simp) _) (by simp) _
  · exact Below.drew (Below.setCell (Below.setCell h6 (p := ⟨w.heap.size + 1 + 1, 0, none⟩) (by simp; omega) _) (p := ⟨w.heap.size + 1 + 1, 1, none⟩) (by simp; omega) _)
theorem PRel.five {w w2 w4 : World} {o : Obj} {s : ByteArray} {last k : Nat} {R : PEnd} {L O : Int} {v v' : Value} {cs : List C5} {l : List UInt8} {a b c d e : Int} (h : PRel w s last R (k + 1) L O v cs w2) (hl : (cutL 10 s.data.toList).dropLast[k + 1]? = some l) (hr : readL l cellL 5 = some [a, b, c, d, e]) (hk : k + 1 < last)
    (hown : w4.ownsRow (w.heap.size + 3) 51 5 v' (cs.length + 1) (cs.flatMap C5.cells ++ [.int .i64 a, .int .i64 b, .int .i64 c, .int .i64 d, .int .i64 e])) (hg : (w2.alloc o).drew.grownBy w4 v.ownBlock) :
    PRel w s last R (k + 2) L O v' (cs ++ [⟨a, b, c, d, e⟩]) (w4.setCell ⟨w.heap.size + 1 + 1, 2, none⟩ v') := by
  obtain ⟨h1, h2, h3, h4, h5, h6, h7, h8, h9⟩ := h
  have hne : ∀ j, j < w.heap.size + 3 → some j ≠ v.ownBlock := fun j hj he => by have := (h5.lt j he.symm).1; omega
  have h2' : Blk w4 (w.heap.size + 1 + 1) 30 #[.int .i64 L, .int .i64 O, v] := (Blk.alloc (w := w2) h2 o).grown (w := (w2.alloc o).drew) hg (hne _ (by omega))
  have h3' : Blk w4 w.heap.size 30 Z3 := (Blk.alloc (w := w2) h3 o).grown (w := (w2.alloc o).drew) hg (hne _ (by omega))
  have hb4 : Below w.heap.size w w4 := (h6.alloc (by omega) o).drew.grown hg (by simp; omega) (fun j hj => by have := (h5.lt j hj).1; omega)
  have e1 := h8
  rw [drop_cons hl, lines35, hr] at e1
  refine ⟨hk, h2'.set_ 2 _, h3'.far (by simp; omega) _, ?_, ?_, hb4.setCell (p := ⟨w.heap.size + 1 + 1, 2, none⟩) (by simp; omega) _, ?_, e1, by simp; omega⟩
  · intro j q hq
    rw [World.cell?_setCell_other _ _ _ _ (by simp)]
    have hlt : w.heap.size + 1 < w2.heap.size := by omega
    exact (World.cell?_of_block (hg.block (w.heap.size + 1) (by simp; omega) (hne _ (by omega)))).trans ((World.cell?_alloc_lt w2 o ⟨w.heap.size + 1, 0 + j, none⟩ hlt).trans (h4 j q hq))
  · have := ownsRow_setCell_below hown (a := ⟨w.heap.size + 1 + 1, 2, none⟩) (by simp) v'
    simpa [C5.cells] using this
  · have := hg.size
    simp [World.setCell] at *
    omega
theorem flat_cells : ∀ (cs : List C5) (j : Nat) (c : C5), cs[j]? = some c → ∀ i, i < 5 → (cs.flatMap C5.cells)[j * 5 + i]? = c.cells[i]?
  | [], j, c, h, _, _ => by simp at h
  | d :: l, 0, c, h, i, hi => by
    have : d = c := by simpa using h
    subst this
    rw [List.flatMap_cons, Nat.zero_mul, Nat.zero_add, List.getElem?_append_left (by simpa [C5.cells] using hi)]
  | d :: l, j + 1, c, h, i, hi => by
    have ih := flat_cells l j c (by simpa using h) i hi
    rw [List.flatMap_cons, List.getElem?_append_right (by simp [C5.cells]; omega), ← ih]
    congr 1; simp [C5.cells]; omega
theorem cell_app {w2 w4 : World} {o : Obj} {v x : Value} {g j : Nat} (hg : (w2.alloc o).drew.grownBy w4 v.ownBlock) (hne : v.ownBlock ≠ some g) (hlt : g < w2.heap.size) (hx : w2.cell? ⟨g, j, none⟩ = some x) : w4.cell? ⟨g, j, none⟩ = some x :=
  (World.cell?_of_block (hg.block g (by simp; omega) (fun e => hne e.symm))).trans ((World.cell?_alloc_lt w2 o ⟨g, j, none⟩ hlt).trans hx)
theorem PRel.blk4 {w w2 w4 : World} {o : Obj} {s : ByteArray} {last k : Nat} {R : PEnd} {L O : Int} {v : Value} {cs : List C5} (h : PRel w s last R k L O v cs w2) (hg : (w2.alloc o).drew.grownBy w4 v.ownBlock) : Blk w4 (w.heap.size + 1 + 1) 30 #[.int .i64 L, .int .i64 O, v] :=
  (Blk.alloc (w := w2) h.2.1 o).grown (w := (w2.alloc o).drew) hg (fun he => by have := (h.2.2.2.2.1.lt _ he.symm).1; omega)
theorem own_cells {w : World} {base : Nat} {v : Value} {cs : List C5} (h : w.ownsRow base 51 5 v cs.length (cs.flatMap C5.cells)) : ∃ A c, v = .slice A cs.length c ∧ cs.length ≤ c ∧ Cells w w.heap.size A cs.length cs := by
  rcases Nat.eq_zero_or_pos cs.length with h0 | h0
  · rcases h.2 with ⟨rfl, _⟩ | ⟨g, cap, cur, rfl, _, _, hle, _⟩
    · exact ⟨none, 0, by rw [h0], by omega, rfl, fun hn => absurd hn (by omega)⟩
    · exact ⟨_, cap, rfl, hle, rfl, fun hn => absurd hn (by omega)⟩
  · obtain ⟨g, cap, rfl, hle, hlt⟩ := h.form h0
    refine ⟨_, cap, rfl, ?_, rfl, fun _ => ⟨g, 0, rfl, hlt, fun j c hj => ?_⟩⟩
    · rcases h.2 with ⟨he, _⟩ | ⟨g', cap', cur, he, _, _, hle', _⟩
      · cases he
      · cases he; exact hle'
    · obtain ⟨h1, e1⟩ := List.getElem?_eq_some_iff.1 hj
      have hat : ∀ i u, c.cells[i]? = some u → w.cell? ⟨g, j * 5 + i, none⟩ = some u := fun i u hu => by
        have hi : i < 5 := by have := (List.getElem?_eq_some_iff.1 hu).1; simpa [C5.cells] using this
        have hfm := flat_cells cs j c hj i hi
        rw [h.cellAt (j * 5 + i) (by omega), hfm, hu]
      rw [Nat.zero_add]
      exact ⟨hat 0 _ rfl, hat 1 _ rfl, hat 2 _ rfl, hat 3 _ rfl, hat 4 _ rfl⟩
theorem own_block {w : World} {base : Nat} {A : Option Addr} {n c : Nat} {xs : List Value} (h : w.ownsRow base 51 5 (.slice A n c) n xs) : ∀ b off, A = some ⟨b, off, none⟩ → base ≤ b := fun b off hA => by
  subst hA
  rcases h.2 with ⟨he, _⟩ | ⟨g, cap, cur, he, hb, _⟩
  · cases he
  · cases he; exact hb
theorem good_end {w wr w2 : World} {A : Option Addr} {c B : Nat} (L O i e : Int) (cs : List C5) (hle : cs.length ≤ c) (hC : Cells w2 wr.heap.size A cs.length cs) (hb : Below w.heap.size w w2) (hz : wr.heap.size ≤ w2.heap.size) (hown : ∀ b off, A = some ⟨b, off, none⟩ → w.heap.size + B + 1 ≤ b) :
    ParseEnd w ⟨L, O, cs, i, e⟩ (.returned (.tuple #[.agg #[.int .i64 L, .int .i64 O, .slice A cs.length c], .int .i64 i, .int .i64 e]))
      (((w2.setCell ⟨w.heap.size, 0, none⟩ (.int .i64 L)).setCell ⟨w.heap.size, 1, none⟩ (.int .i64 O)).setCell ⟨w.heap.size, 2, none⟩ (.slice A cs.length c)) := by
  refine ⟨A, c, rfl, ?_, hle, ((hb.setCell (p := ⟨w.heap.size, 0, none⟩) (by simp) _).setCell (p := ⟨w.heap.size, 1, none⟩) (by simp) _).setCell (p := ⟨w.heap.size, 2, none⟩) (by simp) _⟩
  refine ⟨rfl, fun hn => ?_⟩
  obtain ⟨b, off, hA, hlt, hc⟩ := hC.2 hn
  have hbb := hown b off hA
  refine ⟨b, off, hA, by simp [World.setCell]; omega, fun j x hx => ?_⟩
  have hk : ∀ o v, w2.cell? ⟨b, o, none⟩ = some v → (((w2.setCell ⟨w.heap.size, 0, none⟩ (.int .i64 L)).setCell ⟨w.heap.size, 1, none⟩ (.int .i64 O)).setCell ⟨w.heap.size, 2, none⟩ (.slice A cs.length c)).cell? ⟨b, o, none⟩ = some v := fun o v h => by
    have hne : ∀ o' : Nat, (⟨w.heap.size, o', none⟩ : Addr) ≠ ⟨b, o, none⟩ := fun o' e => by cases e; omega
    rw [World.cell?_setCell_other _ _ _ _ (hne 2), World.cell?_setCell_other _ _ _ _ (hne 1), World.cell?_setCell_other _ _ _ _ (hne 0)]; exact h
  obtain ⟨c0, c1, c2, c3, c4⟩ := hc j x hx
  exact ⟨hk _ _ c0, hk _ _ c1, hk _ _ c2, hk _ _ c3, hk _ _ c4⟩
theorem bad_end {w W : World} (i e : Int) (c : Nat) (hb : Below w.heap.size w W) :
    ParseEnd w ⟨0, 0, [], i, e⟩ (.returned (.tuple #[.agg #[.int .i64 0, .int .i64 0, .slice none 0 c], .int .i64 i, .int .i64 e]))
      (((W.setCell ⟨w.heap.size, 0, none⟩ (.int .i64 0)).setCell ⟨w.heap.size, 1, none⟩ (.int .i64 0)).setCell ⟨w.heap.size, 2, none⟩ (.slice none 0 0)) :=
  ⟨none, c, rfl, ⟨rfl, fun h => absurd h (by simp)⟩, Nat.zero_le _, ((hb.setCell (p := ⟨w.heap.size, 0, none⟩) (by simp) _).setCell (p := ⟨w.heap.size, 1, none⟩) (by simp) _).setCell (p := ⟨w.heap.size, 2, none⟩) (by simp) _⟩
theorem Reads.blk {w : World} {B g n : Nat} {xs : List Int} (h : Reads w B (some ⟨g, 0, none⟩) n xs) (hn : 0 < n) : g < B := by
  obtain ⟨b, off, e, hb, _⟩ := h.2 hn
  cases e; exact hb
theorem Reads.cell0 {w : World} {B g n : Nat} {a : Int} {l : List Int} (h : Reads w B (some ⟨g, 0, none⟩) (n + 1) (a :: l)) : w.cell? ⟨g, 0, none⟩ = some (.int .i64 a) := by
  obtain ⟨b, off, e, _, hc⟩ := h.2 (by omega)
  cases e; exact hc 0 a rfl
theorem Reads.cellj {w : World} {B g n : Nat} {xs : List Int} (h : Reads w B (some ⟨g, 0, none⟩) n xs) (hn : 0 < n) (j : Nat) (a : Int) (hj : xs[j]? = some a) : w.cell? ⟨g, j, none⟩ = some (.int .i64 a) := by
  obtain ⟨b, off, e, _, hc⟩ := h.2 hn
  cases e
  have := hc j a hj
  rwa [Nat.zero_add] at this
set_option maxHeartbeats 4000000 in
set_option maxRecDepth 100000 in
theorem Parse_any (s : ByteArray) (last : Nat) (hs : s.size ≤ 100000) (w : World) (hN : Hid ((partsB 10 s).length = last + 1)) (ht : Hid (Tabs w)) :
    Calls Tryz.prog 18 #[.string s] w (ParseEnd w (parseR s.data.toList)) := by
  have hpd := Lib.hid (partsB_data 10 s)
  have hcl : Hid ((cutL 10 s.data.toList).length = last + 1) := Lib.hid (by rw [← hpd.out, List.length_map, hN.out])
  have hlast : last ≤ 100000 := by have := cutL_length 10 s.data.toList; rw [hcl.out] at this; have := size_list s; omega
  obtain ⟨R, hR⟩ : ∃ R, lines35 0 (cutL 10 s.data.toList).dropLast 0 0 [] = R := ⟨_, rfl⟩
  have HR := Lib.hid hR
  clear hR
  have hT1 := Lib.hid (ht.out.later ((Below.refl _ w).alloc (Nat.le_refl _) (.cells Z3 30)))
  obtain ⟨i0, hi, hj0, hj1, hj2⟩ := info_parts Tryz.info51
  go_enter Tryz.func18, Tryz.ntmps18
  go_wp2_with (go_at_call 61; refine (Split_any s 10 (last + 1) hN.out (by omega) _ hT1.out).mono ?_; rintro e w' ⟨rfl, rfl⟩)
  have hrel0 := PRel.start w s last R HR.out
  revert hrel0
  generalize (((w.alloc (.cells Z3 30)).alloc (.cells ((partsB 10 s).map Value.string).toArray 9)).alloc (.cells Z3 30)) = W0
  intro hrel0
  have hrel0 := Lib.hid hrel0
  go_loopw [23] (fun i wx => ∃ (k : Nat) (L O : Int) (v : Value) (cs : List C5), i = .int .i64 k ∧ Hid (PRel w s last R k L O v cs wx)) (fun i _ => last - (intOf i).toNat)
  case atStart => exact ⟨0, 0, 0, _, [], rfl, hrel0⟩
  case round =>
    obtain ⟨k, L, O, v, cs, rfl, H⟩ := hrel
    clear hrel0
    have hk := H.out.1
    have hT := Lib.hid (ht.out.later H.out.2.2.2.2.2.1)
    have hs3 := H.out.2.2.2.2.2.2.1
    have hcl9 := H.out.2.2.2.2.2.2.2.2
    by_cases hlt : k < last
    · obtain ⟨p, hp1, hp2, hp3⟩ := lines_at hpd.out (by omega) (k := k) (by rw [hN.out]; omega)
      have hcell := H.out.2.2.2.1 k p hp1
      rw [Nat.zero_add] at hcell
      clear hp1
      have hp2 := Lib.hid hp2
      rcases Nat.eq_zero_or_pos k with hk0 | hk0
      · subst hk0
        cases hx : readL p.data.toList schedL 2 with
        | none =>
          have hx := Lib.hid hx
          have hP : Hid (parseR s.data.toList = ⟨0, 0, [], 0, 3⟩) := Lib.hid (by
            have e := H.out.2.2.2.2.2.2.2.1
            rw [drop_cons hp2.out, lines35, hx.out] at e
            unfold parseR; rw [HR.out, ← e]; rfl)
          go_wp2_with (go_at_call 62; refine (read2 p none hx.out hp3 _ hT.out).mono ?_; rintro e w2 ⟨rfl, hb2⟩; have H2 := Lib.hid (H.out.later hb2); obtain ⟨z0, z1, z2, f0, f1, f2⟩ := H2.out.2.2.1.three)
          refine bodyPost_ret (v := .tuple #[.agg #[.int .i64 0, .int .i64 0, .slice none 0 0], .int .i64 0, .int .i64 3]) (by simp [results, Tryz.results18, go_sem, z0, z1, z2]) rfl ?_
          rw [hP.out]
          exact bad_end 0 3 _ (H2.out.2.2.2.2.2.1)
        | some xs =>
          obtain ⟨a, b, rfl⟩ := list2 (readL_length hx)
          have hx := Lib.hid hx
          go_wp2_with (go_at_call 62; refine (read2 p _ hx.out hp3 _ hT.out).mono ?_; rintro e w2 ⟨g, c, rfl, hg, hRd, hb2⟩; have H2 := Lib.hid (H.out.later hb2); have x0 := Reads.cellj hRd (by omega) 0 a rfl; have x1 := Reads.cellj hRd (by omega) 1 b rfl; have xg := hRd.blk (by omega); clear hRd; obtain ⟨y0, y1, y2, q0, q1, q2⟩ := H2.out.2.1.three)
          have hgne : g ≠ w.heap.size + 1 + 1 := by omega
          have hgne' : w.heap.size + 1 + 1 ≠ g := by omega
          go_region_held3 (fun w' => w'.cell? ⟨g, 0, none⟩ = some (.int .i64 a) ∧ w'.cell? ⟨g, 1, none⟩ = some (.int .i64 b))
            (first | go_keep | (refine ⟨?_, ?_⟩ <;> (repeat rw [World.cell?_setCell_other _ _ _ _ (by simp; omega)]) <;> assumption)) (fail)
          have H3 := Lib.hid (H2.out.two hp2.out hx.out hlt)
          clear y0 y1 y2 q0 q1 q2 x0 x1 hcell
          go_wp2_with fail
          go_roundw
          case rel => exact ⟨1, a, b, v, cs, rfl, H3⟩
          case measure => simp [intOf]; omega
      · obtain ⟨m, rfl⟩ : ∃ m, k = m + 1 := ⟨k - 1, by omega⟩
        have hkz : (((m + 1 : Nat) : Int) == 0) = false := by rw [beq_eq_false_iff_ne]; omega
        have hkz2 : ((m : Int) + 1 == 0) = false := by rw [beq_eq_false_iff_ne]; omega
        cases hx : readL p.data.toList cellL 5 with
        | none =>
          have hx := Lib.hid hx
          have hP : Hid (parseR s.data.toList = ⟨0, 0, [], ((m + 1 : Nat) : Int), 3⟩) := Lib.hid (by
            have e := H.out.2.2.2.2.2.2.2.1
            rw [drop_cons hp2.out, lines35, hx.out] at e
            unfold parseR; rw [HR.out, ← e])
          go_wp2_with (go_at_call 62; refine (read5 p none hx.out hp3 _ hT.out).mono ?_; rintro e w2 ⟨rfl, hb2⟩; have H2 := Lib.hid (H.out.later hb2); obtain ⟨z0, z1, z2, f0, f1, f2⟩ := H2.out.2.2.1.three)
          refine bodyPost_ret (v := .tuple #[.agg #[.int .i64 0, .int .i64 0, .slice none 0 0], .int .i64 ((m + 1 : Nat) : Int), .int .i64 3]) (by simp [results, Tryz.results18, go_sem, z0, z1, z2]) rfl ?_
          rw [hP.out]
          exact bad_end _ 3 _ (H2.out.2.2.2.2.2.1)
        | some xs =>
          obtain ⟨a, b, c, d, e, rfl⟩ := list5 (readL_length hx)
          have hx := Lib.hid hx
          go_wp2_with (go_at_call 62; refine (read5 p _ hx.out hp3 _ hT.out).mono ?_; rintro e' w2 ⟨g, cp, rfl, hg, hRd, hb2⟩; have H2 := Lib.hid (H.out.later hb2); have x0 := Reads.cellj hRd (by omega) 0 a rfl; have x1 := Reads.cellj hRd (by omega) 1 b rfl; have x2 := Reads.cellj hRd (by omega) 2 c rfl; have x3 := Reads.cellj hRd (by omega) 3 d rfl; have x4 := Reads.cellj hRd (by omega) 4 e rfl; have xg := hRd.blk (by omega); clear hRd; obtain ⟨y0, y1, y2, q0, q1, q2⟩ := H2.out.2.1.three)
          have hgne : g ≠ w.heap.size + 1 + 1 := by omega
          have hgne' : w.heap.size + 1 + 1 ≠ g := by omega
          have hown := H2.out.2.2.2.2.1
          have hvg : v.ownBlock ≠ some g := fun h => by have := (H.out.2.2.2.2.1.lt g h).2; omega
          have hown := Lib.hid hown
          have hvg := Lib.hid hvg
          have hsz2 : w.heap.size + 3 ≤ w2.heap.size := H2.out.2.2.2.2.2.2.1
          refine wp_region_held_drew (S := (fun w' => w'.cell? ⟨g, 0, none⟩ = some (.int .i64 a) ∧ w'.cell? ⟨g, 1, none⟩ = some (.int .i64 b) ∧ w'.cell? ⟨g, 2, none⟩ = some (.int .i64 c) ∧ w'.cell? ⟨g, 3, none⟩ = some (.int .i64 d) ∧ w'.cell? ⟨g, 4, none⟩ = some (.int .i64 e))) (by kernel_rfl) ?_ (fun hHeld => ?_)
          · exact ⟨x0, x1, x2, x3, x4⟩
          refine wpAnyH_take (i := 0) (oi := ?o9) (v := ?hv9) ?hi9 (by kernel_rfl) (by kernel_rfl) (by kernel_rfl) ?hq9 ?hy9 (by assumption) ?hr9
          case hi9 => (simp only [List.getElem?_toArray, List.getElem?_cons_zero]; rfl)
          case hq9 => exact fun _ _ _ h => h
          case hy9 => exact Or.inl ⟨by rfl, by intro w hSw; (try dsimp only at hSw); go_simp; try with_reducible rfl⟩
          simp only [Act.put, List.setIfInBounds_toArray, List.set_cons_zero, List.set_cons_succ]
          refine wpAnyH_take (i := 2) (oi := ?o10) (v := ?hv10) ?hi10 (by kernel_rfl) (by kernel_rfl) (by kernel_rfl) ?hq10 ?hy10 (by assumption) ?hr10
          case hi10 => (simp only [List.getElem?_toArray, List.getElem?_cons_succ, List.getElem?_cons_zero]; rfl)
          case hq10 => exact fun _ _ _ h => h
          case hy10 => exact Or.inl ⟨by rfl, by intro w hSw; (try dsimp only at hSw); go_simp; try with_reducible rfl⟩
          simp only [Act.put, List.setIfInBounds_toArray, List.set_cons_zero, List.set_cons_succ]
          refine wpAnyH_take (i := 3) (oi := ?o11) (v := ?hv11) ?hi11 (by kernel_rfl) (by kernel_rfl) (by kernel_rfl) ?hq11 ?hy11 (by assumption) ?hr11
          case hi11 => (simp only [List.getElem?_toArray, List.getElem?_cons_succ, List.getElem?_cons_zero]; rfl)
          case hq11 => exact fun _ _ _ h => h
          case hy11 => exact Or.inl ⟨by rfl, by intro w hSw; (try dsimp only at hSw); go_simp; try with_reducible rfl⟩
          simp only [Act.put, List.setIfInBounds_toArray, List.set_cons_zero, List.set_cons_succ]
          refine wpAnyH_take (i := 4) (oi := ?o12) (v := ?hv12) ?hi12 (by kernel_rfl) (by kernel_rfl) (by kernel_rfl) ?hq12 ?hy12 (by assumption) ?hr12
          case hi12 => (simp only [List.getElem?_toArray, List.getElem?_cons_succ, List.getElem?_cons_zero]; rfl)
          case hq12 => exact fun _ _ _ h => h
          case hy12 => exact Or.inl ⟨by rfl, by intro w hSw; (try dsimp only at hSw); go_simp; try with_reducible rfl⟩
          simp only [Act.put, List.setIfInBounds_toArray, List.set_cons_zero, List.set_cons_succ]
          refine wpAnyH_take (i := 5) (oi := ?o13) (v := ?hv13) ?hi13 (by kernel_rfl) (by kernel_rfl) (by kernel_rfl) ?hq13 ?hy13 (by assumption) ?hr13
          case hi13 => (simp only [List.getElem?_toArray, List.getElem?_cons_succ, List.getElem?_cons_zero]; rfl)
          case hq13 => exact fun _ _ _ h => h
          case hy13 => exact Or.inl ⟨by rfl, by intro w hSw; (try dsimp only at hSw); go_simp; try with_reducible rfl⟩
          simp only [Act.put, List.setIfInBounds_toArray, List.set_cons_zero, List.set_cons_succ]
          refine wpAnyH_take (i := 6) (oi := ?o14) (v := ?hv14) ?hi14 (by kernel_rfl) (by kernel_rfl) (by kernel_rfl) ?hq14 ?hy14 (by assumption) ?hr14
          case hi14 => (simp only [List.getElem?_toArray, List.getElem?_cons_succ, List.getElem?_cons_zero]; rfl)
          case hq14 => exact fun _ _ _ h => h
          case hy14 => exact Or.inl ⟨by rfl, by intro w hSw; (try dsimp only at hSw); go_simp; try with_reducible rfl⟩
          simp only [Act.put, List.setIfInBounds_toArray, List.set_cons_zero, List.set_cons_succ]
          refine wpAnyH_take (i := 7) (oi := ?o15) (v := ?hv15) ?hi15 (by kernel_rfl) (by kernel_rfl) (by kernel_rfl) ?hq15 ?hy15 (by assumption) ?hr15
          case hi15 => (simp only [List.getElem?_toArray, List.getElem?_cons_succ, List.getElem?_cons_zero]; rfl)
          case hq15 => exact fun _ _ _ h => h
          case hy15 => exact Or.inl ⟨by rfl, by intro w hSw; (try dsimp only at hSw); go_simp; try with_reducible rfl⟩
          simp only [Act.put, List.setIfInBounds_toArray, List.set_cons_zero, List.set_cons_succ]
          refine wpAnyH_take (i := 8) (oi := ?o16) (v := ?hv16) ?hi16 (by kernel_rfl) (by kernel_rfl) (by kernel_rfl) ?hq16 ?hy16 (by assumption) ?hr16
          case hi16 => (simp only [List.getElem?_toArray, List.getElem?_cons_succ, List.getElem?_cons_zero]; rfl)
          case hq16 => exact fun _ _ _ h => h
          case hy16 => exact Or.inl ⟨by rfl, by intro w hSw; (try dsimp only at hSw); go_simp; try with_reducible rfl⟩
          simp only [Act.put, List.setIfInBounds_toArray, List.set_cons_zero, List.set_cons_succ]
          refine wpAnyH_take (i := 9) (oi := ?o17) (v := ?hv17) ?hi17 (by kernel_rfl) (by kernel_rfl) (by kernel_rfl) ?hq17 ?hy17 (by assumption) ?hr17
          case hi17 => (simp only [List.getElem?_toArray, List.getElem?_cons_succ, List.getElem?_cons_zero]; rfl)
          case hq17 => exact fun _ _ _ h => h
          case hy17 => exact Or.inl ⟨by rfl, by intro w hSw; (try dsimp only at hSw); go_simp; try with_reducible rfl⟩
          simp only [Act.put, List.setIfInBounds_toArray, List.set_cons_zero, List.set_cons_succ]
          refine wpAnyH_take (i := 10) (oi := ?o18) (v := ?hv18) ?hi18 (by kernel_rfl) (by kernel_rfl) (by kernel_rfl) ?hq18 ?hy18 (by assumption) ?hr18
          case hi18 => (simp only [List.getElem?_toArray, List.getElem?_cons_succ, List.getElem?_cons_zero]; rfl)
          case hq18 => exact fun _ _ _ h => h
          case hy18 => exact Or.inl ⟨by rfl, by intro w hSw; (try dsimp only at hSw); go_simp; try with_reducible rfl⟩
          simp only [Act.put, List.setIfInBounds_toArray, List.set_cons_zero, List.set_cons_succ]
          refine wpAnyH_take (i := 11) (oi := ?o19) (v := ?hv19) ?hi19 (by kernel_rfl) (by kernel_rfl) (by kernel_rfl) ?hq19 ?hy19 (by assumption) ?hr19
          case hi19 => (simp only [List.getElem?_toArray, List.getElem?_cons_succ, List.getElem?_cons_zero]; rfl)
          case hq19 => exact fun _ _ _ h => h
          case hy19 => exact Or.inl ⟨by rfl, by intro w hSw; (try dsimp only at hSw); go_simp; try with_reducible rfl⟩
          simp only [Act.put, List.setIfInBounds_toArray, List.set_cons_zero, List.set_cons_succ]
          refine wpAnyH_take (i := 12) (oi := ?o20) (v := ?hv20) ?hi20 (by kernel_rfl) (by kernel_rfl) (by kernel_rfl) ?hq20 ?hy20 (by assumption) ?hr20
          case hi20 => (simp only [List.getElem?_toArray, List.getElem?_cons_succ, List.getElem?_cons_zero]; rfl)
          case hq20 => exact fun _ _ _ h => h
          case hy20 => exact Or.inl ⟨by rfl, by intro w hSw; (try dsimp only at hSw); go_simp; try with_reducible rfl⟩
          simp only [Act.put, List.setIfInBounds_toArray, List.set_cons_zero, List.set_cons_succ]
          refine wpAnyH_take (i := 13) (oi := ?o21) (v := ?hv21) ?hi21 (by kernel_rfl) (by kernel_rfl) (by kernel_rfl) ?hq21 ?hy21 (by assumption) ?hr21
          case hi21 => (simp only [List.getElem?_toArray, List.getElem?_cons_succ, List.getElem?_cons_zero]; rfl)
          case hq21 => exact fun _ _ _ h => h
          case hy21 => exact Or.inl ⟨by rfl, by intro w hSw; (try dsimp only at hSw); go_simp; try with_reducible rfl⟩
          simp only [Act.put, List.setIfInBounds_toArray, List.set_cons_zero, List.set_cons_succ]
          refine wpAnyH_take (i := 14) (oi := ?o22) (v := ?hv22) ?hi22 (by kernel_rfl) (by kernel_rfl) (by kernel_rfl) ?hq22 ?hy22 (by assumption) ?hr22
          case hi22 => (simp only [List.getElem?_toArray, List.getElem?_cons_succ, List.getElem?_cons_zero]; rfl)
          case hq22 => exact fun _ _ _ h => h
          case hy22 => exact Or.inl ⟨by rfl, by intro w hSw; (try dsimp only at hSw); go_simp; try with_reducible rfl⟩
          simp only [Act.put, List.setIfInBounds_toArray, List.set_cons_zero, List.set_cons_succ]
          refine wpAnyH_take (i := 15) (oi := ?o23) (v := ?hv23) ?hi23 (by kernel_rfl) (by kernel_rfl) (by kernel_rfl) ?hq23 ?hy23 (by assumption) ?hr23
          case hi23 => (simp only [List.getElem?_toArray, List.getElem?_cons_succ, List.getElem?_cons_zero]; rfl)
          case hq23 => exact fun _ _ _ h => h
          case hy23 => exact Or.inl ⟨by rfl, by intro w hSw; (try dsimp only at hSw); go_simp; try with_reducible rfl⟩
          simp only [Act.put, List.setIfInBounds_toArray, List.set_cons_zero, List.set_cons_succ]
          refine wpAnyH_take (i := 16) (oi := ?o24) (v := ?hv24) ?hi24 (by kernel_rfl) (by kernel_rfl) (by kernel_rfl) ?hq24 ?hy24 (by assumption) ?hr24
          case hi24 => (simp only [List.getElem?_toArray, List.getElem?_cons_succ, List.getElem?_cons_zero]; rfl)
          case hq24 => exact fun _ _ _ h => h
          case hy24 => exact Or.inl ⟨by rfl, by intro w hSw; (try dsimp only at hSw); go_simp; try with_reducible rfl⟩
          simp only [Act.put, List.setIfInBounds_toArray, List.set_cons_zero, List.set_cons_succ]
          refine wpAnyH_take (i := 17) (oi := ?o25) (v := ?hv25) ?hi25 (by kernel_rfl) (by kernel_rfl) (by kernel_rfl) ?hq25 ?hy25 (by assumption) ?hr25
          case hi25 => (simp only [List.getElem?_toArray, List.getElem?_cons_succ, List.getElem?_cons_zero]; rfl)
          case hq25 => exact fun _ _ _ h => h
          case hy25 => exact Or.inl ⟨by rfl, by intro w hSw; (try dsimp only at hSw); go_simp; try with_reducible rfl⟩
          simp only [Act.put, List.setIfInBounds_toArray, List.set_cons_zero, List.set_cons_succ]
          refine wpAnyH_ready (rs := [1, 18]) (by kernel_rfl) (by simp) ?_
          refine (AllReadyH.cons (o := ?o27) ?hi27 (fun K hK => ?hr27) (AllReadyH.cons (o := ?o26) ?hi26 (fun K hK => ?hr26) AllReadyH.nil))
          case hi27 => (simp only [List.getElem?_toArray, List.getElem?_cons_succ, List.getElem?_cons_zero]; rfl)
          case hi26 => (simp only [List.getElem?_toArray, List.getElem?_cons_succ, List.getElem?_cons_zero]; rfl)
          case hr27 =>
            go_simp
            refine hK.out _ _ ?_ (fun hHeld => ?_)
            · exact ⟨x0, x1, x2, x3, x4⟩
            clear hK K
            try simp only [Act.put, List.setIfInBounds_toArray, List.set_cons_zero, List.set_cons_succ]
            refine wpAnyH_ready (rs := [18]) (by kernel_rfl) (by simp) ?_
            refine (AllReadyH.cons (o := ?o4) ?hi4 (fun K hK => ?hr4) AllReadyH.nil)
            case hi4 => (simp only [List.getElem?_toArray, List.getElem?_cons_succ, List.getElem?_cons_zero]; rfl)
            case hr4 =>
              go_simp
              refine hK.out _ _ ?_ (fun hHeld => ?_)
              · exact ⟨(World.cell?_alloc_lt w2 _ ⟨g, 0, none⟩ xg).trans x0, (World.cell?_alloc_lt w2 _ ⟨g, 1, none⟩ xg).trans x1, (World.cell?_alloc_lt w2 _ ⟨g, 2, none⟩ xg).trans x2, (World.cell?_alloc_lt w2 _ ⟨g, 3, none⟩ xg).trans x3, (World.cell?_alloc_lt w2 _ ⟨g, 4, none⟩ xg).trans x4⟩
              clear hK K
              try simp only [Act.put, List.setIfInBounds_toArray, List.set_cons_zero, List.set_cons_succ]
              refine wpAnyH_ready (rs := [19]) (by kernel_rfl) (by simp) ?_
              refine (AllReadyH.cons (o := ?o3) ?hi3 (fun K hK => ?hr3) AllReadyH.nil)
              case hi3 => (simp only [List.getElem?_toArray, List.getElem?_cons_succ, List.getElem?_cons_zero]; rfl)
              case hr3 =>
                refine step_append_lies _ (by rfl) _ _ _ (by rfl) (w.heap.size + 3) 51 i0 _ 5 40 Tryz.underlying28 hi hj0 hj1 hj2 rfl (by omega) v cs.length (cs.flatMap C5.cells) (by rfl) ((hown.out.alloc _).drew) ⟨w2.heap.size, 0, none⟩ 1 1 [.int .i64 a, .int .i64 b, .int .i64 c, .int .i64 d, .int .i64 e] (by rfl) (by rfl) (World.news_of_block (cs := #[.int .i64 a, .int .i64 b, .int .i64 c, .int .i64 d, .int .i64 e]) (t := 51) (fr := (0, 0)) (heap_alloc_new w2 _)) (by simp [Value.oneCell']) (by omega) (by unfold maxLen; omega) (by omega) (by simp; omega) (w2.heap.size + 1) (by simp) ?_
                intro gg cap w4 hown4 hgrow4 _ _
                have H4 := Lib.hid (H2.out.five hp2.out hx.out hlt hown4 hgrow4)
                have hxx := Lib.hid (And.intro (cell_app hgrow4 hvg.out xg x0) (And.intro (cell_app hgrow4 hvg.out xg x1) (And.intro (cell_app hgrow4 hvg.out xg x2) (And.intro (cell_app hgrow4 hvg.out xg x3) (cell_app hgrow4 hvg.out xg x4)))))
                obtain ⟨u0, u1, u2, r0, r1, r2⟩ := (H2.out.blk4 hgrow4).three
                refine hK.out _ _ ?_ (fun hHeld => ?_)
                · exact hxx.out
                clear hK K
                try simp only [Act.put, List.setIfInBounds_toArray, List.set_cons_zero, List.set_cons_succ]
                refine wpAnyH_take (i := 20) (oi := ?o1) (v := ?hv1) ?hi1 (by kernel_rfl) (by kernel_rfl) (by kernel_rfl) ?hq1 ?hy1 (by assumption) ?hr1
                case hi1 => (simp only [List.getElem?_toArray, List.getElem?_cons_succ, List.getElem?_cons_zero]; rfl)
                case hq1 => exact fun _ _ _ h => h
                case hy1 => exact Or.inl ⟨by rfl, by intro w hSw; (try dsimp only at hSw); go_simp; try with_reducible rfl⟩
                simp only [Act.put, List.setIfInBounds_toArray, List.set_cons_zero, List.set_cons_succ]
                refine wpAnyH_ready (rs := [21]) (by kernel_rfl) (by simp) ?_
                refine (AllReadyH.cons (o := ?o2) ?hi2 (fun K hK => ?hr2) AllReadyH.nil)
                case hi2 => (simp only [List.getElem?_toArray, List.getElem?_cons_succ, List.getElem?_cons_zero]; rfl)
                case hr2 =>
                  go_simp
                  refine hK.out _ _ ?_ (fun hHeld => ?_)
                  · obtain ⟨t0, t1, t2, t3, t4⟩ := hxx.out
                    refine ⟨?_, ?_, ?_, ?_, ?_⟩ <;> (rw [World.cell?_setCell_other _ _ _ _ (by first | (simp; omega) | simp)]; assumption)
                  clear hK K
                  try simp only [Act.put, List.setIfInBounds_toArray, List.set_cons_zero, List.set_cons_succ]
                  refine wpAnyH_done (by kernel_rfl) ?_ _
                  go_wp2_with fail
                  go_roundw
                  case rel => exact ⟨m + 2, L, O, _, _, by go_num, H4⟩
                  case measure => simp [intOf]; omega
          case hr26 =>
            have y2b := (World.cell?_alloc_lt w2 (.cells #[.int .i64 a, .int .i64 b, .int .i64 c, .int .i64 d, .int .i64 e] 51) ⟨w.heap.size + 1 + 1, 2, none⟩ (by show w.heap.size + 1 + 1 < w2.heap.size; omega)).trans y2
            go_simp
            refine hK.out _ _ ?_ (fun hHeld => ?_)
            · exact ⟨(World.cell?_alloc_lt w2 _ ⟨g, 0, none⟩ xg).trans x0, (World.cell?_alloc_lt w2 _ ⟨g, 1, none⟩ xg).trans x1, (World.cell?_alloc_lt w2 _ ⟨g, 2, none⟩ xg).trans x2, (World.cell?_alloc_lt w2 _ ⟨g, 3, none⟩ xg).trans x3, (World.cell?_alloc_lt w2 _ ⟨g, 4, none⟩ xg).trans x4⟩
            clear hK K
            try simp only [Act.put, List.setIfInBounds_toArray, List.set_cons_zero, List.set_cons_succ]
            refine wpAnyH_ready (rs := [1]) (by kernel_rfl) (by simp) ?_
            refine (AllReadyH.cons (o := ?o8) ?hi8 (fun K hK => ?hr8) AllReadyH.nil)
            case hi8 => (simp only [List.getElem?_toArray, List.getElem?_cons_succ, List.getElem?_cons_zero]; rfl)
            case hr8 =>
              go_simp
              refine hK.out _ _ ?_ (fun hHeld => ?_)
              · assumption
              clear hK K
              try simp only [Act.put, List.setIfInBounds_toArray, List.set_cons_zero, List.set_cons_succ]
              refine wpAnyH_ready (rs := [19]) (by kernel_rfl) (by simp) ?_
              refine (AllReadyH.cons (o := ?o7) ?hi7 (fun K hK => ?hr7) AllReadyH.nil)
              case hi7 => (simp only [List.getElem?_toArray, List.getElem?_cons_succ, List.getElem?_cons_zero]; rfl)
              case hr7 =>
                refine step_append_lies _ (by rfl) _ _ _ (by rfl) (w.heap.size + 3) 51 i0 _ 5 40 Tryz.underlying28 hi hj0 hj1 hj2 rfl (by omega) v cs.length (cs.flatMap C5.cells) (by rfl) ((hown.out.alloc _).drew) ⟨w2.heap.size, 0, none⟩ 1 1 [.int .i64 a, .int .i64 b, .int .i64 c, .int .i64 d, .int .i64 e] (by rfl) (by rfl) (World.news_of_block (cs := #[.int .i64 a, .int .i64 b, .int .i64 c, .int .i64 d, .int .i64 e]) (t := 51) (fr := (0, 0)) (heap_alloc_new w2 _)) (by simp [Value.oneCell']) (by omega) (by unfold maxLen; omega) (by omega) (by simp; omega) (w2.heap.size + 1) (by simp) ?_
                intro gg cap w4 hown4 hgrow4 _ _
                have H4 := Lib.hid (H2.out.five hp2.out hx.out hlt hown4 hgrow4)
                have hxx := Lib.hid (And.intro (cell_app hgrow4 hvg.out xg x0) (And.intro (cell_app hgrow4 hvg.out xg x1) (And.intro (cell_app hgrow4 hvg.out xg x2) (And.intro (cell_app hgrow4 hvg.out xg x3) (cell_app hgrow4 hvg.out xg x4)))))
                obtain ⟨u0, u1, u2, r0, r1, r2⟩ := (H2.out.blk4 hgrow4).three
                refine hK.out _ _ ?_ (fun hHeld => ?_)
                · exact hxx.out
                clear hK K
                try simp only [Act.put, List.setIfInBounds_toArray, List.set_cons_zero, List.set_cons_succ]
                refine wpAnyH_take (i := 20) (oi := ?o5) (v := ?hv5) ?hi5 (by kernel_rfl) (by kernel_rfl) (by kernel_rfl) ?hq5 ?hy5 (by assumption) ?hr5
                case hi5 => (simp only [List.getElem?_toArray, List.getElem?_cons_succ, List.getElem?_cons_zero]; rfl)
                case hq5 => exact fun _ _ _ h => h
                case hy5 => exact Or.inl ⟨by rfl, by intro w hSw; (try dsimp only at hSw); go_simp; try with_reducible rfl⟩
                simp only [Act.put, List.setIfInBounds_toArray, List.set_cons_zero, List.set_cons_succ]
                refine wpAnyH_ready (rs := [21]) (by kernel_rfl) (by simp) ?_
                refine (AllReadyH.cons (o := ?o6) ?hi6 (fun K hK => ?hr6) AllReadyH.nil)
                case hi6 => (simp only [List.getElem?_toArray, List.getElem?_cons_succ, List.getElem?_cons_zero]; rfl)
                case hr6 =>
                  go_simp
                  refine hK.out _ _ ?_ (fun hHeld => ?_)
                  · obtain ⟨t0, t1, t2, t3, t4⟩ := hxx.out
                    refine ⟨?_, ?_, ?_, ?_, ?_⟩ <;> (rw [World.cell?_setCell_other _ _ _ _ (by first | (simp; omega) | simp)]; assumption)
                  clear hK K
                  try simp only [Act.put, List.setIfInBounds_toArray, List.set_cons_zero, List.set_cons_succ]
                  refine wpAnyH_done (by kernel_rfl) ?_ _
                  go_wp2_with fail
                  go_roundw
                  case rel => exact ⟨m + 2, L, O, _, _, by go_num, H4⟩
                  case measure => simp [intOf]; omega
    · obtain rfl : k = last := by omega
      have hl : k < (partsB 10 s).length := by rw [hN.out]; omega
      obtain ⟨pl, hpl⟩ : ∃ pl, (partsB 10 s)[k]? = some pl := ⟨_, List.getElem?_eq_getElem hl⟩
      have hcell := H.out.2.2.2.1 k pl hpl
      rw [Nat.zero_add] at hcell
      have hgl : Hid ((cutL 10 s.data.toList).getLast? = some pl.data.toList) := Lib.hid (by
        rw [List.getLast?_eq_getElem?, hcl.out, ← hpd.out, List.getElem?_map, Nat.add_sub_cancel, hpl]; rfl)
      have hfin : Hid (R = .fine L O cs) := Lib.hid (by
        have e := H.out.2.2.2.2.2.2.2.1
        rw [List.drop_eq_nil_of_le (by rw [List.length_dropLast, hcl.out]; omega)] at e
        rw [← e]; cases k <;> rfl)
      clear hpl hl hlt
      obtain ⟨z0, z1, z2, f0, f1, f2⟩ := H.out.2.2.1.three
      obtain ⟨y0, y1, y2, q0, q1, q2⟩ := H.out.2.1.three
      have hbad : (k = 0 ∨ pl.data.toList ≠ []) → parseR s.data.toList = ⟨0, 0, [], (k : Int), 3⟩ := fun hh => by
        unfold parseR; rw [HR.out, hfin.out]
        simp only
        rw [if_pos (by rw [hcl.out, hgl.out]; rcases hh with h | h; exact .inl (by omega); exact .inr (fun e => h (Option.some.inj e)))]
        rw [hcl.out]; congr 1; omega
      have hbad := Lib.hid hbad
      by_cases hk0 : k = 0
      · subst hk0
        have hP := Lib.hid (hbad.out (.inl rfl))
        clear hbad
        go_wp2_with fail
        refine bodyPost_ret (v := .tuple #[.agg #[.int .i64 0, .int .i64 0, .slice none 0 0], .int .i64 0, .int .i64 3]) (by simp [results, Tryz.results18, go_sem, z0, z1, z2]) rfl ?_
        (try rw [hP.out])
        exact bad_end 0 3 _ (H.out.2.2.2.2.2.1)
      have hkz : ((k : Int) == 0) = false := by rw [beq_eq_false_iff_ne]; omega
      have hk0 := Lib.hid hk0
      by_cases hpe : pl.data.toList = []
      · obtain rfl : pl = ⟨#[]⟩ := eq_of_list (by rw [hpe])
        obtain ⟨A, c, rfl, hle, hC⟩ := own_cells H.out.2.2.2.2.1
        have hC := Lib.hid hC
        have hgood : Hid (parseR s.data.toList = if formB L O cs = true then ⟨L, O, cs, -1, 0⟩ else ⟨0, 0, [], -1, 1⟩) := Lib.hid (by
          unfold parseR; rw [HR.out, hfin.out]
          simp only
          rw [if_neg (by rw [hcl.out, hgl.out]; rintro (h | h); exact hk0.out (by omega); exact h rfl)])
        clear hbad hgl hpe hfin
        cases hf : formB L O cs
        · have hP := hgood.out
          rw [hf, if_neg (by simp)] at hP
          have hP := Lib.hid hP
          have hf := Lib.hid hf
          clear hgood
          go_wp2_with (go_at_call 53; refine (form_lit L O A cs.length c cs (by omega) false hf.out _ hC.out).mono ?_; rintro e w2 ⟨rfl, hb2⟩; have H2 := Lib.hid (H.out.later hb2); obtain ⟨z0, z1, z2, f0, f1, f2⟩ := H2.out.2.2.1.three)
          refine bodyPost_ret (v := .tuple #[.agg #[.int .i64 0, .int .i64 0, .slice none 0 0], .int .i64 (-1), .int .i64 1]) (by simp [results, Tryz.results18, go_sem, z0, z1, z2]) rfl ?_
          (try rw [hP.out])
          exact bad_end _ 1 _ (H2.out.2.2.2.2.2.1)
        · have hP := hgood.out
          rw [hf, if_pos rfl] at hP
          have hP := Lib.hid hP
          have hf := Lib.hid hf
          clear hgood
          go_wp2_with (go_at_call 53; refine (form_lit L O A cs.length c cs (by omega) true hf.out _ hC.out).mono ?_; rintro e w2 ⟨rfl, hb2⟩; have H2 := Lib.hid (H.out.later hb2); obtain ⟨z0, z1, z2, f0, f1, f2⟩ := H2.out.2.2.1.three; obtain ⟨y0, y1, y2, q0, q1, q2⟩ := H2.out.2.1.three)
          refine bodyPost_ret (v := .tuple #[.agg #[.int .i64 L, .int .i64 O, .slice A cs.length c], .int .i64 (-1), .int .i64 0]) (by simp [results, Tryz.results18, go_sem, z0, z1, z2]) rfl ?_
          (try rw [hP.out])
          exact good_end L O (-1) 0 cs hle (hC.out.below hb2) H2.out.2.2.2.2.2.1 hb2.size (own_block H.out.2.2.2.2.1)
      · have hP := Lib.hid (hbad.out (.inr hpe))
        have hq : pl.toList.isEmpty = false := by rw [ByteArray.toList_eq]; simpa using hpe
        have hq2 : (pl.toList == []) = false := by rw [ByteArray.toList_eq, beq_eq_false_iff_ne]; exact hpe
        clear hbad
        have hpe := Lib.hid hpe
        go_wp2_with fail
        refine bodyPost_ret (v := .tuple #[.agg #[.int .i64 0, .int .i64 0, .slice none 0 0], .int .i64 (k : Int), .int .i64 3]) (by simp [results, Tryz.results18, go_sem, z0, z1, z2]) rfl ?_
        rw [hP.out]
        exact bad_end _ 3 _ (H.out.2.2.2.2.2.1)
end Go.Proofs.YtnddjcadkbjjhaaGreatDoor
