/-
  CHAPTER 35: slices.Clone and slices.Insert at cells.
-/
import Derived.Test.YtnddjcadkbjjhaaGreatDoorH
import Derived.Shelf.Spec.SlicesInsertGrow
namespace Go.Proofs.YtnddjcadkbjjhaaGreatDoor
open Go.RowKit

theorem flat_length : ∀ cs : List C5, (cs.flatMap C5.cells).length = cs.length * 5
  | [] => rfl
  | c :: l => by rw [List.flatMap_cons, List.length_append, flat_length l]; simp [C5.cells]; omega
theorem flat_one (cs : List C5) : ∀ u ∈ cs.flatMap C5.cells, u.oneCell' = true := by
  intro u hu
  obtain ⟨c, _, h⟩ := List.mem_flatMap.1 hu
  simp only [C5.cells, List.mem_cons, List.not_mem_nil, or_false] at h
  rcases h with rfl | rfl | rfl | rfl | rfl <;> rfl
theorem x_one (x : C5) : ∀ u ∈ x.cells, u.oneCell' = true := by
  intro u h
  simp only [C5.cells, List.mem_cons, List.not_mem_nil, or_false] at h
  rcases h with rfl | rfl | rfl | rfl | rfl <;> rfl
theorem flat_cs : ∀ (cs : List C5) (p : Nat) (v : Value), (cs.flatMap C5.cells)[p]? = some v → ∃ j i z, p = j * 5 + i ∧ i < 5 ∧ cs[j]? = some z ∧ z.cells[i]? = some v := by
  intro cs p v h
  have hp := (List.getElem?_eq_some_iff.1 h).1
  rw [flat_length] at hp
  have hj : p / 5 < cs.length := by omega
  refine ⟨p / 5, p % 5, cs[p / 5], by omega, by omega, List.getElem?_eq_getElem hj, ?_⟩
  rw [← flat_cells cs (p / 5) _ (List.getElem?_eq_getElem hj) (p % 5) (by omega), show p / 5 * 5 + p % 5 = p from by omega]
  exact h
theorem five_cells {w : World} {b o : Nat} {z : C5} (h : w.cell? ⟨b, o, none⟩ = some (.int .i64 z.s) ∧ w.cell? ⟨b, o + 1, none⟩ = some (.int .i64 z.o) ∧ w.cell? ⟨b, o + 2, none⟩ = some (.int .i64 z.f) ∧ w.cell? ⟨b, o + 3, none⟩ = some (.int .i64 z.t) ∧ w.cell? ⟨b, o + 4, none⟩ = some (.int .i64 z.w)) :
    ∀ i v, z.cells[i]? = some v → w.cell? ⟨b, o + i, none⟩ = some v := by
  obtain ⟨h0, h1, h2, h3, h4⟩ := h
  intro i v hv
  match i, hv with
  | 0, hv => cases hv; exact h0
  | 1, hv => cases hv; exact h1
  | 2, hv => cases hv; exact h2
  | 3, hv => cases hv; exact h3
  | 4, hv => cases hv; exact h4
/-- The cells of a slice, as one list. -/
theorem Cells.flat {w : World} {B b off n : Nat} {cs : List C5} (h : Cells w B (some ⟨b, off, none⟩) n cs) : ∀ p v, (cs.flatMap C5.cells)[p]? = some v → w.cell? ⟨b, off + p, none⟩ = some v := by
  intro p v hp
  obtain ⟨j, i, z, rfl, hi, hz, hv⟩ := flat_cs cs p v hp
  have hj := (List.getElem?_eq_some_iff.1 hz).1
  obtain ⟨b', off', e, _, hc⟩ := h.2 (by have := h.1; omega)
  cases e
  rw [← Nat.add_assoc]
  exact five_cells (hc j z hz) i v hv
theorem Cells.of_flat {w : World} {B b off n : Nat} {cs : List C5} (hl : cs.length = n) (hb : b < B) (h : ∀ j z, cs[j]? = some z → ∀ i v, z.cells[i]? = some v → w.cell? ⟨b, off + (j * 5 + i), none⟩ = some v) : Cells w B (some ⟨b, off, none⟩) n cs := by
  refine ⟨hl, fun _ => ⟨b, off, rfl, hb, fun j z hz => ?_⟩⟩
  have h := h j z hz
  simp only [Nat.add_assoc]
  exact ⟨h 0 _ rfl, h 1 _ rfl, h 2 _ rfl, h 3 _ rfl, h 4 _ rfl⟩
theorem Tryz.eqlNil (w : World) (a : Option Addr) (n c n' c' : Nat) : (binOp .eql 28 (.slice a n c) (.slice none n' c')).run Tryz.prog w = .ok (.bool a.isNone) w := Lib.run_eql_slice_nil w _ _ a n c n' c' Tryz.underlying28
set_option maxHeartbeats 2000000 in
set_option maxRecDepth 100000 in
theorem clone_some (a : Addr) (n c : Nat) (cs : List C5) (hn : n ≤ 1000000) (w : World) (hl : cs.length = n) (A : Hid (∀ (o : Obj) p v, (cs.flatMap C5.cells)[p]? = some v → (w.alloc o).cell? (a.add p) = some v)) :
    Calls Tryz.prog 70 #[.slice (some a) n c] w fun e w' => ∃ v', e = .returned v' ∧ w'.ownsRow w.heap.size 51 5 v' n (cs.flatMap C5.cells) ∧ Below w.heap.size w w' := by
  obtain ⟨i0, hi, hj0, hj1, hj2⟩ := info_parts Tryz.info51
  have q := Tryz.eqlNil
  go_enter Tryz.func70, Tryz.ntmps70
  go_wp2_with (at_builtin; refine wpList_append_own _ rfl _ _ 28 rfl w.heap.size 51 i0 _ 5 40 Tryz.underlying28 hi hj0 hj1 hj2 rfl (by decide) _ _ _ rfl (World.ownsRow_made w #[] 0 (Nat.le_refl _) (Nat.zero_le _) (by simp)) a n c (cs.flatMap C5.cells) rfl ?qc1 ?qc2 ?qc3 ?qc4 ?qc5 ?qc6 ?_)
  case qc1 => rw [flat_length, hl]
  case qc2 => exact A.out _
  case qc3 => exact flat_one cs
  case qc4 => rw [Nat.zero_add]; unfold maxLen; omega
  case qc5 => rw [Nat.zero_add]; omega
  case qc6 => simp
  intro v' w1 hown hgrow hnil
  go_wp2
  go_ret
  refine ⟨v', rfl, by simpa using hown, ?_⟩
  exact ((Below.refl _ w).alloc (Nat.le_refl _) _).grown hgrow (by simp) (by intro k hk; simp [Value.ownBlock] at hk; omega)
theorem clone_any (A : Option Addr) (n c : Nat) (cs : List C5) (hn : n ≤ 1000000) (w : World) (hcs : Cells w w.heap.size A n cs) :
    Calls Tryz.prog 70 #[.slice A n c] w fun e w' => ∃ v', e = .returned v' ∧ w'.ownsRow w.heap.size 51 5 v' n (cs.flatMap C5.cells) ∧ Below w.heap.size w w' := by
  have hl := hcs.1
  cases A with
  | none =>
    have h0 : n = 0 := by
      rcases Nat.eq_zero_or_pos n with h | h
      · exact h
      · obtain ⟨_, _, e, _⟩ := hcs.2 h; cases e
    subst h0
    obtain rfl : cs = [] := List.length_eq_zero_iff.1 hl
    have q := Tryz.eqlNil
    go_enter Tryz.func70, Tryz.ntmps70
    go_wp2
    go_ret
    exact ⟨_, rfl, World.ownsRow_nil _ _ _ _, Below.refl _ _⟩
  | some a =>
    refine clone_some a n c cs hn w hl (Lib.hid fun o p v hp => ?_)
    have hpos : 0 < n := by
      have := (List.getElem?_eq_some_iff.1 hp).1
      rw [flat_length] at this; omega
    obtain ⟨b, off, e, _⟩ := hcs.2 hpos
    cases e
    rw [Addr.add_lit]
    exact Lib.cell?_alloc_some _ (hcs.flat p v hp)

/-! ### Insert -/
def insL (cs : List C5) (i : Nat) (x : C5) : List C5 := cs.take i ++ x :: cs.drop i
theorem insL_length (cs : List C5) (i : Nat) (x : C5) (hi : i ≤ cs.length) : (insL cs i x).length = cs.length + 1 := by
  unfold insL; rw [List.length_append, List.length_cons, List.length_take, List.length_drop]; omega
theorem insL_at {cs : List C5} {i j : Nat} {x z : C5} (hi : i ≤ cs.length) (h : (insL cs i x)[j]? = some z) : (j < i ∧ cs[j]? = some z) ∨ (j = i ∧ z = x) ∨ (∃ q, j = q + 1 ∧ i ≤ q ∧ cs[q]? = some z) := by
  unfold insL at h
  have ht : (cs.take i).length = i := by rw [List.length_take]; omega
  rcases Nat.lt_or_ge j i with h1 | h1
  · left
    rw [List.getElem?_append_left (by omega), List.getElem?_take, if_pos h1] at h
    exact ⟨h1, h⟩
  · right
    rw [List.getElem?_append_right (by omega), ht] at h
    rcases Nat.eq_or_lt_of_le h1 with h2 | h2
    · left
      rw [← h2, Nat.sub_self] at h
      exact ⟨h2.symm, (Option.some.inj h).symm⟩
    · right
      obtain ⟨q, rfl⟩ : ∃ q, j = q + 1 := ⟨j - 1, by omega⟩
      rw [show q + 1 - i = (q - i) + 1 from by omega, List.getElem?_cons_succ, List.getElem?_drop, show i + (q - i) = q from by omega] at h
      exact ⟨q, rfl, by omega, h⟩
/-- What Insert gives. -/
def InsEnd (w : World) (base : Nat) (cs : List C5) (i : Nat) (x : C5) (e : Ending) (w' : World) : Prop :=
  ∃ A c, e = .returned (.slice A (cs.length + 1) c) ∧ cs.length + 1 ≤ c ∧ Cells w' w'.heap.size A (cs.length + 1) (insL cs i x) ∧ (∀ b off, A = some ⟨b, off, none⟩ → base ≤ b) ∧ Below base w w'
section
variable {P : Program}
/-- copy between slices of elements of k cells: all is read before anything is written. -/
theorem run_copy_k (w : World) (dT sT ty elem : TypeId) (k m : Nat) (b o dLen dCap : Nat) (a : Addr) (sLen sCap : Nat) (cs : List Value)
    (hu : P.underlying dT = some (.slice elem)) (hs : (P.info? elem).map (·.size) = some k) (hm : Nat.min sLen dLen = m) (hn : cs.length = m * k)
    (hsrc : ∀ j v, cs[j]? = some v → w.cell? (a.add j) = some v) (hc : ∀ j, j < cs.length → (w.cell? ⟨b, o + j, none⟩).isSome = true) (hf : ∀ j, j < cs.length → w.frozen? ⟨b, o + j, none⟩ = false) (h1 : ∀ v ∈ cs, v.oneCell' = true) :
    (Builtin.copy_ #[dT, sT] ty #[.slice (some ⟨b, o, none⟩) dLen dCap, .slice (some a) sLen sCap]).run P w = .ok (goInt m) (w.setCells b o cs) := by
  have hl := run_loadCells_list (P := P) w a cs hsrc
  have hst := run_storeCells_cells (P := P) b o cs 0 w (by simpa using hc) (by simpa using hf) h1
  cases hq : P.info? elem with
  | none => simp [hq] at hs
  | some i =>
    have hi : i.size = k := by simpa [hq] using hs
    simp [Builtin.copy_, run_underlying hu, Builtin.lenOf, Builtin.firstCells, sizeOf, typeInfo, hq, hi, hm, ← hn, hl, hst]
end
set_option maxHeartbeats 4000000 in
set_option maxRecDepth 100000 in
/-- At the end: append. -/
theorem insert_end (v : Value) (base : Nat) (cs : List C5) (x : C5) (vb : Nat) (hn : cs.length ≤ 1000000) (w : World) (hown : w.ownsRow base 51 5 v cs.length (cs.flatMap C5.cells)) (hbase : base ≤ w.heap.size) (hx : Hid (Box5 w vb x)) (A : Option Addr) (c : Nat) (hv : v = .slice A cs.length c) :
    Calls Tryz.prog 72 #[v, .int .i64 cs.length, .slice (some ⟨vb, 0, none⟩) 1 1] w (InsEnd w base cs cs.length x) := by
  obtain ⟨i0, hi, hj0, hj1, hj2⟩ := info_parts Tryz.info51
  have q := Tryz.eqlNil
  subst hv
  have hle : cs.length ≤ c := by
    rcases hown.2 with ⟨e, h0⟩ | ⟨g, cap, cur, e, _, _, hle, _⟩
    · omega
    · cases e; exact hle
  have hc63 : c ≤ 9223372036854775807 := by
    rcases hown.2 with ⟨e, h0⟩ | ⟨g, cap, cur, e, _, _, _, hm, _⟩
    · simp only [Value.slice.injEq] at e; omega
    · cases e; unfold maxLen at hm; omega
  rcases Nat.lt_or_ge cs.length c with hcc | hcc
  · have hb4 : ¬ (c = cs.length) := by omega
    go_enter Tryz.func72, Tryz.ntmps72
    go_wp2_with (at_builtin; refine wpList_append_own _ rfl _ _ 28 rfl base 51 i0 _ 5 40 Tryz.underlying28 hi hj0 hj1 hj2 rfl (by decide) _ _ _ rfl hown ⟨vb, 0, none⟩ 1 1 x.cells rfl ?qa1 ?qa2 ?qa3 ?qa4 ?qa5 ?qa6 ?_)
    case qa1 => rfl
    case qa2 =>
      intro j u hj
      rw [Addr.add_lit]
      exact five_cells hx.out j u hj
    case qa3 => exact x_one x
    case qa4 => unfold maxLen; omega
    case qa5 => omega
    case qa6 => exact hbase
    intro v' w1 hown' hgrow hnil
    go_wp2
    go_ret
    have e1 : (cs ++ [x]).flatMap C5.cells = cs.flatMap C5.cells ++ x.cells := by simp [List.flatMap_append]
    have e2 : (cs ++ [x]).length = cs.length + 1 := by simp
    rw [← e1, ← e2] at hown'
    obtain ⟨A', c', rfl, hle', hC⟩ := own_cells hown'
    have hblk := own_block hown'
    rw [e2] at hle' hC ⊢
    have e3 : insL cs cs.length x = cs ++ [x] := by unfold insL; simp
    refine ⟨A', c', rfl, hle', by rw [e3]; exact hC, hblk, ?_⟩
    exact (Below.refl base w).grown hgrow hbase (fun k hk => (hown.lt k hk).1)
  · obtain rfl : c = cs.length := by omega
    go_enter Tryz.func72, Tryz.ntmps72
    go_wp2_with (at_builtin; refine wpList_append_own _ rfl _ _ 28 rfl base 51 i0 _ 5 40 Tryz.underlying28 hi hj0 hj1 hj2 rfl (by decide) _ _ _ rfl hown ⟨vb, 0, none⟩ 1 1 x.cells rfl ?qb1 ?qb2 ?qb3 ?qb4 ?qb5 ?qb6 ?_)
    case qb1 => rfl
    case qb2 =>
      intro j u hj
      rw [Addr.add_lit]
      exact five_cells hx.out j u hj
    case qb3 => exact x_one x
    case qb4 => unfold maxLen; omega
    case qb5 => omega
    case qb6 => exact hbase
    intro v' w1 hown' hgrow hnil
    go_wp2
    go_ret
    have e1 : (cs ++ [x]).flatMap C5.cells = cs.flatMap C5.cells ++ x.cells := by simp [List.flatMap_append]
    have e2 : (cs ++ [x]).length = cs.length + 1 := by simp
    rw [← e1, ← e2] at hown'
    obtain ⟨A', c', rfl, hle', hC⟩ := own_cells hown'
    have hblk := own_block hown'
    rw [e2] at hle' hC ⊢
    have e3 : insL cs cs.length x = cs ++ [x] := by unfold insL; simp
    refine ⟨A', c', rfl, hle', by rw [e3]; exact hC, hblk, ?_⟩
    exact (Below.refl base w).grown hgrow hbase (fun k hk => (hown.lt k hk).1)
theorem drew_cell (w : World) (a : Addr) : w.drew.cell? a = w.cell? a := rfl
theorem drew_frozen (w : World) (a : Addr) : w.drew.frozen? a = w.frozen? a := rfl
theorem below_setCells {B b : Nat} (hB : B ≤ b) : ∀ (vs : List Value) (o : Nat) (a w : World), Below B a w → Below B a (w.setCells b o vs)
  | [], _, _, _, h => h
  | v :: r, o, a, w, h => by
    rw [World.setCells]
    exact below_setCells hB r (o + 1) a _ (h.setCell (p := ⟨b, o, none⟩) hB v)
theorem Tryz.size51 : (Tryz.prog.info? 51).map (·.size) = some 5 := by kernel_rfl
theorem Tryz.z51 (w : World) : (Go.sizeOf 51).run Tryz.prog w = .ok 5 w := by
  obtain ⟨i0, hi, _, h1, _⟩ := info_parts Tryz.info51
  simp [sizeOf, typeInfo, hi, h1]
/-- Where the result of Insert lies. -/
theorem ins_cells {W : World} {g i : Nat} {cs : List C5} {x : C5} (hi : i ≤ cs.length) (hg : g < W.heap.size)
    (hA : ∀ p v, (cs.flatMap C5.cells)[p]? = some v → p < i * 5 → W.cell? ⟨g, p, none⟩ = some v) (hB : ∀ t v, x.cells[t]? = some v → W.cell? ⟨g, i * 5 + t, none⟩ = some v)
    (hC : ∀ p v, (cs.flatMap C5.cells)[p]? = some v → i * 5 ≤ p → W.cell? ⟨g, p + 5, none⟩ = some v) : Cells W W.heap.size (some ⟨g, 0, none⟩) (cs.length + 1) (insL cs i x) := by
  refine Cells.of_flat (insL_length cs i x hi) hg fun j z hz t v hv => ?_
  have ht : t < 5 := by
    have := (List.getElem?_eq_some_iff.1 hv).1
    simpa [C5.cells] using this
  rw [Nat.zero_add]
  rcases insL_at hi hz with ⟨h1, h2⟩ | ⟨rfl, rfl⟩ | ⟨q, rfl, h1, h2⟩
  · exact hA _ v (by rw [flat_cells cs j z h2 t ht]; exact hv) (by omega)
  · exact hB t v hv
  · have := hC (q * 5 + t) v (by rw [flat_cells cs q z h2 t ht]; exact hv) (by omega)
    rw [show (q + 1) * 5 + t = q * 5 + t + 5 from by omega]
    exact this
set_option maxHeartbeats 4000000 in
set_option maxRecDepth 100000 in
/-- In the middle, in place. -/
theorem insert_shift (base : Nat) (cs : List C5) (x : C5) (g c i vb : Nat) (cur : Array Value) (hn : cs.length ≤ 1000000) (hi : i < cs.length) (hroom : cs.length + 1 ≤ c) (_hc63 : c ≤ 9223372036854775807) (hvb : vb ≠ g) (hcur : cur.size = c * 5) (hbase : base ≤ g) (w : World)
    (hG : Hid (Blk w g 51 cur)) (hF : Hid (cur.toList.take (cs.length * 5) = cs.flatMap C5.cells)) (hV : Hid (Blk w vb 51 x.cells.toArray)) :
    Calls Tryz.prog 72 #[.slice (some ⟨g, 0, none⟩) cs.length c, .int .i64 i, .slice (some ⟨vb, 0, none⟩) 1 1] w (InsEnd w base cs i x) := by
  obtain ⟨n, hnn⟩ : ∃ n, cs.length = n := ⟨_, rfl⟩
  have hfl := flat_length cs
  have hFc : Hid (∀ p v, (cs.flatMap C5.cells)[p]? = some v → w.cell? ⟨g, p, none⟩ = some v) := Lib.hid fun p v hp => by
    rw [hG.out.cell p]
    rw [← hF.out, List.getElem?_take] at hp
    split at hp
    · simpa using hp
    · cases hp
  have hsp : ∀ p, p < (n + 1) * 5 → (w.cell? ⟨g, p, none⟩).isSome = true := fun p hp => by
    rw [hG.out.cell p, Array.getElem?_eq_getElem (by omega)]; rfl
  have hfz : ∀ p, w.frozen? ⟨g, p, none⟩ = false := fun p => hG.out.frozen p
  have hVc : ∀ t v, x.cells[t]? = some v → w.cell? ⟨vb, 0 + t, none⟩ = some v := fun t v h => by
    rw [Nat.zero_add, hV.out.cell t]; simpa using h
  have hov : ∀ lb cb o, (callFunc 106 #[.slice (some ⟨vb, 0, none⟩) 1 1, .slice (some ⟨g, o, none⟩) lb cb]).run Tryz.prog w = .ok (.value (.bool false)) w := fun lb cb o => by
    rw [run_callFunc_extern Tryz.func106 (by kernel_rfl) (by kernel_rfl) (by kernel_rfl) (e := Extern.SlicesOverlaps.overlaps #[28, 28] #[4]) (by kernel_rfl),
      Lib.run_overlaps_apart w 28 4 51 Tryz.underlying28 5 Tryz.z51 ⟨vb, 0, none⟩ ⟨g, o, none⟩ 1 1 lb cb hvb 51 51 5 (c * 5) (by have := hV.out; unfold Blk at this; simp [World.shape?, this, C5.cells]) (by have := hG.out; unfold Blk at this; simp [World.shape?, this, hcur]) (by omega) (hV.out.frozen 0) (hV.out.frozen 5)]
    rfl
  have hdl : ((cs.flatMap C5.cells).drop (i * 5)).length = (n - i) * 5 := by rw [List.length_drop, hfl, hnn]; omega
  have hcp1 : ∀ ty o1 o2 dl dc sl sc, o1 = (i + 1) * 5 → o2 = i * 5 → Nat.min sl dl = n - i → (Builtin.copy_ #[28, 28] ty #[.slice (some ⟨g, o1, none⟩) dl dc, .slice (some ⟨g, o2, none⟩) sl sc]).run Tryz.prog w.drew = .ok (goInt (n - i : Nat)) (w.drew.setCells g ((i + 1) * 5) ((cs.flatMap C5.cells).drop (i * 5))) := fun ty o1 o2 dl dc sl sc e1 e2 hm => by
    subst e1 e2
    exact run_copy_k w.drew 28 28 ty 51 5 (n - i) g _ dl dc ⟨g, _, none⟩ sl sc _ Tryz.underlying28 Tryz.size51 hm hdl
      (fun j v hj => by rw [Addr.add_lit]; exact hFc.out (i * 5 + j) v (by rwa [List.getElem?_drop] at hj))
      (fun j hj => hsp _ (by omega)) (fun j hj => hfz _) (fun v hv => flat_one cs v (List.mem_of_mem_drop hv))
  obtain ⟨W1, hW1⟩ : ∃ W1, W1 = w.drew.setCells g ((i + 1) * 5) ((cs.flatMap C5.cells).drop (i * 5)) := ⟨_, rfl⟩
  have hsp1 : ∀ p, p < (n + 1) * 5 → (W1.cell? ⟨g, p, none⟩).isSome = true := fun p hp => by
    rw [hW1]
    exact Go.Proofs.isSome_setCells g ((cs.flatMap C5.cells).drop (i * 5)) ((i + 1) * 5) w.drew (fun j hj => hsp _ (by omega)) _ (hsp p hp)
  have hcp2 : ∀ (W : World), (∀ a, W.cell? a = W1.cell? a) → (∀ a, W.frozen? a = W1.frozen? a) → ∀ ty o1 dl dc, o1 = i * 5 → Nat.min 1 dl = 1 → (Builtin.copy_ #[28, 28] ty #[.slice (some ⟨g, o1, none⟩) dl dc, .slice (some ⟨vb, 0, none⟩) 1 1]).run Tryz.prog W = .ok (goInt (1 : Nat)) (W.setCells g (i * 5) x.cells) := fun W hWc hWf ty o1 dl dc e1 hm => by
    subst e1
    exact run_copy_k W 28 28 ty 51 5 1 g _ dl dc ⟨vb, 0, none⟩ 1 1 x.cells Tryz.underlying28 Tryz.size51 hm rfl
      (fun j v hj => by rw [Addr.add_lit, hWc, hW1, World.cell?_setCells_out g _ _ _ _ (fun h _ => absurd h hvb)]; exact hVc j v hj)
      (fun j hj => by rw [hWc]; exact hsp1 _ (by have h5 : x.cells.length = 5 := rfl; omega)) (fun j hj => by rw [hWf, hW1, World.frozen?_setCells]; exact hfz _) (x_one x)
  have hc2 := hcp2 W1 (fun _ => rfl) (fun _ => rfl) 3 (i * 5) (n + 1 - i) (c - i) rfl (by simp only [Nat.min_def]; split <;> omega)
  clear hcp2 hsp1
  subst hW1
  rw [hnn]
  have hw1 : IntKind.i64.wrap ((i : Int) + 1) = (i : Int) + 1 := by rw [IntKind.wrap_i64]; omega
  have hin : i ≤ n := by omega
  have hne : ¬ (i = n) := by omega
  have hb2 : ¬ (c = i + 1) := by omega
  have hb4 : ¬ (c = i) := by omega
  have hz2 : ¬ ((i : Int) = (n : Int)) := by omega
  have hroom' : n + 1 ≤ c := by omega
  have mixed : Tryz.prog.follows .mixedOrders = true := by kernel_rfl
  have hb1 : (0 : Int) ≤ (i : Int) + 1 := by omega
  have hb3 : (i : Int) ≤ (n : Int) + 1 := by omega
  have htn : ((i : Int) + 1).toNat = i + 1 := by omega
  go_enter Tryz.func72, Tryz.ntmps72
  go_wp2_with (simp only [hov])
  have hc1 := hcp1 3 ((i + 1) * 5) (i * 5) (n - i) (c - (i + 1)) (n + 1 - i) (c - i) rfl rfl (by simp only [Nat.min_def]; split <;> omega)
  go_region_law_o (refine Go.Proofs.step_copy_runI rfl _ _ 28 28 rfl (.slice (some ⟨g, (i + 1) * 5, none⟩) (n - i) (c - (i + 1))) (.slice (some ⟨g, i * 5, none⟩) (n + 1 - i) (c - i)) (by simp [Act.eval, Act.put]) (by simp [Act.eval, Act.put]) hc1 ?_)
  go_wp2_with (at_builtin; refine Go.Proofs.wpList_copy_runI _ rfl _ _ 28 28 rfl _ _ rfl rfl hc2 ?_)
  go_ret
  have h5 : x.cells.length = 5 := rfl
  have hsp2 : ∀ j, j < x.cells.length → ((w.drew.setCells g ((i + 1) * 5) ((cs.flatMap C5.cells).drop (i * 5))).cell? ⟨g, i * 5 + j, none⟩).isSome = true := fun j hj =>
    Go.Proofs.isSome_setCells g ((cs.flatMap C5.cells).drop (i * 5)) ((i + 1) * 5) w.drew (fun j hj => hsp _ (by omega)) _ (hsp _ (by omega))
  have hBB : ∀ t v, x.cells[t]? = some v → ((w.drew.setCells g ((i + 1) * 5) ((cs.flatMap C5.cells).drop (i * 5))).setCells g (i * 5) x.cells).cell? ⟨g, i * 5 + t, none⟩ = some v := fun t v hv => by
    obtain ⟨ht, e⟩ := List.getElem?_eq_some_iff.1 hv
    rw [World.cell?_setCells_in g x.cells (i * 5) _ hsp2 t ht, e]
  have hlt := World.block_lt_of_cell? _ _ (hBB 0 _ rfl)
  refine ⟨some ⟨g, 0, none⟩, c, by rw [hnn]; rfl, by omega, ins_cells (by omega) hlt ?_ hBB ?_, fun b off h => by cases h; exact hbase, below_setCells hbase _ _ _ _ (below_setCells hbase _ _ _ _ (Below.refl base w).drew)⟩
  · intro p v hp hlt
    rw [World.cell?_setCells_out g _ _ _ _ (fun _ _ => Or.inl (by show p < i * 5; omega)), World.cell?_setCells_out g _ _ _ _ (fun _ _ => Or.inl (by show p < (i + 1) * 5; omega))]
    exact hFc.out p v hp
  · intro p v hp hle
    have hpl := (List.getElem?_eq_some_iff.1 hp).1
    rw [hfl] at hpl
    rw [World.cell?_setCells_out g _ _ _ _ (fun _ _ => Or.inr (by show i * 5 + x.cells.length ≤ p + 5; omega))]
    have hd : ((cs.flatMap C5.cells).drop (i * 5))[p - i * 5]? = some v := by rw [List.getElem?_drop, show i * 5 + (p - i * 5) = p from by omega]; exact hp
    obtain ⟨ht, e⟩ := List.getElem?_eq_some_iff.1 hd
    have := World.cell?_setCells_in g ((cs.flatMap C5.cells).drop (i * 5)) ((i + 1) * 5) w.drew (fun j hj => hsp _ (by omega)) (p - i * 5) ht
    rw [show (i + 1) * 5 + (p - i * 5) = p + 5 from by omega, e] at this
    exact this
set_option maxHeartbeats 4000000 in
set_option maxRecDepth 100000 in
/-- In the middle, no room: a new row. -/
theorem insert_grow (base : Nat) (cs : List C5) (x : C5) (g c i vb : Nat) (cur : Array Value) (hn : cs.length ≤ 1000000) (hi : i < cs.length) (hnc : cs.length ≤ c) (hroom : c < cs.length + 1) (_hcur : cur.size = c * 5) (w : World) (hbase : base ≤ w.heap.size)
    (hG : Hid (Blk w g 51 cur)) (hF : Hid (cur.toList.take (cs.length * 5) = cs.flatMap C5.cells)) (hV : Hid (Blk w vb 51 x.cells.toArray)) :
    Calls Tryz.prog 72 #[.slice (some ⟨g, 0, none⟩) cs.length c, .int .i64 i, .slice (some ⟨vb, 0, none⟩) 1 1] w (InsEnd w base cs i x) := by
  obtain ⟨n, hnn⟩ : ∃ n, cs.length = n := ⟨_, rfl⟩
  obtain ⟨i0, hi0, hz0, hzs, hzb⟩ := info_parts Tryz.info51
  have hfl := flat_length cs
  have hFc : Hid (∀ p v, (cs.flatMap C5.cells)[p]? = some v → w.cell? ⟨g, p, none⟩ = some v) := Lib.hid fun p v hp => by
    rw [hG.out.cell p]
    rw [← hF.out, List.getElem?_take] at hp
    split at hp
    · simpa using hp
    · cases hp
  have hVc : ∀ t v, x.cells[t]? = some v → w.cell? ⟨vb, 0 + t, none⟩ = some v := fun t v h => by
    rw [Nat.zero_add, hV.out.cell t]; simpa using h
  have hgw : g < w.heap.size := hG.out.lt
  have hvw : vb < w.heap.size := hV.out.lt
  have h5 : x.cells.length = 5 := rfl
  have htk : ((cs.flatMap C5.cells).take (i * 5)).length = i * 5 := by rw [List.length_take, hfl]; omega
  have hkk : (n : Int) + 1 - (i : Int) = ((n + 1 - i : Nat) : Int) := by omega
  have hik : i + (n + 1 - i) = n + 1 := by omega
  have hold : (Builtin.firstCells i0.size i (.slice (some ⟨g, 0, none⟩) i c)).run Tryz.prog w.drew = .ok ((cs.flatMap C5.cells).take (i * 5)).toArray w.drew := by
    rw [hzs]
    exact run_firstCells_some w.drew 5 i ⟨g, 0, none⟩ i c _ htk (fun j v hj => by
      rw [Addr.add_lit, Nat.zero_add]
      rw [List.getElem?_take] at hj
      split at hj
      · exact hFc.out j v hj
      · cases hj)
  have hrz : ∀ ty, (Builtin.append_ #[28, 3] ty #[.slice (some ⟨g, 0, none⟩) i c, .int .i64 ((n : Int) + 1 - (i : Int))]).run Tryz.prog w =
      .ok (.slice (some ⟨w.heap.size, 0, none⟩) (n + 1) (grownCap w (n + 1) c 51)) (w.drew.alloc (.cells (((cs.flatMap C5.cells).take (i * 5)).toArray ++ Builtin.zeroCells (Value.agg #[.int .i64 0, .int .i64 0, .int .i64 0, .int .i64 0, .int .i64 0]).cells (n + 1 - i) ++ Builtin.zeroCells (Value.agg #[.int .i64 0, .int .i64 0, .int .i64 0, .int .i64 0, .int .i64 0]).cells (grownCap w (n + 1) c 51 - (n + 1))) 51)) := fun ty => by
    have h := Lib.run_append_grow_zeros w 28 3 ty 51 i0 _ .i64 .i64 Tryz.underlying28 Tryz.underlying3 hi0 hz0 (some ⟨g, 0, none⟩) i c _ hold (n + 1 - i) (by omega) (by omega) (by omega) (by omega) (by rw [hzb]; omega) (by rw [hzb, hik]; exact growslice_fits (by omega) (by omega))
    rw [hik] at h
    rw [hkk]
    exact h
  obtain ⟨G, hGG⟩ : ∃ G, G = grownCap w (n + 1) c 51 := ⟨_, rfl⟩
  have hGn : n + 1 ≤ G := by rw [hGG]; exact grownCap_ge w _ _ _
  have hG63 : G ≤ 9223372036854775807 := by
    have := grownCap_le_maxLen w (n + 1) c 51 (by unfold maxLen; omega)
    rw [← hGG] at this
    unfold maxLen at this
    omega
  rw [← hGG] at hrz
  obtain ⟨ROW, hROW⟩ : ∃ ROW : Array Value, ROW = ((cs.flatMap C5.cells).take (i * 5)).toArray ++ Builtin.zeroCells (Value.agg #[.int .i64 0, .int .i64 0, .int .i64 0, .int .i64 0, .int .i64 0]).cells (n + 1 - i) ++ Builtin.zeroCells (Value.agg #[.int .i64 0, .int .i64 0, .int .i64 0, .int .i64 0, .int .i64 0]).cells (G - (n + 1)) := ⟨_, rfl⟩
  rw [← hROW] at hrz
  have hRl : (n + 1) * 5 ≤ ROW.size := by
    rw [hROW]
    simp [Builtin.zeroCells, Value.cells, htk]
    omega
  have hRA : ∀ p v, (cs.flatMap C5.cells)[p]? = some v → p < i * 5 → ROW[p]? = some v := fun p v hp hlt => by
    rw [hROW, Array.append_assoc, Array.getElem?_append_left (by simpa [htk] using hlt)]
    simp [hlt, hp]
  clear hROW hGG hold
  obtain ⟨Wd, hWd⟩ : ∃ Wd, Wd = (w.alloc (.cells ROW 51)).drew := ⟨_, rfl⟩
  have hN : ∀ p, Wd.cell? ⟨w.heap.size, p, none⟩ = ROW[p]? := fun p => by rw [hWd]; exact World.cell?_alloc_at (w := w) ROW 51 w.heap.size p rfl
  have hNs : ∀ p, p < (n + 1) * 5 → (Wd.cell? ⟨w.heap.size, p, none⟩).isSome = true := fun p hp => by rw [hN, Array.getElem?_eq_getElem (by omega)]; rfl
  have hNf : ∀ p, Wd.frozen? ⟨w.heap.size, p, none⟩ = false := fun p => by rw [hWd]; exact World.frozen?_alloc_at (w := w) ROW 51 w.heap.size p rfl
  have hOg : ∀ p, Wd.cell? ⟨g, p, none⟩ = w.cell? ⟨g, p, none⟩ := fun p => by rw [hWd]; exact World.cell?_alloc_past (w := w) _ g p hgw
  have hOv : ∀ p, Wd.cell? ⟨vb, p, none⟩ = w.cell? ⟨vb, p, none⟩ := fun p => by rw [hWd]; exact World.cell?_alloc_past (w := w) _ vb p hvw
  have hbN : g ≠ w.heap.size := by omega
  have hdl : ((cs.flatMap C5.cells).drop (i * 5)).length = (n - i) * 5 := by rw [List.length_drop, hfl, hnn]; omega
  have hcA : (Builtin.copy_ #[28, 28] 3 #[.slice (some ⟨w.heap.size, i * 5, none⟩) (n + 1 - i) (G - i), .slice (some ⟨vb, 0, none⟩) 1 1]).run Tryz.prog Wd = .ok (goInt (1 : Nat)) (Wd.setCells w.heap.size (i * 5) x.cells) :=
    run_copy_k Wd 28 28 3 51 5 1 w.heap.size (i * 5) _ _ ⟨vb, 0, none⟩ 1 1 x.cells Tryz.underlying28 Tryz.size51 (by simp only [Nat.min_def]; split <;> omega) rfl
      (fun j v hj => by rw [Addr.add_lit, hOv]; exact hVc j v hj) (fun j hj => hNs _ (by omega)) (fun j hj => hNf _) (x_one x)
  have hsA : ∀ p, p < (n + 1) * 5 → ((Wd.setCells w.heap.size (i * 5) x.cells).drew.cell? ⟨w.heap.size, p, none⟩).isSome = true := fun p hp => by
    rw [drew_cell]
    exact Go.Proofs.isSome_setCells w.heap.size x.cells (i * 5) Wd (fun j hj => hNs _ (by omega)) _ (hNs p hp)
  have hcB : (Builtin.copy_ #[28, 28] 3 #[.slice (some ⟨w.heap.size, (i + 1) * 5, none⟩) (n - i) (G - (i + 1)), .slice (some ⟨g, i * 5, none⟩) (n - i) (c - i)]).run Tryz.prog (Wd.setCells w.heap.size (i * 5) x.cells).drew = .ok (goInt (n - i : Nat)) ((Wd.setCells w.heap.size (i * 5) x.cells).drew.setCells w.heap.size ((i + 1) * 5) ((cs.flatMap C5.cells).drop (i * 5))) :=
    run_copy_k _ 28 28 3 51 5 (n - i) w.heap.size ((i + 1) * 5) _ _ ⟨g, i * 5, none⟩ (n - i) (c - i) _ Tryz.underlying28 Tryz.size51 (by simp only [Nat.min_def]; split <;> omega) hdl
      (fun j v hj => by
        rw [Addr.add_lit]
        rw [drew_cell, World.cell?_setCells_out w.heap.size x.cells (i * 5) Wd ⟨g, i * 5 + j, none⟩ (fun h _ => absurd h hbN), hOg]
        exact hFc.out (i * 5 + j) v (by rwa [List.getElem?_drop] at hj))
      (fun j hj => hsA _ (by omega)) (fun j hj => by rw [drew_frozen, World.frozen?_setCells]; exact hNf _) (fun v hv => flat_one cs v (List.mem_of_mem_drop hv))
  rw [hnn]
  have hGi : ¬ (G = i) := by omega
  have hGim : ¬ (G = i + 1) := by omega
  have hci : ¬ (c = i) := by omega
  have hw1 : IntKind.i64.wrap ((i : Int) + 1) = (i : Int) + 1 := by rw [IntKind.wrap_i64]; omega
  have hb1 : (0 : Int) ≤ (i : Int) + 1 := by omega
  have hin : i ≤ n := by omega
  have htn : ((i : Int) + 1).toNat = i + 1 := by omega
  have hb3 : (i : Int) ≤ (n : Int) := by omega
  have hz2 : ¬ ((i : Int) = (n : Int)) := by omega
  have hz3 : (c : Int) < (n : Int) + 1 := by omega
  have hle63 : (c : Int) ≤ 9223372036854775807 := by omega
  have mixed : Tryz.prog.follows .mixedOrders = true := by kernel_rfl
  clear hkk hik
  subst hWd
  go_enter Tryz.func72, Tryz.ntmps72
  go_wp2_with (first
    | (at_builtin; refine Lib.wpList_append_run _ rfl _ _ _ _ rfl _ _ rfl rfl _ _ (hrz _) ?_)
    | (at_builtin; refine Go.Proofs.wpList_copy_runI _ rfl _ _ 28 28 rfl _ _ rfl rfl hcA ?_))
  go_region_law_o (refine Go.Proofs.step_copy_runI rfl _ _ 28 28 rfl (.slice (some ⟨w.heap.size, (i + 1) * 5, none⟩) (n - i) (G - (i + 1))) (.slice (some ⟨g, i * 5, none⟩) (n - i) (c - i)) (by simp [Act.eval, Act.put]) (by simp [Act.eval, Act.put]) hcB ?_)
  go_wp2
  go_ret
  have hBB : ∀ t v, x.cells[t]? = some v → (((w.alloc (.cells ROW 51)).drew.setCells w.heap.size (i * 5) x.cells).drew.setCells w.heap.size ((i + 1) * 5) ((cs.flatMap C5.cells).drop (i * 5))).cell? ⟨w.heap.size, i * 5 + t, none⟩ = some v := fun t v hv => by
    obtain ⟨ht, e⟩ := List.getElem?_eq_some_iff.1 hv
    rw [World.cell?_setCells_out w.heap.size _ _ _ _ (fun _ _ => Or.inl (by show i * 5 + t < (i + 1) * 5; omega))]
    rw [drew_cell, World.cell?_setCells_in w.heap.size x.cells (i * 5) _ (fun j hj => hNs _ (by omega)) t ht, e]
  have hlt := World.block_lt_of_cell? _ _ (hBB 0 _ rfl)
  refine ⟨some ⟨w.heap.size, 0, none⟩, G, by rw [hnn]; rfl, by omega, ins_cells (by omega) hlt ?_ hBB ?_, fun b off h => by cases h; exact hbase, below_setCells hbase _ _ _ _ (below_setCells hbase _ _ _ _ ((Below.refl base w).alloc hbase _).drew).drew⟩
  · intro p v hp hlt
    rw [World.cell?_setCells_out w.heap.size _ _ _ _ (fun _ _ => Or.inl (by show p < (i + 1) * 5; omega))]
    rw [drew_cell, World.cell?_setCells_out w.heap.size x.cells (i * 5) _ ⟨w.heap.size, p, none⟩ (fun _ _ => Or.inl (by show p < i * 5; omega))]
    exact (hN p).trans (hRA p v hp hlt)
  · intro p v hp hle
    have hpl := (List.getElem?_eq_some_iff.1 hp).1
    rw [hfl] at hpl
    have hd : ((cs.flatMap C5.cells).drop (i * 5))[p - i * 5]? = some v := by rw [List.getElem?_drop, show i * 5 + (p - i * 5) = p from by omega]; exact hp
    obtain ⟨ht, e⟩ := List.getElem?_eq_some_iff.1 hd
    have := World.cell?_setCells_in w.heap.size ((cs.flatMap C5.cells).drop (i * 5)) ((i + 1) * 5) ((w.alloc (.cells ROW 51)).drew.setCells w.heap.size (i * 5) x.cells).drew (fun j hj => hsA _ (by omega)) (p - i * 5) ht
    rw [show (i + 1) * 5 + (p - i * 5) = p + 5 from by omega, e] at this
    exact this
/-- slices.Insert of one cell into a slice of one's own. -/
theorem insert_any (v : Value) (base : Nat) (cs : List C5) (x : C5) (i vb : Nat) (hn : cs.length ≤ 1000000) (hi : i ≤ cs.length) (w : World) (hown : w.ownsRow base 51 5 v cs.length (cs.flatMap C5.cells)) (hbase : base ≤ w.heap.size) (hV : Blk w vb 51 x.cells.toArray) (hne : ∀ k, v.ownBlock = some k → k ≠ vb) :
    Calls Tryz.prog 72 #[v, .int .i64 i, .slice (some ⟨vb, 0, none⟩) 1 1] w (InsEnd w base cs i x) := by
  have hX : Hid (Box5 w vb x) := Lib.hid ⟨hV.cell 0, hV.cell 1, hV.cell 2, hV.cell 3, hV.cell 4⟩
  rcases Nat.eq_or_lt_of_le hi with rfl | hi
  · obtain ⟨A, c, rfl, _, _⟩ := own_cells hown
    exact insert_end _ base cs x vb hn w hown hbase hX A c rfl
  · rcases hown.2 with ⟨_, h0⟩ | ⟨g, cap, cur, rfl, hb, hg, hle, hm, hsz, htk⟩
    · omega
    · have hm63 : cap ≤ 9223372036854775807 := by unfold maxLen at hm; exact hm
      rcases Nat.lt_or_ge cap (cs.length + 1) with h | h
      · exact insert_grow base cs x g cap i vb cur hn hi hle h hsz w hbase (Lib.hid hg) (Lib.hid htk) (Lib.hid hV)
      · exact insert_shift base cs x g cap i vb cur hn hi h hm63 (fun e => hne g rfl e.symm) hsz hb w (Lib.hid hg) (Lib.hid htk) (Lib.hid hV)
end Go.Proofs.YtnddjcadkbjjhaaGreatDoor
