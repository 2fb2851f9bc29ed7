/-
  CHAPTER 35: slices.DeleteFunc with only's test.
-/
import Derived.Test.YtnddjcadkbjjhaaGreatDoorP
import Derived.Test.YtnddjcadkbjjhaaGreatDoorX
namespace Go.Proofs.YtnddjcadkbjjhaaGreatDoor
open Go.RowKit

/-- The cells that are kept. -/
def keepL (ds cs : List C5) : List C5 := cs.filter fun z => decide (¬ z ∈ ds)
/-- DeleteFunc's row in its loop: the kept cells, then what is still to be looked at. -/
structure GInv (base : Nat) (w0 w : World) (g n j : Nat) (cs kept : List C5) : Prop where
  bel : Below base w0 w
  low : ∀ p v, (kept.flatMap C5.cells)[p]? = some v → w.cell? ⟨g, p, none⟩ = some v
  high : ∀ p v, (cs.flatMap C5.cells)[p]? = some v → j * 5 ≤ p → w.cell? ⟨g, p, none⟩ = some v
  full : ∀ p, p < n * 5 → (w.cell? ⟨g, p, none⟩).isSome = true
  free : ∀ p, w.frozen? ⟨g, p, none⟩ = false
  lies : g < w.heap.size
theorem GInv.kept {base : Nat} {w0 w w' : World} {g n j : Nat} {cs kept : List C5} (h : GInv base w0 w g n j cs kept) (hb : Below w.heap.size w w') (hbase : base ≤ w.heap.size) : GInv base w0 w' g n j cs kept :=
  ⟨h.bel.trans (hb.mono hbase), fun p v hp => (hb.cell (p := ⟨g, p, none⟩) h.lies).trans (h.low p v hp), fun p v hp hj => (hb.cell (p := ⟨g, p, none⟩) h.lies).trans (h.high p v hp hj),
    fun p hp => by rw [hb.cell (p := ⟨g, p, none⟩) h.lies]; exact h.full p hp, fun p => by rw [hb.frozen (p := ⟨g, p, none⟩) h.lies]; exact h.free p, Nat.lt_of_lt_of_le h.lies hb.size⟩
theorem GInv.drop {base : Nat} {w0 w : World} {g n j : Nat} {cs kept : List C5} (h : GInv base w0 w g n j cs kept) : GInv base w0 w g n (j + 1) cs kept :=
  ⟨h.bel, h.low, fun p v hp hj => h.high p v hp (by omega), h.full, h.free, h.lies⟩
theorem GInv.keep {base : Nat} {w0 w : World} {g n j : Nat} {cs kept : List C5} {y : C5} (h : GInv base w0 w g n j cs kept) (hbase : base ≤ g) (hj : j < n) (hk : kept.length ≤ j) :
    GInv base w0 (w.setCells g (kept.length * 5) y.cells) g n (j + 1) cs (kept ++ [y]) := by
  have h5 : y.cells.length = 5 := rfl
  have hin : ∀ t, t < y.cells.length → (w.cell? ⟨g, kept.length * 5 + t, none⟩).isSome = true := fun t ht => h.full _ (by omega)
  have hlk := flat_length kept
  refine ⟨below_setCells hbase _ _ _ _ h.bel, fun p v hp => ?_, fun p v hp hjp => ?_, fun p hp => Go.Proofs.isSome_setCells g _ _ _ hin p (h.full p hp), fun p => by rw [World.frozen?_setCells]; exact h.free p, ?_⟩
  · rw [List.flatMap_append] at hp
    rcases Nat.lt_or_ge p (kept.length * 5) with h1 | h1
    · rw [List.getElem?_append_left (by omega)] at hp
      rw [World.cell?_setCells_out g _ _ _ _ (fun _ _ => Or.inl (by show p < kept.length * 5; omega))]
      exact h.low p v hp
    · rw [List.getElem?_append_right (by omega), hlk] at hp
      have hp' : y.cells[p - kept.length * 5]? = some v := by simpa using hp
      obtain ⟨ht, e⟩ := List.getElem?_eq_some_iff.1 hp'
      have := World.cell?_setCells_in g y.cells (kept.length * 5) w hin (p - kept.length * 5) ht
      rw [show kept.length * 5 + (p - kept.length * 5) = p from by omega, e] at this
      exact this
  · rw [World.cell?_setCells_out g _ _ _ _ (fun _ _ => Or.inr (by show kept.length * 5 + y.cells.length ≤ p; omega))]
    exact h.high p v hp (by omega)
  · obtain ⟨v, hv⟩ := Option.isSome_iff_exists.1 (Go.Proofs.isSome_setCells g y.cells _ w hin 0 (h.full 0 (by omega)))
    exact World.block_lt_of_cell? _ _ hv
theorem keepL_snoc {ds cs : List C5} {j : Nat} {y : C5} (h : cs[j]? = some y) : keepL ds (cs.take (j + 1)) = if y ∈ ds then keepL ds (cs.take j) else keepL ds (cs.take j) ++ [y] := by
  obtain ⟨h1, e1⟩ := List.getElem?_eq_some_iff.1 h
  unfold keepL
  rw [List.take_succ_eq_append_getElem h1, e1, List.filter_append]
  by_cases hy : y ∈ ds <;> simp [hy]
theorem keepL_le (ds cs : List C5) (j : Nat) : (keepL ds (cs.take j)).length ≤ j := by
  unfold keepL
  refine Nat.le_trans (List.length_filter_le _ _) ?_
  rw [List.length_take]; omega
theorem keepL_none {ds cs : List C5} (k : Nat) (h : ∀ t z, cs[t]? = some z → t < k → ¬ z ∈ ds) : keepL ds (cs.take k) = cs.take k := by
  unfold keepL
  rw [List.filter_eq_self]
  intro z hz
  obtain ⟨t, ht, e⟩ := List.getElem_of_mem hz
  rw [List.length_take] at ht
  have := h t z (by rw [← e, List.getElem_take]; exact List.getElem?_eq_getElem (by omega)) (by omega)
  simpa using this
theorem setCells_five (w : World) (g o : Nat) (y : C5) : ((((w.setCell ⟨g, o, none⟩ (.int .i64 y.s)).setCell ⟨g, o + 1, none⟩ (.int .i64 y.o)).setCell ⟨g, o + 2, none⟩ (.int .i64 y.f)).setCell ⟨g, o + 3, none⟩ (.int .i64 y.t)).setCell ⟨g, o + 4, none⟩ (.int .i64 y.w) = w.setCells g o y.cells := rfl
def zeroK (n : Nat) : List Value := (Builtin.zeroCells (Value.agg #[.int .i64 0, .int .i64 0, .int .i64 0, .int .i64 0, .int .i64 0]).cells n).toList
theorem zeroK_length (n : Nat) : (zeroK n).length = n * 5 := by
  unfold zeroK
  rw [Array.length_toList, size_zeroCells]
  rfl
theorem zeroK_one (n : Nat) : ∀ v ∈ zeroK n, v.oneCell' = true := by
  intro v hv
  unfold zeroK Builtin.zeroCells at hv
  simp only [Array.mem_toList_iff, Array.mem_map, Array.mem_range] at hv
  obtain ⟨i, _, rfl⟩ := hv
  have h : i % (Value.agg #[.int .i64 0, .int .i64 0, .int .i64 0, .int .i64 0, .int .i64 0]).cells.size < 5 := Nat.mod_lt _ (by decide)
  generalize i % (Value.agg #[.int .i64 0, .int .i64 0, .int .i64 0, .int .i64 0, .int .i64 0]).cells.size = t at h
  match t, h with
  | 0, _ => rfl
  | 1, _ => rfl
  | 2, _ => rfl
  | 3, _ => rfl
  | 4, _ => rfl
theorem run_clear_k (w : World) (ty : TypeId) (b o n c : Nat) (hn : 0 < n) (hc : ∀ j, j < n * 5 → (w.cell? ⟨b, o + j, none⟩).isSome = true) (hf : ∀ j, j < n * 5 → w.frozen? ⟨b, o + j, none⟩ = false) :
    (Builtin.clear_ #[28] ty #[.slice (some ⟨b, o, none⟩) n c]).run Tryz.prog w = .ok (.tuple #[]) (w.setCells b o (zeroK n)) := by
  have hst := run_storeCells_cells (P := Tryz.prog) b o (zeroK n) 0 w (by rw [zeroK_length]; simpa using hc) (by rw [zeroK_length]; simpa using hf) (zeroK_one n)
  simp only [Nat.add_zero] at hst
  have hv := Tryz.zero51
  have ht := Tryz.underlying28
  unfold zeroK at hst ⊢
  obtain ⟨m, rfl⟩ : ∃ m, n = m + 1 := ⟨n - 1, by omega⟩
  simp [Builtin.clear_, run_underlying ht, hv, hst]
/-- How DeleteFunc ends. -/
def KeepEnd (w : World) (base : Nat) (rs : List C5) (e : Ending) (w' : World) : Prop :=
  ∃ A c, e = .returned (.slice A rs.length c) ∧ rs.length ≤ c ∧ Cells w' w'.heap.size A rs.length rs ∧ (∀ b off, A = some ⟨b, off, none⟩ → base ≤ b) ∧ Below base w w'
theorem GInv.start {base : Nat} {w0 w : World} {g n cap k : Nat} {cur : Array Value} {cs : List C5} (hb : Below base w0 w) (_hl : cs.length = n) (hle : n ≤ cap) (hcur : cur.size = cap * 5) (hG : Blk w g 51 cur) (hF : cur.toList.take (n * 5) = cs.flatMap C5.cells) :
    GInv base w0 w g n (k + 1) cs (cs.take k) := by
  have hFc : ∀ p v, (cs.flatMap C5.cells)[p]? = some v → w.cell? ⟨g, p, none⟩ = some v := fun p v hp => by
    rw [hG.cell p]
    rw [← hF, List.getElem?_take] at hp
    split at hp
    · simpa using hp
    · cases hp
  refine ⟨hb, fun p v hp => ?_, fun p v hp _ => hFc p v hp, fun p hp => by rw [hG.cell p, Array.getElem?_eq_getElem (by omega)]; rfl, fun p => hG.frozen p, hG.lt⟩
  obtain ⟨j, i, z, rfl, hi, hz, hv⟩ := flat_cs _ p v hp
  rw [List.getElem?_take] at hz
  split at hz
  · exact hFc _ v (by rw [flat_cells cs j z hz i hi]; exact hv)
  · cases hz
set_option maxHeartbeats 4000000 in
set_option maxRecDepth 100000 in
theorem deletef_some (base g cap : Nat) (cur : Array Value) (cs : List C5) (k n' : Nat) (hl : cs.length = n') (hn' : n' ≤ 1000000) (hle : n' ≤ cap) (_hm63 : cap ≤ 9223372036854775807) (hsz : cur.size = cap * 5) (hbg : base ≤ g) (B : Nat) (L O : Int) (A : Option Addr) (n c : Nat) (ds : List C5) (hn : n ≤ 1000000) (w : World) (hG : Hid (Blk w g 51 cur)) (hF : Hid (cur.toList.take (n' * 5) = cs.flatMap C5.cells))
    (hB : Hid (BoxS w B L O (.slice A n c))) (hBl : B < base) (hbw : base ≤ w.heap.size) (hds : Hid (Cells w base A n ds)) (hk : k < n') (y : C5) (hy : Hid (cs[k]? = some y ∧ y ∈ ds)) (hlo : Hid (∀ t z, cs[t]? = some z → t < k → ¬ z ∈ ds)) (hcs : Hid (Cells w w.heap.size (some ⟨g, 0, none⟩) n' cs)) :
    Calls Tryz.prog 108 #[.slice (some ⟨g, 0, none⟩) n' cap, .func (.func 109) #[] #[.pointer (some ⟨B, 0, none⟩)]] w (KeepEnd w base (keepL ds cs)) := by
  have hdsw := Lib.hid (hds.out.more hbw)
  go_enter Tryz.func108, Tryz.ntmps108
  go_wp2_with fail
  refine (indexf_any (some ⟨g, 0, none⟩) n' cap cs hn' B L O A n c ds hn _ hB (by omega) hdsw hcs).mono ?_
  rintro e w1 ⟨r, k', rfl, hr, hb1⟩
  obtain rfl : r = (k : Int) := by
    obtain ⟨h1, h2, h3⟩ := hr.out
    have hkk : k' = k := by
      rcases Nat.lt_trichotomy k' k with h | h | h
      · rcases h3 with ⟨h4, _⟩ | ⟨z, h4, h5, _⟩
        · omega
        · exact absurd h5 (hlo.out k' z h4 h)
      · exact h
      · exact absurd hy.out.2 (h2 k y hy.out.1 h)
    subst hkk
    rcases h3 with ⟨h4, _⟩ | ⟨_, _, _, h6⟩
    · omega
    · exact h6
  clear hr
  have hkeep1 : keepL ds (cs.take (k + 1)) = cs.take k := by rw [keepL_snoc hy.out.1, if_pos hy.out.2, keepL_none k hlo.out]
  have hG1 : Blk w1 g 51 cur := hG.out.below hb1 hG.out.lt
  have hI0 : Hid (GInv base w w1 g n' (k + 1) cs (keepL ds (cs.take (k + 1)))) := Lib.hid (by rw [hkeep1]; exact GInv.start (hb1.mono hbw) hl hle hsz hG1 hF.out)
  have hlen0 : (keepL ds (cs.take (k + 1))).length = k := by rw [hkeep1, List.length_take]; omega
  have hlen0 := Lib.hid hlen0
  have hw1 := hb1.size
  have hk0 : (0 : Int) ≤ (k : Int) := by omega
  have hkm : ((k : Int) == -1) = false := by rw [beq_eq_false_iff_ne]; omega
  clear hkeep1 hG1 hb1 hcs hG hF hdsw hlo
  go_wp2_with fail
  go_loopw [5, 6] (fun a b wx => ∃ j m : Nat, k + 1 ≤ j ∧ j ≤ n' ∧ a = .int .i64 m ∧ b = .int .i64 j ∧ m < j ∧ Hid ((keepL ds (cs.take j)).length = m) ∧ base ≤ wx.heap.size ∧ Hid (GInv base w wx g n' j cs (keepL ds (cs.take j)))) (fun _ b _ => n' - (intOf b).toNat)
  case atStart => exact ⟨k + 1, k, Nat.le_refl _, by omega, rfl, by go_num, by omega, hlen0, by omega, hI0⟩
  case round =>
    obtain ⟨j, m, hj1, hjn, rfl, rfl, hmj, hlen, hbr, I⟩ := hrel
    by_cases hlt : j < n'
    · obtain ⟨z, hz'⟩ : ∃ z, cs[j]? = some z := ⟨_, List.getElem?_eq_getElem (by omega)⟩
      have e0 : wr.cell? ⟨g, j * 5, none⟩ = some (.int .i64 z.s) := I.out.high _ _ ((flat_cells cs j z hz' 0 (by omega)).trans rfl) (Nat.le_refl _)
      have e1 : wr.cell? ⟨g, j * 5 + 1, none⟩ = some (.int .i64 z.o) := I.out.high _ _ ((flat_cells cs j z hz' 1 (by omega)).trans rfl) (by omega)
      have e2 : wr.cell? ⟨g, j * 5 + 2, none⟩ = some (.int .i64 z.f) := I.out.high _ _ ((flat_cells cs j z hz' 2 (by omega)).trans rfl) (by omega)
      have e3 : wr.cell? ⟨g, j * 5 + 3, none⟩ = some (.int .i64 z.t) := I.out.high _ _ ((flat_cells cs j z hz' 3 (by omega)).trans rfl) (by omega)
      have e4 : wr.cell? ⟨g, j * 5 + 4, none⟩ = some (.int .i64 z.w) := I.out.high _ _ ((flat_cells cs j z hz' 4 (by omega)).trans rfl) (by omega)
      have hz := Lib.hid hz'
      clear hz'
      have hA5 : Below wr.heap.size wr (wr.alloc (N51 z)) := (Below.refl _ _).alloc (Nat.le_refl _) _
      have hB5 := Lib.hid ((hB.out.below I.out.bel hBl).below hA5 (by omega))
      have hBl5 : B < (wr.alloc (N51 z)).heap.size := by have := hA5.size; omega
      have hD5 := Lib.hid (((hds.out.below I.out.bel).below (hA5.mono hbr)).more (Nat.le_trans hbr hA5.size))
      have hX5 := Lib.hid (Box5.new z 51 wr)
      have hj0 : (0 : Int) ≤ (j : Int) := by omega
      have hj2 : (j : Int) < (n' : Int) := by omega
      have hm0 : (0 : Int) ≤ (m : Int) := by omega
      have hm2 : (m : Int) < (n' : Int) := by omega
      by_cases hin : z ∈ ds
      · have hin := Lib.hid hin
        have hrr : Hid (decide (z ∈ ds) = true) := Lib.hid (by simpa using hin.out)
        go_wp2_with fail
        refine (test_any z B L O A n c ds hn true hrr _ hB5 hBl5 hD5).mono ?_
        rintro e w6 ⟨rfl, hb6⟩
        obtain ⟨x0, x1, x2, x3, x4⟩ := hX5.out.below hb6 (by simp)
        have hb56 : Below wr.heap.size wr w6 := bstep hA5 hb6 (Nat.le_refl _)
        have I6 := Lib.hid (I.out.kept hb56 hbr)
        have hbr6 : base ≤ w6.heap.size := by have := hb56.size; omega
        clear e0 e1 e2 e3 e4 hb6 hb56 hA5 hX5 I
        go_wp2_with fail
        go_roundw
        case rel => exact ⟨j + 1, m, by omega, by omega, rfl, by go_num, by omega, Lib.hid (by rw [keepL_snoc hz.out, if_pos hin.out]; exact hlen.out), hbr6, Lib.hid (by rw [keepL_snoc hz.out, if_pos hin.out]; exact I6.out.drop)⟩
        case measure => simp [intOf]; omega
      · have hin := Lib.hid hin
        have hrr : Hid (decide (z ∈ ds) = false) := Lib.hid (by simpa using hin.out)
        go_wp2_with fail
        refine (test_any z B L O A n c ds hn false hrr _ hB5 hBl5 hD5).mono ?_
        rintro e w6 ⟨rfl, hb6⟩
        obtain ⟨x0, x1, x2, x3, x4⟩ := hX5.out.below hb6 (by simp)
        have hb56 : Below wr.heap.size wr w6 := bstep hA5 hb6 (Nat.le_refl _)
        have I6 := Lib.hid (I.out.kept hb56 hbr)
        have hbr6 : base ≤ w6.heap.size := by have := hb56.size; omega
        clear e0 e1 e2 e3 e4 hb6 hb56 hA5 hX5 I
        have hfull : ∀ t, t < 5 → ∃ u, w6.cell? ⟨g, m * 5 + t, none⟩ = some u := fun t ht => Option.isSome_iff_exists.1 (I6.out.full _ (by omega))
        obtain ⟨u0, v0⟩ := hfull 0 (by omega)
        obtain ⟨u1, v1⟩ := hfull 1 (by omega)
        obtain ⟨u2, v2⟩ := hfull 2 (by omega)
        obtain ⟨u3, v3⟩ := hfull 3 (by omega)
        obtain ⟨u4, v4⟩ := hfull 4 (by omega)
        have hfr := I6.out.free
        rw [Nat.add_zero] at v0
        clear hfull
        go_wp2_with fail
        go_roundw
        case rel =>
          refine ⟨j + 1, m + 1, by omega, by omega, by go_num, by go_num, by omega, Lib.hid (by rw [keepL_snoc hz.out, if_neg hin.out, List.length_append, hlen.out]; rfl), by simpa [World.setCell] using hbr6, Lib.hid ?_⟩
          rw [keepL_snoc hz.out, if_neg hin.out, setCells_five]
          have h := I6.out.keep (y := z) hbg hlt (by have := hlen.out; omega)
          rw [hlen.out] at h
          exact h
        case measure => simp [intOf]; omega
    · obtain rfl : j = n' := by omega
      have hcl : ∀ ty, (Builtin.clear_ #[28] ty #[.slice (some ⟨g, m * 5, none⟩) (j - m) (cap - m)]).run Tryz.prog wr = .ok (.tuple #[]) (wr.setCells g (m * 5) (zeroK (j - m))) := fun ty =>
        run_clear_k wr ty g (m * 5) (j - m) (cap - m) (by omega) (fun p hp => I.out.full _ (by omega)) (fun p hp => I.out.free _)
      have hcm : ¬ (cap = m) := by omega
      have hmc : m ≤ cap := by omega
      have hm0 : (0 : Int) ≤ (m : Int) := by omega
      go_wp2_with fail
      go_ret
      have hall : keepL ds (cs.take j) = keepL ds cs := by rw [List.take_of_length_le (by omega)]
      have hle2 := hlen.out
      have I := I.out
      rw [hall] at hle2 I
      have hzl := zeroK_length (j - m)
      have hin : ∀ t, t < (zeroK (j - m)).length → (wr.cell? ⟨g, m * 5 + t, none⟩).isSome = true := fun t ht => I.full _ (by omega)
      have hlt2 : g < (wr.setCells g (m * 5) (zeroK (j - m))).heap.size := by
        obtain ⟨v, hv⟩ := Option.isSome_iff_exists.1 (Go.Proofs.isSome_setCells g (zeroK (j - m)) (m * 5) wr hin 0 (I.full 0 (by omega)))
        exact World.block_lt_of_cell? _ _ hv
      refine ⟨some ⟨g, 0, none⟩, cap, by rw [hle2]; rfl, by omega, ?_, fun b off h => by cases h; exact hbg, below_setCells hbg _ _ _ _ I.bel⟩
      refine Cells.of_flat rfl hlt2 fun q z hz t v hv => ?_
      have ht : t < 5 := by
        have := (List.getElem?_eq_some_iff.1 hv).1
        simpa [C5.cells] using this
      have hq := (List.getElem?_eq_some_iff.1 hz).1
      rw [Nat.zero_add, World.cell?_setCells_out g _ _ _ _ (fun _ _ => Or.inl (by show q * 5 + t < m * 5; omega))]
      exact I.low _ v (by rw [flat_cells _ q z hz t ht]; exact hv)
end Go.Proofs.YtnddjcadkbjjhaaGreatDoor
