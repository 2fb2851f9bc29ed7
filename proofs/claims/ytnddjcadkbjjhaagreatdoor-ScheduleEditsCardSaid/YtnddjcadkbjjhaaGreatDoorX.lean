/-
  CHAPTER 35: slices.Delete of one cell.
-/
import Derived.Test.YtnddjcadkbjjhaaGreatDoorV
import Derived.Deep.RegionLaw
namespace Go.Proofs.YtnddjcadkbjjhaaGreatDoor
open Go.RowKit

def zero5 : List Value := [.int .i64 0, .int .i64 0, .int .i64 0, .int .i64 0, .int .i64 0]
theorem Tryz.zero51 (w : World) : (zeroValue 51).run Tryz.prog w = .ok (.agg #[.int .i64 0, .int .i64 0, .int .i64 0, .int .i64 0, .int .i64 0]) w := by
  obtain ⟨i0, hi, h0, _, _⟩ := info_parts Tryz.info51
  simp [zeroValue, typeInfo, hi, h0]
theorem run_clear_one (w : World) (ty : TypeId) (b o c : Nat) (hc : ∀ j, j < 5 → (w.cell? ⟨b, o + j, none⟩).isSome = true) (hf : ∀ j, j < 5 → w.frozen? ⟨b, o + j, none⟩ = false) :
    (Builtin.clear_ #[28] ty #[.slice (some ⟨b, o, none⟩) 1 c]).run Tryz.prog w = .ok (.tuple #[]) (w.setCells b o zero5) := by
  have hzc : (Builtin.zeroCells (Value.agg #[.int .i64 0, .int .i64 0, .int .i64 0, .int .i64 0, .int .i64 0]).cells 1).toList = zero5 := by
    first
    | kernel_rfl
    | (simp [Builtin.zeroCells, Value.cells, zero5, List.range, List.range.loop]; done)
    | (simp [Builtin.zeroCells, Value.cells, zero5, List.range, List.range.loop]; rfl)
  have hst := run_storeCells_cells (P := Tryz.prog) b o zero5 0 w (by simpa [zero5] using hc) (by simpa [zero5] using hf) (by intro v hv; simp [zero5] at hv; subst hv; rfl)
  simp only [Nat.add_zero] at hst
  have hv := Tryz.zero51
  have ht := Tryz.underlying28
  simp [Builtin.clear_, run_underlying ht, hv, hzc, hst]
/-- What Delete of the cell at i gives. -/
def delL (cs : List C5) (i : Nat) : List C5 := cs.take i ++ cs.drop (i + 1)
set_option maxHeartbeats 4000000 in
set_option maxRecDepth 100000 in
theorem delete_one (base : Nat) (cs : List C5) (g c i D : Nat) (cur : Array Value) (hn : cs.length ≤ 1000000) (hD : cs.length = i + 1 + D) (hnc : cs.length ≤ c) (hc63 : c ≤ 9223372036854775807) (hcur : cur.size = c * 5) (hbase : base ≤ g) (w : World)
    (hG : Hid (Blk w g 51 cur)) (hF : Hid (cur.toList.take (cs.length * 5) = cs.flatMap C5.cells)) :
    Calls Tryz.prog 69 #[.slice (some ⟨g, 0, none⟩) cs.length c, .int .i64 i, .int .i64 ((i : Int) + 1)] w fun e w' =>
      e = .returned (.slice (some ⟨g, 0, none⟩) (i + D) c) ∧ Cells w' w'.heap.size (some ⟨g, 0, none⟩) (i + D) (delL cs i) ∧ Below base w w' := by
  obtain ⟨i0, hi0, _, hz1, _⟩ := info_parts Tryz.info51
  have hfl := flat_length cs
  have hFc : Hid (∀ p v, (cs.flatMap C5.cells)[p]? = some v → w.cell? ⟨g, p, none⟩ = some v) := Lib.hid fun p v hp => by
    rw [hG.out.cell p]
    rw [← hF.out, List.getElem?_take] at hp
    split at hp
    · simpa using hp
    · cases hp
  have hsp : ∀ p, p < (i + 1 + D) * 5 → (w.cell? ⟨g, p, none⟩).isSome = true := fun p hp => by
    rw [hG.out.cell p, Array.getElem?_eq_getElem (by omega)]; rfl
  have hfz : ∀ p, w.frozen? ⟨g, p, none⟩ = false := fun p => hG.out.frozen p
  obtain ⟨news, hnews⟩ : ∃ news, news = (cs.flatMap C5.cells).drop ((i + 1) * 5) := ⟨_, rfl⟩
  have hlen : news.length = D * 5 := by rw [hnews, List.length_drop, hfl]; omega
  obtain ⟨A, hA, hsrc⟩ : ∃ A : Addr, (if c = i + 1 then some (⟨g, 0, none⟩ : Addr) else some ⟨g, (i + 1) * 5, none⟩) = some A ∧ Hid (∀ t u, news[t]? = some u → w.drew.cell? (A.add t) = some u) := by
    by_cases h : c = i + 1
    · refine ⟨⟨g, 0, none⟩, by simp [h], Lib.hid fun t u hu => ?_⟩
      have h0 : news.length = 0 := by rw [hlen]; omega
      rw [List.length_eq_zero_iff.1 h0] at hu
      simp at hu
    · refine ⟨⟨g, (i + 1) * 5, none⟩, by simp [h], Lib.hid fun t u hu => ?_⟩
      rw [Addr.add_lit, drew_cell]
      rw [hnews, List.getElem?_drop] at hu
      exact hFc.out _ u hu
  have s2 : Hid (∀ u ∈ news, u.oneCell' = true) := Lib.hid fun u hu => by
    rw [hnews] at hu
    exact flat_one cs u (List.mem_of_mem_drop hu)
  have s3 : Hid (∀ t, t < news.length → (w.drew.cell? ⟨g, 0 + i * 5 + t, none⟩).isSome = true ∧ w.drew.frozen? ⟨g, 0 + i * 5 + t, none⟩ = false) := Lib.hid fun t ht => by
    rw [hlen] at ht
    exact ⟨hsp _ (by omega), hfz _⟩
  have s1 : Hid (news.length = D * 5) := Lib.hid hlen
  have hic : i ≤ c := by omega
  have hjc : i + 1 ≤ c := by omega
  have hn63 : (i : Int) + 1 ≤ (c : Int) := by omega
  have hb1 : (0 : Int) ≤ (i : Int) + 1 := by omega
  have hb2 : (i : Int) + 1 ≤ (i : Int) + 1 + (D : Int) := by omega
  rw [hD]
  have mixed : Tryz.prog.follows .mixedOrders = true := by kernel_rfl
  go_enter Tryz.func69, Tryz.ntmps69
  go_wp2_with fail
  obtain ⟨W1, hW1⟩ : ∃ W1, W1 = w.drew.setCells g (0 + i * 5) news := ⟨_, rfl⟩
  have hW := Lib.hid hW1
  have hsp1 : ∀ p, p < (i + 1 + D) * 5 → (W1.cell? ⟨g, p, none⟩).isSome = true := fun p hp => by
    rw [hW1]
    exact Go.Proofs.isSome_setCells g news (0 + i * 5) w.drew (fun j hj => (s3.out j hj).1) _ (hsp p hp)
  have hfz1 : ∀ p, W1.frozen? ⟨g, p, none⟩ = false := fun p => by rw [hW1, World.frozen?_setCells]; exact hfz _
  have hcl : ∀ ty, (Builtin.clear_ #[28] ty #[.slice (some ⟨g, (i + D) * 5, none⟩) (i + 1 + D - (i + D)) (c - (i + D))]).run Tryz.prog W1 = .ok (.tuple #[]) (W1.setCells g ((i + D) * 5) zero5) := fun ty => by
    rw [show i + 1 + D - (i + D) = 1 from by omega]
    exact run_clear_one W1 ty g ((i + D) * 5) (c - (i + D)) (fun j hj => hsp1 _ (by omega)) (fun j hj => hfz1 _)
  clear hW1
  go_region_law_o (refine step_append_room rfl (.tmp 22) (.tmp 25) 28 rfl 51 i0 5 Tryz.underlying28 hi0 hz1 g 0 i c (by simp [Act.eval, Act.put]) A D (c - (i + 1)) news (by simp [Act.eval, Act.put]) s1.out hsrc.out s2.out (by omega) s3.out ?_; rw [← hW.out])
  go_wp2
  go_ret
  have hz5 : zero5.length = 5 := rfl
  have hin : ∀ j, j < news.length → (w.drew.cell? ⟨g, 0 + i * 5 + j, none⟩).isSome = true := fun j hj => (s3.out j hj).1
  have hlt : g < (W1.setCells g ((i + D) * 5) zero5).heap.size := by
    obtain ⟨v, hv⟩ := Option.isSome_iff_exists.1 (Go.Proofs.isSome_setCells g zero5 ((i + D) * 5) W1 (fun j hj => hsp1 _ (by omega)) 0 (hsp1 0 (by omega)))
    exact World.block_lt_of_cell? _ _ hv
  refine ⟨rfl, Cells.of_flat (by unfold delL; rw [List.length_append, List.length_take, List.length_drop]; omega) hlt fun j z hz t v hv => ?_, below_setCells hbase _ _ _ _ (by rw [hW.out]; exact below_setCells hbase _ _ _ _ (Below.refl base w).drew)⟩
  have ht : t < 5 := by
    have := (List.getElem?_eq_some_iff.1 hv).1
    simpa [C5.cells] using this
  have hjl := (List.getElem?_eq_some_iff.1 hz).1
  unfold delL at hz hjl
  rw [List.length_append, List.length_take, List.length_drop] at hjl
  have htk : (cs.take i).length = i := by rw [List.length_take]; omega
  rw [Nat.zero_add, World.cell?_setCells_out g zero5 _ _ _ (fun _ _ => Or.inl (by show j * 5 + t < (i + D) * 5; omega)), hW.out]
  rcases Nat.lt_or_ge j i with h1 | h1
  · rw [List.getElem?_append_left (by omega), List.getElem?_take, if_pos h1] at hz
    rw [World.cell?_setCells_out g news _ _ _ (fun _ _ => Or.inl (by show j * 5 + t < 0 + i * 5; omega)), drew_cell]
    exact hFc.out _ v (by rw [flat_cells cs j z hz t ht]; exact hv)
  · rw [List.getElem?_append_right (by omega), htk, List.getElem?_drop] at hz
    have hq : news[(j - i) * 5 + t]? = some v := by
      rw [hnews, List.getElem?_drop, show (i + 1) * 5 + ((j - i) * 5 + t) = (i + 1 + (j - i)) * 5 + t from by omega, flat_cells cs _ z hz t ht]
      exact hv
    obtain ⟨hql, e⟩ := List.getElem?_eq_some_iff.1 hq
    have := World.cell?_setCells_in g news (0 + i * 5) w.drew hin ((j - i) * 5 + t) hql
    rw [show 0 + i * 5 + ((j - i) * 5 + t) = j * 5 + t from by omega, e] at this
    exact this
end Go.Proofs.YtnddjcadkbjjhaaGreatDoor
