/-
  A slice of cells, in the words of the printed texts and in those of the walks.
-/
import Derived.Test.YtnddjcadkbjjhaaGreatDoorQFRepeats
import Derived.Test.YtnddjcadkbjjhaaGreatDoorI
namespace Go.Proofs.YtnddjcadkbjjhaaGreatDoor.PScheduleRepeats
open Go.RowKit Go.Proofs.YtnddjcadkbjjhaaGreatDoor Go.Proofs.YtnddjcadkbjjhaaGreatDoorW.PrintWords Go.Proofs.YtnddjcadkbjjhaaGreatDoorW.PrintLast Go.Proofs.YtnddjcadkbjjhaaGreatDoorW.PrintMore

theorem addr_add (b off k : Nat) : ((⟨b, off, none⟩ : Addr).add k) = ⟨b, off + k, none⟩ := by
  unfold Addr.add
  by_cases h : k = 0 <;> simp [h]
theorem cells_C {w : World} {B n : Nat} {A : Option Addr} {cs : List C5} (h : Cells w B A n cs) (hn : n ≤ 1000000) : Kd.C k51 w A (cs.map ofC).length (cs.map ofC) := by
  have hl := h.1
  refine ⟨rfl, by rw [List.length_map]; omega, fun h0 => ?_⟩
  rw [List.length_map] at h0
  obtain ⟨b, off, hA, _, hc⟩ := h.2 (by omega)
  refine ⟨⟨b, off, none⟩, hA, fun j p hp => ?_⟩
  rw [List.getElem?_map] at hp
  cases hj : cs[j]? with
  | none => rw [hj] at hp; cases hp
  | some c =>
    rw [hj] at hp
    cases hp
    obtain ⟨c0, c1, c2, c3, c4⟩ := hc j c hj
    refine ⟨c.cells, rfl, k51_mk w (ofC c), fun i u hu => ?_⟩
    rw [show k51.sz = 5 from rfl, addr_add, ← Nat.add_assoc]
    match i, hu with
    | 0, hu => cases hu; exact c0
    | 1, hu => cases hu; exact c1
    | 2, hu => cases hu; exact c2
    | 3, hu => cases hu; exact c3
    | 4, hu => cases hu; exact c4
theorem R_cells {w : World} {base : Nat} {ok : Nat → Prop} {v : Value} {cs : List C5} (h : Kd.R k51 51 w base ok v (cs.map ofC)) : ∃ A c, v = .slice A cs.length c ∧ cs.length ≤ c ∧ Cells w w.heap.size A cs.length cs := by
  obtain ⟨_, hO⟩ := h
  obtain ⟨A, c, hv, hle⟩ := OwnRow.slice_ hO
  obtain ⟨inner, ho, hr⟩ := hO
  rw [List.length_map] at hv hle ho
  subst hv
  refine ⟨A, c, rfl, hle, rfl, fun hn => ?_⟩
  obtain ⟨g, cap, hv, _, hlt⟩ := ho.form hn
  cases hv
  refine ⟨g, 0, rfl, hlt, fun j x hx => ?_⟩
  have hj : j < cs.length := (List.getElem?_eq_some_iff.1 hx).1
  have hm : (cs.map ofC)[j]? = some (ofC x) := by rw [List.getElem?_map, hx]; rfl
  have he := k51_openM (hr.2 j _ hm)
  have hat : ∀ i, i < 5 → w.cell? ⟨g, j * 5 + i, none⟩ = x.cells[i]? := fun i hi => by
    rw [ho.cellAt (j * 5 + i) (by show j * 5 + i < cs.length * 5; omega)]
    have e2 : ((inner.drop (j * k51.sz)).take k51.sz)[i]? = x.cells[i]? := by rw [he]; rfl
    rw [show k51.sz = 5 from rfl, List.getElem?_take, if_pos hi, List.getElem?_drop] at e2
    exact e2
  rw [Nat.zero_add]
  exact ⟨hat 0 (by omega), hat 1 (by omega), hat 2 (by omega), hat 3 (by omega), hat 4 (by omega)⟩
end Go.Proofs.YtnddjcadkbjjhaaGreatDoor.PScheduleRepeats
