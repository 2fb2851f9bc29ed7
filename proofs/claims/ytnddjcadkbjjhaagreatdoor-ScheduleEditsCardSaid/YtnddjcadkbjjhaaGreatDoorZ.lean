/-
  CHAPTER 35: only.
-/
import Derived.Test.YtnddjcadkbjjhaaGreatDoorS
import Derived.Test.YtnddjcadkbjjhaaGreatDoorI
namespace Go.Proofs.YtnddjcadkbjjhaaGreatDoor
open Go.RowKit

set_option maxHeartbeats 4000000 in
set_option maxRecDepth 100000 in
theorem deletef_none (base : Nat) (A' : Option Addr) (c' : Nat) (cs : List C5) (n' : Nat) (hl : cs.length = n') (hn' : n' ≤ 1000000) (B : Nat) (L O : Int) (A : Option Addr) (n c : Nat) (ds : List C5) (hn : n ≤ 1000000) (w : World) (hown : Hid (w.ownsRow base 51 5 (.slice A' n' c') n' (cs.flatMap C5.cells)))
    (hB : Hid (BoxS w B L O (.slice A n c))) (hBl : B < base) (hbw : base ≤ w.heap.size) (hds : Hid (Cells w base A n ds)) (hlo : Hid (∀ (t : Nat) z, cs[t]? = some z → ¬ z ∈ ds)) (hcs : Hid (Cells w w.heap.size A' n' cs)) (hle : n' ≤ c') :
    Calls Tryz.prog 108 #[.slice A' n' c', .func (.func 109) #[] #[.pointer (some ⟨B, 0, none⟩)]] w (KeepEnd w base (keepL ds cs)) := by
  have hdsw := Lib.hid (hds.out.more hbw)
  have hall : Hid (keepL ds cs = cs) := Lib.hid (by
    have := keepL_none (ds := ds) (cs := cs) n' (fun t z hz _ => hlo.out t z hz)
    rwa [List.take_of_length_le (by omega)] at this)
  go_enter Tryz.func108, Tryz.ntmps108
  go_wp2_with fail
  refine (indexf_any A' n' c' cs hn' B L O A n c ds hn _ hB (by omega) hdsw hcs).mono ?_
  rintro e w1 ⟨r, k', rfl, hr, hb1⟩
  obtain rfl : r = -1 := by
    obtain ⟨h1, h2, h3⟩ := hr.out
    rcases h3 with ⟨_, h4⟩ | ⟨z, h4, h5, _⟩
    · exact h4
    · exact absurd h5 (hlo.out k' z h4)
  go_wp2_with fail
  go_ret
  have hC1 := (hcs.out.below hb1).more hb1.size
  have hblk := own_block hown.out
  refine ⟨A', c', by rw [hall.out, hl]; rfl, by rw [hall.out]; omega, ?_, hblk, hb1.mono hbw⟩
  rw [hall.out, hl]
  exact hC1
theorem deletef_any (base : Nat) (v : Value) (cs : List C5) (n' : Nat) (hl : cs.length = n') (hn' : n' ≤ 1000000) (B : Nat) (L O : Int) (A : Option Addr) (n c : Nat) (ds : List C5) (hn : n ≤ 1000000) (w : World) (hown : w.ownsRow base 51 5 v n' (cs.flatMap C5.cells))
    (hB : BoxS w B L O (.slice A n c)) (hBl : B < base) (hbw : base ≤ w.heap.size) (hds : Cells w base A n ds) :
    Calls Tryz.prog 108 #[v, .func (.func 109) #[] #[.pointer (some ⟨B, 0, none⟩)]] w (KeepEnd w base (keepL ds cs)) := by
  by_cases hex : ∃ (k : Nat) (y : C5), cs[k]? = some y ∧ y ∈ ds ∧ ∀ (t : Nat) z, cs[t]? = some z → t < k → ¬ z ∈ ds
  · obtain ⟨k, y, hy1, hy2, hlo⟩ := hex
    have hk := (List.getElem?_eq_some_iff.1 hy1).1
    rcases hown.2 with ⟨_, h0⟩ | ⟨g, cap, cur, rfl, hb, hg, hle, hm, hsz, htk⟩
    · omega
    · have hc : Cells w w.heap.size (some ⟨g, 0, none⟩) n' cs := by
        subst hl
        obtain ⟨A2, c2, e, _, hC⟩ := own_cells hown
        cases e
        exact hC
      exact deletef_some base g cap cur cs k n' hl hn' hle (by unfold maxLen at hm; exact hm) hsz hb B L O A n c ds hn w (Lib.hid hg) (Lib.hid htk) (Lib.hid hB) hBl hbw (Lib.hid hds) (by omega) y (Lib.hid ⟨hy1, hy2⟩) (Lib.hid hlo) (Lib.hid hc)
  · have hlo : ∀ (t : Nat) z, cs[t]? = some z → ¬ z ∈ ds := by
      intro t
      induction t using Nat.strongRecOn with
      | _ t ih =>
        intro z hz hin
        exact hex ⟨t, z, hz, hin, fun t' z' hz' ht' => ih t' ht' z' hz'⟩
    subst hl
    obtain ⟨A2, c2, rfl, hle, hC⟩ := own_cells hown
    exact deletef_none base A2 c2 cs _ rfl hn' B L O A n c ds hn w (Lib.hid hown) (Lib.hid hB) hBl hbw (Lib.hid hds) (Lib.hid hlo) (Lib.hid hC) hle
set_option maxHeartbeats 4000000 in
set_option maxRecDepth 100000 in
theorem only_any (L O L' O' : Int) (A A' : Option Addr) (n c n' c' : Nat) (cs ds : List C5) (hn : n ≤ 1000000) (hn' : n' ≤ 1000000) (w : World) (hcs : Hid (Cells w w.heap.size A n cs)) (hds : Hid (Cells w w.heap.size A' n' ds)) :
    Calls Tryz.prog 77 #[.agg #[.int .i64 L, .int .i64 O, .slice A n c], .agg #[.int .i64 L', .int .i64 O', .slice A' n' c']] w (CellsEnd w (keepL ds cs)) := by
  have hb0 : Below w.heap.size w ((w.alloc (N30 L O (.slice A n c))).alloc (N30 L' O' (.slice A' n' c'))) := ((Below.refl _ _).alloc (Nat.le_refl _) _).alloc (by simp) _
  have hB := Lib.hid (show BoxS ((w.alloc (N30 L O (.slice A n c))).alloc (N30 L' O' (.slice A' n' c'))) (w.heap.size + 1) L' O' (.slice A' n' c') from by
    have := BoxS.new L' O' (.slice A' n' c') 30 (w.alloc (N30 L O (.slice A n c)))
    rwa [World.size_alloc] at this)
  have hC := Lib.hid ((hcs.out.below hb0).more hb0.size)
  have hD := Lib.hid ((hds.out.below hb0).more hb0.size)
  have hsz : w.heap.size + 1 < ((w.alloc (N30 L O (.slice A n c))).alloc (N30 L' O' (.slice A' n' c'))).heap.size := by simp
  have hl := hcs.out.1
  clear hcs hds
  go_enter Tryz.func77, Tryz.ntmps77
  go_wp2_with fail
  refine (clone_any A n c cs hn _ hC.out).mono ?_
  rintro e w3 ⟨v3, rfl, hown, hb3⟩
  have hb3s := hb3.size
  have hB3 := hB.out.below hb3 hsz
  have hD3 := hD.out.below hb3
  have hb03 := bstep hb0 hb3 (Nat.le_refl _)
  go_wp2_with fail
  refine (deletef_any _ v3 cs n hl hn _ L' O' A' n' c' ds hn' _ hown hB3 hsz hb3s hD3).mono ?_
  rintro e w4 ⟨A4, c4, rfl, hle4, hC4, _, hb4⟩
  go_wp2_with fail
  go_ret
  exact ⟨A4, c4, rfl, hC4, hle4, hb03.trans (hb4.mono hb0.size)⟩
end Go.Proofs.YtnddjcadkbjjhaaGreatDoor
