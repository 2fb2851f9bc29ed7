/-
  CHAPTER 35, THE REFERENCE: At.
-/
import Derived.Test.YtnddjcadkbjjhaaGreatDoorRc
namespace Go.Proofs.YtnddjcadkbjjhaaGreatDoor
open Go.RowKit

set_option maxHeartbeats 1600000 in
theorem rAt_bad (L O slot : Int) (A : Option Addr) (n c : Nat) (cs : List C5) (hn : n ≤ 1000000) (b : Bool) (hr : Hid (formB L O cs = b)) (hs : Hid (b = false) ∨ slot < 0) (w : World) (hcs : Hid (Cells w w.heap.size A n cs)) :
    Calls Tryz.prog 34 #[.agg #[.int .i64 L, .int .i64 O, .slice A n c], .int .i64 slot] w (CellsEnd w []) := by
  have hb0 : Below w.heap.size w ((w.alloc (N30 L O (.slice A n c))).alloc (.cells #[] 51)) := ((Below.refl _ _).alloc (Nat.le_refl _) _).alloc (by simp) _
  have hC0 := Lib.hid ((hcs.out.below hb0).more hb0.size)
  have hB0 := Lib.hid (BoxS.new L O (.slice A n c) 30 w)
  clear hcs hB0
  cases b
  · clear hs
    go_enter Tryz.func34, Tryz.ntmps34
    go_wp2_with (go_at_call 58; refine (carry (Formed_lit L O A n c cs hn false hr.out _ hC0.out) hb0).mono ?_; rintro e w1 ⟨rfl, hb1⟩)
    go_ret
    exact ⟨_, 0, rfl, ⟨rfl, fun h => absurd h (by simp)⟩, Nat.zero_le _, hb1⟩
  · have hs : slot < 0 := hs.resolve_left (fun h => absurd h.out (by simp))
    go_enter Tryz.func34, Tryz.ntmps34
    go_wp2_with (go_at_call 58; refine (carry (Formed_lit L O A n c cs hn true hr.out _ hC0.out) hb0).mono ?_; rintro e w1 ⟨rfl, hb1⟩)
    go_ret
    exact ⟨_, 0, rfl, ⟨rfl, fun h => absurd h (by simp)⟩, Nat.zero_le _, hb1⟩
set_option maxHeartbeats 4000000 in
set_option maxRecDepth 100000 in
theorem rAt_yes (L O slot : Int) (A : Option Addr) (n c : Nat) (cs : List C5) (hn : n ≤ 1000000) (hr : Hid (formB L O cs = true)) (hs : 0 ≤ slot) (hs2 : slot ≤ 9223372036854775807) (w : World) (hcs : Hid (Cells w w.heap.size A n cs)) :
    Calls Tryz.prog 34 #[.agg #[.int .i64 L, .int .i64 O, .slice A n c], .int .i64 slot] w (CellsEnd w (slotC (slot % L) cs)) := by
  have hb0 : Below w.heap.size w (w.alloc (N30 L O (.slice A n c))) := (Below.refl _ _).alloc (Nat.le_refl _) _
  have hb1 : Below (w.alloc (N30 L O (.slice A n c))).heap.size (w.alloc (N30 L O (.slice A n c))) ((w.alloc (N30 L O (.slice A n c))).alloc (.cells #[] 51)) := (Below.refl _ _).alloc (Nat.le_refl _) _
  have hC0 := Lib.hid ((hcs.out.below hb0).more hb0.size)
  have hB0 := Lib.hid (BoxS.new L O (.slice A n c) 30 w)
  have hs0 : w.heap.size < (w.alloc (N30 L O (.slice A n c))).heap.size := by simp
  have hC1 := Lib.hid ((hC0.out.below hb1).more hb1.size)
  have hG0 := Lib.hid (show GRel (w.alloc (N30 L O (.slice A n c))) (.slice (some ⟨w.heap.size + 1, 0, none⟩) 0 0) [] ((w.alloc (N30 L O (.slice A n c))).alloc (.cells #[] 51)) from by
    have h := own_empty (w.alloc (N30 L O (.slice A n c)))
    have e : (w.alloc (N30 L O (.slice A n c))).heap.size = w.heap.size + 1 := by simp
    exact ⟨by rw [← e]; exact h, (Below.refl _ _).alloc (Nat.le_refl _) _⟩)
  have hl := hcs.out.1
  have hL1 := (form_sized hr.out).1
  have hL2 := (form_sized hr.out).2.1
  have hL0 : ¬ L = 0 := by omega
  have hL00 : (L == 0) = false := by rw [beq_eq_false_iff_ne]; omega
  clear hcs
  obtain ⟨i0, hi, hj0, hj1, hj2⟩ := info_parts Tryz.info51
  go_enter Tryz.func34, Tryz.ntmps34
  go_wp2_with fail
  revert hb0 hb1 hC0 hB0 hs0 hC1 hG0
  generalize (w.alloc (N30 L O (.slice A n c))) = w0
  intro hb0 hb1 hC0 hB0 hs0 hC1 hG0
  refine (Formed_lit L O A n c cs hn true hr.out _ hC1.out).mono ?_
  rintro e w1 ⟨rfl, hb2⟩
  have hG1 := Lib.hid (hG0.out.later hb2)
  clear hb1 hb2 hC1 hG0
  have hwx := hG1.out.2
  obtain ⟨s0, s1, s2⟩ := hB0.out.below hwx hs0
  clear hwx
  go_wp2_with fail
  clear s0 s1 s2
  go_loopw [5, 6] (fun v i wx => ∃ k : Nat, k ≤ n ∧ i = .int .i64 k ∧ Hid (GRel w0 v ((cs.take k).filter (fun z => decide (z.s = slot % L))) wx)) (fun _ i _ => n - (intOf i).toNat)
  case atStart => exact ⟨0, Nat.zero_le _, rfl, hG1⟩
  case round =>
    obtain ⟨k, hk, rfl, H⟩ := hrel
    have hwx := H.out.2
    have hz5 := hwx.size
    obtain ⟨s0, s1, s2⟩ := hB0.out.below hwx hs0
    by_cases hlt : k < n
    · obtain ⟨b, off, x, hA, hbx, ex, x0, x1, x2, x3, x4⟩ := (hC0.out.below hwx).at_ hlt
      subst hA
      have hk0 : (0 : Int) ≤ (k : Int) := by omega
      have hk1 : (k : Int) < (n : Int) := by omega
      have hsn := Lib.hid (filt_snoc (fun z => decide (z.s = slot % L)) ex)
      have hle := filt_le (fun z => decide (z.s = slot % L)) cs k
      clear ex
      obtain ⟨acc, hacc⟩ : ∃ acc, (cs.take k).filter (fun z => decide (z.s = slot % L)) = acc := ⟨_, rfl⟩
      rw [hacc] at H hle hsn
      clear hacc
      have hrm : slot.tmod L = slot % L := Int.tmod_eq_emod_of_nonneg hs
      by_cases hx : x.s = slot % L
      · have hn1 : Hid ((cs.take (k + 1)).filter (fun z => decide (z.s = slot % L)) = acc ++ [x]) := Lib.hid (by rw [hsn.out, if_pos (by simpa using hx)])
        have hq : (x.s == slot % L) = true := by simpa using hx
        clear hx hsn
        go_wp2_with fail
        go_quiet (fail)
        have H6 := Lib.hid (H.out.later (below_drewN (Below.refl _ wr) nq))
        have hown := Lib.hid H6.out.1
        go_wp2_with (at_builtin; refine wpList_append_lies _ rfl _ _ 28 rfl w0.heap.size 51 i0 _ 5 40 Tryz.underlying28 hi hj0 hj1 hj2 rfl (by omega) u5 acc.length (acc.flatMap C5.cells) rfl (hown.out.alloc _) ⟨(wr.drewN nq).heap.size, 0, none⟩ 1 1 x.cells rfl rfl (news_cells (wr.drewN nq) 51 x) (cells_one _) (by omega) (by unfold maxLen; omega) (by omega) (by simp; omega) ((wr.drewN nq).heap.size + 1) (by simp) ?_; intro gg cap w7 hown7 hgrow7 _ _)
        have H7 : Hid (GRel w0 (.slice (some ⟨gg, 0, none⟩) (acc.length + 1) cap) ((cs.take (k + 1)).filter (fun z => decide (z.s = slot % L))) w7) := Lib.hid (by rw [hn1.out]; exact H6.out.step hown7 hgrow7)
        go_roundw
        case rel => exact ⟨k + 1, by omega, by go_num, H7⟩
        case measure => simp [intOf]; omega
      · have hn1 : Hid ((cs.take (k + 1)).filter (fun z => decide (z.s = slot % L)) = acc) := Lib.hid (by rw [hsn.out, if_neg (by simpa using hx)])
        have hq : (x.s == slot % L) = false := by simpa using hx
        clear hx hsn
        go_wp2_with fail
        go_quiet (fail)
        have H7 : Hid (GRel w0 u5 ((cs.take (k + 1)).filter (fun z => decide (z.s = slot % L))) (wr.drewN nq)) := Lib.hid (by rw [hn1.out]; exact H.out.later (below_drewN (Below.refl _ wr) nq))
        go_wp2_with fail
        go_roundw
        case rel => exact ⟨k + 1, by omega, by go_num, H7⟩
        case measure => simp [intOf]; omega
    · have H8 : Hid (GRel w0 u5 (slotC (slot % L) cs) wr) := Lib.hid (by have := H.out; rwa [List.take_of_length_le (by omega)] at this)
      go_wp2_with fail
      go_ret
      exact H8.out.end_ hb0
theorem rAt_any (L O slot : Int) (A : Option Addr) (n c : Nat) (cs : List C5) (hn : n ≤ 1000000) (hs : slot ≤ 9223372036854775807) (w : World) (hcs : Cells w w.heap.size A n cs) :
    Calls Tryz.prog 34 #[.agg #[.int .i64 L, .int .i64 O, .slice A n c], .int .i64 slot] w (CellsEnd w (atR L O cs slot)) := by
  unfold atR
  by_cases h : formB L O cs = true ∧ 0 ≤ slot
  · rw [if_pos h]
    exact rAt_yes L O slot A n c cs hn (Lib.hid h.1) h.2 hs w (Lib.hid hcs)
  · rw [if_neg h]
    cases hf : formB L O cs
    · exact rAt_bad L O slot A n c cs hn false (Lib.hid hf) (.inl (Lib.hid rfl)) w (Lib.hid hcs)
    · exact rAt_bad L O slot A n c cs hn true (Lib.hid hf) (.inr (Int.lt_of_not_ge fun h0 => h ⟨hf, h0⟩)) w (Lib.hid hcs)
end Go.Proofs.YtnddjcadkbjjhaaGreatDoor
