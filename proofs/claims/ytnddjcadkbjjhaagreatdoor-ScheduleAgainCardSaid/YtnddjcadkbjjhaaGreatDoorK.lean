/-
  CHAPTER 35, THE LAWS' OWN EXAMPLE (awake): every example that each law of chapter 35 checks first comes out true.
-/
import Derived.Test.YtnddjcadkbjjhaaGreatDoorI
import Derived.Test.YtnddjcadkbjjhaaGreatDoorJ
namespace Go.Proofs.YtnddjcadkbjjhaaGreatDoor
open Go.RowKit

set_option maxHeartbeats 1600000 in
theorem netCheck_none (w : World) : Calls Tryz.prog 38 #[.agg #[.int .i64 0, .slice none 0 0, .int .i64 0, .int .i64 0, .slice none 0 0, .slice none 0 0]] w fun e w' => e = .returned (.int .i64 2) ∧ Below w.heap.size w w' := by
  go_enter Tryz.func38, Tryz.ntmps38
  go_wp2
  go_ret
  exact ⟨rfl, (Below.refl _ _).alloc (Nat.le_refl _) _⟩
set_option maxHeartbeats 1600000 in
theorem Check_none (S : Value) (L O : Int) (w : World) :
    Calls Tryz.prog 14 #[.agg #[.int .i64 0, .slice none 0 0, .int .i64 0, .int .i64 0, .slice none 0 0, .slice none 0 0], .slice none 0 0, .agg #[.int .i64 L, .int .i64 O, S]] w fun e w' => e = .returned (.tuple #[.int .i64 (-1), .int .i64 1]) ∧ Below w.heap.size w w' := by
  have hb0 : Below w.heap.size w ((w.alloc (.cells #[.int .i64 0, .slice none 0 0, .int .i64 0, .int .i64 0, .slice none 0 0, .slice none 0 0] 26)).alloc (N30 L O S)) := ((Below.refl _ _).alloc (Nat.le_refl _) _).alloc (by simp) _
  go_enter Tryz.func14, Tryz.ntmps14
  go_wp2_with (go_at_call 38; refine (carry (netCheck_none _) hb0).mono ?_; rintro e w1 ⟨rfl, hb1⟩)
  go_ret2
  exact ⟨rfl, hb1⟩

def E2 : List C5 := [⟨0, 0, 0, 1, 5⟩, ⟨2, 1, 1, 2, 5⟩]
def T2 : ByteArray := ⟨#[115, 99, 104, 101, 100, 117, 108, 101, 32, 52, 32, 50, 10, 99, 101, 108, 108, 32, 48, 32, 48, 32, 48, 32, 49, 32, 53, 10, 99, 101, 108, 108, 32, 50, 32, 49, 32, 49, 32, 50, 32, 53, 10]⟩
theorem text_E2 : (T2.toList == [115, 99, 104, 101, 100, 117, 108, 101, 32, 52, 32, 50, 10, 99, 101, 108, 108, 32, 48, 32, 48, 32, 48, 32, 49, 32, 53, 10, 99, 101, 108, 108, 32, 50, 32, 49, 32, 49, 32, 50, 32, 53, 10]) = true := by rw [ByteArray.toList_eq]; rfl
theorem form_E2 : formB 4 2 E2 = true := by decide +kernel
theorem print_E2 : bytesOf (printL 4 2 E2) = T2 := by kernel_rfl
theorem parse_E2 : parseR T2.data.toList = ⟨4, 2, E2, -1, 0⟩ := by kernel_rfl
theorem at_E2 : atR 4 2 E2 6 = [⟨2, 1, 1, 2, 5⟩] := by kernel_rfl
theorem ex_Print (A : Option Addr) (n c : Nat) (w : World) (hc : Cells w w.heap.size A n E2) (hn : n ≤ 1000000) (ht : Tabs w) :
    Calls Tryz.prog 16 #[.agg #[.int .i64 4, .int .i64 2, .slice A n c]] w fun e w' => e = .returned (.tuple #[.string T2, .int .i64 0]) ∧ Below w.heap.size w w' :=
  Print_any 4 2 A n c E2 hn T2 0 (by rw [if_pos form_E2, print_E2]) (by rw [if_pos form_E2]) w hc ht
def ExP (w : World) (e : Ending) (w' : World) : Prop := ∃ A c, e = .returned (.tuple #[.agg #[.int .i64 4, .int .i64 2, .slice A 2 c], .int .i64 (-1), .int .i64 0]) ∧ Cells w' w'.heap.size A 2 E2 ∧ Below w.heap.size w w'
theorem ex_Parse (w : World) (ht : Tabs w) : Calls Tryz.prog 18 #[.string T2] w (ExP w) := (Parse_lit T2 _ parse_E2 (by decide) w ht).mono fun _ _ ⟨A, c, he, hC, _, hb⟩ => ⟨A, c, he, hC, hb⟩
def ExA (w : World) (e : Ending) (w' : World) : Prop := ∃ g off c, e = .returned (.slice (some ⟨g, off, none⟩) 1 c) ∧ g < w'.heap.size ∧ Row5 w' g off ⟨2, 1, 1, 2, 5⟩ ∧ Below w.heap.size w w'
theorem ex_At (A : Option Addr) (n c : Nat) (w : World) (hc : Cells w w.heap.size A n E2) (hn : n ≤ 1000000) : Calls Tryz.prog 23 #[.agg #[.int .i64 4, .int .i64 2, .slice A n c], .int .i64 6] w (ExA w) := by
  have h := At_any 4 2 6 A n c E2 hn (by omega) w hc
  rw [at_E2] at h
  refine h.mono fun e w' ⟨A, c, he, hC, _, hb⟩ => ?_
  obtain ⟨b, off, x, rfl, hb', hx, h5⟩ := hC.at_ (k := 0) (by decide)
  cases hx
  exact ⟨b, off, c, he, hb', by unfold Row5; simpa using h5, hb⟩
/-- The cells that awake's last line reads. -/
abbrev SK (w' : World) (p q g o h : Nat) (V : Value) : Prop :=
  w'.cell? ⟨p, 0, none⟩ = some (.int .i64 4) ∧ w'.cell? ⟨p, 1, none⟩ = some (.int .i64 2) ∧ w'.cell? ⟨p, 2, none⟩ = some (.slice (some ⟨h, 0, none⟩) 2 2) ∧
  w'.cell? ⟨q, 0, none⟩ = some (.int .i64 4) ∧ w'.cell? ⟨q, 1, none⟩ = some (.int .i64 2) ∧ w'.cell? ⟨q, 2, none⟩ = some V ∧
  w'.cell? ⟨g, o, none⟩ = some (.int .i64 2) ∧ w'.cell? ⟨g, o + 1, none⟩ = some (.int .i64 1) ∧ w'.cell? ⟨g, o + 2, none⟩ = some (.int .i64 1) ∧ w'.cell? ⟨g, o + 3, none⟩ = some (.int .i64 2) ∧ w'.cell? ⟨g, o + 4, none⟩ = some (.int .i64 5) ∧
  w'.cell? ⟨h, 5, none⟩ = some (.int .i64 2) ∧ w'.cell? ⟨h, 6, none⟩ = some (.int .i64 1) ∧ w'.cell? ⟨h, 7, none⟩ = some (.int .i64 1) ∧ w'.cell? ⟨h, 8, none⟩ = some (.int .i64 2) ∧ w'.cell? ⟨h, 9, none⟩ = some (.int .i64 5)
theorem eqE : ∀ w : World, (Op.equalIn 10000 51 (.agg #[.int .i64 2, .int .i64 1, .int .i64 1, .int .i64 2, .int .i64 5]) (.agg #[.int .i64 2, .int .i64 1, .int .i64 1, .int .i64 2, .int .i64 5])).run Tryz.prog w = .ok true w := fun w =>
  equal51 ⟨2, 1, 1, 2, 5⟩ ⟨2, 1, 1, 2, 5⟩ w
set_option maxHeartbeats 4000000 in
set_option maxRecDepth 100000 in
theorem awake_any (w : World) (ht : Hid (Tabs w)) : Calls Tryz.prog 11 #[] w fun e w' => e = .returned (.bool true) ∧ Below w.heap.size w w' := by
  go_enter Tryz.func11, Tryz.ntmps11
  go_wp2_with fail
  refine (example_any _).mono ?_
  rintro e w1 ⟨rfl, hC1, hb1⟩
  have HC1 := Lib.hid hC1
  clear hC1
  have hB1 := Lib.hid (BoxS.new 4 2 (.slice (some ⟨w.heap.size + 1, 0, none⟩) 2 2) 30 w1)
  have hb2 : Below w1.heap.size w1 (w1.alloc (N30 4 2 (.slice (some ⟨w.heap.size + 1, 0, none⟩) 2 2))) := (Below.refl _ _).alloc (Nat.le_refl _) _
  have hlt1 : w1.heap.size < (w1.alloc (N30 4 2 (.slice (some ⟨w.heap.size + 1, 0, none⟩) 2 2))).heap.size := by simp
  have HC2 := Lib.hid ((HC1.out.below hb2).more hb2.size)
  have hbw2 := bstep hb1 hb2 (Nat.le_refl _)
  have hT2 := Lib.hid (ht.out.later hbw2)
  go_wp2_with fail
  refine (ex_Print _ 2 2 _ HC2.out (by omega) hT2.out).mono ?_
  rintro e w3 ⟨rfl, hb3⟩
  have HC3 := Lib.hid ((HC2.out.below hb3).more hb3.size)
  have hB3 := Lib.hid (hB1.out.below hb3 hlt1)
  have hT3 := Lib.hid (hT2.out.later hb3)
  have hbw3 := bstep hbw2 hb3 (Nat.le_refl _)
  have hlt3 : w1.heap.size < w3.heap.size := Nat.lt_of_lt_of_le hlt1 hb3.size
  clear HC1 HC2 hB1 hT2 hb3 hb2 hb1 hbw2 hlt1
  go_wp2_with fail
  refine (ex_Parse _ hT3.out).mono ?_
  rintro e w4 ⟨A4, c4, rfl, hC4, hb4⟩
  have HC4 := Lib.hid hC4
  have HD4 := Lib.hid ((HC3.out.below hb4).more hb4.size)
  have hB4 := Lib.hid (hB3.out.below hb4 hlt3)
  have hD4 := Lib.hid (BoxS.new 4 2 (.slice A4 2 c4) 30 w4)
  have hb5 : Below w4.heap.size w4 (w4.alloc (N30 4 2 (.slice A4 2 c4))) := (Below.refl _ _).alloc (Nat.le_refl _) _
  have hlt4 : w4.heap.size < (w4.alloc (N30 4 2 (.slice A4 2 c4))).heap.size := by simp
  have hlt3' : w1.heap.size < w4.heap.size := Nat.lt_of_lt_of_le hlt3 hb4.size
  have hB5 := Lib.hid (hB4.out.below hb5 hlt3')
  have HC5 := Lib.hid ((HC4.out.below hb5).more hb5.size)
  have HD5 := Lib.hid ((HD4.out.below hb5).more hb5.size)
  have hbw5 := bstep (bstep hbw3 hb4 (Nat.le_refl _)) hb5 (Nat.le_refl _)
  have hlt5 := Nat.lt_of_lt_of_le hlt3' hb5.size
  clear hC4 HC3 hB3 hT3 hb4 hb5 hbw3 hlt3 HC4 HD4
  obtain ⟨b0, b1, b2⟩ := id hB4.out
  clear hB4
  go_wp2_with fail
  clear b0 b1 b2
  revert hD4 hlt4 hB5 HC5 HD5 hbw5 hlt5
  generalize w4.alloc (N30 4 2 (.slice A4 2 c4)) = W5
  intro hD4 hlt4 hB5 HC5 HD5 hbw5 hlt5
  refine (ex_At _ 2 2 _ HD5.out (by omega)).mono ?_
  rintro e w6 ⟨g6, off6, c6, rfl, hg6, hR6, hb6⟩
  have hR6 := Lib.hid hR6
  have hB6 := Lib.hid (hB5.out.below hb6 hlt5)
  have hD6 := Lib.hid (hD4.out.below hb6 hlt4)
  have HC6 := Lib.hid ((HC5.out.below hb6).more hb6.size)
  have HD6 := Lib.hid ((HD5.out.below hb6).more hb6.size)
  have hbw6 := bstep hbw5 hb6 (Nat.le_refl _)
  have hlt6 := Nat.lt_of_lt_of_le hlt5 hb6.size
  have hlt6' := Nat.lt_of_lt_of_le hlt4 hb6.size
  clear hB5 hD4 HC5 HD5 hbw5 hlt5 hlt4 hb6
  obtain ⟨b0, b1, b2⟩ := id hB6.out
  go_wp2_with fail
  refine (Check_none _ _ _ _).mono ?_
  rintro e w7 ⟨rfl, hb7⟩
  clear b0 b1 b2
  have hR7 := Lib.hid (hR6.out.below hb7 hg6)
  have hB7 := Lib.hid (hB6.out.below hb7 hlt6)
  have hD7 := Lib.hid (hD6.out.below hb7 hlt6')
  have HC7 := Lib.hid ((HC6.out.below hb7).more hb7.size)
  have HD7 := Lib.hid ((HD6.out.below hb7).more hb7.size)
  have hbw7 := bstep hbw6 hb7 (Nat.le_refl _)
  have hlt7 := Nat.lt_of_lt_of_le hlt6 hb7.size
  have hlt7' := Nat.lt_of_lt_of_le hlt6' hb7.size
  have hg7 := Nat.lt_of_lt_of_le hg6 hb7.size
  have hE7 : Hid (Row5 w7 (w.heap.size + 1) 5 ⟨2, 1, 1, 2, 5⟩ ∧ w.heap.size + 1 < w7.heap.size) := Lib.hid (by
    obtain ⟨b, off, x, hA, hb', hx, h5⟩ := HD7.out.at_ (k := 1) (by decide)
    cases hA; cases hx
    exact ⟨by unfold Row5; simpa using h5, hb'⟩)
  clear hB6 hD6 HC6 HD6 hbw6 hlt6 hlt6' hg6 hR6 hb7
  have keepS : ∀ w', Below w7.heap.size w7 w' → SK w' w1.heap.size w4.heap.size g6 off6 (w.heap.size + 1) (.slice A4 2 c4) := fun w' h => by
    obtain ⟨a0, a1, a2⟩ := hB7.out.below h hlt7
    obtain ⟨d0, d1, d2⟩ := hD7.out.below h hlt7'
    obtain ⟨r0, r1, r2, r3, r4⟩ := hR7.out.below h hg7
    obtain ⟨e0, e1, e2, e3, e4⟩ := hE7.out.1.below h hE7.out.2
    exact ⟨a0, a1, a2, d0, d1, d2, r0, r1, r2, r3, r4, e0, e1, e2, e3, e4⟩
  have keepS := Lib.hid keepS
  have htx := text_E2
  have hm51 := hm51
  have heqE := eqE
  go_wp2_with fail
  go_region_held3 (fun w' => SK w' w1.heap.size w4.heap.size g6 off6 (w.heap.size + 1) (.slice A4 2 c4))
    (first | exact keepS.out _ (Below.refl _ _).drew | exact keepS.out _ hb9 | exact keepS.out _ hb9.drew)
    (first | (go_at_call 20; refine (carry (w0 := w7) (Same_any 4 2 4 2 _ _ 2 2 _ _ E2 E2 (by omega) _ (by exact HD7.out.below (Below.refl w7.heap.size w7).drew) (by exact HC7.out.below (Below.refl w7.heap.size w7).drew) true rfl) (by exact (Below.refl w7.heap.size w7).drew)).mono ?_; rintro e w9 ⟨rfl, hb9⟩))
  go_wp2_with fail
  go_ret
  exact ⟨rfl, bstep hbw7 hb9 (Nat.le_refl _)⟩
end Go.Proofs.YtnddjcadkbjjhaaGreatDoor
