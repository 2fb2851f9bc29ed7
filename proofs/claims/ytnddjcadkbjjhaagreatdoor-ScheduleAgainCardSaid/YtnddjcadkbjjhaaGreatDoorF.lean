/-
  CHAPTER 35: Print.
-/
import Derived.Test.YtnddjcadkbjjhaaGreatDoorE
namespace Go.Proofs.YtnddjcadkbjjhaaGreatDoor
open Go.RowKit

theorem builder_below {T e : TypeId} {B b : Nat} {bs : List Value} {W W' : World} (h : Lib.IsBuilderF T e B b bs W) (hb : Below W.heap.size W W') : Lib.IsBuilderF T e B b bs W' := by
  have aux : ∀ {p : Value}, Lib.BuilderAtF T e B b p bs W → Lib.BuilderAtF T e B b p bs W' := fun {p} h => by
    have hlt := h.lt
    obtain ⟨hB, v, hv, hown, hne⟩ := h
    exact ⟨hB, v, (hb.block b hlt).trans hv, hown.kept (row := none) ⟨hb.os, hb.tape, hb.output, hb.size, fun k hk _ => hb.block k hk⟩ (Classical.em _), hne⟩
  exact h.elim (fun x => .inl (aux x)) (fun x => .inr (aux x))

def schedL : List UInt8 := [115, 99, 104, 101, 100, 117, 108, 101]
def cellL : List UInt8 := [99, 101, 108, 108]
def cellsL (cs : List C5) : List UInt8 := cs.flatMap fun c => lineL cellL c.ints
def printL (L O : Int) (cs : List C5) : List UInt8 := lineL schedL [L, O] ++ cellsL cs
theorem cellsL_snoc (cs : List C5) (k : Nat) (x : C5) (h : cs[k]? = some x) : cellsL (cs.take (k + 1)) = cellsL (cs.take k) ++ lineL cellL x.ints := by
  obtain ⟨h1, e1⟩ := List.getElem?_eq_some_iff.1 h
  rw [List.take_succ_eq_append_getElem h1, e1]; simp [cellsL]
def okInts (xs : List Int) : Prop := ∀ x ∈ xs, 0 ≤ x ∧ x ≤ 1000000
theorem wordsL_le (xs : List Int) (h : okInts xs) : (wordsL xs).length ≤ 21 * xs.length := by
  induction xs with
  | nil => simp [wordsL]
  | cons x l ih =>
    have h1 := ih (fun y hy => h y (List.mem_cons_of_mem _ hy))
    have h2 := h x List.mem_cons_self
    have h3 : (Lib.decDigits x.toNat).length ≤ 20 := by rw [Lib.decDigits_length]; exact Lib.nDigits_le20 _ (by omega)
    have e : wordsL (x :: l) = 32 :: (Lib.decDigits x.toNat ++ wordsL l) := by simp [wordsL]
    rw [e]; simp only [List.length_cons, List.length_append]; omega
theorem lineL_le (word : List UInt8) (xs : List Int) (h : okInts xs) : (lineL word xs).length ≤ word.length + 21 * xs.length + 1 := by
  have := wordsL_le xs h
  unfold lineL; simp only [List.length_append, List.length_cons, List.length_nil]; omega
theorem cell_ok {L O : Int} {c : C5} (hL : L ≤ 512) (hO : O ≤ 16) (h : formedB L O c = true) : okInts c.ints := by
  unfold formedB placedB at h
  simp only [Bool.and_eq_true, insB_iff] at h
  obtain ⟨⟨⟨⟨h1, h2⟩, h3⟩, h4⟩, h5⟩ := h
  intro x hx
  simp only [C5.ints, List.mem_cons, List.not_mem_nil, or_false] at hx
  rcases hx with rfl | rfl | rfl | rfl | rfl <;> omega
theorem chain_mem (L O : Int) : ∀ (cs : List C5) (p : Option C5), chainB L O p cs = true → ∀ c ∈ cs, formedB L O c = true
  | [], _, _, c, hc => by cases hc
  | d :: l, p, h, c, hc => by
    unfold chainB at h
    simp only [Bool.and_eq_true] at h
    rcases List.mem_cons.1 hc with rfl | hc
    · exact h.1.1
    · exact chain_mem L O l (some d) h.2 c hc
theorem form_sized {L O : Int} {cs : List C5} (h : formB L O cs = true) : 1 ≤ L ∧ L ≤ 512 ∧ 1 ≤ O ∧ O ≤ 16 ∧ cs.length ≤ 512 := by
  unfold formB at h
  simp only [Bool.and_eq_true, sizedB_iff, decide_eq_true_eq] at h
  omega
theorem form_mem {L O : Int} {cs : List C5} (h : formB L O cs = true) : ∀ c ∈ cs, formedB L O c = true := by
  unfold formB at h
  simp only [Bool.and_eq_true] at h
  exact chain_mem L O cs none h.2
theorem form_ints {L O : Int} {cs : List C5} (h : formB L O cs = true) : ∀ c ∈ cs, okInts c.ints := fun c hc => by
  have := form_sized h
  exact cell_ok this.2.1 (by omega) (form_mem h c hc)
theorem cellsL_le (cs : List C5) (h : ∀ c ∈ cs, okInts c.ints) : (cellsL cs).length ≤ 200 * cs.length := by
  induction cs with
  | nil => simp [cellsL]
  | cons c l ih =>
    have h1 := ih fun d hd => h d (List.mem_cons_of_mem _ hd)
    have h2 := lineL_le cellL c.ints (h c List.mem_cons_self)
    have e : cellsL (c :: l) = lineL cellL c.ints ++ cellsL l := by simp [cellsL]
    have e2 : cellL.length = 4 := rfl
    have e3 : c.ints.length = 5 := rfl
    rw [e]; simp only [List.length_append, List.length_cons]; omega
/-- The ByteArray of a list. -/
def bytesOf (l : List UInt8) : ByteArray := ⟨l.toArray⟩
theorem bytesOf_list (l : List UInt8) : (bytesOf l).data.toList = l := by unfold bytesOf; simp
theorem bytesOf_size (l : List UInt8) : (bytesOf l).size = l.length := by rw [size_list, bytesOf_list]
theorem bytesOf_cells (l : List UInt8) : Lib.strCells (bytesOf l) = Lib.byteCells l := rfl
theorem byteCells_append (l m : List UInt8) : Lib.byteCells (l ++ m) = Lib.byteCells l ++ Lib.byteCells m := by simp [Lib.byteCells]
theorem byteCells_length (l : List UInt8) : (Lib.byteCells l).length = l.length := by simp [Lib.byteCells]

set_option maxHeartbeats 1600000 in
theorem Print_no (L O : Int) (A : Option Addr) (n c : Nat) (cs : List C5) (hn : n ≤ 1000000) (hr : Hid (formB L O cs = false)) (w : World) (hcs : Hid (Cells w w.heap.size A n cs)) :
    Calls Tryz.prog 16 #[.agg #[.int .i64 L, .int .i64 O, .slice A n c]] w fun e w' => e = .returned (.tuple #[.string ⟨#[]⟩, .int .i64 1]) ∧ Below w.heap.size w w' := by
  have hb0 : Below w.heap.size w (w.alloc (N30 L O (.slice A n c))) := (Below.refl _ _).alloc (Nat.le_refl _) _
  have hC := Lib.hid ((hcs.out.below hb0).more hb0.size)
  go_enter Tryz.func16, Tryz.ntmps16
  go_wp2_with (first | (go_at_call 53; refine (carry (form_lit L O A n c cs hn false hr.out _ hC.out) hb0).mono ?_; rintro e w1 ⟨rfl, hb1⟩))
  go_ret2
  exact ⟨rfl, hb1⟩

theorem reads2 (w : World) (T : TypeId) (a b : Int) : Reads (w.alloc (.cells #[.int .i64 a, .int .i64 b] T)) (w.heap.size + 1) (some ⟨w.heap.size, 0, none⟩) 2 [a, b] := by
  refine ⟨rfl, fun _ => ⟨_, _, rfl, by omega, ?_⟩⟩
  intro j x hx
  match j, hx with
  | 0, hx => cases hx; simp [go_sem]
  | 1, hx => cases hx; simp [go_sem]
theorem reads5 (w : World) (T : TypeId) (c : C5) : Reads (w.alloc (.cells #[.int .i64 c.s, .int .i64 c.o, .int .i64 c.f, .int .i64 c.t, .int .i64 c.w] T)) (w.heap.size + 1) (some ⟨w.heap.size, 0, none⟩) 5 c.ints :=
  (Box5.new c T w).reads (by omega)

set_option maxHeartbeats 4000000 in
set_option maxRecDepth 100000 in
theorem Print_yes (L O : Int) (A : Option Addr) (n c : Nat) (cs : List C5) (hr : Hid (formB L O cs = true)) (w : World) (hcs : Hid (Cells w w.heap.size A n cs)) (ht : Hid (Tab w)) :
    Calls Tryz.prog 16 #[.agg #[.int .i64 L, .int .i64 O, .slice A n c]] w fun e w' => e = .returned (.tuple #[.string (bytesOf (printL L O cs)), .int .i64 0]) ∧ Below w.heap.size w w' := by
  have hsz := form_sized hr.out
  have hn : n ≤ 512 := by have := hcs.out.1; omega
  have hI := Lib.hid (form_ints hr.out)
  have hb0 : Below w.heap.size w (w.alloc (N30 L O (.slice A n c))) := (Below.refl _ _).alloc (Nat.le_refl _) _
  have hC := Lib.hid ((hcs.out.below hb0).more hb0.size)
  have hB0 := Lib.hid (BoxS.new L O (.slice A n c) 30 w)
  go_enter Tryz.func16, Tryz.ntmps16
  go_wp2_with fail
  refine (form_lit L O A n c cs (by omega) true hr.out _ hC.out).mono ?_
  rintro e w1 ⟨rfl, hb1⟩
  have HB := Lib.hid (hB0.out.below hb1 (by simp))
  have hw1 := bstep hb0 hb1 (Nat.le_refl _)
  have HC := Lib.hid ((hcs.out.below hw1).more hw1.size)
  have hz : w.heap.size < w1.heap.size := by have := hb1.size; simp at this; omega
  have ht1 := Lib.hid (ht.out.later hw1)
  have hI0 := Lib.hid ((Lib.IsBuilderF.of (Lib.fresh_isBuilder 83 5 w1)))
  clear hB0 hcs hb1 hb0 hC
  obtain ⟨c0, c1, c2⟩ := id HB.out
  go_wp2_with fail
  refine (line_any ⟨#[115, 99, 104, 101, 100, 117, 108, 101]⟩ (by decide) _ 2 2 (w1.heap.size + 2) [L, O] (by omega) _ ?r1 ?b1 ?o1 ?t1 (bytesOf (lineL schedL [L, O])) ?s1).mono ?_
  case r1 => simpa using reads2 (w1.alloc (.cells #[.pointer none, .slice none 0 0] 83)) 3 L O
  case b1 => simp
  case o1 => intro x hx; simp at hx; rcases hx with rfl | rfl <;> omega
  case t1 => exact ht1.out.later (((Below.refl _ _).alloc (Nat.le_refl _) _).alloc (by simp) _)
  case s1 => exact bytesOf_list _
  rintro e w2 ⟨rfl, hb2⟩
  have hB2 := Lib.hid (builder_below (hI0.out.alloc (.cells #[.int .i64 L, .int .i64 O] 3)) hb2)
  have hw2 : Below w1.heap.size w1 w2 := bstep (((Below.refl _ _).alloc (Nat.le_refl _) _).alloc (by simp) _) hb2 (by simp)
  have hz2 := hw2.size
  clear hI0 hb2 c0 c1 c2
  go_wp2_with fail
  refine (Tryz.Builder_WriteString_k w1.heap.size w1.heap.size [] (bytesOf (lineL schedL [L, O])) w2 hB2.out ?l1 hz2).mono ?_
  case l1 => 
    have h1 : (lineL schedL [L, O]).length ≤ 200 := Nat.le_trans (lineL_le schedL [L, O] (by intro x hx; simp at hx; rcases hx with rfl | rfl <;> omega)) (by simp [schedL])
    rw [bytesOf_size]; simp only [List.length_nil]; omega
  rintro e w3 ⟨rfl, hB3', hb3, -⟩
  have hB3 : Hid (Lib.IsBuilderF 83 5 w1.heap.size w1.heap.size (Lib.byteCells (lineL schedL [L, O] ++ cellsL (cs.take 0))) w3) := Lib.hid (.inr (by simpa [cellsL, bytesOf_cells] using hB3'))
  have hw3 : Below w1.heap.size w1 w3 := hw2.trans hb3
  have hz3 := hw3.size
  obtain ⟨c0, c1, c2⟩ := HB.out.below hw3 hz
  clear hB3' hb3 hB2 hw2
  go_wp2_with fail
  go_loopw [21] (fun i wx => ∃ k : Nat, k ≤ n ∧ i = .int .i64 k ∧ Below w1.heap.size w1 wx ∧ Hid (Lib.IsBuilderF 83 5 w1.heap.size w1.heap.size (Lib.byteCells (lineL schedL [L, O] ++ cellsL (cs.take k))) wx)) (fun i _ => n - (intOf i).toNat)
  case atStart => exact ⟨0, Nat.zero_le _, rfl, hw3, hB3⟩
  case round =>
    obtain ⟨k, hk, rfl, hwx, H⟩ := hrel
    clear c0 c1 c2 hB3 hw3
    have hs1 := hwx.size
    by_cases hlt : k < n
    · obtain ⟨b, off, x, hA, hbx, ex, x0, x1, x2, x3, x4⟩ := (HC.out.below hwx).at_ hlt
      subst hA
      have hsn := Lib.hid (cellsL_snoc cs k x ex)
      have hok := Lib.hid (hI.out x (List.mem_of_getElem? ex))
      clear ex
      have hlen := Lib.hid (Nat.le_trans (cellsL_le (cs.take k) fun c hc => hI.out c (List.mem_of_mem_take hc)) (Nat.mul_le_mul_left 200 (List.length_take_le k cs)))
      go_wp2_with fail
      refine (numbers_exact x _).mono ?_
      rintro e w' ⟨rfl, rfl⟩
      go_wp2_with fail
      refine (line_any ⟨#[99, 101, 108, 108]⟩ (by decide) _ 5 5 (wr.heap.size + 4) x.ints (by omega) _ ?r2 ?b2 hok.out ?t2 (bytesOf (lineL cellL x.ints)) ?s2).mono ?_
      case r2 => simpa using reads5 (((wr.alloc (N51 x)).alloc (N51 x)).alloc (N89 x)) 89 x
      case b2 => simp
      case t2 => exact ht1.out.later (ba (ba (ba (ba hwx _) _) _) _)
      case s2 => exact bytesOf_list _
      rintro e w5 ⟨rfl, hb5⟩
      have hB5 := Lib.hid (builder_below ((((H.out.alloc (N51 x)).alloc (N51 x)).alloc (N89 x)).alloc (N89 x)) hb5)
      have hw5 : Below w1.heap.size w1 w5 := bstep (ba (ba (ba (ba hwx _) _) _) _) hb5 (by simp)
      have hz5 := hw5.size
      clear hb5 x0 x1 x2 x3 x4
      go_wp2_with fail
      refine (Tryz.Builder_WriteString_k w1.heap.size w1.heap.size _ (bytesOf (lineL cellL x.ints)) w5 hB5.out ?l2 hz5).mono ?_
      case l2 =>
        have h1 := lineL_le cellL x.ints hok.out
        have h2 := lineL_le schedL [L, O] (by intro x hx; simp at hx; rcases hx with rfl | rfl <;> omega)
        have h3 := hlen.out
        have e1 : cellL.length = 4 := rfl
        have e2 : schedL.length = 8 := rfl
        have e3 : x.ints.length = 5 := rfl
        have e4 : [L, O].length = 2 := rfl
        rw [bytesOf_size, byteCells_length, List.length_append]; omega
      rintro e w6 ⟨rfl, hB6', hb6, -⟩
      have hB6 : Hid (Lib.IsBuilderF 83 5 w1.heap.size w1.heap.size (Lib.byteCells (lineL schedL [L, O] ++ cellsL (cs.take (k + 1)))) w6) := Lib.hid (.inr (by rw [hsn.out, ← List.append_assoc, byteCells_append]; exact hB6'))
      clear hB6' hB5
      have hw6 := hw5.trans hb6
      go_wp2_with fail
      go_roundw
      case rel => exact ⟨k + 1, by omega, by go_num, hw6, hB6⟩
      case measure => simp [intOf]; omega
    · have hk' : Hid (cs.take k = cs) := Lib.hid (List.take_of_length_le (by have := HC.out.1; omega))
      have H2 : Hid (Lib.IsBuilderF 83 5 w1.heap.size w1.heap.size (Lib.byteCells (printL L O cs)) wr) := Lib.hid (by have := H.out; rw [hk'.out] at this; exact this)
      go_wp2_with fail
      refine (Tryz.Builder_String_any_k w1.heap.size w1.heap.size _ wr H2.out hs1).mono ?_
      rintro e w6 ⟨rfl, -, hb6, -⟩
      go_wp2_with fail
      go_ret2
      exact ⟨rfl, bstep hw1 (hwx.trans hb6) (Nat.le_refl _)⟩
end Go.Proofs.YtnddjcadkbjjhaaGreatDoor
