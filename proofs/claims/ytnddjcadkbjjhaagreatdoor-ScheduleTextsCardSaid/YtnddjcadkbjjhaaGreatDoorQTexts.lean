/-
  PLAIN: what the reference's functions (as printed) give of a schedule's form and text is what the program's give. No program in sight.
-/
import Derived.Test.YtnddjcadkbjjhaaGreatDoorD
import Derived.Test.YtnddjcadkbjjhaaGreatDoorPScheduleTextsx8
import Derived.Test.YtnddjcadkbjjhaaGreatDoorI
import Derived.Test.YtnddjcadkbjjhaaGreatDoorU
import Derived.Test.YtnddjcadkbjjhaaGreatDoorPScheduleTextsx9
import Derived.Test.YtnddjcadkbjjhaaGreatDoorPScheduleTextsx10
import Derived.Test.YtnddjcadkbjjhaaGreatDoorPScheduleTextsx11
namespace Go.Proofs.YtnddjcadkbjjhaaGreatDoor.PScheduleTexts
open Go.RowKit Go.Proofs.YtnddjcadkbjjhaaGreatDoor Go.Proofs.YtnddjcadkbjjhaaGreatDoorW.PrintWords Go.Proofs.YtnddjcadkbjjhaaGreatDoorW.PrintLast Go.Proofs.YtnddjcadkbjjhaaGreatDoorW.PrintMore

/-! PLAIN: what the reference's functions (as printed) say of a schedule's form is what the program's say. No program in sight. -/
def ofC (c : C5) : S51 := ⟨c.s, c.o, c.f, c.t, c.w⟩
theorem rd_ofC {cs : List C5} {k : Nat} {c : C5} (h : cs[k]? = some c) : rd_T51 (cs.map ofC) (k : Int) = ofC c := by
  unfold rd_T51; simp [List.getD_eq_getElem?_getD, h]
theorem wrap_small {i : Int} (h0 : -1000000000000000 ≤ i) (h : i ≤ 1000000000000000) : wrap64 i = i := by unfold wrap64; omega
theorem rd_some {xs : List Int} {k : Nat} {x : Int} (h : xs[k]? = some x) : rd xs (k : Int) = x := by
  unfold rd; simp [List.getD_eq_getElem?_getD, h]
theorem less_l0 (xs ys : List Int) (hl : xs.length = ys.length) (hs : xs.length ≤ 100) : ∀ d i k : Nat, xs.length - i = d → i ≤ xs.length → d < k →
    hopmeshref35_Less.l0 k xs ys i = some (decide (cmpL (xs.drop i) (ys.drop i) < 0)) := by
  intro d
  induction d with
  | zero =>
    intro i k hd hi hk
    obtain ⟨k, rfl⟩ : ∃ m, k = m + 1 := ⟨k - 1, by omega⟩
    simp only [hopmeshref35_Less.l0]
    rw [if_neg (by omega), cmpL_nil _ _ _ (by omega)]; rfl
  | succ d ih =>
    intro i k hd hi hk
    obtain ⟨k, rfl⟩ : ∃ m, k = m + 1 := ⟨k - 1, by omega⟩
    have h1 : i < xs.length := by omega
    have h2 : i < ys.length := by omega
    have e1 := List.getElem?_eq_getElem h1
    have e2 := List.getElem?_eq_getElem h2
    simp only [hopmeshref35_Less.l0]
    rw [if_pos (by omega), if_pos (by omega), if_pos (by omega), rd_some e1, rd_some e2, cmpL_drop xs ys i _ _ e1 e2, wrap_small (by omega) (by omega)]
    by_cases h : xs[i] = ys[i]
    · rw [if_pos h, if_pos ((cmpI_zero _ _).2 h)]
      exact ih (i + 1) k (by omega) (by omega) (by omega)
    · rw [if_neg h, if_neg (fun e => h ((cmpI_zero _ _).1 e))]
      congr 1
      unfold cmpI
      by_cases h3 : xs[i] < ys[i]
      · rw [if_pos h3]; simp [h3]
      · rw [if_neg h3, if_pos (by omega)]; simp [h3]
theorem less_eq (c d : C5) (k : Nat) (hk : 5 < k) : hopmeshref35_Less.f k c.s c.o c.f c.t c.w d.s d.o d.f d.t d.w = some (decide (cmpC c d < 0)) := by
  unfold hopmeshref35_Less.f hopmeshref35_numbers.f
  simp only [Option.bind_some]
  exact less_l0 c.ints d.ints rfl (by simp [C5.ints]) 5 0 k rfl (by omega) hk
theorem in_eq (a b c : Int) : hopmeshref35_in.f a b c = some (decide (b ≤ a) && decide (a ≤ c)) := by
  unfold hopmeshref35_in.f
  by_cases h : b ≤ a
  · rw [if_pos h]; simp [h]
  · rw [if_neg h]; simp [h]
theorem right_eq (L O : Int) (ds : List S51) (c : C5) (hL0 : -1000000 ≤ L) (hL : L ≤ 1000000) (hO0 : -1000000 ≤ O) (hO : O ≤ 1000000) : hopmeshref35_right.f L O ds c.s c.o c.f c.t c.w = some (formedB L O c) := by
  unfold hopmeshref35_right.f
  rw [wrap_small (by omega) (by omega), wrap_small (by omega) (by omega)]
  simp only [in_eq, Option.bind_some]
  have e : ∀ x n : Int, (decide (0 ≤ x) && decide (x ≤ n - 1)) = insB x n := fun x n => by
    unfold insB
    congr 1
    rw [decide_eq_decide]; omega
  have e31 : ∀ x : Int, (decide (0 ≤ x) && decide (x ≤ 31)) = insB x 32 := fun x => e x 32
  have e255 : ∀ x : Int, (decide (0 ≤ x) && decide (x ≤ 255)) = insB x 256 := fun x => e x 256
  rw [e, e, e31, e31, e255]
  unfold formedB placedB
  cases insB c.s L <;> cases insB c.o O <;> cases insB c.f 32 <;> cases insB c.t 32 <;> cases insB c.w 256 <;> rfl
theorem formed_l0 (L O : Int) (cs : List C5) (hL0 : -1000000 ≤ L) (hL : L ≤ 1000000) (hO0 : -1000000 ≤ O) (hO : O ≤ 1000000) (hn : cs.length ≤ 1000000) : ∀ d i k : Nat, cs.length - i = d → i ≤ cs.length → d + 6 < k →
    hopmeshref35_Formed.l0 k i L O (cs.map ofC) = some (chainB L O (prevAt cs i) (cs.drop i)) := by
  intro d
  induction d with
  | zero =>
    intro i k hd hi hk
    obtain ⟨k, rfl⟩ : ∃ m, k = m + 1 := ⟨k - 1, by omega⟩
    simp only [hopmeshref35_Formed.l0, List.length_map]
    rw [if_neg (by omega), chain_end _ _ _ _ (by omega)]
  | succ d ih =>
    intro i k hd hi hk
    obtain ⟨k, rfl⟩ : ∃ m, k = m + 1 := ⟨k - 1, by omega⟩
    have h1 : i < cs.length := by omega
    have e1 := List.getElem?_eq_getElem h1
    simp only [hopmeshref35_Formed.l0, List.length_map]
    rw [if_pos (by omega), if_pos (by omega), rd_ofC e1, wrap_small (i := (i : Int) + 1) (by omega) (by omega), chain_drop L O cs i _ e1]
    have hr := right_eq L O (cs.map ofC) cs[i] hL0 hL hO0 hO
    have ih' := ih (i + 1) k (by omega) (by omega) (by omega)
    simp only [Int.natCast_add, Int.cast_ofNat_Int] at ih'
    simp only [ofC]
    rw [hr]
    simp only [Option.bind_some]
    cases hf : formedB L O cs[i]
    · rfl
    · rw [if_pos rfl]
      rcases Nat.eq_zero_or_pos i with h0 | h0
      · subst h0
        rw [if_neg (by omega), ih']
        simp [prevAt]
      · obtain ⟨m, rfl⟩ : ∃ m, i = m + 1 := ⟨i - 1, by omega⟩
        have e2 : cs[m]? = some (cs[m]'(by omega)) := List.getElem?_eq_getElem (by omega)
        have e3 : (((m + 1 : Nat) : Int) - 1) = (m : Int) := by omega
        rw [if_pos (by omega), wrap_small (by omega) (by omega), e3, if_pos (by omega), if_pos (by omega), rd_ofC e2]
        simp only [ofC]
        rw [less_eq _ _ k (by omega)]
        simp only [Option.bind_some]
        rw [show prevAt cs (m + 1) = some cs[m] from e2]
        simp only [Bool.true_and]
        by_cases h4 : cmpC cs[m] cs[m + 1] < 0
        · simp only [h4, decide_true, if_true, Bool.true_and]; exact ih'
        · simp only [h4, decide_false, Bool.false_eq_true, if_false, Bool.false_and]
theorem formed_eq (L O : Int) (cs : List C5) (hn : cs.length ≤ 1000000) (k : Nat) (hk : cs.length + 8 < k) : hopmeshref35_Formed.f k L O (cs.map ofC) = some (formB L O cs) := by
  unfold hopmeshref35_Formed.f
  simp only [in_eq, Option.bind_some, List.length_map]
  obtain ⟨k, rfl⟩ : ∃ m, k = m + 1 := ⟨k - 1, by omega⟩
  unfold formB sizedB
  by_cases h1 : 1 ≤ L ∧ L ≤ 512
  · simp only [h1.1, h1.2, decide_true, Bool.and_self, if_true]
    by_cases h2 : 1 ≤ O ∧ O ≤ 16
    · simp only [h2.1, h2.2, decide_true, Bool.and_self, if_true, Bool.true_and]
      simp only [hopmeshref35_Formed.j0]
      by_cases h3 : cs.length ≤ 512
      · rw [if_neg (by simp; omega)]
        have := formed_l0 L O cs (by omega) (by omega) (by omega) (by omega) hn cs.length 0 k (by omega) (by omega) (by omega)
        rw [show (((0 : Nat) : Int)) = 0 from rfl] at this
        rw [this]
        simp [h3, prevAt]
      · rw [if_pos (by simp; omega)]
        simp [h3]
    · have e : (decide (1 ≤ O) && decide (O ≤ 16)) = false := by rw [← Bool.not_eq_true]; simpa using h2
      have e' : ∀ b : Bool, (b && decide (1 ≤ O) && decide (O ≤ 16)) = false := fun b => by rw [Bool.and_assoc, e, Bool.and_false]
      rw [e]
      simp only [Bool.false_eq_true, if_false, hopmeshref35_Formed.j0, if_true, e', Bool.false_and]
  · have e : (decide (1 ≤ L) && decide (L ≤ 512)) = false := by rw [← Bool.not_eq_true]; simpa using h1
    rw [e]
    simp only [Bool.false_eq_true, if_false, hopmeshref35_Formed.j0, if_true, Bool.false_and]

/-! A slice of cells, in the words of the printed texts and in those of the walks. -/
theorem addr_add (b off k : Nat) : ((⟨b, off, none⟩ : Addr).add k) = ⟨b, off + k, none⟩ := by
  unfold Addr.add
  by_cases h : k = 0 <;> simp [h]
theorem cells_C {w : World} {B n : Nat} {A : Option Addr} {cs : List C5} (h : Cells w B A n cs) (hn : n ≤ 1000000) : Kd.C k51 w A (cs.map ofC).length (cs.map ofC) := by
  have hl := h.1
  refine ⟨rfl, by rw [List.length_map]; omega, fun h0 => ?_⟩
  rw [List.length_map] at h0
  obtain ⟨b, off, hA, _, hc⟩ := h.2 (by omega)
  refine ⟨⟨b, off, none⟩, hA, fun j p hp => ?_⟩
  rw [List.getElem?_map] at hp
  cases hj : cs[j]? with
  | none => rw [hj] at hp; cases hp
  | some c =>
    rw [hj] at hp
    cases hp
    obtain ⟨c0, c1, c2, c3, c4⟩ := hc j c hj
    refine ⟨c.cells, rfl, k51_mk w (ofC c), fun i u hu => ?_⟩
    rw [show k51.sz = 5 from rfl, addr_add, ← Nat.add_assoc]
    match i, hu with
    | 0, hu => cases hu; exact c0
    | 1, hu => cases hu; exact c1
    | 2, hu => cases hu; exact c2
    | 3, hu => cases hu; exact c3
    | 4, hu => cases hu; exact c4
theorem R_cells {w : World} {base : Nat} {ok : Nat → Prop} {v : Value} {cs : List C5} (h : Kd.R k51 51 w base ok v (cs.map ofC)) : ∃ A c, v = .slice A cs.length c ∧ cs.length ≤ c ∧ Cells w w.heap.size A cs.length cs := by
  obtain ⟨_, hO⟩ := h
  obtain ⟨A, c, hv, hle⟩ := OwnRow.slice_ hO
  obtain ⟨inner, ho, hr⟩ := hO
  rw [List.length_map] at hv hle ho
  subst hv
  refine ⟨A, c, rfl, hle, rfl, fun hn => ?_⟩
  obtain ⟨g, cap, hv, _, hlt⟩ := ho.form hn
  cases hv
  refine ⟨g, 0, rfl, hlt, fun j x hx => ?_⟩
  have hj : j < cs.length := (List.getElem?_eq_some_iff.1 hx).1
  have hm : (cs.map ofC)[j]? = some (ofC x) := by rw [List.getElem?_map, hx]; rfl
  have he := k51_openM (hr.2 j _ hm)
  have hat : ∀ i, i < 5 → w.cell? ⟨g, j * 5 + i, none⟩ = x.cells[i]? := fun i hi => by
    rw [ho.cellAt (j * 5 + i) (by show j * 5 + i < cs.length * 5; omega)]
    have e2 : ((inner.drop (j * k51.sz)).take k51.sz)[i]? = x.cells[i]? := by rw [he]; rfl
    rw [show k51.sz = 5 from rfl, List.getElem?_take, if_pos hi, List.getElem?_drop] at e2
    exact e2
  rw [Nat.zero_add]
  exact ⟨hat 0 (by omega), hat 1 (by omega), hat 2 (by omega), hat 3 (by omega), hat 4 (by omega)⟩

/-! PLAIN: what the reference's Print (as printed) gives is what the program's gives. -/
/-- From some number of rounds on. -/
def From {α : Type} (g : Nat → Option α) (r : α) : Prop := ∃ K, ∀ k, K ≤ k → g k = some r
theorem bytesOf_app (l m : List UInt8) : bytesOf l ++ bytesOf m = bytesOf (l ++ m) := by
  apply eq_of_list
  rw [bytesOf_list, ByteArray.data_append, Array.toList_append]
  simp [bytesOf]
theorem nums_one (d : Nat) (h : d < 10) : strOfNums [(48 + ((d : Int) % 256)) % 256] = bytesOf [UInt8.ofNat (48 + d)] := by
  unfold strOfNums bytesOf
  have e : ((48 + ((d : Int) % 256)) % 256).toNat = 48 + d := by omega
  simp only [List.map_cons, List.map_nil, e]
theorem dec_len (n : Nat) (h : n ≤ 1000000) : (Lib.decDigits n).length ≤ 20 := by
  rw [← dstr_list, ← size_list]
  exact dstr_size n (by omega)
theorem dec_from (n : Nat) : n ≤ 1000000 → From (fun k => hopmeshref35_Decimal.f k (n : Int)) (bytesOf (Lib.decDigits n)) := by
  induction n using Nat.strongRecOn with
  | _ n ih =>
    intro hn
    by_cases h : n < 10
    · refine ⟨1, fun k hk => ?_⟩
      obtain ⟨k, rfl⟩ : ∃ q, k = q + 1 := ⟨k - 1, by omega⟩
      simp only [hopmeshref35_Decimal.f]
      rw [if_pos (by omega), nums_one n h, Lib.decDigits, dif_pos h]
    · obtain ⟨K, hK⟩ := ih (n / 10) (by omega) (by omega)
      dsimp only at hK
      refine ⟨K + 1, fun k hk => ?_⟩
      obtain ⟨k, rfl⟩ : ∃ q, k = q + 1 := ⟨k - 1, by omega⟩
      have h1 : wrap64 (Int.tdiv (n : Int) 10) = ((n / 10 : Nat) : Int) := by
        rw [Int.tdiv_eq_ediv_of_nonneg (by omega), wrap_small (by omega) (by omega)]; omega
      have h2 : Int.tmod (n : Int) 10 = ((n % 10 : Nat) : Int) := by
        rw [Int.tmod_eq_emod_of_nonneg (by omega)]; omega
      have hl := dec_len (n / 10) (by omega)
      simp only [hopmeshref35_Decimal.f]
      rw [if_neg (by omega), h1, hK k (by omega), h2]
      simp only [Option.bind_some]
      rw [nums_one (n % 10) (by omega), if_pos (by rw [bytesOf_size, bytesOf_size]; simp only [List.length_singleton]; omega), bytesOf_app]
      have e3 : Lib.decDigits n = Lib.decDigits (n / 10) ++ [UInt8.ofNat (48 + n % 10)] := by rw [Lib.decDigits, dif_neg h]
      rw [e3]
theorem line_from (xs : List Int) (hx : okInts xs) (hn : xs.length ≤ 100) : ∀ d i : Nat, xs.length - i = d → i ≤ xs.length → ∀ o : List UInt8, o.length ≤ 1000000 + 21 * i →
    From (fun k => hopmeshref35_Line.l0 k xs (bytesOf o) i) (bytesOf (o ++ wordsL (xs.drop i) ++ [10])) := by
  intro d
  induction d with
  | zero =>
    intro i hd hi o ho
    refine ⟨1, fun k hk => ?_⟩
    obtain ⟨k, rfl⟩ : ∃ q, k = q + 1 := ⟨k - 1, by omega⟩
    simp only [hopmeshref35_Line.l0]
    rw [if_neg (by omega), if_pos (by rw [bytesOf_size]; omega), List.drop_eq_nil_of_le (by omega), show wordsL [] = [] from rfl, List.append_nil, ← bytesOf_app]
    rfl
  | succ d ih =>
    intro i hd hi o ho
    have h1 : i < xs.length := by omega
    have e1 := List.getElem?_eq_getElem h1
    obtain ⟨hx0, hx1⟩ := hx xs[i] (List.getElem_mem h1)
    obtain ⟨n, hxn⟩ : ∃ n : Nat, xs[i] = (n : Int) := ⟨xs[i].toNat, by omega⟩
    obtain ⟨K1, hK1⟩ := dec_from n (by omega)
    dsimp only at hK1
    have hl := dec_len n (by omega)
    obtain ⟨K2, hK2⟩ := ih (i + 1) (by omega) (by omega) (o ++ [32] ++ Lib.decDigits n) (by simp only [List.length_append, List.length_singleton]; omega)
    dsimp only at hK2
    refine ⟨K1 + K2 + 1, fun k hk => ?_⟩
    obtain ⟨k, rfl⟩ : ∃ q, k = q + 1 := ⟨k - 1, by omega⟩
    simp only [hopmeshref35_Line.l0]
    rw [if_pos (by omega), if_pos (by rw [bytesOf_size]; omega), if_pos (by omega), rd_some e1, hxn, hK1 k (by omega)]
    simp only [Option.bind_some]
    rw [show (⟨#[32]⟩ : ByteArray) = bytesOf [32] from rfl, bytesOf_app, if_pos (by rw [bytesOf_size, bytesOf_size]; simp only [List.length_append, List.length_singleton]; omega), bytesOf_app, wrap_small (by omega) (by omega)]
    have h2 := hK2 k (by omega)
    simp only [Int.natCast_add, Int.cast_ofNat_Int] at h2
    rw [h2, wordsL_drop xs i _ e1, hxn]
    simp
theorem lineF_from (w : List UInt8) (hw : w.length ≤ 1000) (xs : List Int) (hx : okInts xs) (hn : xs.length ≤ 100) : From (fun k => hopmeshref35_Line.f k (bytesOf w) xs) (bytesOf (lineL w xs)) := by
  obtain ⟨K, hK⟩ := line_from xs hx hn xs.length 0 rfl (Nat.zero_le _) w (by omega)
  exact ⟨K, fun k hk => by unfold hopmeshref35_Line.f; exact hK k hk⟩
theorem print_from (L O : Int) (cs : List C5) (hok : ∀ c ∈ cs, okInts c.ints) (hn : cs.length ≤ 1000) : ∀ d i : Nat, cs.length - i = d → i ≤ cs.length → ∀ o : List UInt8, o.length ≤ 1000000 + 200 * i →
    From (fun k => hopmeshref35_Print.l0 k (bytesOf o) i L O (cs.map ofC)) (bytesOf (o ++ cellsL (cs.drop i)), 0) := by
  intro d
  induction d with
  | zero =>
    intro i hd hi o ho
    refine ⟨1, fun k hk => ?_⟩
    obtain ⟨k, rfl⟩ : ∃ q, k = q + 1 := ⟨k - 1, by omega⟩
    simp only [hopmeshref35_Print.l0, List.length_map]
    rw [if_neg (by omega), List.drop_eq_nil_of_le (by omega), show cellsL [] = [] from rfl, List.append_nil]
  | succ d ih =>
    intro i hd hi o ho
    have h1 : i < cs.length := by omega
    have e1 := List.getElem?_eq_getElem h1
    have hc := hok cs[i] (List.getElem_mem h1)
    obtain ⟨K1, hK1⟩ := lineF_from cellL (by decide) cs[i].ints hc (by simp [C5.ints])
    dsimp only at hK1
    have hl := lineL_le cellL cs[i].ints hc
    have h5 : cellL.length = 4 := rfl
    have h6 : cs[i].ints.length = 5 := rfl
    obtain ⟨K2, hK2⟩ := ih (i + 1) (by omega) (by omega) (o ++ lineL cellL cs[i].ints) (by rw [List.length_append]; omega)
    dsimp only at hK2
    refine ⟨K1 + K2 + 1, fun k hk => ?_⟩
    obtain ⟨k, rfl⟩ : ∃ q, k = q + 1 := ⟨k - 1, by omega⟩
    simp only [hopmeshref35_Print.l0, List.length_map]
    rw [if_pos (by omega), if_pos (by omega), rd_ofC e1]
    simp only [ofC, hopmeshref35_numbers.f, Option.bind_some]
    have h2 := hK1 k (by omega)
    rw [show bytesOf cellL = (⟨#[99, 101, 108, 108]⟩ : ByteArray) from rfl] at h2
    simp only [C5.ints] at h2
    rw [h2]
    simp only [Option.bind_some]
    rw [if_pos (by rw [bytesOf_size, bytesOf_size]; simp only [C5.ints] at hl h6; omega), bytesOf_app, wrap_small (by omega) (by omega)]
    have h3 := hK2 k (by omega)
    simp only [Int.natCast_add, Int.cast_ofNat_Int, C5.ints] at h3
    rw [h3, List.drop_eq_getElem_cons h1, List.append_assoc]
    rfl
theorem print_eq (L O : Int) (cs : List C5) (hn : cs.length ≤ 1000000) :
    ∃ k, hopmeshref35_Print.f k L O (cs.map ofC) = some ((if formB L O cs = true then bytesOf (printL L O cs) else ⟨#[]⟩), (if formB L O cs = true then 0 else 1)) := by
  have hf := fun k hk => formed_eq L O cs hn k hk
  cases hform : formB L O cs
  · refine ⟨cs.length + 9, ?_⟩
    unfold hopmeshref35_Print.f
    rw [hf _ (by omega), hform]; rfl
  · have hsz := form_sized hform
    have ho : okInts [L, O] := by intro x hx; simp at hx; omega
    obtain ⟨K1, hK1⟩ := lineF_from schedL (by decide) [L, O] ho (by simp)
    have hl := lineL_le schedL [L, O] ho
    have h5 : schedL.length = 8 := rfl
    simp only [List.length_cons, List.length_nil] at hl
    obtain ⟨K2, hK2⟩ := print_from L O cs (form_ints hform) (by omega) cs.length 0 rfl (Nat.zero_le _) (lineL schedL [L, O]) (by omega)
    dsimp only at hK1 hK2
    refine ⟨K1 + K2 + cs.length + 9, ?_⟩
    unfold hopmeshref35_Print.f
    rw [hf _ (by omega), hform]
    simp only [Option.bind_some, if_true]
    have h1 := hK1 (K1 + K2 + cs.length + 9) (by omega)
    rw [show bytesOf schedL = (⟨#[115, 99, 104, 101, 100, 117, 108, 101]⟩ : ByteArray) from rfl] at h1
    rw [h1]
    simp only [Option.bind_some]
    exact hK2 (K1 + K2 + cs.length + 9) (by omega)

/-! PLAIN: what the reference's readings of a line and a word (as printed) give is what the program's give. -/
theorem bt_bytes (l : List UInt8) (i : Nat) (c : UInt8) (h : l[i]? = some c) : bt (bytesOf l) (i : Int) = (c.toNat : Int) := by
  obtain ⟨h1, h2⟩ := List.getElem?_eq_some_iff.1 h
  unfold bt
  rw [dif_pos (by rw [bytesOf_size]; omega)]
  congr 2
theorem ext_bytes (l : List UInt8) (i : Nat) (c : UInt8) (h : l[i]? = some c) : (bytesOf l).extract i (i + 1) = bytesOf [c] := by
  apply eq_of_list
  obtain ⟨h1, h2⟩ := List.getElem?_eq_some_iff.1 h
  rw [bytesOf_list, ByteArray.data_extract]
  unfold bytesOf
  simp only [List.extract_toArray, List.extract_eq_take_drop]
  rw [List.drop_eq_getElem_cons h1, h2]
  simp
theorem rdOf_bytes (ls : List (List UInt8)) (i : Nat) (l : List UInt8) (h : ls[i]? = some l) : rdOf ByteArray.empty (ls.map bytesOf) (i : Int) = bytesOf l := by
  unfold rdOf; simp [List.getD_eq_getElem?_getD, h]
/-- What both cutters do: the parts so far, the bytes of the part under way, what is left. -/
def cutR (c : UInt8) : List UInt8 → List UInt8 → List (List UInt8)
  | p, [] => [p]
  | p, x :: r => if x = c then p :: cutR c [] r else cutR c (p ++ [x]) r
theorem cutR_eq (c : UInt8) : ∀ (r p h : List UInt8) (t : List (List UInt8)), cutL c r = h :: t → cutR c p r = (p ++ h) :: t
  | [], p, h, t, e => by
    simp only [cutL, List.cons.injEq] at e
    obtain ⟨rfl, rfl⟩ := e
    simp [cutR]
  | x :: r, p, h, t, e => by
    unfold cutL at e
    unfold cutR
    split at e
    · rename_i hx
      simp only [List.cons.injEq] at e
      obtain ⟨rfl, rfl⟩ := e
      rw [if_pos hx]
      cases hc : cutL c r with
      | nil => exact absurd hc (cutL_ne c r)
      | cons a b => rw [cutR_eq c r [] a b hc]; simp
    · rename_i hx
      rw [if_neg hx]
      split at e
      · rename_i hc; exact absurd hc (cutL_ne c r)
      · rename_i a b hc
        simp only [List.cons.injEq] at e
        obtain ⟨rfl, rfl⟩ := e
        rw [cutR_eq c r (p ++ [x]) a b hc]; simp
theorem cutR_zero (c : UInt8) (l : List UInt8) : cutR c [] l = cutL c l := by
  cases h : cutL c l with
  | nil => exact absurd h (cutL_ne c l)
  | cons a b => rw [cutR_eq c l [] a b h]; rfl
theorem words_from (l : List UInt8) (hl : l.length ≤ 1000000) : ∀ d i : Nat, l.length - i = d → i ≤ l.length → ∀ (acc : List (List UInt8)) (p : List UInt8), acc.length ≤ i → p.length ≤ i →
    From (fun k => hopmeshref35_Words.l0 k (bytesOf l) (acc.map bytesOf) (bytesOf p) i) ((acc ++ cutR 32 p (l.drop i)).map bytesOf) := by
  intro d
  induction d with
  | zero =>
    intro i hd hi acc p ha hp
    refine ⟨1, fun k hk => ?_⟩
    obtain ⟨k, rfl⟩ : ∃ q, k = q + 1 := ⟨k - 1, by omega⟩
    simp only [hopmeshref35_Words.l0, List.length_map, bytesOf_size]
    rw [if_neg (by omega), if_pos (by omega), List.drop_eq_nil_of_le (by omega)]
    simp [cutR]
  | succ d ih =>
    intro i hd hi acc p ha hp
    have h1 : i < l.length := by omega
    have e1 := List.getElem?_eq_getElem h1
    by_cases hc : l[i] = 32
    · obtain ⟨K, hK⟩ := ih (i + 1) (by omega) (by omega) (acc ++ [p]) [] (by simp; omega) (by simp)
      dsimp only at hK
      refine ⟨K + 1, fun k hk => ?_⟩
      obtain ⟨k, rfl⟩ : ∃ q, k = q + 1 := ⟨k - 1, by omega⟩
      simp only [hopmeshref35_Words.l0, List.length_map, bytesOf_size]
      rw [if_pos (by omega), if_pos (by omega), bt_bytes l i _ e1, if_pos (by rw [hc]; rfl), if_pos (by omega), wrap_small (by omega) (by omega)]
      have h2 := hK k (by omega)
      simp only [Int.natCast_add, Int.cast_ofNat_Int, List.map_append, List.map_cons, List.map_nil] at h2
      rw [show (⟨#[]⟩ : ByteArray) = bytesOf [] from rfl, h2, List.drop_eq_getElem_cons h1, cutR, if_pos hc]
      simp
    · obtain ⟨K, hK⟩ := ih (i + 1) (by omega) (by omega) acc (p ++ [l[i]]) (by omega) (by simp; omega)
      dsimp only at hK
      refine ⟨K + 1, fun k hk => ?_⟩
      obtain ⟨k, rfl⟩ : ∃ q, k = q + 1 := ⟨k - 1, by omega⟩
      have hne : ¬ ((l[i].toNat : Int) = 32) := fun e => hc (UInt8.toNat_inj.1 (by show l[i].toNat = 32; omega))
      simp only [hopmeshref35_Words.l0, List.length_map, bytesOf_size]
      rw [if_pos (by omega), if_pos (by omega), bt_bytes l i _ e1, if_neg hne, wrap_small (by omega) (by omega), if_pos (by omega), if_pos (by omega)]
      rw [show ((i : Int)).toNat = i from by omega, show ((i : Int) + 1).toNat = i + 1 from by omega, ext_bytes l i _ e1, if_pos (by rw [bytesOf_size]; simp; omega), bytesOf_app]
      have h2 := hK k (by omega)
      simp only [Int.natCast_add, Int.cast_ofNat_Int] at h2
      rw [h2, List.drop_eq_getElem_cons h1, cutR, if_neg hc]
theorem wordsF_from (l : List UInt8) (hl : l.length ≤ 1000000) : From (fun k => hopmeshref35_Words.f k (bytesOf l)) ((cutL 32 l).map bytesOf) := by
  obtain ⟨K, hK⟩ := words_from l hl l.length 0 rfl (Nat.zero_le _) [] [] (Nat.zero_le _) (Nat.zero_le _)
  refine ⟨K, fun k hk => ?_⟩
  have := hK k hk
  rw [List.nil_append, List.drop_zero, cutR_zero] at this
  unfold hopmeshref35_Words.f
  exact this
/-- The reference's loop over a word's bytes. -/
def numR : Int → List UInt8 → Int
  | a, [] => a
  | a, c :: r => if 48 ≤ c.toNat ∧ c.toNat ≤ 57 then numR (10 * a + ((c.toNat : Int) - 48)) r else -1
theorem numR_from (l : List UInt8) (hl : l.length ≤ 4) : ∀ d i : Nat, l.length - i = d → i ≤ l.length → ∀ a : Int, 0 ≤ a → a < 10 ^ i →
    From (fun k => hopmeshref35_Number.l0 k (bytesOf l) a i) (numR a (l.drop i)) := by
  intro d
  induction d with
  | zero =>
    intro i hd hi a h0 h9
    refine ⟨1, fun k hk => ?_⟩
    obtain ⟨k, rfl⟩ : ∃ q, k = q + 1 := ⟨k - 1, by omega⟩
    simp only [hopmeshref35_Number.l0, bytesOf_size]
    rw [if_neg (by omega), List.drop_eq_nil_of_le (by omega)]; rfl
  | succ d ih =>
    intro i hd hi a h0 h9
    have h1 : i < l.length := by omega
    have e1 := List.getElem?_eq_getElem h1
    have hp : (10 : Int) ^ i ≤ 10000 := by
      have : i = 0 ∨ i = 1 ∨ i = 2 ∨ i = 3 := by omega
      rcases this with rfl | rfl | rfl | rfl <;> decide
    by_cases hc : 48 ≤ l[i].toNat ∧ l[i].toNat ≤ 57
    · obtain ⟨K, hK⟩ := ih (i + 1) (by omega) (by omega) (10 * a + ((l[i].toNat : Int) - 48)) (by omega) (by rw [Int.pow_succ]; omega)
      dsimp only at hK
      refine ⟨K + 1, fun k hk => ?_⟩
      obtain ⟨k, rfl⟩ : ∃ q, k = q + 1 := ⟨k - 1, by omega⟩
      simp only [hopmeshref35_Number.l0, bytesOf_size]
      rw [if_pos (by omega), if_pos (by omega), bt_bytes l i _ e1, if_neg (by omega), if_neg (by omega), wrap_small (i := 10 * a) (by omega) (by omega)]
      rw [show (((l[i].toNat : Int) - 48) % 256) = (l[i].toNat : Int) - 48 from by omega, wrap_small (i := 10 * a + _) (by omega) (by omega), wrap_small (i := (i : Int) + 1) (by omega) (by omega)]
      have h2 := hK k (by omega)
      simp only [Int.natCast_add, Int.cast_ofNat_Int] at h2
      rw [h2, List.drop_eq_getElem_cons h1, numR, if_pos hc]
    · refine ⟨1, fun k hk => ?_⟩
      obtain ⟨k, rfl⟩ : ∃ q, k = q + 1 := ⟨k - 1, by omega⟩
      simp only [hopmeshref35_Number.l0, bytesOf_size]
      rw [if_pos (by omega), if_pos (by omega), bt_bytes l i _ e1, List.drop_eq_getElem_cons h1, numR, if_neg hc]
      by_cases h48 : (l[i].toNat : Int) < 48
      · rw [if_pos h48]
      · rw [if_neg h48, if_pos (by omega)]
/-- The reference's Number, plain. -/
def numbR (l : List UInt8) : Int :=
  if l.length < 1 ∨ 4 < l.length ∨ (1 < l.length ∧ l.head? = some 48) then -1 else numR 0 l
theorem numb_from (l : List UInt8) : From (fun k => hopmeshref35_Number.f k (bytesOf l)) (numbR l) := by
  by_cases h1 : l.length < 1
  · refine ⟨1, fun k hk => ?_⟩
    obtain ⟨k, rfl⟩ : ∃ q, k = q + 1 := ⟨k - 1, by omega⟩
    unfold hopmeshref35_Number.f numbR
    simp only [bytesOf_size]
    rw [if_pos (by omega), if_pos (by omega)]; simp [hopmeshref35_Number.j0]
  by_cases h2 : 4 < l.length
  · refine ⟨1, fun k hk => ?_⟩
    obtain ⟨k, rfl⟩ : ∃ q, k = q + 1 := ⟨k - 1, by omega⟩
    unfold hopmeshref35_Number.f numbR
    simp only [bytesOf_size]
    rw [if_neg (by omega), if_pos (by omega), if_pos (by omega)]; simp [hopmeshref35_Number.j0]
  obtain ⟨K, hK⟩ := numR_from l (by omega) l.length 0 rfl (Nat.zero_le _) 0 (by omega) (by decide)
  dsimp only at hK
  refine ⟨K + 1, fun k hk => ?_⟩
  obtain ⟨k, rfl⟩ : ∃ q, k = q + 1 := ⟨k - 1, by omega⟩
  have h3 := hK k (by omega)
  rw [List.drop_zero] at h3
  unfold hopmeshref35_Number.f numbR
  simp only [bytesOf_size]
  rw [if_neg (by omega), if_neg (by omega)]
  have h0 : 0 < l.length := by omega
  have e0 := List.getElem?_eq_getElem h0
  have hb := bt_bytes l 0 _ e0
  rw [show ((0 : Nat) : Int) = 0 from rfl] at hb h3
  have hh : l.head? = some l[0] := by rw [List.head?_eq_getElem?]; exact e0
  by_cases h4 : 1 < l.length
  · rw [if_pos (by omega), if_pos (by omega), hb, hh]
    by_cases h5 : l[0] = 48
    · rw [if_pos (Or.inr (Or.inr ⟨h4, by rw [h5]⟩)), h5]
      simp [hopmeshref35_Number.j0]
    · rw [if_neg (by
        rintro (h | h | ⟨_, h⟩)
        · omega
        · omega
        · exact h5 (Option.some.inj h))]
      have hz : ((l[0].toNat : Int) == 48) = false := by
        rw [beq_eq_false_iff_ne]
        exact fun e => h5 (UInt8.toNat_inj.1 (by show l[0].toNat = 48; omega))
      rw [hz]
      simp only [hopmeshref35_Number.j0, Bool.false_eq_true, if_false]
      exact h3
  · rw [if_neg (by omega), if_neg (by omega)]
    simp only [hopmeshref35_Number.j0, Bool.false_eq_true, if_false]
    exact h3
theorem dec_last (a d : Nat) (h : 1 ≤ a) (hd : d < 10) : Lib.decDigits (10 * a + d) = Lib.decDigits a ++ [UInt8.ofNat (48 + d)] := by
  rw [Lib.decDigits, dif_neg (by omega), show (10 * a + d) / 10 = a from by omega, show (10 * a + d) % 10 = d from by omega]
theorem byte_of (c : UInt8) (h : 48 ≤ c.toNat) : UInt8.ofNat (48 + (c.toNat - 48)) = c := by
  rw [show 48 + (c.toNat - 48) = c.toNat from by omega]
  exact UInt8.ofNat_toNat
theorem numR_dec : ∀ (r : List UInt8) (a : Nat) (n : Int), 1 ≤ a → numR (a : Int) r = n → 0 ≤ n → Lib.decDigits n.toNat = Lib.decDigits a ++ r
  | [], a, n, _, h, _ => by
    simp only [numR] at h
    subst h
    simp
  | c :: r, a, n, ha, h, hn => by
    unfold numR at h
    split at h
    · rename_i hc
      have e : (10 * (a : Int) + ((c.toNat : Int) - 48)) = ((10 * a + (c.toNat - 48) : Nat) : Int) := by omega
      rw [e] at h
      rw [numR_dec r _ n (by omega) h hn, dec_last a _ ha (by omega), byte_of c hc.1]
      simp
    · omega
theorem numR_nonneg : ∀ (r : List UInt8) (a : Int), 0 ≤ a → (∀ c ∈ r, 48 ≤ c.toNat ∧ c.toNat ≤ 57) → 0 ≤ numR a r
  | [], a, h, _ => h
  | c :: r, a, h, hd => by
    have hc := hd c List.mem_cons_self
    unfold numR
    rw [if_pos hc]
    exact numR_nonneg r _ (by omega) fun x hx => hd x (List.mem_cons_of_mem _ hx)
theorem dec_inj {a b : Nat} (ha : a < 1000000000000000000) (hb : b < 1000000000000000000) (h : Lib.decDigits a = Lib.decDigits b) : a = b := by
  have h1 := parse_dec a ha
  rw [h, parse_dec b hb] at h1
  injection h1 with h1
  exact h1.symm
theorem dec_head (u : Nat) : 1 ≤ u → ∀ c r, Lib.decDigits u = c :: r → c ≠ 48 := by
  induction u using Nat.strongRecOn with
  | _ u ih =>
    intro hu c r h
    rw [Lib.decDigits] at h
    split at h
    · rename_i h1
      simp only [List.cons.injEq] at h
      intro e
      have := congrArg UInt8.toNat (h.1.trans e)
      rw [UInt8.toNat_ofNat'] at this
      have h48 : (48 : UInt8).toNat = 48 := rfl
      omega
    · obtain ⟨a, b, hab⟩ := dec_ne (u / 10)
      rw [hab] at h
      simp only [List.cons_append, List.cons.injEq] at h
      rw [← h.1]
      exact ih (u / 10) (by omega) (by omega) a b hab
theorem dec_big (u : Nat) (h : 10000 ≤ u) : 5 ≤ (Lib.decDigits u).length := by
  rw [Lib.decDigits_length, Lib.nDigits_big (by omega), Lib.nDigits_big (by omega), Lib.nDigits_big (by omega), Lib.nDigits_big (by omega)]
  have := Lib.nDigits_pos (u / 10 / 10 / 10 / 10)
  omega
/-- A word that the reference reads is the numeral of what it reads. -/
theorem numbR_some (l : List UInt8) (h : 0 ≤ numbR l) : l = Lib.decDigits (numbR l).toNat ∧ numbR l < 10000 := by
  have hlen : l.length ≤ 4 ∧ l = Lib.decDigits (numbR l).toNat := by
    obtain ⟨n, hn⟩ : ∃ n, numbR l = n := ⟨_, rfl⟩
    rw [hn] at h ⊢
    unfold numbR at hn
    split at hn
    · omega
    · rename_i hc
      simp only [not_or, not_and] at hc
      obtain ⟨h1, h2, h3⟩ := hc
      refine ⟨by omega, ?_⟩
      match l, h1, h2, h3, hn with
      | c :: r, h1, h2, h3, hn =>
        unfold numR at hn
        split at hn
        · rename_i hd
          by_cases h0 : c = 48
          · have hr : r = [] := by
              rcases r with _ | ⟨a, b⟩
              · rfl
              · exact absurd (by rw [h0]; rfl) (h3 (by simp))
            subst hr h0
            simp only [numR] at hn
            have e : n = 0 := by rw [← hn]; rfl
            subst e
            rw [Lib.decDigits, dif_pos (by decide)]; rfl
          · have h49 : 49 ≤ c.toNat := by
              rcases Nat.lt_or_ge c.toNat 49 with h4 | h4
              · exact absurd (UInt8.toNat_inj.1 (by show c.toNat = 48; omega)) h0
              · exact h4
            have e : (10 * (0 : Int) + ((c.toNat : Int) - 48)) = ((c.toNat - 48 : Nat) : Int) := by omega
            rw [e] at hn
            rw [numR_dec r _ n (by omega) hn h, Lib.decDigits_one (by omega), byte_of c hd.1]
            rfl
        · omega
      | [], h1, _, _, _ => simp at h1
  refine ⟨hlen.2, ?_⟩
  rcases (by omega : numbR l < 10000 ∨ 10000 ≤ numbR l) with h1 | h1
  · exact h1
  · have := dec_big (numbR l).toNat (by omega)
    rw [← hlen.2] at this
    omega
theorem numb_eq (l : List UInt8) : (match numW l with | some v => v | none => -1) = numbR l := by
  cases hw : numW l with
  | none =>
    show -1 = numbR l
    by_cases h : 0 ≤ numbR l
    · obtain ⟨h1, h2⟩ := numbR_some l h
      have := numW_dec (numbR l).toNat (by omega)
      rw [← h1, hw] at this
      cases this
    · have hge : ∀ (r : List UInt8) (a : Int), 0 ≤ a → 0 ≤ numR a r ∨ numR a r = -1 := by
        intro r
        induction r with
        | nil => intro a ha; exact Or.inl ha
        | cons c r ih =>
          intro a ha
          unfold numR
          split
          · exact ih _ (by omega)
          · exact Or.inr rfl
      unfold numbR at h ⊢
      split
      · rfl
      · rename_i hc
        rw [if_neg hc] at h
        rcases hge l 0 (by omega) with h1 | h1
        · exact absurd h1 h
        · exact h1.symm
  | some v =>
    show v = numbR l
    have hl := numW_some hw
    unfold numW at hw
    split at hw
    · split at hw
      · rename_i u hu hh
        cases hw
        have hd := dec_digit v.toNat
        rw [← hl] at hd
        obtain ⟨c, r, hcr⟩ := dec_ne v.toNat
        rw [← hl] at hcr
        have hsm : v < 10000 := by
          rcases (by omega : v < 10000 ∨ 10000 ≤ v) with h1 | h1
          · exact h1
          · have := dec_big v.toNat (by omega)
            rw [← hl] at this
            omega
        have hcond : ¬ (l.length < 1 ∨ 4 < l.length ∨ (1 < l.length ∧ l.head? = some 48)) := by
          rintro (h | h | ⟨h1, h2⟩)
          · rw [hcr] at h; simp at h
          · omega
          · rw [hcr] at h2
            simp only [List.head?_cons, Option.some.injEq] at h2
            rcases Nat.eq_zero_or_pos v.toNat with h0 | h0
            · rw [hl, h0] at h1
              rw [Lib.decDigits, dif_pos (by decide)] at h1
              simp at h1
            · exact dec_head v.toNat h0 c r (hl.symm.trans hcr) h2
        have hnn : 0 ≤ numbR l := by
          unfold numbR
          rw [if_neg hcond]
          exact numR_nonneg l 0 (by omega) hd
        obtain ⟨h1, h2⟩ := numbR_some l hnn
        have := dec_inj (by omega) (by omega) (hl.symm.trans h1)
        omega
      · cases hw
    · cases hw
theorem numb_at (l : List UInt8) : From (fun k => hopmeshref35_Number.f k (bytesOf l)) (match numW l with | some v => v | none => -1) := by
  rw [numb_eq]; exact numb_from l
theorem numW_nonneg {l : List UInt8} {v : Int} (h : numW l = some v) : 0 ≤ v := by
  unfold numW at h
  split at h
  · split at h
    · rename_i hh; cases h; exact hh.2.2
    · cases h
  · cases h
theorem read_from (w0 : List UInt8) (ws : List (List UInt8)) (hn : ws.length ≤ 100) : ∀ d i : Nat, ws.length - i = d → i ≤ ws.length → ∀ acc : List Int, acc.length ≤ i →
    From (fun k => hopmeshref35_Read.l0 k ((w0 :: ws).map bytesOf) acc ((i : Int) + 1)) (match numsL (ws.drop i) with | some ys => (acc ++ ys, true) | none => ([], false)) := by
  intro d
  induction d with
  | zero =>
    intro i hd hi acc ha
    refine ⟨1, fun k hk => ?_⟩
    obtain ⟨k, rfl⟩ : ∃ q, k = q + 1 := ⟨k - 1, by omega⟩
    simp only [hopmeshref35_Read.l0, List.length_map, List.length_cons]
    rw [if_neg (by omega), List.drop_eq_nil_of_le (by omega)]
    simp [numsL]
  | succ d ih =>
    intro i hd hi acc ha
    have h1 : i < ws.length := by omega
    have e1 := List.getElem?_eq_getElem h1
    have e2 : (w0 :: ws)[i + 1]? = some ws[i] := by rw [List.getElem?_cons_succ]; exact e1
    obtain ⟨K1, hK1⟩ := numb_at ws[i]
    dsimp only at hK1
    have hr := rdOf_bytes (w0 :: ws) (i + 1) _ e2
    simp only [Int.natCast_add, Int.cast_ofNat_Int] at hr
    cases hw : numW ws[i] with
    | none =>
      rw [hw] at hK1
      refine ⟨K1 + 1, fun k hk => ?_⟩
      obtain ⟨k, rfl⟩ : ∃ q, k = q + 1 := ⟨k - 1, by omega⟩
      simp only [hopmeshref35_Read.l0, List.length_map, List.length_cons]
      rw [if_pos (by omega), if_pos (by omega), hr, hK1 k (by omega), List.drop_eq_getElem_cons h1, numsL, hw]
      simp
    | some v =>
      have hv := numW_nonneg hw
      rw [hw] at hK1
      obtain ⟨K2, hK2⟩ := ih (i + 1) (by omega) (by omega) (acc ++ [v]) (by simp; omega)
      dsimp only at hK2
      refine ⟨K1 + K2 + 1, fun k hk => ?_⟩
      obtain ⟨k, rfl⟩ : ∃ q, k = q + 1 := ⟨k - 1, by omega⟩
      simp only [hopmeshref35_Read.l0, List.length_map, List.length_cons]
      rw [if_pos (by omega), if_pos (by omega), hr, hK1 k (by omega)]
      simp only [Option.bind_some]
      rw [if_neg (by omega), if_pos (by omega), wrap_small (by omega) (by omega)]
      have h2 := hK2 k (by omega)
      simp only [Int.natCast_add, Int.cast_ofNat_Int] at h2
      rw [h2, List.drop_eq_getElem_cons h1, numsL, hw]
      cases numsL (ws.drop (i + 1)) <;> simp
theorem read_unf (k : Nat) (l w : ByteArray) (many m1 : Int) (X : List ByteArray) (hm : wrap64 (many + 1) = m1) (hX : hopmeshref35_Words.f k l = some X) :
    hopmeshref35_Read.f k l w many = (if (X.length : Int) = m1 then (if 0 < (X.length : Int) then hopmeshref35_Read.j0 k X ((rdOf ByteArray.empty X 0).toList != w.toList) else none) else hopmeshref35_Read.j0 k X true) := by
  subst hm
  unfold hopmeshref35_Read.f
  rw [hX]
  exact Option.bind_some _ _
theorem readF_from (l w : List UInt8) (many : Nat) (hl : l.length ≤ 1000000) (hm : many ≤ 10) :
    From (fun k => hopmeshref35_Read.f k (bytesOf l) (bytesOf w) many) (match readL l w many with | some ys => (ys, true) | none => ([], false)) := by
  obtain ⟨K1, hK1⟩ := wordsF_from l hl
  dsimp only at hK1
  obtain ⟨w0, ws, hc⟩ : ∃ a b, cutL 32 l = a :: b := by
    cases h : cutL 32 l with
    | nil => exact absurd h (cutL_ne 32 l)
    | cons a b => exact ⟨a, b, rfl⟩
  unfold readL
  rw [hc] at hK1 ⊢
  dsimp only
  have hr := rdOf_bytes (w0 :: ws) 0 w0 rfl
  rw [show ((0 : Nat) : Int) = 0 from rfl] at hr
  have hR := fun hn => read_from w0 ws hn ws.length 0 rfl (Nat.zero_le _) [] (Nat.zero_le _)
  have hX : ((w0 :: ws).map bytesOf).length = ws.length + 1 := by rw [List.length_map, List.length_cons]
  revert hK1 hr hR hX
  generalize (w0 :: ws).map bytesOf = X
  intro hK1 hr hR hX
  by_cases h1 : ws.length = many
  · obtain ⟨K2, hK2⟩ := hR (by omega)
    dsimp only at hK2
    refine ⟨K1 + K2 + 1, fun k hk => ?_⟩
    obtain ⟨k, rfl⟩ : ∃ q, k = q + 1 := ⟨k - 1, by omega⟩
    dsimp only
    rw [read_unf (k + 1) _ _ _ ((many : Int) + 1) X (wrap_small (by omega) (by omega)) (hK1 (k + 1) (by omega)), if_pos (by omega), if_pos (by omega), hr]
    by_cases h2 : w0 = w
    · subst h2
      rw [if_pos ⟨h1, rfl⟩]
      have e : ((bytesOf w0).toList != (bytesOf w0).toList) = false := by simp
      rw [e]
      simp only [hopmeshref35_Read.j0, Bool.false_eq_true, if_false]
      have h3 := hK2 k (by omega)
      rw [show ((0 : Nat) : Int) + 1 = 1 from rfl, List.drop_zero] at h3
      rw [h3]
      cases numsL ws <;> simp
    · rw [if_neg (fun h => h2 h.2)]
      have e : ((bytesOf w0).toList != (bytesOf w).toList) = true := by
        rw [bne, toList_ne (fun h => h2 (by rw [← bytesOf_list w0, h, bytesOf_list]))]; rfl
      rw [e]
      simp [hopmeshref35_Read.j0]
  · refine ⟨K1 + 1, fun k hk => ?_⟩
    obtain ⟨k, rfl⟩ : ∃ q, k = q + 1 := ⟨k - 1, by omega⟩
    dsimp only
    rw [read_unf (k + 1) _ _ _ ((many : Int) + 1) X (wrap_small (by omega) (by omega)) (hK1 (k + 1) (by omega)), if_neg (by omega), if_neg (fun h => h1 h.1)]
    simp [hopmeshref35_Read.j0]

/-! PLAIN: what the reference's Parse (as printed) gives is what the program's gives. -/
/-- The lines of a text whose lines and rest are these. -/
def endR (ps : List (List UInt8)) : List (List UInt8) × Bool := if ps.getLast? = some [] then (ps.dropLast, true) else (ps, false)
theorem endR_cons (p : List UInt8) (q : List UInt8) (qs : List (List UInt8)) (acc : List (List UInt8)) : endR (acc ++ p :: q :: qs) = endR ((acc ++ [p]) ++ q :: qs) := by
  rw [List.append_assoc]; rfl
theorem lines_from (l : List UInt8) (hl : l.length ≤ 1000000) : ∀ d i : Nat, l.length - i = d → i ≤ l.length → ∀ (acc : List (List UInt8)) (p : List UInt8), acc.length ≤ i → p.length ≤ i →
    From (fun k => hopmeshref35_Lines.l0 k (bytesOf l) (acc.map bytesOf) (bytesOf p) i) ((endR (acc ++ cutR 10 p (l.drop i))).1.map bytesOf, (endR (acc ++ cutR 10 p (l.drop i))).2) := by
  intro d
  induction d with
  | zero =>
    intro i hd hi acc p ha hp
    refine ⟨1, fun k hk => ?_⟩
    obtain ⟨k, rfl⟩ : ∃ q, k = q + 1 := ⟨k - 1, by omega⟩
    simp only [hopmeshref35_Lines.l0, List.length_map, bytesOf_size]
    rw [if_neg (by omega), List.drop_eq_nil_of_le (by omega), cutR]
    unfold endR
    rw [List.getLast?_concat, ByteArray.toList_eq, bytesOf_list]
    by_cases h : p = []
    · subst h
      rw [if_pos rfl, if_pos rfl, List.dropLast_concat]
    · rw [if_neg h, if_neg (fun e => h (Option.some.inj e)), if_pos (by omega)]
      simp
  | succ d ih =>
    intro i hd hi acc p ha hp
    have h1 : i < l.length := by omega
    have e1 := List.getElem?_eq_getElem h1
    by_cases hc : l[i] = 10
    · obtain ⟨K, hK⟩ := ih (i + 1) (by omega) (by omega) (acc ++ [p]) [] (by simp; omega) (by simp)
      dsimp only at hK
      refine ⟨K + 1, fun k hk => ?_⟩
      obtain ⟨k, rfl⟩ : ∃ q, k = q + 1 := ⟨k - 1, by omega⟩
      simp only [hopmeshref35_Lines.l0, List.length_map, bytesOf_size]
      rw [if_pos (by omega), if_pos (by omega), bt_bytes l i _ e1, if_pos (by rw [hc]; rfl), if_pos (by omega), wrap_small (by omega) (by omega)]
      have h2 := hK k (by omega)
      simp only [Int.natCast_add, Int.cast_ofNat_Int, List.map_append, List.map_cons, List.map_nil] at h2
      rw [show (⟨#[]⟩ : ByteArray) = bytesOf [] from rfl, h2, List.drop_eq_getElem_cons h1, cutR, if_pos hc]
      simp
    · obtain ⟨K, hK⟩ := ih (i + 1) (by omega) (by omega) acc (p ++ [l[i]]) (by omega) (by simp; omega)
      dsimp only at hK
      refine ⟨K + 1, fun k hk => ?_⟩
      obtain ⟨k, rfl⟩ : ∃ q, k = q + 1 := ⟨k - 1, by omega⟩
      have hne : ¬ ((l[i].toNat : Int) = 10) := fun e => hc (UInt8.toNat_inj.1 (by show l[i].toNat = 10; omega))
      simp only [hopmeshref35_Lines.l0, List.length_map, bytesOf_size]
      rw [if_pos (by omega), if_pos (by omega), bt_bytes l i _ e1, if_neg hne, wrap_small (by omega) (by omega), if_pos (by omega), if_pos (by omega)]
      rw [show ((i : Int)).toNat = i from by omega, show ((i : Int) + 1).toNat = i + 1 from by omega, ext_bytes l i _ e1, if_pos (by rw [bytesOf_size]; simp; omega), bytesOf_app]
      have h2 := hK k (by omega)
      simp only [Int.natCast_add, Int.cast_ofNat_Int] at h2
      rw [h2, List.drop_eq_getElem_cons h1, cutR, if_neg hc]
theorem linesF_from (l : List UInt8) (hl : l.length ≤ 1000000) : From (fun k => hopmeshref35_Lines.f k (bytesOf l)) ((endR (cutL 10 l)).1.map bytesOf, (endR (cutL 10 l)).2) := by
  obtain ⟨K, hK⟩ := lines_from l hl l.length 0 rfl (Nat.zero_le _) [] [] (Nat.zero_le _) (Nat.zero_le _)
  refine ⟨K, fun k hk => ?_⟩
  have := hK k hk
  rw [List.nil_append, List.drop_zero, cutR_zero] at this
  dsimp only
  unfold hopmeshref35_Lines.f
  exact this
/-- The lines that must stand whole. -/
def goodR (ls : List (List UInt8)) (whole : Bool) : List (List UInt8) := if whole then ls else ls.dropLast
/-- What Parse gives. -/
def resR (whole : Bool) (n : Nat) : PEnd → Int × Int × List S51 × Int × Int
  | .bad i => (0, 0, [], i, 3)
  | .fine L O cs => if whole = true then (if formB L O cs = true then (L, O, cs.map ofC, -1, 0) else (0, 0, [], -1, 1)) else (0, 0, [], (n : Int) - 1, 3)
theorem rd_0 (a : Int) (r : List Int) : rd (a :: r) 0 = a := rfl
theorem parse_from (ls : List (List UInt8)) (whole : Bool) (hn : ls.length ≤ 100000) (hl : ∀ l ∈ ls, l.length ≤ 1000000) : ∀ d i : Nat, ls.length - i = d → i ≤ ls.length → (whole = true ∨ i < ls.length) → ∀ (L O : Int) (cs : List C5), cs.length ≤ i →
    From (fun k => hopmeshref35_Parse.l0 k (ls.map bytesOf) whole i L O (cs.map ofC)) (resR whole ls.length (lines35 i ((goodR ls whole).drop i) L O cs)) := by
  intro d
  induction d with
  | zero =>
    intro i hd hi hw L O cs hc
    obtain rfl : whole = true := by rcases hw with h | h <;> first | exact h | omega
    refine ⟨cs.length + 10, fun k hk => ?_⟩
    obtain ⟨k, rfl⟩ : ∃ q, k = q + 1 := ⟨k - 1, by omega⟩
    simp only [hopmeshref35_Parse.l0, List.length_map]
    rw [if_neg (by omega), formed_eq L O cs (by omega) k (by omega)]
    have hg : (goodR ls true).drop i = [] := List.drop_eq_nil_of_le (by unfold goodR; rw [if_pos rfl]; omega)
    rw [hg]
    simp only [Option.bind_some, lines35, resR, if_true]
    cases formB L O cs <;> rfl
  | succ d ih =>
    intro i hd hi hw L O cs hc
    have h1 : i < ls.length := by omega
    have e1 := List.getElem?_eq_getElem h1
    have hli := hl ls[i] (List.getElem_mem h1)
    -- what the line's reading gives
    obtain ⟨w, many, hm, hwd⟩ : ∃ (w : List UInt8) (many : Nat), many ≤ 10 ∧ ((i = 0 ∧ w = schedL ∧ many = 2) ∨ (0 < i ∧ w = cellL ∧ many = 5)) := by
      rcases Nat.eq_zero_or_pos i with h | h
      · exact ⟨schedL, 2, by omega, Or.inl ⟨h, rfl, rfl⟩⟩
      · exact ⟨cellL, 5, by omega, Or.inr ⟨h, rfl, rfl⟩⟩
    obtain ⟨K1, hK1⟩ := readF_from ls[i] w many hli hm
    dsimp only at hK1
    -- the round's head
    have hhead : ∀ k, hopmeshref35_Parse.l0 (k + 1) (ls.map bytesOf) whole i L O (cs.map ofC) = hopmeshref35_Parse.j1 k (ls.map bytesOf) whole i (bytesOf w) many L O (cs.map ofC) := by
      intro k
      simp only [hopmeshref35_Parse.l0, List.length_map]
      rw [if_pos (by omega)]
      rcases hwd with ⟨h, rfl, rfl⟩ | ⟨h, rfl, rfl⟩
      · rw [if_pos (by omega)]; rfl
      · rw [if_neg (by omega)]; rfl
    have hj1 : ∀ k, K1 ≤ k → hopmeshref35_Parse.j1 (k + 1) (ls.map bytesOf) whole i (bytesOf w) many L O (cs.map ofC) =
        (match readL ls[i] w many with
          | some ys => hopmeshref35_Parse.j2 k (ls.map bytesOf) whole i ys (if i + 1 = ls.length then !whole else false) L O (cs.map ofC)
          | none => hopmeshref35_Parse.j2 k (ls.map bytesOf) whole i [] true L O (cs.map ofC)) := by
      intro k hk
      simp only [hopmeshref35_Parse.j1, List.length_map]
      rw [if_pos (by omega), if_pos (by omega), rdOf_bytes ls i _ e1, hK1 k hk]
      simp only [Option.bind_some]
      cases readL ls[i] w many with
      | none => simp
      | some ys =>
        simp only [if_true]
        rw [wrap_small (by omega) (by omega)]
        by_cases h : i + 1 = ls.length
        · rw [if_pos (by omega), if_pos h]
        · rw [if_neg (by omega), if_neg h]
    -- a bad line
    have hbad : ∀ k (ys : List Int), hopmeshref35_Parse.j2 (k + 1) (ls.map bytesOf) whole i ys true L O (cs.map ofC) = some (0, 0, [], (i : Int), 3) := by
      intro k ys
      simp [hopmeshref35_Parse.j2]
    have hlines : (goodR ls whole).drop i = ls[i] :: (goodR ls whole).drop (i + 1) ∨ (whole = false ∧ i + 1 = ls.length ∧ (goodR ls whole).drop i = []) := by
      cases whole
      · by_cases h : i + 1 = ls.length
        · exact Or.inr ⟨rfl, h, List.drop_eq_nil_of_le (by unfold goodR; simp; omega)⟩
        · refine Or.inl ?_
          have h2 : i < (goodR ls false).length := by unfold goodR; simp; omega
          rw [List.drop_eq_getElem_cons h2]
          congr 1
          unfold goodR
          simp
      · exact Or.inl (List.drop_eq_getElem_cons h1)
    rcases hlines with hlines | ⟨rfl, hlast, hnil⟩
    · cases hr : readL ls[i] w many with
      | none =>
        refine ⟨K1 + 3, fun k hk => ?_⟩
        obtain ⟨k, rfl⟩ : ∃ q, k = q + 3 := ⟨k - 3, by omega⟩
        dsimp only
        rw [hhead, hj1 (k + 1) (by omega), hr]
        dsimp only
        rw [hbad, hlines]
        rcases hwd with ⟨rfl, rfl, rfl⟩ | ⟨h, rfl, rfl⟩
        · simp only [lines35, hr, resR]
        · obtain ⟨m, rfl⟩ : ∃ m, i = m + 1 := ⟨i - 1, by omega⟩
          simp only [lines35, hr, resR]
      | some ys =>
        have hlen := readL_length hr
        have hgo : (if i + 1 = ls.length then !whole else false) = false := by
          by_cases h : i + 1 = ls.length
          · rw [if_pos h]
            cases whole
            · have : (goodR ls false).drop i = [] := List.drop_eq_nil_of_le (by unfold goodR; simp; omega)
              rw [this] at hlines; cases hlines
            · rfl
          · rw [if_neg h]
        rw [hgo] at hj1
        have hnext : whole = true ∨ i + 1 < ls.length := by
          rcases Bool.eq_false_or_eq_true whole with h | h
          · exact Or.inl h
          · right
            by_cases h2 : i + 1 = ls.length
            · rw [if_pos h2, h] at hgo; cases hgo
            · omega
        rcases hwd with ⟨rfl, rfl, rfl⟩ | ⟨h, rfl, rfl⟩
        · match ys, hlen, hr, hj1 with
          | [a, b], _, hr, hj1 =>
            obtain ⟨K2, hK2⟩ := ih 1 (by omega) (by omega) (by simpa using hnext) a b cs (by omega)
            dsimp only at hK2
            refine ⟨K1 + K2 + 3, fun k hk => ?_⟩
            obtain ⟨k, rfl⟩ : ∃ q, k = q + 3 := ⟨k - 3, by omega⟩
            dsimp only
            rw [hhead, hj1 (k + 1) (by omega), hr]
            dsimp only
            simp only [hopmeshref35_Parse.j2, List.length_cons, List.length_nil]
            rw [if_neg (by simp), if_pos (by omega), if_pos (by omega), if_pos (by omega), wrap_small (by omega) (by omega)]
            have h2 := hK2 k (by omega)
            rw [hlines]
            simp only [lines35, hr]
            exact h2
        · obtain ⟨m, rfl⟩ : ∃ m, i = m + 1 := ⟨i - 1, by omega⟩
          match ys, hlen, hr, hj1 with
          | [a, b, c, d0, e], _, hr, hj1 =>
            obtain ⟨K2, hK2⟩ := ih (m + 2) (by omega) (by omega) hnext L O (cs ++ [⟨a, b, c, d0, e⟩]) (by simp; omega)
            dsimp only at hK2
            refine ⟨K1 + K2 + 3, fun k hk => ?_⟩
            obtain ⟨k, rfl⟩ : ∃ q, k = q + 3 := ⟨k - 3, by omega⟩
            dsimp only
            rw [hhead, hj1 (k + 1) (by omega), hr]
            dsimp only
            simp only [hopmeshref35_Parse.j2, List.length_cons, List.length_nil, List.length_map]
            rw [if_neg (by simp), if_neg (by omega), if_pos (by omega), if_pos (by omega), if_pos (by omega), if_pos (by omega), if_pos (by omega), if_pos (by omega), wrap_small (by omega) (by omega)]
            have h2 := hK2 k (by omega)
            rw [hlines]
            simp only [lines35, hr]
            rw [List.map_append] at h2
            rw [show (((m + 1 : Nat) : Int) + 1) = ((m + 2 : Nat) : Int) from by omega]
            exact h2
    · -- the last line, which does not end
      refine ⟨K1 + 3, fun k hk => ?_⟩
      obtain ⟨k, rfl⟩ : ∃ q, k = q + 3 := ⟨k - 3, by omega⟩
      dsimp only
      rw [hhead, hj1 (k + 1) (by omega), if_pos hlast, hnil]
      have hE : resR false ls.length (lines35 i [] L O cs) = (0, 0, [], (i : Int), 3) := by
        unfold lines35
        show (0, 0, [], (ls.length : Int) - 1, 3) = _
        rw [← hlast]
        simp
      rw [hE]
      cases readL ls[i] w many with
      | none => exact hbad _ _
      | some ys => exact hbad _ _
theorem parse_eq (t : ByteArray) (ht : t.size ≤ 10000) :
    ∃ k, hopmeshref35_Parse.f k t = some ((parseR t.data.toList).L, (parseR t.data.toList).O, (parseR t.data.toList).cs.map ofC, (parseR t.data.toList).i, (parseR t.data.toList).e) := by
  obtain ⟨l, hl⟩ : ∃ l, t.data.toList = l := ⟨_, rfl⟩
  have hb : t = bytesOf l := by rw [← hl]; exact eq_of_list (bytesOf_list _).symm
  have hs : l.length ≤ 10000 := by rw [← hl, ← size_list]; exact ht
  rw [hl, hb]
  obtain ⟨K1, hK1⟩ := linesF_from l (by omega)
  dsimp only at hK1
  have hcl : (cutL 10 l).length ≤ 10001 := by
    have := cutL_length 10 l
    omega
  have hne := cutL_ne 10 l
  unfold endR at hK1
  by_cases hlast : (cutL 10 l).getLast? = some []
  · rw [if_pos hlast] at hK1
    obtain ⟨ls, hls⟩ : ∃ ls, cutL 10 l = ls ++ [[]] := by
      rcases List.eq_nil_or_concat (cutL 10 l) with h0 | ⟨ls, z, hz⟩
      · exact absurd h0 hne
      · refine ⟨ls, ?_⟩
        rw [hz, List.concat_eq_append, List.getLast?_concat] at hlast
        rw [hz, List.concat_eq_append, Option.some.inj hlast]
    have hmem : ∀ p ∈ ls, p.length ≤ 1000000 := fun p hp => by
      have := cutL_le 10 l p (by rw [hls]; exact List.mem_append_left _ hp)
      omega
    rw [hls, List.dropLast_concat] at hK1
    rw [hls, List.length_append] at hcl
    unfold parseR
    rw [hls, List.dropLast_concat]
    cases ls with
    | nil =>
      refine ⟨K1, ?_⟩
      unfold hopmeshref35_Parse.f
      rw [hK1 K1 (Nat.le_refl _)]
      simp [lines35]
    | cons p ps =>
      obtain ⟨K2, hK2⟩ := parse_from (p :: ps) true (by omega) hmem (p :: ps).length 0 rfl (Nat.zero_le _) (Or.inl rfl) 0 0 [] (Nat.le_refl _)
      dsimp only at hK2
      refine ⟨K1 + K2, ?_⟩
      unfold hopmeshref35_Parse.f
      rw [hK1 (K1 + K2) (by omega)]
      simp only [Option.bind_some, List.length_map]
      rw [if_neg (by simp only [List.length_cons]; omega)]
      have h2 := hK2 (K1 + K2) (by omega)
      rw [show ((0 : Nat) : Int) = 0 from rfl, List.map_nil, show (goodR (p :: ps) true).drop 0 = p :: ps from rfl] at h2
      rw [h2]
      cases lines35 0 (p :: ps) 0 0 [] with
      | bad i => rfl
      | fine L O cs =>
        simp only [resR, if_true]
        have hcond : ¬ ((p :: ps ++ [[]]).length = 1 ∨ (p :: ps ++ [[]]).getLast? ≠ some []) := by rw [List.getLast?_concat]; simp
        rw [if_neg hcond]
        cases formB L O cs <;> rfl
  · rw [if_neg hlast] at hK1
    have hmem : ∀ p ∈ cutL 10 l, p.length ≤ 1000000 := fun p hp => by
      have := cutL_le 10 l p hp
      omega
    have hpos : 0 < (cutL 10 l).length := List.length_pos_iff.2 hne
    obtain ⟨K2, hK2⟩ := parse_from (cutL 10 l) false (by omega) hmem (cutL 10 l).length 0 rfl (Nat.zero_le _) (Or.inr hpos) 0 0 [] (Nat.le_refl _)
    dsimp only at hK2
    refine ⟨K1 + K2, ?_⟩
    unfold hopmeshref35_Parse.f
    rw [hK1 (K1 + K2) (by omega)]
    simp only [Option.bind_some, List.length_map]
    rw [if_neg (by omega)]
    have h2 := hK2 (K1 + K2) (by omega)
    rw [show ((0 : Nat) : Int) = 0 from rfl, List.map_nil, show (goodR (cutL 10 l) false).drop 0 = (cutL 10 l).dropLast from rfl] at h2
    rw [h2]
    unfold parseR
    cases lines35 0 (cutL 10 l).dropLast 0 0 [] with
    | bad i => rfl
    | fine L O cs =>
      simp only [resR]
      rw [if_pos (Or.inr hlast)]
      simp
end Go.Proofs.YtnddjcadkbjjhaaGreatDoor.PScheduleTexts
