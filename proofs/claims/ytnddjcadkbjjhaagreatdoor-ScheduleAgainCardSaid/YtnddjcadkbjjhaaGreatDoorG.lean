/-
  CHAPTER 35: read.
-/
import Derived.Test.YtnddjcadkbjjhaaGreatDoorF
import Derived.Test.YtnddjcadkbjjhaaGreatDoorT
import Derived.Test.YtnddjcadkbjjhaaGreatDoorShelfS
import Derived.OwnWalk
import Derived.Deep.AppendLies
import Derived.WalkLawsBesides
namespace Go.Proofs.YtnddjcadkbjjhaaGreatDoor
open Go.RowKit

/-- What the listed variables give in every later world. -/
def Tabs (w : World) : Prop := ∀ w', Below w.heap.size w w' → Lib.TabIs Tryz.prog w' "internal/strconv.uint64pow10" .u64 Lib.pow10Tab ∧ (∃ tp p, w'.var? Tryz.prog "strconv.ErrSyntax" = some #[.iface tp p]) ∧
  (∃ tp p, w'.var? Tryz.prog "strconv.ErrRange" = some #[.iface tp p]) ∧ ∃ m, w'.cell? ⟨0, 0, none⟩ = some (.int .i64 m)
theorem Tabs.later {w w' : World} (h : Tabs w) (hb : Below w.heap.size w w') : Tabs w' := fun w2 h2 => h w2 (bstep hb h2 (Nat.le_refl _))
theorem Tabs.tab {w : World} (h : Tabs w) : Tab w := fun w' hb => (h w' hb).1

theorem Atoi_ok (D : ByteArray) (v : Int) (hD : D.size ≤ 1000000) (h : Lib.atoiAll D.data.toList = .ok v) (w : World) :
    Calls Tryz.prog 99 #[.string D] w fun e w' => e = .returned (.tuple #[.int .i64 v, .nilIface]) ∧ Below w.heap.size w w' := by
  refine (Tryz.strconv_Atoi_ok D (by omega) v h w).mono fun e w' ⟨he, hw⟩ => ⟨he, ?_⟩
  rcases hw with rfl | ⟨t, rfl⟩
  · exact Below.refl _ _
  · exact Lib.bytesWorld_below _ _ _
/-- No number that an int holds: an error that is not nil. -/
def Bad (w : World) (e : Ending) (w' : World) : Prop := ∃ x N, e = .returned (.tuple #[.int .i64 x, .iface 157 (.pointer (some ⟨N, 0, none⟩))]) ∧ Below w.heap.size w w'
theorem Atoi_bad (D : ByteArray) (hD : D.size ≤ 1000000) (h : ∀ v, Lib.atoiAll D.data.toList ≠ .ok v) (w : World) (ht : Tabs w) : Calls Tryz.prog 99 #[.string D] w (Bad w) := by
  obtain ⟨_, ⟨tp, p, hs⟩, ⟨tp', p', hr⟩, _⟩ := ht w (Below.refl _ _)
  cases ha : Lib.atoiAll D.data.toList
  · exact absurd ha (h _)
  · exact (Tryz.strconv_Atoi_syntax_var D (by omega) h (by rw [ha]; intro e; cases e) tp p w hs).mono fun e w' ⟨N, he, _, _, hw⟩ => ⟨_, N, he, hw⟩
  · exact (Tryz.strconv_Atoi_range_var D (by omega) ha tp' p' w hr).mono fun e w' ⟨N, he, _, _, hw⟩ => ⟨_, N, he, hw⟩
theorem Itoa_gen (d : Int) (h0 : -9223372036854775808 ≤ d) (hd : d ≤ 9223372036854775807) (w : World) (ht : Tab w) :
    Calls Tryz.prog 96 #[.int .i64 d] w fun e w' => e = .returned (.string (bytesOf (Lib.itoa d))) ∧ Below w.heap.size w w' := by
  refine (Tryz.strconv_Itoa d h0 hd w (ht w (Below.refl _ _))).mono fun e w' ⟨he, q, os, hw⟩ => ⟨he, ?_⟩
  rw [hw]; exact below_grown_own _ _ _ _ (Nat.le_refl _)

theorem Itoa_lit (d : Int) (D : ByteArray) (hD : bytesOf (Lib.itoa d) = D) (h0 : -9223372036854775808 ≤ d) (hd : d ≤ 9223372036854775807) (w : World) (ht : Tab w) :
    Calls Tryz.prog 96 #[.int .i64 d] w fun e w' => e = .returned (.string D) ∧ Below w.heap.size w w' := by
  subst hD; exact Itoa_gen d h0 hd w ht

/-- The parts of a text, as strings. -/
def partsB (c : UInt8) (s : ByteArray) : List ByteArray := Lib.splitB ⟨#[c]⟩ 0 (Lib.countB s ⟨#[c]⟩) s
theorem countB_one (c : UInt8) (s : ByteArray) : Lib.countB s ⟨#[c]⟩ = s.data.toList.count c := by
  show Lib.count s.data.toList [c] = _
  exact Lib.count_one c _
theorem partsB_data (c : UInt8) (s : ByteArray) : (partsB c s).map (·.data.toList) = cutL c s.data.toList := by
  unfold partsB
  rw [Lib.splitB_data, countB_one]
  exact splitK_cut c _
theorem partsB_length (c : UInt8) (s : ByteArray) : (partsB c s).length = Lib.countB s ⟨#[c]⟩ + 1 := Lib.splitB_all ⟨#[c]⟩ (Nat.le_refl 1) 0 _ s rfl
theorem Split_any (s : ByteArray) (c : UInt8) (N : Nat) (hN : (partsB c s).length = N) (hs : s.size ≤ 1000000) (w : World) (ht : Tabs w) :
    Calls Tryz.prog 61 #[.string s, .string ⟨#[c]⟩] w fun e w' => e = .returned (.slice (some ⟨w.heap.size, 0, none⟩) N N) ∧ w.alloc (.cells ((partsB c s).map Value.string).toArray 9) = w' := by
  obtain ⟨_, _, _, m, hm⟩ := ht w (Below.refl _ _)
  rw [partsB_length] at hN
  refine (Any.strings_Split { Tryz.laysM146 with } Tryz.laysM146.i9 s ⟨#[c]⟩ m w (by omega) hm (Nat.le_refl 1)).mono fun e w' ⟨he, hw⟩ => ⟨?_, hw.symm⟩
  rw [he, hN]
/-- A slice that reads as a list of strings. -/
def ReadsS (w : World) (b off : Nat) (ss : List ByteArray) : Prop := ∀ j s, ss[j]? = some s → w.cell? ⟨b, off + j, none⟩ = some (.string s)
theorem ReadsS.new (w : World) (ss : List ByteArray) : ReadsS (w.alloc (.cells (ss.map Value.string).toArray 9)) w.heap.size 0 ss := by
  intro j s hj
  obtain ⟨h1, e1⟩ := List.getElem?_eq_some_iff.1 hj
  have : ((ss.map Value.string).toArray)[j]? = some (.string s) := by simp [h1, e1]
  rw [Nat.zero_add, World.cell?_alloc_at _ _ _ _ (by simp)]
  exact this
theorem ReadsS.below {w w' : World} {b off B : Nat} {ss : List ByteArray} (h : ReadsS w b off ss) (hb : Below B w w') (hB : b < B) : ReadsS w' b off ss := fun j s hj => (hb.cell (p := ⟨b, off + j, none⟩) hB).trans (h j s hj)
theorem app_below {B base n sz : Nat} {e : TypeId} {v : Value} {xs : List Value} {w0 wr w1 : World} {o : Obj} (hnx : Below B w0 wr) (hown : wr.ownsRow base e sz v n xs) (hB : B ≤ base) (hw : B ≤ wr.heap.size) (hgrow : (wr.alloc o).grownBy w1 v.ownBlock) : Below B w0 w1 :=
  (hnx.alloc hw o).grown hgrow (by simp; omega) (fun j hj => by have := (hown.lt j hj).1; omega)
theorem Tryz.info3 : (Tryz.prog.info? 3).map (fun i => (i.zero, i.size, i.bytes)) = some (some (.int .i64 0), 1, 8) := by kernel_rfl

theorem own_below {base n sz : Nat} {e : TypeId} {v : Value} {xs : List Value} {wr w1 : World} (hown : wr.ownsRow base e sz v n xs) (hb : Below wr.heap.size wr w1) : w1.ownsRow base e sz v n xs :=
  hown.kept (row := none) ⟨hb.os, hb.tape, hb.output, hb.size, fun k hk _ => hb.block k hk⟩ (Classical.em _)
theorem news_one (W : World) (T : TypeId) (x : Value) : ∀ (j : Nat) (u : Value), [x][j]? = some u → (W.alloc (.cells #[x] T)).cell? ((⟨W.heap.size, 0, none⟩ : Addr).add j) = some u := by
  intro j u hj
  match j, hj with
  | 0, hj => cases hj; simp [Addr.add, go_sem]
theorem one_int (v : Int) : ∀ u ∈ [Value.int .i64 v], u.oneCell' = true := by intro u hu; simp at hu; subst hu; rfl
theorem numW_bad {l : List UInt8} (h : ∀ v, Lib.atoiAll l ≠ .ok v) : numW l = none := by
  unfold numW; split
  · rename_i v hv; exact absurd hv (h v)
  · rfl
theorem numW_no {l : List UInt8} {v : Int} (h : Lib.atoiAll l = .ok v) (hn : ¬ (l.length ≤ 4 ∧ Lib.itoa v = l ∧ 0 ≤ v)) : numW l = none := by
  unfold numW; rw [h]; exact if_neg hn
theorem numW_yes {l : List UInt8} {v : Int} (h : Lib.atoiAll l = .ok v) (h1 : l.length ≤ 4) (h2 : Lib.itoa v = l) (h3 : 0 ≤ v) : numW l = some v := by
  unfold numW; rw [h]; exact if_pos ⟨h1, h2, h3⟩
theorem numsL_drop (ws : List (List UInt8)) (k : Nat) (l : List UInt8) (h : ws[k]? = some l) : numsL (ws.drop k) = match numW l with
    | none => none
    | some x => match numsL (ws.drop (k + 1)) with
      | none => none
      | some xs => some (x :: xs) := by
  obtain ⟨h1, e1⟩ := List.getElem?_eq_some_iff.1 h
  rw [List.drop_eq_getElem_cons h1, e1]; rfl

set_option maxHeartbeats 1600000 in
theorem read_short (s W : ByteArray) (many N : Nat) (hN : Hid ((partsB 32 s).length = N)) (hne : N ≠ many + 1) (hm : many ≤ 10) (hs : s.size ≤ 1000000) (w : World) (ht : Hid (Tabs w)) :
    Calls Tryz.prog 62 #[.string s, .string W, .int .i64 (many : Int)] w fun e w' => e = .returned (.tuple #[.slice none 0 0, .bool false]) ∧ Below w.heap.size w w' := by
  have hz : ((N : Int) == (many : Int) + 1) = false := by rw [beq_eq_false_iff_ne]; omega
  have hz' : ((N : Int) != (many : Int) + 1) = true := by rw [bne, hz]; rfl
  go_enter Tryz.func62, Tryz.ntmps62
  go_wp2_with (go_at_call 61; refine (Split_any s 32 N hN.out hs _ ht.out).mono ?_; rintro e w' ⟨rfl, rfl⟩)
  go_ret2
  exact ⟨rfl, (Below.refl _ _).alloc (Nat.le_refl _) _⟩
theorem toList_ne {a b : ByteArray} (h : a ≠ b) : (a.toList == b.toList) = false := by
  rw [beq_eq_false_iff_ne, ByteArray.toList_eq, ByteArray.toList_eq]
  exact fun e => h (eq_of_list e)
set_option maxHeartbeats 1600000 in
theorem read_word (s W s0 : ByteArray) (many : Nat) (hN : Hid ((partsB 32 s).length = many + 1)) (h0 : Hid ((partsB 32 s)[0]? = some s0)) (hne : Hid (s0 ≠ W)) (hm : many ≤ 10) (hs : s.size ≤ 1000000) (w : World) (ht : Hid (Tabs w)) :
    Calls Tryz.prog 62 #[.string s, .string W, .int .i64 (many : Int)] w fun e w' => e = .returned (.tuple #[.slice none 0 0, .bool false]) ∧ Below w.heap.size w w' := by
  have c0 := ReadsS.new w (partsB 32 s) 0 s0 h0.out
  have hq := toList_ne hne.out
  go_enter Tryz.func62, Tryz.ntmps62
  go_wp2_with (go_at_call 61; refine (Split_any s 32 (many + 1) hN.out hs _ ht.out).mono ?_; rintro e w' ⟨rfl, rfl⟩)
  go_ret2
  exact ⟨rfl, (Below.refl _ _).alloc (Nat.le_refl _) _⟩
/-- How read ends. -/
def ReadEnd (w : World) (many : Nat) (r : Option (List Int)) (e : Ending) (w' : World) : Prop :=
  match r with
  | none => e = .returned (.tuple #[.slice none 0 0, .bool false]) ∧ Below w.heap.size w w'
  | some xs => ∃ g c, e = .returned (.tuple #[.slice (some ⟨g, 0, none⟩) many c, .bool true]) ∧ w.heap.size ≤ g ∧ Reads w' w'.heap.size (some ⟨g, 0, none⟩) many xs ∧ Below w.heap.size w w'
theorem ReadEnd.none_ {w w' : World} {many : Nat} {r : Option (List Int)} (hr : r = none) (hb : Below w.heap.size w w') : ReadEnd w many r (.returned (.tuple #[.slice none 0 0, .bool false])) w' := by
  subst hr; exact ⟨rfl, hb⟩
/-- The numbers from the head on, out of those from k on. -/
def joinN (xs : List Int) : Option (List Int) → Option (List Int)
  | none => none
  | some ys => some (xs ++ ys)
theorem joinN_snoc (xs : List Int) (v : Int) (r : Option (List Int)) : joinN xs (match r with | none => none | some ys => some (v :: ys)) = joinN (xs ++ [v]) r := by cases r <;> simp [joinN]
theorem reads_own {w : World} {base g n cap : Nat} {xs : List Int} (h : w.ownsRow base 3 1 (.slice (some ⟨g, 0, none⟩) n cap) n (xs.map (Value.int .i64))) : Reads w w.heap.size (some ⟨g, 0, none⟩) n xs := by
  have hl : xs.length = n := by have := h.1; simpa using this
  refine ⟨hl, fun hn => ⟨g, 0, rfl, (h.lt g rfl).2, fun j x hx => ?_⟩⟩
  obtain ⟨h1, e1⟩ := List.getElem?_eq_some_iff.1 hx
  have := h.cellAt j (by omega)
  rw [Nat.zero_add, this]
  simp [h1, e1]
theorem parts_at {ps : List ByteArray} {w0 : List UInt8} {ws : List (List UInt8)} {s : ByteArray} (h : ps.map (·.data.toList) = cutL 32 s.data.toList) (hc : cutL 32 s.data.toList = w0 :: ws) {k : Nat} (hk : k < ws.length) (hs : s.size ≤ 1000000) :
    ∃ p : ByteArray, ps[k + 1]? = some p ∧ ws[k]? = some p.data.toList ∧ p.size ≤ 1000000 := by
  rw [hc] at h
  have hl : k + 1 < ps.length := by have := congrArg List.length h; simp at this; omega
  have h2 : (ps.map (·.data.toList))[k + 1]? = some (ps[k + 1].data.toList) := by simp [hl]
  refine ⟨ps[k + 1], List.getElem?_eq_getElem hl, ?_, ?_⟩
  · rw [h] at h2; simpa using h2
  · have hm : ps[k + 1].data.toList ∈ cutL 32 s.data.toList := by rw [hc, ← h]; exact List.mem_of_getElem? h2
    have := cutL_le 32 _ _ hm
    have e1 := size_list ps[k + 1]; have e2 := size_list s; omega
theorem parts_head {ps : List ByteArray} {l : List UInt8} {ws : List (List UInt8)} {W : ByteArray} (h : ps.map (·.data.toList) = cutL 32 l) (hc : cutL 32 l = W.data.toList :: ws) : ps[0]? = some W := by
  rw [hc] at h
  cases ps with
  | nil => simp at h
  | cons p r => simp only [List.map_cons, List.cons.injEq] at h; simp [eq_of_list h.1]
set_option maxHeartbeats 4000000 in
set_option maxRecDepth 100000 in
theorem read_loop (s W : ByteArray) (ws : List (List UInt8)) (many : Nat) (r : Option (List Int)) (hcut : Hid (cutL 32 s.data.toList = W.data.toList :: ws)) (hlen : Hid (ws.length = many)) (hr : Hid (numsL ws = r)) (h1 : 1 ≤ many) (hm : many ≤ 10) (hs : s.size ≤ 1000000) (w : World) (ht : Hid (Tabs w)) :
    Calls Tryz.prog 62 #[.string s, .string W, .int .i64 (many : Int)] w (ReadEnd w many r) := by
  have hpd := Lib.hid (partsB_data 32 s)
  have hN : Hid ((partsB 32 s).length = many + 1) := Lib.hid (by have := congrArg List.length hpd.out; rw [hcut.out, List.length_map, List.length_cons, hlen.out] at this; exact this)
  have hat : Hid (∀ k, k < many → ∃ p : ByteArray, (partsB 32 s)[k + 1]? = some p ∧ ws[k]? = some p.data.toList ∧ p.size ≤ 1000000) := Lib.hid (fun k hk => parts_at hpd.out hcut.out (by rw [hlen.out]; exact hk) hs)
  have c0 := ReadsS.new w (partsB 32 s) 0 W (parts_head hpd.out hcut.out)
  have HS := Lib.hid (ReadsS.new w (partsB 32 s))
  have hw1 : Below w.heap.size w (w.alloc (.cells ((partsB 32 s).map Value.string).toArray 9)) := (Below.refl _ _).alloc (Nat.le_refl _) _
  obtain ⟨i0, hi, hj0, hj1, hj2⟩ := info_parts Tryz.info3
  go_enter Tryz.func62, Tryz.ntmps62
  go_wp2_with (go_at_call 61; refine (Split_any s 32 (many + 1) hN.out hs _ ht.out).mono ?_; rintro e w' ⟨rfl, rfl⟩)
  clear c0
  obtain ⟨w1, hw1e⟩ : ∃ w1, w1 = w.alloc (.cells ((partsB 32 s).map Value.string).toArray 9) := ⟨_, rfl⟩
  have hz1 : w.heap.size < w1.heap.size := by rw [hw1e]; simp
  rw [← hw1e] at hw1 HS ⊢
  have HW1 := Lib.hid hw1
  have HT := Lib.hid (ht.out.later hw1)
  clear hw1e hw1 ht
  go_loopw [9, 31] (fun v i wx => ∃ k : Nat, ∃ xs : List Int, k ≤ many ∧ i = .int .i64 k ∧ wx.ownsRow w1.heap.size 3 1 v k (xs.map (Value.int .i64)) ∧ Below w1.heap.size w1 wx ∧ Hid (joinN xs (numsL (ws.drop k)) = r)) (fun _ i _ => many - (intOf i).toNat)
  case atStart => exact ⟨0, [], Nat.zero_le _, rfl, World.ownsRow_nil _ _ _ _, Below.refl _ _, Lib.hid (by rw [← hr.out]; simp only [List.drop_zero]; cases numsL ws <;> rfl)⟩
  case round =>
    obtain ⟨k, xs, hk, rfl, hown, hwx, H⟩ := hrel
    by_cases hlt : k < many
    · obtain ⟨p, hp1, hp2, hp3⟩ := hat.out k hlt
      have hcell : wr.cell? ⟨w.heap.size, 1 + k, none⟩ = some (.string p) := by
        have := (HS.out.below hwx hz1) (k + 1) p hp1
        rwa [show 0 + (k + 1) = 1 + k by omega] at this
      have hd := Lib.hid (numsL_drop ws k _ hp2)
      clear hp1 hp2
      have hT := Lib.hid (HT.out.later hwx)
      have hpl : p.data.toList.length = p.size := (size_list p).symm
      have hpl := Lib.hid hpl
      have hW := HW1.out
      have hno : numW p.data.toList = none → r = none := fun h => by rw [← H.out, hd.out, h]; rfl
      have hno := Lib.hid hno
      by_cases hA : ∃ v, Lib.atoiAll p.data.toList = .ok v
      · obtain ⟨v, hv⟩ := hA
        have hvr := atoi_range hv
        have HV := Lib.hid hv
        clear hv
        by_cases h4 : p.size ≤ 4
        · by_cases hI : Lib.itoa v = p.data.toList
          · have hI' := Lib.hid (eq_of_list (a := bytesOf (Lib.itoa v)) (b := p) (by rw [bytesOf_list, hI]))
            have hI := Lib.hid hI
            by_cases h0 : 0 ≤ v
            · have hy := Lib.hid (numW_yes HV.out (by rw [hpl.out]; exact h4) hI.out h0)
              clear hno
              go_wp2_with (first
                | (go_at_call 99; refine (Atoi_ok p v hp3 HV.out _).mono ?_; rintro e w' ⟨rfl, hw2⟩)
                | (go_at_call 96; refine (carry (Itoa_lit v p hI'.out hvr.1 hvr.2 _ (hT.out.later hw2).tab) hw2).mono ?_; rintro e w3 ⟨rfl, hw3⟩; have hown3 := own_below hown hw3; have hwx3 := bstep hwx hw3 (Nat.le_refl _); have hs3 := hwx3.size)
                | (at_builtin; refine wpList_append_own _ rfl _ _ 24 rfl w1.heap.size 3 i0 (.int .i64 0) 1 8 Tryz.underlying24 hi hj0 hj1 hj2 rfl (by decide) _ _ _ rfl (hown3.alloc _) ⟨w3.heap.size, 0, none⟩ 1 1 [.int .i64 v] rfl rfl (news_one _ _ _) (one_int v) (by unfold maxLen; omega) (by omega) (by simp; omega) ?_; intro v' w4 hown4 hgrow4 _; have hw4 := app_below hwx3 hown3 (Nat.le_refl _) hs3 hgrow4))
              go_roundw
              case rel => exact ⟨k + 1, xs ++ [v], by omega, by go_num, by simpa using hown4, hw4, Lib.hid (by rw [← H.out, hd.out, hy.out]; exact (joinN_snoc xs v _).symm)⟩
              case measure => simp [intOf]; omega
            · have hrn := Lib.hid (hno.out (numW_no HV.out fun hh => h0 hh.2.2))
              clear hno
              have h0' : v < 0 := by omega
              go_wp2_with (first
                | (go_at_call 99; refine (Atoi_ok p v hp3 HV.out _).mono ?_; rintro e w' ⟨rfl, hw2⟩)
                | (go_at_call 96; refine (carry (Itoa_lit v p hI'.out hvr.1 hvr.2 _ (hT.out.later hw2).tab) hw2).mono ?_; rintro e w3 ⟨rfl, hw3⟩))
              go_ret2
              exact ReadEnd.none_ hrn.out (bstep hW (bstep hwx hw3 (Nat.le_refl _)) (Nat.le_refl _))
          · have hrn := Lib.hid (hno.out (numW_no HV.out fun hh => hI hh.2.1))
            have hq := toList_ne (a := bytesOf (Lib.itoa v)) (b := p) (fun h => hI (by rw [← h, bytesOf_list]))
            clear hno hI
            revert hq
            obtain ⟨D, hD⟩ : ∃ D, bytesOf (Lib.itoa v) = D := ⟨_, rfl⟩
            rw [hD]
            intro hq
            have hD := Lib.hid hD
            go_wp2_with (first
              | (go_at_call 99; refine (Atoi_ok p v hp3 HV.out _).mono ?_; rintro e w' ⟨rfl, hw2⟩)
              | (go_at_call 96; refine (carry (Itoa_lit v D hD.out hvr.1 hvr.2 _ (hT.out.later hw2).tab) hw2).mono ?_; rintro e w3 ⟨rfl, hw3⟩))
            go_ret2
            exact ReadEnd.none_ hrn.out (bstep hW (bstep hwx hw3 (Nat.le_refl _)) (Nat.le_refl _))
        · have hrn := Lib.hid (hno.out (numW_no HV.out fun hh => h4 (by rw [← hpl.out]; exact hh.1)))
          clear hno
          have h4' : 4 < p.size := by omega
          go_wp2_with (first
            | (go_at_call 99; refine (Atoi_ok p v hp3 HV.out _).mono ?_; rintro e w' ⟨rfl, hw2⟩))
          go_ret2
          exact ReadEnd.none_ hrn.out (bstep hW (bstep hwx hw2 (Nat.le_refl _)) (Nat.le_refl _))
      · have hA' := Lib.hid (fun v hv => hA ⟨v, hv⟩ : ∀ v, Lib.atoiAll p.data.toList ≠ .ok v)
        have hrn := Lib.hid (hno.out (numW_bad hA'.out))
        clear hno hA
        go_wp2_with (first
          | (go_at_call 99; refine (Atoi_bad p hp3 hA'.out _ hT.out).mono ?_; rintro e w2 ⟨x, N, rfl, hw2⟩))
        go_ret2
        exact ReadEnd.none_ hrn.out (bstep hW (bstep hwx hw2 (Nat.le_refl _)) (Nat.le_refl _))
    · obtain ⟨g, cap, rfl, _⟩ := hown.form (by omega)
      have hke : Hid (k = many) := Lib.hid (by omega)
      have hr' : Hid (r = some xs) := Lib.hid (by
        have := H.out
        rw [hke.out, List.drop_eq_nil_of_le (by rw [hlen.out]; omega)] at this
        rw [← this]; simp [joinN, numsL])
      go_wp2_with fail
      go_ret2
      rw [hr'.out]
      have hk2 := hke.out
      subst hk2
      exact ⟨g, cap, rfl, by have := (hown.lt g rfl).1; omega, reads_own hown, bstep HW1.out hwx (Nat.le_refl _)⟩
theorem read_any (s W : ByteArray) (many : Nat) (r : Option (List Int)) (hr : readL s.data.toList W.data.toList many = r) (h1 : 1 ≤ many) (hm : many ≤ 10) (hs : s.size ≤ 1000000) (w : World) (ht : Tabs w) :
    Calls Tryz.prog 62 #[.string s, .string W, .int .i64 (many : Int)] w (ReadEnd w many r) := by
  have hpd := partsB_data 32 s
  cases hc : cutL 32 s.data.toList with
  | nil => exact absurd hc (cutL_ne _ _)
  | cons w0 ws =>
    have hlen : (partsB 32 s).length = ws.length + 1 := by have := congrArg List.length hpd; rw [hc, List.length_map, List.length_cons] at this; exact this
    unfold readL at hr
    rw [hc] at hr
    simp only at hr
    by_cases h2 : ws.length = many
    · by_cases h3 : w0 = W.data.toList
      · rw [if_pos ⟨h2, h3⟩] at hr
        exact read_loop s W ws many r (Lib.hid (h3 ▸ hc)) (Lib.hid h2) (Lib.hid hr) h1 hm hs w (Lib.hid ht)
      · rw [if_neg (fun h => h3 h.2)] at hr
        cases hp : partsB 32 s with
        | nil => rw [hp] at hlen; simp at hlen
        | cons s0 ps =>
          have he : s0.data.toList = w0 := by rw [hp, hc] at hpd; simp only [List.map_cons, List.cons.injEq] at hpd; exact hpd.1
          exact (read_word s W s0 many (Lib.hid (by rw [hlen, h2])) (Lib.hid (by rw [hp]; rfl)) (Lib.hid fun e => h3 (by rw [← he, e])) hm hs w (Lib.hid ht)).mono fun e w' ⟨he, hb⟩ => by subst he; exact ReadEnd.none_ hr.symm hb
    · rw [if_neg (fun h => h2 h.1)] at hr
      exact (read_short s W many _ (Lib.hid rfl) (by rw [hlen]; omega) hm hs w (Lib.hid ht)).mono fun e w' ⟨he, hb⟩ => by subst he; exact ReadEnd.none_ hr.symm hb
end Go.Proofs.YtnddjcadkbjjhaaGreatDoor
