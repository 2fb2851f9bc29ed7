/-
  THE CONTRACTS, eighth part: the reference's Parse (a loop over the bytes), and both Parses as one function of the text.
-/
import Derived.Test.YticgdbokflbjaaaDoorFns7
namespace Go.Proofs.YticgdbokflbjaaaDoor
open Go.RowKit

/-- What a Parse returns for a text. -/
def parRes (l : List UInt8) : Ending := .returned (.tuple #[.int .i64 (Pm.parV l), .int .i64 (Pm.parE l)])
theorem parRes_no (l : List UInt8) (h : ¬ (Pm.suf l = true ∧ Pm.good (Pm.body l) = true)) : .returned (.tuple #[.int .i64 0, .int .i64 3]) = parRes l := by
  unfold parRes; rw [(Pm.par_no l h).1, (Pm.par_no l h).2]
theorem parRes_yes (l : List UInt8) (V E : Int) (h1 : Pm.suf l = true) (h2 : Pm.good (Pm.body l) = true) (hV : Pm.levV (Pm.num 0 (Pm.body l)) = V) (hE : Pm.levE (Pm.num 0 (Pm.body l)) = E) : .returned (.tuple #[.int .i64 V, .int .i64 E]) = parRes l := by
  unfold parRes; rw [(Pm.par_yes l h1 h2).1, (Pm.par_yes l h1 h2).2, hV, hE]
theorem bad_byte (l : List UInt8) (k : Nat) (hk : k < l.length - 3) (h : Pm.isDig (l[k]'(by omega)) = false) : ¬ (Pm.suf l = true ∧ Pm.good (Pm.body l) = true) := by
  rintro ⟨_, hg⟩
  unfold Pm.good at hg
  simp only [Bool.and_eq_true] at hg
  have ha := hg.1.2
  rw [List.all_eq_true] at ha
  have hm : l[k]'(by omega) ∈ Pm.body l := by
    unfold Pm.body
    exact List.mem_take_iff_getElem.2 ⟨k, by omega, rfl⟩
  rw [ha _ hm] at h; cases h
theorem bad_lead (l : List UInt8) (hk : 1 < l.length - 3) (h : (l[0]'(by omega)).toNat = 48) : ¬ (Pm.suf l = true ∧ Pm.good (Pm.body l) = true) := by
  rintro ⟨_, hg⟩
  unfold Pm.good at hg
  simp only [Bool.and_eq_true, Bool.not_eq_true'] at hg
  have hl := hg.2
  have h48 : l[0]'(by omega) = 48 := by
    have := UInt8.toNat_inj (a := l[0]'(by omega)) (b := 48)
    exact this.1 (by rw [h]; rfl)
  have e : Pm.lead (Pm.body l) = true := by
    unfold Pm.lead Pm.body
    have hlen : (l.take (l.length - 3)).length = l.length - 3 := by rw [List.length_take]; omega
    rw [hlen]
    have hh : (l.take (l.length - 3)).head? = some (l[0]'(by omega)) := by
      rw [List.head?_eq_getElem?, List.getElem?_take, if_pos (by omega), List.getElem?_eq_getElem (by omega)]
    rw [hh, h48]; simp; omega
  rw [e] at hl; cases hl
theorem good_end (l : List UInt8) (h4 : 4 ≤ l.length) (ha : (l.take (l.length - 3)).all Pm.isDig = true) (h0 : 1 < l.length - 3 → (l[0]'(by omega)).toNat ≠ 48) : Pm.good (Pm.body l) = true := by
  have hlen : (l.take (l.length - 3)).length = l.length - 3 := by rw [List.length_take]; omega
  have hh : (l.take (l.length - 3)).head? = some (l[0]'(by omega)) := by
    rw [List.head?_eq_getElem?, List.getElem?_take, if_pos (by omega), List.getElem?_eq_getElem (by omega)]
  unfold Pm.good Pm.body
  rw [ha]
  simp only [Bool.and_true, Bool.and_eq_true, Bool.not_eq_true']
  constructor
  · rw [List.isEmpty_eq_false_iff]; intro e; rw [e] at hlen; simp at hlen; omega
  · unfold Pm.lead
    rw [hlen, hh]
    by_cases h : 1 < l.length - 3
    · have h1 := h0 h
      have : l[0]'(by omega) ≠ 48 := fun e => h1 (by rw [e]; rfl)
      simp [this]
    · simp; omega

set_option maxHeartbeats 800000 in
theorem rParse_short (s : ByteArray) (hs : s.size < 4) (w : World) :
    Calls Tryd.prog 31 #[.string s] w fun e w' => e = .returned (.tuple #[.int .i64 0, .int .i64 3]) ∧ w = w' := by
  go_enter Tryd.func31, Tryd.ntmps31
  go_wp2
  go_ret2
  exact ⟨rfl, rfl⟩
set_option maxHeartbeats 800000 in
theorem rParse_nosuf (s : ByteArray) (hs : s.size ≤ 100) (h4 : 4 ≤ s.size) (hq : ((s.extract (s.size - 3) s.size).toList == [32, 100, 66]) = false) (w : World) :
    Calls Tryd.prog 31 #[.string s] w fun e w' => e = .returned (.tuple #[.int .i64 0, .int .i64 3]) ∧ w = w' := by
  go_enter Tryd.func31, Tryd.ntmps31
  go_wp2
  go_ret2
  exact ⟨rfl, rfl⟩
theorem take_snoc (l : List UInt8) (k : Nat) (h : k < l.length) : l.take (k + 1) = l.take k ++ [l[k]] := List.take_succ_eq_append_getElem h
theorem num_snoc (l : List UInt8) (c : UInt8) : Pm.num 0 (l ++ [c]) = Pm.num 0 l * 10 + (c.toNat - 48) := by rw [Pm.num_append]; rfl
theorem byte_list (s : ByteArray) (k : Nat) (h : k < s.size) : s.data.toList[k]'(by rw [Array.length_toList]; exact h) = s[k] := by
  rw [Array.getElem_toList]; rfl
set_option maxHeartbeats 1600000 in
theorem rParse_loop (s : ByteArray) (hs : s.size ≤ 100) (h4 : 4 ≤ s.size) (hq : ((s.extract (s.size - 3) s.size).toList == [32, 100, 66]) = true) (hsuf : Hid (Pm.suf s.data.toList = true)) (w : World) :
    Calls Tryd.prog 31 #[.string s] w fun e w' => e = parRes s.data.toList ∧ Below w.heap.size w w' := by
  have hlen : Hid (s.data.toList.length = s.size) := Lib.hid (by rw [Array.length_toList]; rfl)
  go_enter Tryd.func31, Tryd.ntmps31
  go_wp2
  go_loop [5, 6] (fun v i => ∃ k A : Nat, k ≤ s.size - 3 ∧ A ≤ 1000 ∧ i = .int .i64 k ∧ v = .int .i64 A ∧ Hid (A = min (Pm.num 0 (s.data.toList.take k)) 1000 ∧ (s.data.toList.take k).all Pm.isDig = true ∧ (1 < k → ((s[0]'(by omega)).toNat ≠ 48)))) (fun _ i => s.size - (intOf i).toNat)
  case atStart => exact ⟨0, 0, Nat.zero_le _, Nat.zero_le _, rfl, rfl, Lib.hid ⟨rfl, rfl, fun h => absurd h (by omega)⟩⟩
  case round =>
    obtain ⟨k, A, hk, hA, rfl, rfl, H⟩ := hrel
    by_cases hlt : (k : Int) < (s.size : Int) - 3
    · have hk1 : k < s.size := by omega
      have hkl : k < s.data.toList.length - 3 := by rw [hlen.out]; omega
      have hbl := byte_list s k hk1
      by_cases c0 : (s[k].toNat : Int) < 48
      · have hbad := Lib.hid (bad_byte s.data.toList k hkl (by rw [hbl]; unfold Pm.isDig; rw [Bool.and_eq_false_iff]; left; simp; omega))
        clear hbl
        go_wp2
        go_ret2
        exact ⟨parRes_no _ hbad.out, Below.refl _ _⟩
      by_cases c1 : 57 < (s[k].toNat : Int)
      · have hbad := Lib.hid (bad_byte s.data.toList k hkl (by rw [hbl]; unfold Pm.isDig; rw [Bool.and_eq_false_iff]; right; simp; omega))
        clear hbl
        go_wp2
        go_ret2
        exact ⟨parRes_no _ hbad.out, Below.refl _ _⟩
      have c2 : (s[k].toNat : Int) ≤ 57 := by omega
      have c3 : 48 ≤ (s[k].toNat : Int) := by omega
      have hnum : Hid (Pm.num 0 (s.data.toList.take (k + 1)) = Pm.num 0 (s.data.toList.take k) * 10 + (s[k].toNat - 48) ∧ (s.data.toList.take (k + 1)).all Pm.isDig = true) := Lib.hid (by
        rw [take_snoc _ k (by rw [hlen.out]; exact hk1), num_snoc, hbl]
        refine ⟨rfl, ?_⟩
        rw [List.all_append, H.out.2.1]
        simp only [List.all_cons, List.all_nil, Bool.and_true, Bool.true_and]
        exact (Pm.isDig_iff _).2 (by omega))
      clear hbl
      have h00 := byte_list s 0 (by omega)
      by_cases k1 : k = 1
      · have e1 : ((k : Int) == 1) = true := by rw [beq_iff_eq]; omega
        by_cases z : (s[0]'(by omega)).toNat = 48
        · have hbad := Lib.hid (bad_lead s.data.toList (by rw [hlen.out]; omega) (by rw [h00]; exact z))
          have e2 : (((s[0]'(by omega)).toNat : Int) == 48) = true := by rw [beq_iff_eq]; omega
          clear h00 k1 z
          go_wp2
          go_ret2
          exact ⟨parRes_no _ hbad.out, Below.refl _ _⟩
        · have e2 : (((s[0]'(by omega)).toNat : Int) == 48) = false := by rw [beq_eq_false_iff_ne]; omega
          have hz := Lib.hid z
          clear h00 k1 z
          go_wp2
          all_goals
            go_round
            case rel => exact ⟨k + 1, min (A * 10 + (s[k].toNat - 48)) 1000, by omega, Nat.min_le_right _ _, by go_num, by congr 1; omega, Lib.hid ⟨by rw [hnum.out.1]; have := H.out.1; omega, hnum.out.2, fun _ => hz.out⟩⟩
            case measure => simp [intOf]; omega
      · have e1 : ((k : Int) == 1) = false := by rw [beq_eq_false_iff_ne]; omega
        have hz : Hid (1 < k + 1 → (s[0]'(by omega)).toNat ≠ 48) := Lib.hid (fun h => H.out.2.2 (by omega))
        clear h00 k1
        go_wp2
        all_goals
          go_round
          case rel => exact ⟨k + 1, min (A * 10 + (s[k].toNat - 48)) 1000, by omega, Nat.min_le_right _ _, by go_num, by congr 1; omega, Lib.hid ⟨by rw [hnum.out.1]; have := H.out.1; omega, hnum.out.2, hz.out⟩⟩
          case measure => simp [intOf]; omega
    · have hfin : Hid (Pm.levV (A : Int) = Pm.levV (Pm.num 0 (Pm.body s.data.toList)) ∧ Pm.levE (A : Int) = Pm.levE (Pm.num 0 (Pm.body s.data.toList)) ∧ Pm.good (Pm.body s.data.toList) = true) := Lib.hid (by
        have e : k = s.data.toList.length - 3 := by rw [hlen.out]; omega
        obtain ⟨g1, g2, g3⟩ := H.out
        rw [e] at g1 g2
        have hc := Pm.lev_cap (Pm.num 0 (Pm.body s.data.toList))
        have hb : Pm.body s.data.toList = s.data.toList.take (s.data.toList.length - 3) := rfl
        rw [hb] at hc ⊢
        rw [g1]
        refine ⟨hc.1, hc.2, ?_⟩
        exact good_end _ (by rw [hlen.out]; exact h4) g2 (fun h => by rw [byte_list s 0 (by omega)]; exact g3 (by omega)))
      go_wp2_with (go_at_call 14; refine (rLevel_lit _ _ _ hfin.out.1 hfin.out.2.1 _).mono ?_; rintro e w' ⟨rfl, hb⟩)
      go_ret2
      exact ⟨parRes_yes _ _ _ hsuf.out hfin.out.2.2 rfl rfl, hb⟩
end Go.Proofs.YticgdbokflbjaaaDoor
