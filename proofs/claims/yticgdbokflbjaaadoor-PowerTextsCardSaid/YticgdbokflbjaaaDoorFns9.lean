/-
  BOTH PARSES AS ONE FUNCTION OF THE TEXT; what the listed variables hold.
-/
import Derived.Test.YticgdbokflbjaaaDoorFns8
import Derived.Lib.LaidTab
import Derived.Lib.SmallJoins
import Derived.Stop.LaidErr
import Derived.MakeChecks
import Derived.LaidMore
namespace Go.Proofs.YticgdbokflbjaaaDoor
open Go.RowKit

theorem list_size (s : ByteArray) : s.data.toList.length = s.size := by rw [Array.length_toList]; rfl
theorem empty_list (D : ByteArray) : D.toList.isEmpty = D.data.toList.isEmpty := by rw [ByteArray.toList_eq]
theorem body_of (l : List UInt8) (h : Pm.suf l = true) : Lib.trimSuffix l [32, 100, 66] = Pm.body l := by
  unfold Lib.trimSuffix
  rw [if_pos (show Lib.hasSuffix l [32, 100, 66] = true from h)]; rfl
theorem body_len (l : List UInt8) : (Pm.body l).length ≤ l.length := by unfold Pm.body; rw [List.length_take]; omega

theorem num_one (c : UInt8) : Pm.num 0 [c] < 256 := by
  show 0 * 10 + (c.toNat - 48) < 256
  have := c.toNat_lt; omega
theorem Parse_any (s : ByteArray) (hs : s.size ≤ 100) (w : World) (hvar : ∀ w', Below w.heap.size w w' → ∃ tp p, w'.var? Tryd.prog "strconv.ErrRange" = some #[.iface tp p]) :
    Calls Tryd.prog 30 #[.string s] w fun e w' => e = parRes s.data.toList ∧ Below w.heap.size w w' := by
  cases hsuf : Pm.suf s.data.toList
  · exact (Parse_nosuf s hs (Lib.hid hsuf) w).mono fun e w' ⟨h1, h2⟩ => ⟨h1.trans (parRes_no _ (fun hh => by rw [hsuf] at hh; exact absurd hh.1 (by decide))), h2⟩
  obtain ⟨D, hD⟩ : ∃ D : ByteArray, (⟨(Lib.trimSuffix s.data.toList [32, 100, 66]).toArray⟩ : ByteArray) = D := ⟨_, rfl⟩
  have hDl : D.data.toList = Pm.body s.data.toList := by rw [← hD, body_of _ hsuf]
  have hDs : D.size ≤ 100 := by
    have := body_len s.data.toList
    rw [← list_size, hDl]; rw [list_size] at this; omega
  cases hE : D.toList.isEmpty
  · obtain ⟨T, hT⟩ : ∃ T : ByteArray, (⟨(Lib.trimS D.data.toList Pm.ten).toArray⟩ : ByteArray) = T := ⟨_, rfl⟩
    have hTl : T.data.toList = Lib.trimS D.data.toList Pm.ten := by rw [← hT]
    have hne : D.data.toList ≠ [] := by rw [empty_list] at hE; simpa using hE
    cases hTE : T.toList.isEmpty
    · refine (Parse_nodig s D T hs hDs (Lib.hid hsuf) (Lib.hid hD) hE (Lib.hid hT) hTE w).mono fun e w' ⟨h1, h2⟩ => ⟨h1.trans (parRes_no _ (fun hh => ?_)), h2⟩
      rw [empty_list, hTl] at hTE
      have hg := hh.2
      unfold Pm.good at hg
      simp only [Bool.and_eq_true] at hg
      rw [← hDl, ← Pm.trim_nil] at hg
      rw [hg.1.2] at hTE; cases hTE
    · have hall : D.data.toList.all Pm.isDig = true := by
        rw [empty_list, hTl, List.isEmpty_iff] at hTE
        exact (Pm.trim_nil _).1 hTE
      have hlen := list_size D
      have hpos : 0 < D.size := by rw [← hlen]; exact List.length_pos_iff.2 hne
      have hfirst : D.data.toList[0]'(by omega) = D[0] := byte_list D 0 hpos
      by_cases hl : 1 < D.size ∧ (D[0].toNat = 48)
      · refine (Parse_lead s D T hs hDs (Lib.hid hsuf) (Lib.hid hD) hE (Lib.hid hT) hTE hl.1 (by rw [beq_iff_eq]; omega) w).mono fun e w' ⟨h1, h2⟩ => ⟨h1.trans (parRes_no _ (fun hh => ?_)), h2⟩
        have hg := hh.2
        unfold Pm.good at hg
        simp only [Bool.and_eq_true, Bool.not_eq_true'] at hg
        have h3 := hg.2
        unfold Pm.lead at h3
        rw [← hDl, hlen, List.head?_eq_getElem?, List.getElem?_eq_getElem (by omega), hfirst] at h3
        have : D[0] = 48 := UInt8.toNat_inj.1 (by rw [hl.2]; rfl)
        rw [this] at h3
        simp at h3
        omega
      · have hgood : Pm.good (Pm.body s.data.toList) = true := by
          rw [← hDl]
          unfold Pm.good Pm.lead
          rw [hall, hlen, List.head?_eq_getElem?, List.getElem?_eq_getElem (by omega), hfirst]
          simp only [Bool.and_true, Bool.and_eq_true, Bool.not_eq_true', List.isEmpty_eq_false_iff]
          refine ⟨hne, ?_⟩
          by_cases h1 : 1 < D.size
          · have : D[0] ≠ 48 := fun e => hl ⟨h1, by rw [e]; rfl⟩
            simp [this]
          · simp; omega
        have hat := Pm.atoi_digits D.data.toList hne hall
        by_cases hbig : Pm.num 0 D.data.toList < 9223372036854775808
        · rw [if_pos hbig] at hat
          have hend := parRes_yes s.data.toList _ _ hsuf hgood rfl rfl
          rw [← hDl] at hend
          by_cases h1 : 1 < D.size
          · exact (Parse_more s D T hs hDs (Lib.hid hsuf) (Lib.hid hD) hE (Lib.hid hT) hTE h1 (by rw [beq_eq_false_iff_ne]; intro e; exact hl ⟨h1, by omega⟩) _ _ _ (Lib.hid hat) (Lib.hid ⟨rfl, rfl⟩) w).mono fun e w' ⟨h1, h2⟩ => ⟨h1.trans hend, h2⟩
          · exact (Parse_one s D T hs hDs (Lib.hid hsuf) (Lib.hid hD) hE (Lib.hid hT) hTE (by omega) _ _ _ (Lib.hid hat) (Lib.hid ⟨rfl, rfl⟩) w).mono fun e w' ⟨h1, h2⟩ => ⟨h1.trans hend, h2⟩
        · rw [if_neg hbig] at hat
          have hf := Pm.lev_far (Pm.num 0 D.data.toList) (by omega)
          have hend := parRes_yes s.data.toList 0 2 hsuf hgood (by rw [← hDl]; exact hf.1) (by rw [← hDl]; exact hf.2)
          by_cases h1 : 1 < D.size
          · exact (Parse_far s D T hs hDs (Lib.hid hsuf) (Lib.hid hD) hE (Lib.hid hT) hTE h1 (by rw [beq_eq_false_iff_ne]; intro e; exact hl ⟨h1, by omega⟩) (Lib.hid hat) w (Lib.hid hvar)).mono fun e w' ⟨h1, h2⟩ => ⟨h1.trans hend, h2⟩
          · exfalso
            have hlen1 : D.data.toList.length ≤ 1 := by omega
            match hm : D.data.toList, hlen1 with
            | [], _ => exact hne hm
            | [c], _ =>
              rw [hm] at hbig
              exact hbig (Nat.lt_trans (num_one c) (by omega))
  · refine (Parse_none s D hs (Lib.hid hsuf) (Lib.hid hD) hE w).mono fun e w' ⟨h1, h2⟩ => ⟨h1.trans (parRes_no _ (fun hh => ?_)), h2⟩
    rw [empty_list, hDl] at hE
    have hg := hh.2
    unfold Pm.good at hg
    rw [hE] at hg
    simp at hg
theorem rParse_any (s : ByteArray) (hs : s.size ≤ 100) (w : World) :
    Calls Tryd.prog 31 #[.string s] w fun e w' => e = parRes s.data.toList ∧ Below w.heap.size w w' := by
  have hlen := list_size s
  by_cases h4 : s.size < 4
  · refine (rParse_short s h4 w).mono fun e w' ⟨h1, h2⟩ => ⟨h1.trans (parRes_no _ (fun hh => ?_)), h2 ▸ Below.refl _ _⟩
    have hg := hh.2
    unfold Pm.good Pm.body at hg
    rw [hlen, show s.size - 3 = 0 by have := ((Pm.suf_iff _).1 hh.1).1; omega] at hg
    simp at hg
  · have hex : (s.extract (s.size - 3) s.size).toList = s.data.toList.drop (s.data.toList.length - 3) := by
      rw [Lib.extract_toList, hlen, List.take_of_length_le (by rw [List.length_drop, hlen]; omega)]
    cases hq : ((s.extract (s.size - 3) s.size).toList == [32, 100, 66])
    · refine (rParse_nosuf s hs (by omega) hq w).mono fun e w' ⟨h1, h2⟩ => ⟨h1.trans (parRes_no _ (fun hh => ?_)), h2 ▸ Below.refl _ _⟩
      rw [hex, ((Pm.suf_iff _).1 hh.1).2] at hq
      simp at hq
    · refine rParse_loop s hs (by omega) hq (Lib.hid ?_) w
      rw [hex, beq_iff_eq] at hq
      exact (Pm.suf_iff _).2 ⟨by omega, hq⟩

/-! ### PowerTexts -/
/-- What the listed variables give in every later world. -/
def Tabs (w : World) : Prop := (∀ w', Below w.heap.size w w' → Lib.TabIs Tryd.prog w' "internal/strconv.uint64pow10" .u64 Lib.pow10Tab) ∧ ∀ w', Below w.heap.size w w' → ∃ tp p, w'.var? Tryd.prog "strconv.ErrRange" = some #[.iface tp p]
theorem Tabs.later {w w' : World} (h : Tabs w) (hb : Below w.heap.size w w') : Tabs w' :=
  ⟨fun w2 h2 => h.1 w2 (bstep hb h2 (Nat.le_refl _)), fun w2 h2 => h.2 w2 (bstep hb h2 (Nat.le_refl _))⟩
theorem Parse_lit (s : ByteArray) (hs : s.size ≤ 100) (V E : Int) (hV : Pm.parV s.data.toList = V) (hE : Pm.parE s.data.toList = E) (w : World) (ht : Tabs w) :
    Calls Tryd.prog 30 #[.string s] w fun e w' => e = .returned (.tuple #[.int .i64 V, .int .i64 E]) ∧ Below w.heap.size w w' := by
  subst hV hE
  exact Parse_any s hs w ht.2
theorem rParse_lit (s : ByteArray) (hs : s.size ≤ 100) (V E : Int) (hV : Pm.parV s.data.toList = V) (hE : Pm.parE s.data.toList = E) (w : World) :
    Calls Tryd.prog 31 #[.string s] w fun e w' => e = .returned (.tuple #[.int .i64 V, .int .i64 E]) ∧ Below w.heap.size w w' := by
  subst hV hE
  exact rParse_any s hs w
theorem fmt_size (d : Nat) (hd : d ≤ 108) : (fmtS d).size ≤ 100 := by
  rw [← list_size, fmtS_list, List.length_append]
  have := dec_len d (by omega)
  simp; omega
set_option maxHeartbeats 1600000 in
set_option maxRecDepth 100000 in
theorem walk_Texts_big (u : Int) (s : ByteArray) (hs : 40 < s.size) (hm : s.size ≤ 9223372036854775807) (w : World) :
    Calls Tryd.prog 10 #[.int .i64 u, .string s] w fun e w' => e = .returned (.bool true) ∧ Below w.heap.size w w' := by
  have hb := Below.refl w.heap.size w
  go_enter Tryd.func10, Tryd.ntmps10
  go_wp2_with (go_at_call 11; refine (carry (awake_any _) hb).mono ?_; rintro e w' ⟨rfl, hb⟩)
  go_ret
  exact ⟨rfl, hb⟩
set_option maxHeartbeats 1600000 in
set_option maxRecDepth 100000 in
theorem walk_Texts_no (u V E : Int) (s : ByteArray) (hu : Hid (¬ (1 ≤ u ∧ u ≤ 68719476736))) (hs : s.size ≤ 40) (hV : Hid (Pm.parV s.data.toList = V ∧ Pm.parE s.data.toList = E)) (w : World) (ht : Tabs w) :
    Calls Tryd.prog 10 #[.int .i64 u, .string s] w fun e w' => e = .returned (.bool true) ∧ Below w.heap.size w w' := by
  have hb := Below.refl w.heap.size w
  have HT := Lib.hid ht
  clear ht
  go_enter Tryd.func10, Tryd.ntmps10
  go_wp2_with (first
    | (go_at_call 11; refine (carry (awake_any _) hb).mono ?_; rintro e w' ⟨rfl, hb⟩)
    | (go_at_call 28; refine (carry (Format_no u hu _) hb).mono ?_; rintro e w' ⟨rfl, hb⟩)
    | (go_at_call 29; refine (carry (rFormat_no u hu _) hb).mono ?_; rintro e w' ⟨rfl, hb⟩)
    | (go_at_call 30; refine (carry (Parse_lit s (by omega) V E hV.out.1 hV.out.2 _ (HT.out.later hb)) hb).mono ?_; rintro e w' ⟨rfl, hb⟩)
    | (go_at_call 31; refine (carry (rParse_lit s (by omega) V E hV.out.1 hV.out.2 _) hb).mono ?_; rintro e w' ⟨rfl, hb⟩))
  go_ret
  exact ⟨rfl, hb⟩
theorem Format_at (p : Int) (F : ByteArray) (h0 : 1 ≤ p) (h1 : p ≤ 68719476736) (hF : fmtS (Pm.dec p) = F) (w : World) (ht : Tabs w) :
    Calls Tryd.prog 28 #[.int .i64 p] w fun e w' => e = .returned (.tuple #[.string F, .int .i64 0]) ∧ Below w.heap.size w w' := by
  subst hF; exact Format_ok p h0 h1 w ht.1
theorem rFormat_at (p : Int) (F : ByteArray) (h0 : 1 ≤ p) (h1 : p ≤ 68719476736) (hF : fmtS (Pm.dec p) = F) (w : World) :
    Calls Tryd.prog 29 #[.int .i64 p] w fun e w' => e = .returned (.tuple #[.string F, .int .i64 0]) ∧ Below w.heap.size w w' := by
  subst hF; exact rFormat_ok p h0 h1 w
set_option maxHeartbeats 1600000 in
set_option maxRecDepth 100000 in
theorem walk_Texts_yes (u V E L : Int) (s F : ByteArray) (h0 : 1 ≤ u) (h1 : u ≤ 68719476736) (hF : Hid (fmtS (Pm.dec u) = F)) (hFs : F.size ≤ 100) (hs : s.size ≤ 40) (hV : Hid (Pm.parV s.data.toList = V ∧ Pm.parE s.data.toList = E))
    (hL : Hid (Pm.parV F.data.toList = L ∧ Pm.parE F.data.toList = 0)) (hle : L ≤ u) (w : World) (ht : Tabs w) :
    Calls Tryd.prog 10 #[.int .i64 u, .string s] w fun e w' => e = .returned (.bool true) ∧ Below w.heap.size w w' := by
  have hb := Below.refl w.heap.size w
  have HT := Lib.hid ht
  clear ht
  go_enter Tryd.func10, Tryd.ntmps10
  go_wp2_with (first
    | (go_at_call 11; refine (carry (awake_any _) hb).mono ?_; rintro e w' ⟨rfl, hb⟩)
    | (go_at_call 28; refine (carry (Format_at u F h0 h1 hF.out _ (HT.out.later hb)) hb).mono ?_; rintro e w' ⟨rfl, hb⟩)
    | (go_at_call 29; refine (carry (rFormat_at u F h0 h1 hF.out _) hb).mono ?_; rintro e w' ⟨rfl, hb⟩))
  refine (carry (Parse_lit s (by omega) V E hV.out.1 hV.out.2 _ (HT.out.later hb)) hb).mono ?_
  rintro e w' ⟨rfl, hb⟩
  go_wp2_with (go_at_call 31; refine (carry (rParse_lit s (by omega) V E hV.out.1 hV.out.2 _) hb).mono ?_; rintro e w' ⟨rfl, hb⟩)
  refine (carry (Parse_lit F hFs L 0 hL.out.1 hL.out.2 _ (HT.out.later hb)) hb).mono ?_
  rintro e w' ⟨rfl, hb⟩
  go_wp2_with fail
  go_ret
  exact ⟨rfl, hb⟩
theorem walk_Texts (u : Int) (s : ByteArray) (hm : s.size ≤ 9223372036854775807) (w : World) (ht : Tabs w) :
    Calls Tryd.prog 10 #[.int .i64 u, .string s] w fun e w' => e = .returned (.bool true) ∧ Below w.heap.size w w' := by
  by_cases hs : 40 < s.size
  · exact walk_Texts_big u s hs hm w
  by_cases hu : 1 ≤ u ∧ u ≤ 68719476736
  · have hd := Pm.dec_le u hu.1
    have hL := Pm.text_par (Pm.dec u) hd
    rw [← fmtS_list] at hL
    exact walk_Texts_yes u _ _ _ s _ hu.1 hu.2 (Lib.hid rfl) (fmt_size _ hd) (by omega) (Lib.hid ⟨rfl, rfl⟩) (Lib.hid hL) (Pm.dec_low u hu.1) w ht
  · exact walk_Texts_no u _ _ s (Lib.hid hu) (by omega) (Lib.hid ⟨rfl, rfl⟩) w ht

theorem gTab : Tryd.prog.globalNamed "internal/strconv.uint64pow10" = some 2 := by kernel_rfl
theorem gTabType : (Tryd.prog.globals[2]?).map (·.type) = some 97 := by kernel_rfl
theorem gErr : Tryd.prog.globalNamed "strconv.ErrRange" = some 1 := by kernel_rfl
theorem gErrType : (Tryd.prog.globals[1]?).map (·.type) = some 58 := by kernel_rfl
theorem cells84 : Tryd.prog.cellsOf 84 = 1 := by kernel_rfl
theorem cells97 : Tryd.prog.cellsOf 97 = 20 := by kernel_rfl
theorem cells113 : Tryd.prog.cellsOf 113 = 1 := by kernel_rfl
theorem cells9 : Tryd.prog.cellsOf 9 = 1 := by kernel_rfl
theorem star : "*" ++ "errors.errorString" = "*errors.errorString" := by decide
theorem row111 (u : TypeId) (h : Tryd.prog.typeName? 3 u = some "*errors.errorString") : u = 111 :=
  typeName_ptr_named (nm := "errors.errorString") (by rw [star]; kernel_rfl) (by kernel_rfl) (by decide) u (by rw [star]; exact h)
theorem tabs_of {W : World} (hL : laidMetH Tryd.prog Rows.powerTextsRow.laid W) : Tabs W := by
  rw [MakeChecks.laidMetH_plain _ _ _ (by kernel_rfl)] at hL
  have h2 : laidMet Tryd.prog (("internal/strconv.uint64pow10", Lib.tabData .u64 Lib.pow10Tab) :: _) W := hL.tail.tail
  have h4 := hL.tail.tail.tail.tail
  have ht := Lib.tabIs_of_head gTab gTabType Tryd.underlying97 Tryd.underlying84 cells84 cells97 h2
  obtain ⟨a, s, hv, _⟩ := laid_sentinel h4 gErr gErrType Tryd.underlying58 row111 Tryd.underlying111 Tryd.underlying113 rfl rfl Tryd.underlying9 cells113 cells9
  exact ⟨fun w' hb => Joins.tab_stays gTab ht hb (Nat.le_refl _), fun w' hb => ⟨_, _, Joins.var_stays gErr hv hb (Nat.le_refl _)⟩⟩
end Go.Proofs.YticgdbokflbjaaaDoor
