/-
  A ROW's LAST STEP where the call only made memory: all that lay before stands. And a schedule that came in, opened.
-/
import Derived.Below
import Derived.ChangeSame
import Derived.Carry
import Derived.WideKeyArgs
import Derived.OpenShut
import Derived.ProofKit
import Derived.Lib.SmallJoins
import Derived.Lib.LaidTab
import Derived.Stop.LaidErr
import Derived.HandedShaped
import Derived.MakeChecks
import Derived.LaidMore
import Derived.Deep.Slices
import Derived.Deep.Fields
import Derived.Test.YtnddjcadkbjjhaaGreatDoorRows
import Derived.Test.YtnddjcadkbjjhaaGreatDoorK
namespace Go.Proofs.YtnddjcadkbjjhaaGreatDoor
open Go.RowKit Go.WideShapes Go.ChangeShapes
section
variable {H : Type} {enc : TypeId × Value → H} {P : Program}
theorem post_of_below {f : Func} {s : ChangeSpec} {apart fresh handsOn again : Bool} {W W' : World} {args : Array Value} {v : Value} {ds gs : List (DataW H)} {before pa pv : List MemPlace}
    (hW : DataW.Whole enc P f.params.toList s.vars apart W args.toList ds gs before)
    (hres : ∀ (b : Nat) (sp : Nat → Bool) (hd : Bool), DataW.TrodAll enc P W' b sp hd f.resultTypes.toList (v.resultList f.resultTypes.size) (s.fn H (ds ++ gs)).results [])
    (hargs : ∀ sp : Nat → Bool, (∀ p ∈ before, sp p.block = true) → DataW.TrodAll enc P W' 0 sp true f.params.toList args.toList (s.fn H (ds ++ gs)).args pa)
    (hvars : ∀ sp : Nat → Bool, (∀ p ∈ before, sp p.block = true) → DataW.TrodVars enc P W' sp s.vars (s.fn H (ds ++ gs)).vars pv)
    (hps : before = pa ++ pv) (hb : Below W.heap.size W W')
    (hok : ∀ (j : Nat) (t : TypeId) (r : Value), f.resultTypes[j]? = some t → (v.resultList f.resultTypes.size)[j]? = some r → Value.okWide P W' .any 0 t r) :
    s.post enc P f apart fresh handsOn again W args v W' := by
  have hlt : ∀ p ∈ before, p.block < W.heap.size := fun p hp => hW.lt p hp
  have hold : ∀ p ∈ before, (fun b => decide (b < W.heap.size)) p.block = true := fun p hp => by simpa using hlt p hp
  refine ⟨ds, gs, before, [], pa, pv, hW, hres _ _ _, hargs _ hold, hvars _ hold, World.keptBut_mono (fun p hp => ⟨hp, ?_⟩) (hb.frame (· ∈ before)), fun _ => ?_⟩
  · rw [hps, List.mem_append] at hp
    exact Or.inr hp
  · obtain ⟨_, _, _, _, _, hz, hn⟩ := hW
    refine ⟨hok, _, _, ([] ++ pa) ++ pv, ⟨[] ++ pa, pv, trodAll_append (hargs _ (fun _ _ => rfl)) (hres _ _ _), hvars _ (fun _ _ => rfl), rfl, ?_, ?_⟩, ?_⟩
    · intro b off hp
      have hin : MemPlace.cell b off ∈ before := by rw [hps]; simpa using hp
      rw [hb.frozen (hlt _ hin)]
      exact hz b off hin
    · intro ha
      have := hn ha
      rw [hps] at this
      simpa using this
    · intro p hp _
      rw [hps]
      simpa using hp
end
section
variable {H : Type} {enc : TypeId × Value → H} {P : Program}
/-- All arguments read behind the call as they did before, where all that lay before stands. -/
theorem trodAll_below (hl : laidOutB P = true) {W W' : World} (hb : Below W.heap.size W W') {sp : Nat → Bool} :
    ∀ (ts : List TypeId) (vs : List Value) (ds : List (DataW H)) (ps : List MemPlace), (∀ t ∈ ts, P.readableRec t = true ∧ t < P.types.size) →
      DataW.TrodAll enc P W 0 (fun _ => true) true ts vs ds ps → (∀ x ∈ ps, x.block < W.heap.size) → (∀ x ∈ ps, sp x.block = true) → DataW.TrodAll enc P W' 0 sp true ts vs ds ps
  | [], [], [], _, _, h, _, _ => h
  | t :: ts, v :: vs, d :: ds, ps, hts, h, hlt, hs => by
    obtain ⟨p, q, h1, h2, rfl⟩ := h
    have ht := hts t List.mem_cons_self
    exact ⟨p, q, WideElems.Trod_stays hl ht.1 ht.2 h1 (fun x hx => hb.same (hlt x (List.mem_append_left _ hx))) (fun x hx => hs x (List.mem_append_left _ hx)),
      trodAll_below hl hb ts vs ds q (fun t' ht' => hts t' (List.mem_cons_of_mem _ ht')) h2 (fun x hx => hlt x (List.mem_append_right _ hx)) (fun x hx => hs x (List.mem_append_right _ hx)), rfl⟩
  | [], _ :: _, _, _, _, h, _, _ => by simp [DataW.TrodAll] at h
  | [], [], _ :: _, _, _, h, _, _ => by simp [DataW.TrodAll] at h
  | _ :: _, [], _, _, _, h, _, _ => by simp [DataW.TrodAll] at h
  | _ :: _, _ :: _, [], _, _, h, _, _ => by simp [DataW.TrodAll] at h
/-- A field or an element that is an int. -/
theorem field_int {w : World} {base : Nat} {spare : Nat → Bool} {held : Bool} {fuel : Nat} {t : TypeId} {v : Value} {y : DataW H × List MemPlace} (ht : P.underlying t = some (.int .i64)) (h : DataW.trod enc P w base spare held fuel t [v] = some y) :
    ∃ x, v = .int .i64 x ∧ y = (.lit (.int .i64 x), []) ∧ (Lit.int .i64 x).wf = true := by
  obtain ⟨a, e0, hy, wa⟩ := DataW.trod_int ht h
  simp at e0
  exact ⟨a, e0, hy, wa⟩
end
section
variable {H : Type} {enc : TypeId × Value → H} {P : Program} {w : World} {base : Nat} {spare : Nat → Bool} {held : Bool}
open Go.Deep Go.Joins
theorem open_slice_fields {t e : TypeId} {fs : Array Field} {fuel : Nat} {cs : List Value} {x : DataW H × List MemPlace} (ht : P.underlying t = some (.slice e)) (he : P.underlying e = some (.struct fs))
    (hone : oneCellFields P fs = true) (hC : P.cellsOf e = fs.size) (h : DataW.trod enc P w base spare held fuel t cs = some x) :
    (cs = [.slice none 0 0] ∧ x = (.nil, [])) ∨
    ∃ (a : Addr) (len cap m : Nat) (D : Nat → DataW H) (Pl : Nat → List MemPlace), cs = [.slice (some a) len cap] ∧ base ≤ a.block ∧ len ≤ cap ∧ cap ≤ maxLen ∧ m = (if spare a.block then cap else len) ∧
      x = (.slice ((List.range len).map D) ((List.range (m - len)).map fun j => D (len + j)), MemPlace.row a (m * fs.size) ++ (List.range m).flatMap Pl) ∧
      ∀ i, i < m → ∃ (ys : List (DataW H × List MemPlace)) (n : Nat), D i = .agg (ys.map (·.1)) ∧ Pl i = ys.flatMap (·.2) ∧ ys.length = fs.size ∧
        ∀ (j : Nat) (f : Field), fs[j]? = some f → ∃ (v : Value) (y : DataW H × List MemPlace), w.cell? (a.add (i * fs.size + j)) = some v ∧ ys[j]? = some y ∧ DataW.trod enc P w base spare held n f.type [v] = some y := by
  rcases open_slice ht h with h0 | ⟨a, len, cap, m, n, D, Pl, hcs, hb, hl, hm, hmm, hx, hi⟩
  · exact .inl h0
  · refine .inr ⟨a, len, cap, m, D, Pl, hcs, hb, hl, hm, hmm, by rw [hC] at hx; exact hx, fun i him => ?_⟩
    obtain ⟨cs', hc, ht'⟩ := hi i him
    rw [hC] at hc
    obtain ⟨ys, n', hn', hy, hlen, hyl, hf⟩ := DataW.trod_struct he ht'
    obtain ⟨_, hcl, hat⟩ := World.cells?_some hc
    simp only [Prod.mk.injEq] at hy
    refine ⟨ys, n', hy.1, hy.2, hyl, fun j f hj => ?_⟩
    obtain ⟨ho, hk⟩ := hone_of hone j f hj
    have hjl : j < fs.size := (Array.getElem?_eq_some_iff.1 hj).1
    have hcell := hat j hjl
    have hv : cs'[j]? = some (cs'[j]'(by omega)) := List.getElem?_eq_getElem (by omega)
    have h1 := hf j f hj
    rw [ho, hk] at h1
    have hone' : (cs'.drop j).take 1 = [cs'[j]'(by omega)] := by
      rw [List.drop_eq_getElem_cons (by omega)]
      rfl
    rw [hone'] at h1
    have hys : ys[j]? = some (ys[j]'(by omega)) := List.getElem?_eq_getElem (by omega)
    refine ⟨_, _, ?_, hys, h1.trans hys⟩
    rw [← Go.Deep.add_add, hcell, hv]
end
/-- An int of the program's. -/
def inI (x : Int) : Prop := -9223372036854775808 ≤ x ∧ x ≤ 9223372036854775807
theorem inI_of {x : Int} (h : (Lit.int .i64 x).wf = true) : inI x := by
  simp [Lit.wf, IntKind.min, IntKind.max, IntKind.signed, IntKind.bits] at h
  unfold inI
  omega
theorem list_of {α : Type} {P : Nat → α → Prop} : ∀ n, (∀ i, i < n → ∃ z, P i z) → ∃ l : List α, l.length = n ∧ ∀ i z, l[i]? = some z → P i z
  | 0, _ => ⟨[], rfl, fun i z h => by simp at h⟩
  | n + 1, h => by
    obtain ⟨l, hl, hp⟩ := list_of n (fun i hi => h i (by omega))
    obtain ⟨z, hz⟩ := h n (by omega)
    refine ⟨l ++ [z], by simp [hl], fun i y hy => ?_⟩
    by_cases hi : i < l.length
    · rw [List.getElem?_append_left hi] at hy
      exact hp i y hy
    · rw [List.getElem?_append_right (by omega)] at hy
      have hi' : i = n := by
        have := (List.getElem?_eq_some_iff.1 hy).1
        simp at this; omega
      subst hi'
      rw [hl, Nat.sub_self] at hy
      simp at hy
      subst hy
      exact hz
/-- A cell's five numbers are ints. -/
def wfC (z : C5) : Prop := inI z.s ∧ inI z.o ∧ inI z.f ∧ inI z.t ∧ inI z.w
section
variable {H : Type} {enc : TypeId × Value → H} {w : World} {base : Nat} {spare : Nat → Bool} {held : Bool}
open Go.Deep Go.Joins
theorem open_cells {fuel : Nat} {v : Value} {x : DataW H × List MemPlace} (h : DataW.trod enc Tryz.prog w base spare held fuel 28 [v] = some x) :
    ∃ A n c cs, v = .slice A n c ∧ n ≤ c ∧ c ≤ maxLen ∧ Cells w w.heap.size A n cs ∧ ∀ (j : Nat) z, cs[j]? = some z → wfC z := by
  rcases open_slice_fields Tryz.underlying28 Tryz.underlying51 (by kernel_rfl) (by kernel_rfl) h with ⟨hcs, _⟩ | ⟨a, len, cap, m, D, Pl, hcs, _, hl, hm, hmm, _, hi⟩
  · simp at hcs
    exact ⟨none, 0, 0, [], hcs, Nat.le_refl _, Nat.zero_le _, ⟨rfl, fun h => absurd h (by omega)⟩, by simp⟩
  · simp at hcs
    have hz : ∀ i, i < len → ∃ z : C5, (w.cell? (a.add (i * 5)) = some (.int .i64 z.s) ∧ w.cell? (a.add (i * 5 + 1)) = some (.int .i64 z.o) ∧ w.cell? (a.add (i * 5 + 2)) = some (.int .i64 z.f) ∧ w.cell? (a.add (i * 5 + 3)) = some (.int .i64 z.t) ∧ w.cell? (a.add (i * 5 + 4)) = some (.int .i64 z.w)) ∧ wfC z := by
      intro i hil
      obtain ⟨ys, k, _, _, _, hf⟩ := hi i (by rw [hmm]; split <;> omega)
      obtain ⟨v0, y0, c0, _, t0⟩ := hf 0 _ rfl
      obtain ⟨v1, y1, c1, _, t1⟩ := hf 1 _ rfl
      obtain ⟨v2, y2, c2, _, t2⟩ := hf 2 _ rfl
      obtain ⟨v3, y3, c3, _, t3⟩ := hf 3 _ rfl
      obtain ⟨v4, y4, c4, _, t4⟩ := hf 4 _ rfl
      obtain ⟨x0, rfl, _, w0⟩ := field_int Tryz.underlying3 t0
      obtain ⟨x1, rfl, _, w1⟩ := field_int Tryz.underlying3 t1
      obtain ⟨x2, rfl, _, w2⟩ := field_int Tryz.underlying3 t2
      obtain ⟨x3, rfl, _, w3⟩ := field_int Tryz.underlying3 t3
      obtain ⟨x4, rfl, _, w4⟩ := field_int Tryz.underlying3 t4
      exact ⟨⟨x0, x1, x2, x3, x4⟩, ⟨c0, c1, c2, c3, c4⟩, inI_of w0, inI_of w1, inI_of w2, inI_of w3, inI_of w4⟩
    obtain ⟨cs, hlen, hp⟩ := list_of len hz
    refine ⟨some a, len, cap, cs, hcs, hl, hm, ⟨hlen, fun hn => ?_⟩, fun j z h => (hp j z h).2⟩
    obtain ⟨z, hz0⟩ := hz 0 hn
    obtain ⟨b, off, spot⟩ := a
    have hspot : spot = none := by simpa [Addr.add] using World.cell?_spot hz0.1.1
    subst hspot
    refine ⟨b, off, rfl, World.block_lt_of_cell? _ _ hz0.1.1, fun j c hj => ?_⟩
    have := (hp j c hj).1
    simpa only [Go.WideShapes.add_plain, Nat.add_assoc] using this
set_option maxRecDepth 100000 in
/-- A schedule that came in. -/
theorem open_sched {r : Reach} {b0 : Nat} {v : Value} {d : DataW H} {p : List MemPlace} (hv : Value.okWide Tryz.prog w r b0 30 v) (h : DataW.Trod enc Tryz.prog w base spare held 30 v d p) :
    ∃ L O A n c cs, v = .agg #[.int .i64 L, .int .i64 O, .slice A n c] ∧ inI L ∧ inI O ∧ n ≤ c ∧ c ≤ maxLen ∧ Cells w w.heap.size A n cs ∧ ∀ (j : Nat) z, cs[j]? = some z → wfC z := by
  obtain ⟨v0, v1, v2, y0, y1, y2, k, rfl, _, _, t0, t1, t2⟩ := open_agg3 Tryz.underlying30 (by kernel_rfl) (by kernel_rfl) hv h
  obtain ⟨L, rfl, _, w0⟩ := field_int Tryz.underlying3 t0
  obtain ⟨O, rfl, _, w1⟩ := field_int Tryz.underlying3 t1
  obtain ⟨A, n, c, cs, rfl, h1, h2, h3, h4⟩ := open_cells t2
  exact ⟨L, O, A, n, c, cs, rfl, inI_of w0, inI_of w1, h1, h2, h3, h4⟩
end

theorem gTab : Tryz.prog.globalNamed "internal/strconv.uint64pow10" = some 3 := by kernel_rfl
theorem gTabType : (Tryz.prog.globals[3]?).map (·.type) = some 175 := by kernel_rfl
theorem gErr : Tryz.prog.globalNamed "strconv.ErrRange" = some 2 := by kernel_rfl
theorem gErrType : (Tryz.prog.globals[2]?).map (·.type) = some 85 := by kernel_rfl
theorem gSyn : Tryz.prog.globalNamed "strconv.ErrSyntax" = some 1 := by kernel_rfl
theorem gSynType : (Tryz.prog.globals[1]?).map (·.type) = some 85 := by kernel_rfl
theorem cells162 : Tryz.prog.cellsOf 162 = 1 := by kernel_rfl
theorem cells175 : Tryz.prog.cellsOf 175 = 20 := by kernel_rfl
theorem cells189 : Tryz.prog.cellsOf 189 = 1 := by kernel_rfl
theorem cells9 : Tryz.prog.cellsOf 9 = 1 := by kernel_rfl
theorem star : "*" ++ "errors.errorString" = "*errors.errorString" := by decide
theorem row187 (u : TypeId) (h : Tryz.prog.typeName? 3 u = some "*errors.errorString") : u = 187 :=
  typeName_ptr_named (nm := "errors.errorString") (by rw [star]; kernel_rfl) (by kernel_rfl) (by decide) u (by rw [star]; exact h)
theorem tabs_of {W : World} (hsh : W.ShapedOpen Tryz.prog) (hL : laidMetH Tryz.prog Rows.scheduleRepeatsRow.laid W) : Tabs W := by
  rw [MakeChecks.laidMetH_plain _ _ _ (by kernel_rfl)] at hL
  have h2 : laidMet Tryz.prog (("internal/strconv.uint64pow10", Lib.tabData .u64 Lib.pow10Tab) :: _) W := hL.tail.tail
  have h4 := hL.tail.tail.tail.tail
  have h5 := h4.tail
  have ht := Lib.tabIs_of_head gTab gTabType Tryz.underlying175 Tryz.underlying162 cells162 cells175 h2
  obtain ⟨a, s, hv, _⟩ := laid_sentinel h4 gErr gErrType Tryz.underlying85 row187 Tryz.underlying187 Tryz.underlying189 rfl rfl Tryz.underlying9 cells189 cells9
  obtain ⟨a', s', hv', _⟩ := laid_sentinel h5 gSyn gSynType Tryz.underlying85 row187 Tryz.underlying187 Tryz.underlying189 rfl rfl Tryz.underlying9 cells189 cells9
  obtain ⟨m, hm⟩ := Tryz.laysM146.s1_3 W hsh
  exact fun w' hb => ⟨Joins.tab_stays gTab ht hb (Nat.le_refl _), ⟨_, _, Joins.var_stays gSyn hv' hb (Nat.le_refl _)⟩, ⟨_, _, Joins.var_stays gErr hv hb (Nat.le_refl _)⟩,
    m, (hb.cell (World.block_lt_of_cell? _ _ hm)).trans hm⟩
theorem returnsInHanded_shaped_and {H : Type} {enc : TypeId × Value → H} {a : Assume} {C : Checked} {os : Os} {f : FuncId} {fn : Func} {s : ChangeSpec} {conds : List PathCond} {apart fresh handsOn again : Bool} {X : World → Array Value → Prop}
    (hX : ∀ (w w' : World) (args : Array Value), w.heap = w'.heap → X w args → X w' args)
    (own : ownKnob C.prog.godebug = none) (started : os.Started) (noInit : C.prog.inits.idxOf? f = none) (hfn : C.prog.funcs[f]? = some fn)
    (witness : ∃ (w : World) (tape : Tape) (i : Input), w.os = os ∧ (w.forCall tape i).Shaped C.prog ∧ i.vars = [] ∧ Input.okWide C.prog (w.forCall tape i) .any w.heap.size f i ∧
      ((s.pre enc C.prog fn conds apart (w.forCall tape i).memory i.args ∧ X (w.forCall tape i).memory i.args) ∧ sizedMet enc C.prog fn (OpenSpec.ofChange s) apart (w.forCall tape i).memory i.args) ∧ a.holds C.prog (lone (Frame.enter C.prog f i.args .normal) [] (w.forCall tape i)))
    (contract : ∀ (W : World) (base : Nat) (args : Array Value) (ds gs : List (DataW H)) (before : List MemPlace),
      (∀ (j : Nat) t v, fn.params[j]? = some t → args[j]? = some v → Value.okWide C.prog W .any base t v) →
      DataW.Whole enc C.prog fn.params.toList s.vars apart W args.toList ds gs before → X W args → W.ShapedOpen C.prog →
      Calls C.prog f args W fun e W' => ∃ v, e = .returned v ∧ s.post enc C.prog fn apart fresh handsOn again W args v W') :
    ReturnsInHanded a C os f .any (fun w args => (s.pre enc C.prog fn conds apart w args ∧ X w args) ∧ sizedMet enc C.prog fn (OpenSpec.ofChange s) apart w args) (s.post enc C.prog fn apart fresh handsOn again) := by
  refine returnsInHanded_of_calls own started noInit witness ?_
  intro w tape i _ hsh _ hok hpre _
  obtain ⟨_, _, _, fn', hfn', _, _, _, _, hval⟩ := hok
  have e : fn' = fn := Option.some.inj (hfn'.symm.trans hfn)
  subst e
  obtain ⟨⟨⟨ds, gs, before, hw, hc⟩, hx⟩, hz⟩ := hpre
  have hw' := DataW.Whole.of_heap (w' := w.forCall tape i) (by rfl) hw
  refine (contract (w.forCall tape i) w.heap.size i.args ds gs before hval hw' (hX _ _ _ (by rfl) hx) hsh).mono fun e W' ⟨v, he, hp⟩ => ?_
  subst he
  exact ChangeSpec.post_blind hp
end Go.Proofs.YtnddjcadkbjjhaaGreatDoor
