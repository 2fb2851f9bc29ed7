/-
  CHAPTER 35: form.
-/
import Derived.Test.YtnddjcadkbjjhaaGreatDoorC
namespace Go.Proofs.YtnddjcadkbjjhaaGreatDoor
open Go.RowKit

/-- A slice value that reads as a list of cells. -/
def Cells (w : World) (B : Nat) (A : Option Addr) (n : Nat) (cs : List C5) : Prop :=
  cs.length = n ∧ (0 < n → ∃ b off, A = some ⟨b, off, none⟩ ∧ b < B ∧ ∀ j c, cs[j]? = some c →
    w.cell? ⟨b, off + j * 5, none⟩ = some (.int .i64 c.s) ∧ w.cell? ⟨b, off + j * 5 + 1, none⟩ = some (.int .i64 c.o) ∧ w.cell? ⟨b, off + j * 5 + 2, none⟩ = some (.int .i64 c.f) ∧ w.cell? ⟨b, off + j * 5 + 3, none⟩ = some (.int .i64 c.t) ∧ w.cell? ⟨b, off + j * 5 + 4, none⟩ = some (.int .i64 c.w))
section
variable {w w' : World} {B B' n : Nat} {A : Option Addr} {cs : List C5}
theorem Cells.at_ {k : Nat} (h : Cells w B A n cs) (hk : k < n) : ∃ b off c, A = some ⟨b, off, none⟩ ∧ b < B ∧ cs[k]? = some c ∧
    w.cell? ⟨b, off + k * 5, none⟩ = some (.int .i64 c.s) ∧ w.cell? ⟨b, off + k * 5 + 1, none⟩ = some (.int .i64 c.o) ∧ w.cell? ⟨b, off + k * 5 + 2, none⟩ = some (.int .i64 c.f) ∧ w.cell? ⟨b, off + k * 5 + 3, none⟩ = some (.int .i64 c.t) ∧ w.cell? ⟨b, off + k * 5 + 4, none⟩ = some (.int .i64 c.w) := by
  obtain ⟨b, off, e, hb, hc⟩ := h.2 (by omega)
  have hl : k < cs.length := by have := h.1; omega
  exact ⟨b, off, cs[k], e, hb, List.getElem?_eq_getElem hl, hc k _ (List.getElem?_eq_getElem hl)⟩
theorem Cells.keep (h : Cells w B A n cs) (hk : ∀ p : Addr, p.block < B → w'.cell? p = w.cell? p) : Cells w' B A n cs :=
  ⟨h.1, fun hn => by
    obtain ⟨b, off, e, hb, hc⟩ := h.2 hn
    refine ⟨b, off, e, hb, fun j u hu => ?_⟩
    obtain ⟨h0, h1, h2, h3, h4⟩ := hc j u hu
    exact ⟨(hk ⟨b, _, none⟩ hb).trans h0, (hk ⟨b, _, none⟩ hb).trans h1, (hk ⟨b, _, none⟩ hb).trans h2, (hk ⟨b, _, none⟩ hb).trans h3, (hk ⟨b, _, none⟩ hb).trans h4⟩⟩
theorem Cells.below (h : Cells w B A n cs) (hb : Below B w w') : Cells w' B A n cs := h.keep fun _ hp => hb.cell hp
theorem Cells.more (h : Cells w B A n cs) (hB : B ≤ B') : Cells w B' A n cs :=
  ⟨h.1, fun hn => by
    obtain ⟨b, off, e, hb, hc⟩ := h.2 hn
    exact ⟨b, off, e, by omega, hc⟩⟩
end

def chainB (L O : Int) : Option C5 → List C5 → Bool
  | _, [] => true
  | p, c :: l => formedB L O c && (match p with | none => true | some q => decide (cmpC q c < 0)) && chainB L O (some c) l
def formB (L O : Int) (cs : List C5) : Bool := sizedB L O && decide (cs.length ≤ 512) && chainB L O none cs
def prevAt (cs : List C5) : Nat → Option C5
  | 0 => none
  | k + 1 => cs[k]?
theorem chain_drop (L O : Int) (cs : List C5) (k : Nat) (c : C5) (hc : cs[k]? = some c) :
    chainB L O (prevAt cs k) (cs.drop k) = (formedB L O c && (match prevAt cs k with | none => true | some q => decide (cmpC q c < 0)) && chainB L O (prevAt cs (k + 1)) (cs.drop (k + 1))) := by
  obtain ⟨h1, e1⟩ := List.getElem?_eq_some_iff.1 hc
  rw [List.drop_eq_getElem_cons h1, e1]
  show _ = (_ && _ && chainB L O (cs[k]?) _)
  rw [hc]; rfl
theorem chain_end (L O : Int) (cs : List C5) (k : Nat) (h : cs.length ≤ k) : chainB L O (prevAt cs k) (cs.drop k) = true := by
  rw [List.drop_eq_nil_of_le h]; rfl

/-- A boxed schedule. -/
def BoxS (w : World) (b : Nat) (L O : Int) (V : Value) : Prop :=
  w.cell? ⟨b, 0, none⟩ = some (.int .i64 L) ∧ w.cell? ⟨b, 1, none⟩ = some (.int .i64 O) ∧ w.cell? ⟨b, 2, none⟩ = some V
theorem BoxS.below {w w' : World} {b B : Nat} {L O : Int} {V : Value} (h : BoxS w b L O V) (hb : Below B w w') (hB : b < B) : BoxS w' b L O V := by
  obtain ⟨h0, h1, h2⟩ := h
  exact ⟨(hb.cell (p := ⟨b, 0, none⟩) hB).trans h0, (hb.cell (p := ⟨b, 1, none⟩) hB).trans h1, (hb.cell (p := ⟨b, 2, none⟩) hB).trans h2⟩
theorem BoxS.new (L O : Int) (V : Value) (T : TypeId) (w : World) : BoxS (w.alloc (.cells #[.int .i64 L, .int .i64 O, V] T)) w.heap.size L O V := by
  refine ⟨?_, ?_, ?_⟩ <;> simp [go_sem]

theorem keep8 {W5 W : World} {d g : Nat} {L O : Int} {V : Value} {x : C5} (hB : Hid (BoxS W5 d L O V)) (hX : Hid (Box5 W5 g x)) (hd : d < W5.heap.size) (hg : g < W5.heap.size) (h : Below W5.heap.size W5 W) :
    W.cell? ⟨d, 0, none⟩ = some (.int .i64 L) ∧ W.cell? ⟨d, 1, none⟩ = some (.int .i64 O) ∧ W.cell? ⟨d, 2, none⟩ = some V ∧
    W.cell? ⟨g, 0, none⟩ = some (.int .i64 x.s) ∧ W.cell? ⟨g, 1, none⟩ = some (.int .i64 x.o) ∧ W.cell? ⟨g, 2, none⟩ = some (.int .i64 x.f) ∧ W.cell? ⟨g, 3, none⟩ = some (.int .i64 x.t) ∧ W.cell? ⟨g, 4, none⟩ = some (.int .i64 x.w) := by
  obtain ⟨a0, a1, a2⟩ := hB.out.below h hd
  obtain ⟨b0, b1, b2, b3, b4⟩ := hX.out.below h hg
  exact ⟨a0, a1, a2, b0, b1, b2, b3, b4⟩
def Row5 (w : World) (b o : Nat) (c : C5) : Prop :=
  w.cell? ⟨b, o, none⟩ = some (.int .i64 c.s) ∧ w.cell? ⟨b, o + 1, none⟩ = some (.int .i64 c.o) ∧ w.cell? ⟨b, o + 2, none⟩ = some (.int .i64 c.f) ∧ w.cell? ⟨b, o + 3, none⟩ = some (.int .i64 c.t) ∧ w.cell? ⟨b, o + 4, none⟩ = some (.int .i64 c.w)
theorem Row5.below {w w' : World} {b o B : Nat} {c : C5} (h : Row5 w b o c) (hb : Below B w w') (hB : b < B) : Row5 w' b o c := by
  obtain ⟨h0, h1, h2, h3, h4⟩ := h
  exact ⟨(hb.cell (p := ⟨b, _, none⟩) hB).trans h0, (hb.cell (p := ⟨b, _, none⟩) hB).trans h1, (hb.cell (p := ⟨b, _, none⟩) hB).trans h2, (hb.cell (p := ⟨b, _, none⟩) hB).trans h3, (hb.cell (p := ⟨b, _, none⟩) hB).trans h4⟩
theorem keep13 {W5 W : World} {d g b o : Nat} {L O : Int} {V : Value} {x q : C5} (hB : Hid (BoxS W5 d L O V)) (hX : Hid (Box5 W5 g x)) (hQ : Hid (Row5 W5 b o q)) (hd : d < W5.heap.size) (hg : g < W5.heap.size) (hb : b < W5.heap.size) (h : Below W5.heap.size W5 W) :
    W.cell? ⟨d, 0, none⟩ = some (.int .i64 L) ∧ W.cell? ⟨d, 1, none⟩ = some (.int .i64 O) ∧ W.cell? ⟨d, 2, none⟩ = some V ∧
    W.cell? ⟨g, 0, none⟩ = some (.int .i64 x.s) ∧ W.cell? ⟨g, 1, none⟩ = some (.int .i64 x.o) ∧ W.cell? ⟨g, 2, none⟩ = some (.int .i64 x.f) ∧ W.cell? ⟨g, 3, none⟩ = some (.int .i64 x.t) ∧ W.cell? ⟨g, 4, none⟩ = some (.int .i64 x.w) ∧
    W.cell? ⟨b, o, none⟩ = some (.int .i64 q.s) ∧ W.cell? ⟨b, o + 1, none⟩ = some (.int .i64 q.o) ∧ W.cell? ⟨b, o + 2, none⟩ = some (.int .i64 q.f) ∧ W.cell? ⟨b, o + 3, none⟩ = some (.int .i64 q.t) ∧ W.cell? ⟨b, o + 4, none⟩ = some (.int .i64 q.w) := by
  obtain ⟨a0, a1, a2⟩ := hB.out.below h hd
  obtain ⟨b0, b1, b2, b3, b4⟩ := hX.out.below h hg
  obtain ⟨d0, d1, d2, d3, d4⟩ := hQ.out.below h hb
  exact ⟨a0, a1, a2, b0, b1, b2, b3, b4, d0, d1, d2, d3, d4⟩
abbrev N30 (L O : Int) (V : Value) : Obj := .cells #[.int .i64 L, .int .i64 O, V] 30
set_option maxHeartbeats 1600000 in
/-- sized is false, or there are too many cells. -/
theorem form_small (L O : Int) (A : Option Addr) (n c : Nat) (hn : n ≤ 1000000) (b : Bool) (hs : Hid (sizedB L O = b)) (h : Hid (b = false) ∨ 512 < n) (w : World) :
    Calls Tryz.prog 53 #[.agg #[.int .i64 L, .int .i64 O, .slice A n c]] w fun e w' => e = .returned (.bool false) ∧ Below w.heap.size w w' := by
  have hb0 : Below w.heap.size w (w.alloc (N30 L O (.slice A n c))) := (Below.refl _ _).alloc (Nat.le_refl _) _
  have hB0 := Lib.hid (BoxS.new L O (.slice A n c) 30 w)
  cases b
  · clear h
    go_enter Tryz.func53, Tryz.ntmps53
    go_wp2_with (first | (go_at_call 40; refine (carry (sized_lit L O _ false hs.out _) hb0).mono ?_; rintro e w1 ⟨rfl, hb1⟩))
    go_ret
    exact ⟨rfl, hb1⟩
  · have hgt : 512 < n := h.resolve_left (fun h => absurd h.out (by simp))
    clear h
    go_enter Tryz.func53, Tryz.ntmps53
    go_wp2_with (first | (go_at_call 40; refine (sized_lit L O _ true hs.out _).mono ?_; rintro e w1 ⟨rfl, hb1⟩; obtain ⟨c0, c1, c2⟩ := hB0.out.below hb1 (by simp)))
    go_ret
    exact ⟨rfl, bstep hb0 hb1 (Nat.le_refl _)⟩
set_option maxHeartbeats 4000000 in
set_option maxRecDepth 100000 in
theorem form_loop (L O : Int) (A : Option Addr) (n c : Nat) (cs : List C5) (hn : n ≤ 512) (r : Bool) (hs : Hid (sizedB L O = true)) (hr : Hid (chainB L O none cs = r)) (w : World) (hcs : Hid (Cells w w.heap.size A n cs)) :
    Calls Tryz.prog 53 #[.agg #[.int .i64 L, .int .i64 O, .slice A n c]] w fun e w' => e = .returned (.bool r) ∧ Below w.heap.size w w' := by
  have hb0 : Below w.heap.size w (w.alloc (N30 L O (.slice A n c))) := (Below.refl _ _).alloc (Nat.le_refl _) _
  have hB0 := Lib.hid (BoxS.new L O (.slice A n c) 30 w)
  go_enter Tryz.func53, Tryz.ntmps53
  go_wp2_with (first | (go_at_call 40; refine (sized_lit L O _ true hs.out _).mono ?_; rintro e w1 ⟨rfl, hb1⟩; have HB := Lib.hid (hB0.out.below hb1 (by simp)); have HC := Lib.hid ((hcs.out.below (bstep hb0 hb1 (Nat.le_refl _))).more (bstep hb0 hb1 (Nat.le_refl _)).size); have hz : w.heap.size < w1.heap.size := by { have := hb1.size; simp at this; omega }; have hw1 := bstep hb0 hb1 (Nat.le_refl _); clear hB0 hcs hb1 hb0; obtain ⟨c0, c1, c2⟩ := id HB.out))
  clear c0 c1 c2
  go_loopw [17] (fun i wx => ∃ k : Nat, k ≤ n ∧ i = .int .i64 k ∧ Below w1.heap.size w1 wx ∧ Hid (chainB L O (prevAt cs k) (cs.drop k) = r)) (fun i _ => n - (intOf i).toNat)
  case atStart => exact ⟨0, Nat.zero_le _, rfl, Below.refl _ _, hr⟩
  case round =>
    obtain ⟨k, hk, rfl, hwx, H⟩ := hrel
    by_cases hlt : k < n
    · obtain ⟨b, off, x, hA, hbx, ex, x0, x1, x2, x3, x4⟩ := (HC.out.below hwx).at_ hlt
      subst hA
      have hd := Lib.hid (chain_drop L O cs k x ex)
      have hN := (Below.refl wr.heap.size wr).alloc (Nat.le_refl _) (N51 x)
      have hsz : (wr.alloc (N51 x)).heap.size = wr.heap.size + 1 := by simp
      have hw5 : Below w1.heap.size w1 (wr.alloc (N51 x)) := hwx.alloc hwx.size _
      have hB5 := Lib.hid ((HB.out.below hw5 hz))
      have hX5 := Lib.hid (Box5.new x 51 wr)
      have hs1 := hwx.size
      go_upto_region 19 with fail
      clear x0 x1 x2 x3 x4
      revert hB5 hX5 hw5 hsz hN
      generalize wr.alloc (N51 x) = w5
      intro hN hsz hw5 hB5 hX5
      have hdz : w.heap.size < w5.heap.size := by omega
      have hgz : wr.heap.size < w5.heap.size := by omega
      have hbz : b < w5.heap.size := by omega
      have hb5 := Below.refl w5.heap.size w5
      cases hfm : formedB L O x
      · obtain rfl : r = false := by rw [← H.out, hd.out, hfm]; rfl
        have hfm := Lib.hid hfm
        refine wp_region_held_drew (S := (fun w' => w'.cell? ⟨w.heap.size, 0, none⟩ = some (.int .i64 L) ∧ w'.cell? ⟨w.heap.size, 1, none⟩ = some (.int .i64 O) ∧ w'.cell? ⟨w.heap.size, 2, none⟩ = some (.slice (some ⟨b, off, none⟩) n c) ∧ w'.cell? ⟨wr.heap.size, 0, none⟩ = some (.int .i64 x.s) ∧ w'.cell? ⟨wr.heap.size, 1, none⟩ = some (.int .i64 x.o) ∧ w'.cell? ⟨wr.heap.size, 2, none⟩ = some (.int .i64 x.f) ∧ w'.cell? ⟨wr.heap.size, 3, none⟩ = some (.int .i64 x.t) ∧ w'.cell? ⟨wr.heap.size, 4, none⟩ = some (.int .i64 x.w))) (by kernel_rfl) ?_ (fun hHeld => ?_)
        · (refine keep8 hB5 hX5 hdz hgz ?_; (repeat first | assumption | exact Below.refl _ _ | refine Below.drew ?_ | refine ba ?_ _))
        refine wpAnyH_take (i := 0) (oi := ?o1) (v := ?hv1) ?hi1 (by kernel_rfl) (by kernel_rfl) (by kernel_rfl) ?hq1 ?hy1 (by assumption) ?hr1
        case hi1 => (simp only [List.getElem?_toArray, List.getElem?_cons_zero]; rfl)
        case hq1 => exact fun _ _ _ h => h
        case hy1 => exact Or.inl ⟨by rfl, by intro w hSw; (try dsimp only at hSw); go_simp; try with_reducible rfl⟩
        simp only [Act.put, List.setIfInBounds_toArray, List.set_cons_zero, List.set_cons_succ]
        refine wpAnyH_take (i := 1) (oi := ?o2) (v := ?hv2) ?hi2 (by kernel_rfl) (by kernel_rfl) (by kernel_rfl) ?hq2 ?hy2 (by assumption) ?hr2
        case hi2 => (simp only [List.getElem?_toArray, List.getElem?_cons_succ, List.getElem?_cons_zero]; rfl)
        case hq2 => exact fun _ _ _ h => h
        case hy2 => exact Or.inl ⟨by rfl, by intro w hSw; (try dsimp only at hSw); go_simp; try with_reducible rfl⟩
        simp only [Act.put, List.setIfInBounds_toArray, List.set_cons_zero, List.set_cons_succ]
        refine wpAnyH_ready (rs := [2]) (by kernel_rfl) (by simp) ?_
        refine AllReadyH.cons (o := ?o3) ?hi3 (fun K hK => ?hr3) AllReadyH.nil
        case hi3 => (simp only [List.getElem?_toArray, List.getElem?_cons_succ, List.getElem?_cons_zero]; rfl)
        go_simp
        refine (carry (w0 := w5) (formed_lit L O _ x false hfm.out _) ?_).mono ?_
        · (repeat first | assumption | exact Below.refl _ _ | refine Below.drew ?_ | refine ba ?_ _)
        rintro e w6 ⟨rfl, hb6⟩
        go_wp2_with fail
        refine hK.out _ _ ?_ (fun hHeld => ?_)
        · (refine keep8 hB5 hX5 hdz hgz ?_; (repeat first | assumption | exact Below.refl _ _ | refine Below.drew ?_ | refine ba ?_ _))
        clear hK K
        try simp only [Act.put, List.setIfInBounds_toArray, List.set_cons_zero, List.set_cons_succ]
        refine wpAnyH_take (i := 3) (oi := ?o4) (v := ?hv4) ?hi4 (by kernel_rfl) (by kernel_rfl) (by kernel_rfl) ?hq4 ?hy4 (by assumption) ?hr4
        case hi4 => (simp only [List.getElem?_toArray, List.getElem?_cons_succ, List.getElem?_cons_zero]; rfl)
        case hq4 => exact fun _ _ _ h => h
        case hy4 => exact Or.inl ⟨by rfl, by intro w hSw; (try dsimp only at hSw); go_simp; try with_reducible rfl⟩
        simp only [Act.put, List.setIfInBounds_toArray, List.set_cons_zero, List.set_cons_succ]
        refine wpAnyH_take (i := 4) (oi := ?o5) (v := ?hv5) ?hi5 (by kernel_rfl) (by kernel_rfl) (by kernel_rfl) ?hq5 ?hy5 (by assumption) ?hr5
        case hi5 => (simp only [List.getElem?_toArray, List.getElem?_cons_succ, List.getElem?_cons_zero]; rfl)
        case hq5 => exact fun _ _ _ h => h
        case hy5 => exact Or.inl ⟨by rfl, by intro w hSw; (try dsimp only at hSw); go_simp; try with_reducible rfl⟩
        simp only [Act.put, List.setIfInBounds_toArray, List.set_cons_zero, List.set_cons_succ]
        refine wpAnyH_take (i := 5) (oi := ?o6) (v := undef) ?hi6 (by kernel_rfl) (by kernel_rfl) (by kernel_rfl) ?hq6 ?hy6 (by assumption) ?hr6
        case hi6 => (simp only [List.getElem?_toArray, List.getElem?_cons_succ, List.getElem?_cons_zero]; rfl)
        case hq6 => exact fun _ _ _ h => h
        case hy6 => exact Or.inr ⟨by rfl, rfl⟩
        simp only [Act.put, List.setIfInBounds_toArray, List.set_cons_zero, List.set_cons_succ]
        refine wpAnyH_take (i := 6) (oi := ?o7) (v := undef) ?hi7 (by kernel_rfl) (by kernel_rfl) (by kernel_rfl) ?hq7 ?hy7 (by assumption) ?hr7
        case hi7 => (simp only [List.getElem?_toArray, List.getElem?_cons_succ, List.getElem?_cons_zero]; rfl)
        case hq7 => exact fun _ _ _ h => h
        case hy7 => exact Or.inr ⟨by rfl, rfl⟩
        simp only [Act.put, List.setIfInBounds_toArray, List.set_cons_zero, List.set_cons_succ]
        refine wpAnyH_take (i := 7) (oi := ?o8) (v := undef) ?hi8 (by kernel_rfl) (by kernel_rfl) (by kernel_rfl) ?hq8 ?hy8 (by assumption) ?hr8
        case hi8 => (simp only [List.getElem?_toArray, List.getElem?_cons_succ, List.getElem?_cons_zero]; rfl)
        case hq8 => exact fun _ _ _ h => h
        case hy8 => exact Or.inr ⟨by rfl, rfl⟩
        simp only [Act.put, List.setIfInBounds_toArray, List.set_cons_zero, List.set_cons_succ]
        refine wpAnyH_take (i := 8) (oi := ?o9) (v := undef) ?hi9 (by kernel_rfl) (by kernel_rfl) (by kernel_rfl) ?hq9 ?hy9 (by assumption) ?hr9
        case hi9 => (simp only [List.getElem?_toArray, List.getElem?_cons_succ, List.getElem?_cons_zero]; rfl)
        case hq9 => exact fun _ _ _ h => h
        case hy9 => exact Or.inr ⟨by rfl, rfl⟩
        simp only [Act.put, List.setIfInBounds_toArray, List.set_cons_zero, List.set_cons_succ]
        refine wpAnyH_take (i := 9) (oi := ?o10) (v := undef) ?hi10 (by kernel_rfl) (by kernel_rfl) (by kernel_rfl) ?hq10 ?hy10 (by assumption) ?hr10
        case hi10 => (simp only [List.getElem?_toArray, List.getElem?_cons_succ, List.getElem?_cons_zero]; rfl)
        case hq10 => exact fun _ _ _ h => h
        case hy10 => exact Or.inr ⟨by rfl, rfl⟩
        simp only [Act.put, List.setIfInBounds_toArray, List.set_cons_zero, List.set_cons_succ]
        refine wpAnyH_take (i := 10) (oi := ?o11) (v := undef) ?hi11 (by kernel_rfl) (by kernel_rfl) (by kernel_rfl) ?hq11 ?hy11 (by assumption) ?hr11
        case hi11 => (simp only [List.getElem?_toArray, List.getElem?_cons_succ, List.getElem?_cons_zero]; rfl)
        case hq11 => exact fun _ _ _ h => h
        case hy11 => exact Or.inr ⟨by rfl, rfl⟩
        simp only [Act.put, List.setIfInBounds_toArray, List.set_cons_zero, List.set_cons_succ]
        refine wpAnyH_take (i := 11) (oi := ?o12) (v := undef) ?hi12 (by kernel_rfl) (by kernel_rfl) (by kernel_rfl) ?hq12 ?hy12 (by assumption) ?hr12
        case hi12 => (simp only [List.getElem?_toArray, List.getElem?_cons_succ, List.getElem?_cons_zero]; rfl)
        case hq12 => exact fun _ _ _ h => h
        case hy12 => exact Or.inr ⟨by rfl, rfl⟩
        simp only [Act.put, List.setIfInBounds_toArray, List.set_cons_zero, List.set_cons_succ]
        refine wpAnyH_take (i := 12) (oi := ?o13) (v := undef) ?hi13 (by kernel_rfl) (by kernel_rfl) (by kernel_rfl) ?hq13 ?hy13 (by assumption) ?hr13
        case hi13 => (simp only [List.getElem?_toArray, List.getElem?_cons_succ, List.getElem?_cons_zero]; rfl)
        case hq13 => exact fun _ _ _ h => h
        case hy13 => exact Or.inr ⟨by rfl, rfl⟩
        simp only [Act.put, List.setIfInBounds_toArray, List.set_cons_zero, List.set_cons_succ]
        refine wpAnyH_take (i := 13) (oi := ?o14) (v := undef) ?hi14 (by kernel_rfl) (by kernel_rfl) (by kernel_rfl) ?hq14 ?hy14 (by assumption) ?hr14
        case hi14 => (simp only [List.getElem?_toArray, List.getElem?_cons_succ, List.getElem?_cons_zero]; rfl)
        case hq14 => exact fun _ _ _ h => h
        case hy14 => exact Or.inr ⟨by rfl, rfl⟩
        simp only [Act.put, List.setIfInBounds_toArray, List.set_cons_zero, List.set_cons_succ]
        refine wpAnyH_take (i := 14) (oi := ?o15) (v := undef) ?hi15 (by kernel_rfl) (by kernel_rfl) (by kernel_rfl) ?hq15 ?hy15 (by assumption) ?hr15
        case hi15 => (simp only [List.getElem?_toArray, List.getElem?_cons_succ, List.getElem?_cons_zero]; rfl)
        case hq15 => exact fun _ _ _ h => h
        case hy15 => exact Or.inr ⟨by rfl, rfl⟩
        simp only [Act.put, List.setIfInBounds_toArray, List.set_cons_zero, List.set_cons_succ]
        refine wpAnyH_take (i := 15) (oi := ?o16) (v := undef) ?hi16 (by kernel_rfl) (by kernel_rfl) (by kernel_rfl) ?hq16 ?hy16 (by assumption) ?hr16
        case hi16 => (simp only [List.getElem?_toArray, List.getElem?_cons_succ, List.getElem?_cons_zero]; rfl)
        case hq16 => exact fun _ _ _ h => h
        case hy16 => exact Or.inr ⟨by rfl, rfl⟩
        simp only [Act.put, List.setIfInBounds_toArray, List.set_cons_zero, List.set_cons_succ]
        refine wpAnyH_take (i := 16) (oi := ?o17) (v := undef) ?hi17 (by kernel_rfl) (by kernel_rfl) (by kernel_rfl) ?hq17 ?hy17 (by assumption) ?hr17
        case hi17 => (simp only [List.getElem?_toArray, List.getElem?_cons_succ, List.getElem?_cons_zero]; rfl)
        case hq17 => exact fun _ _ _ h => h
        case hy17 => exact Or.inr ⟨by rfl, rfl⟩
        simp only [Act.put, List.setIfInBounds_toArray, List.set_cons_zero, List.set_cons_succ]
        refine wpAnyH_take (i := 17) (oi := ?o18) (v := undef) ?hi18 (by kernel_rfl) (by kernel_rfl) (by kernel_rfl) ?hq18 ?hy18 (by assumption) ?hr18
        case hi18 => (simp only [List.getElem?_toArray, List.getElem?_cons_succ, List.getElem?_cons_zero]; rfl)
        case hq18 => exact fun _ _ _ h => h
        case hy18 => exact Or.inr ⟨by rfl, rfl⟩
        simp only [Act.put, List.setIfInBounds_toArray, List.set_cons_zero, List.set_cons_succ]
        refine wpAnyH_take (i := 18) (oi := ?o19) (v := ?hv19) ?hi19 (by kernel_rfl) (by kernel_rfl) (by kernel_rfl) ?hq19 ?hy19 (by assumption) ?hr19
        case hi19 => (simp only [List.getElem?_toArray, List.getElem?_cons_succ, List.getElem?_cons_zero]; rfl)
        case hq19 => exact fun _ _ _ h => h
        case hy19 => exact Or.inl ⟨by rfl, by intro w hSw; (try dsimp only at hSw); go_simp; try with_reducible rfl⟩
        simp only [Act.put, List.setIfInBounds_toArray, List.set_cons_zero, List.set_cons_succ]
        refine wpAnyH_done (by kernel_rfl) ?_ _
        go_wp2_with fail
        go_ret
        exact ⟨rfl, bstep hw1 (bstep hw5 hb6 (Nat.le_refl _)) (Nat.le_refl _)⟩
      have hfm' := hfm
      have hfm := Lib.hid hfm
      clear hfm'
      by_cases hk0 : k = 0
      · subst hk0
        have H' : Hid (chainB L O (prevAt cs (0 + 1)) (cs.drop (0 + 1)) = r) := Lib.hid (by rw [← H.out, hd.out, hfm.out]; rfl)
        refine wp_region_held_drew (S := (fun w' => w'.cell? ⟨w.heap.size, 0, none⟩ = some (.int .i64 L) ∧ w'.cell? ⟨w.heap.size, 1, none⟩ = some (.int .i64 O) ∧ w'.cell? ⟨w.heap.size, 2, none⟩ = some (.slice (some ⟨b, off, none⟩) n c) ∧ w'.cell? ⟨wr.heap.size, 0, none⟩ = some (.int .i64 x.s) ∧ w'.cell? ⟨wr.heap.size, 1, none⟩ = some (.int .i64 x.o) ∧ w'.cell? ⟨wr.heap.size, 2, none⟩ = some (.int .i64 x.f) ∧ w'.cell? ⟨wr.heap.size, 3, none⟩ = some (.int .i64 x.t) ∧ w'.cell? ⟨wr.heap.size, 4, none⟩ = some (.int .i64 x.w))) (by kernel_rfl) ?_ (fun hHeld => ?_)
        · (refine keep8 hB5 hX5 hdz hgz ?_; (repeat first | assumption | exact Below.refl _ _ | refine Below.drew ?_ | refine ba ?_ _))
        refine wpAnyH_take (i := 0) (oi := ?o20) (v := ?hv20) ?hi20 (by kernel_rfl) (by kernel_rfl) (by kernel_rfl) ?hq20 ?hy20 (by assumption) ?hr20
        case hi20 => (simp only [List.getElem?_toArray, List.getElem?_cons_zero]; rfl)
        case hq20 => exact fun _ _ _ h => h
        case hy20 => exact Or.inl ⟨by rfl, by intro w hSw; (try dsimp only at hSw); go_simp; try with_reducible rfl⟩
        simp only [Act.put, List.setIfInBounds_toArray, List.set_cons_zero, List.set_cons_succ]
        refine wpAnyH_take (i := 1) (oi := ?o21) (v := ?hv21) ?hi21 (by kernel_rfl) (by kernel_rfl) (by kernel_rfl) ?hq21 ?hy21 (by assumption) ?hr21
        case hi21 => (simp only [List.getElem?_toArray, List.getElem?_cons_succ, List.getElem?_cons_zero]; rfl)
        case hq21 => exact fun _ _ _ h => h
        case hy21 => exact Or.inl ⟨by rfl, by intro w hSw; (try dsimp only at hSw); go_simp; try with_reducible rfl⟩
        simp only [Act.put, List.setIfInBounds_toArray, List.set_cons_zero, List.set_cons_succ]
        refine wpAnyH_ready (rs := [2]) (by kernel_rfl) (by simp) ?_
        refine AllReadyH.cons (o := ?o22) ?hi22 (fun K hK => ?hr22) AllReadyH.nil
        case hi22 => (simp only [List.getElem?_toArray, List.getElem?_cons_succ, List.getElem?_cons_zero]; rfl)
        go_simp
        refine (carry (w0 := w5) (formed_lit L O _ x true hfm.out _) ?_).mono ?_
        · (repeat first | assumption | exact Below.refl _ _ | refine Below.drew ?_ | refine ba ?_ _)
        rintro e w6 ⟨rfl, hb6⟩
        go_wp2_with fail
        refine hK.out _ _ ?_ (fun hHeld => ?_)
        · (refine keep8 hB5 hX5 hdz hgz ?_; (repeat first | assumption | exact Below.refl _ _ | refine Below.drew ?_ | refine ba ?_ _))
        clear hK K
        try simp only [Act.put, List.setIfInBounds_toArray, List.set_cons_zero, List.set_cons_succ]
        refine wpAnyH_take (i := 3) (oi := ?o23) (v := ?hv23) ?hi23 (by kernel_rfl) (by kernel_rfl) (by kernel_rfl) ?hq23 ?hy23 (by assumption) ?hr23
        case hi23 => (simp only [List.getElem?_toArray, List.getElem?_cons_succ, List.getElem?_cons_zero]; rfl)
        case hq23 => exact fun _ _ _ h => h
        case hy23 => exact Or.inl ⟨by rfl, by intro w hSw; (try dsimp only at hSw); go_simp; try with_reducible rfl⟩
        simp only [Act.put, List.setIfInBounds_toArray, List.set_cons_zero, List.set_cons_succ]
        refine wpAnyH_take (i := 4) (oi := ?o24) (v := ?hv24) ?hi24 (by kernel_rfl) (by kernel_rfl) (by kernel_rfl) ?hq24 ?hy24 (by assumption) ?hr24
        case hi24 => (simp only [List.getElem?_toArray, List.getElem?_cons_succ, List.getElem?_cons_zero]; rfl)
        case hq24 => exact fun _ _ _ h => h
        case hy24 => exact Or.inl ⟨by rfl, by intro w hSw; (try dsimp only at hSw); go_simp; try with_reducible rfl⟩
        simp only [Act.put, List.setIfInBounds_toArray, List.set_cons_zero, List.set_cons_succ]
        refine wpAnyH_take (i := 5) (oi := ?o25) (v := ?hv25) ?hi25 (by kernel_rfl) (by kernel_rfl) (by kernel_rfl) ?hq25 ?hy25 (by assumption) ?hr25
        case hi25 => (simp only [List.getElem?_toArray, List.getElem?_cons_succ, List.getElem?_cons_zero]; rfl)
        case hq25 => exact fun _ _ _ h => h
        case hy25 => exact Or.inl ⟨by rfl, by intro w hSw; (try dsimp only at hSw); go_simp; try with_reducible rfl⟩
        simp only [Act.put, List.setIfInBounds_toArray, List.set_cons_zero, List.set_cons_succ]
        refine wpAnyH_take (i := 6) (oi := ?o26) (v := ?hv26) ?hi26 (by kernel_rfl) (by kernel_rfl) (by kernel_rfl) ?hq26 ?hy26 (by assumption) ?hr26
        case hi26 => (simp only [List.getElem?_toArray, List.getElem?_cons_succ, List.getElem?_cons_zero]; rfl)
        case hq26 => exact fun _ _ _ h => h
        case hy26 => exact Or.inl ⟨by rfl, by intro w hSw; (try dsimp only at hSw); go_simp; try with_reducible rfl⟩
        simp only [Act.put, List.setIfInBounds_toArray, List.set_cons_zero, List.set_cons_succ]
        refine wpAnyH_take (i := 7) (oi := ?o27) (v := ?hv27) ?hi27 (by kernel_rfl) (by kernel_rfl) (by kernel_rfl) ?hq27 ?hy27 (by assumption) ?hr27
        case hi27 => (simp only [List.getElem?_toArray, List.getElem?_cons_succ, List.getElem?_cons_zero]; rfl)
        case hq27 => exact fun _ _ _ h => h
        case hy27 => exact Or.inl ⟨by rfl, by intro w hSw; (try dsimp only at hSw); go_simp; try with_reducible rfl⟩
        simp only [Act.put, List.setIfInBounds_toArray, List.set_cons_zero, List.set_cons_succ]
        refine wpAnyH_take (i := 8) (oi := ?o28) (v := undef) ?hi28 (by kernel_rfl) (by kernel_rfl) (by kernel_rfl) ?hq28 ?hy28 (by assumption) ?hr28
        case hi28 => (simp only [List.getElem?_toArray, List.getElem?_cons_succ, List.getElem?_cons_zero]; rfl)
        case hq28 => exact fun _ _ _ h => h
        case hy28 => exact Or.inr ⟨by rfl, rfl⟩
        simp only [Act.put, List.setIfInBounds_toArray, List.set_cons_zero, List.set_cons_succ]
        refine wpAnyH_take (i := 9) (oi := ?o29) (v := undef) ?hi29 (by kernel_rfl) (by kernel_rfl) (by kernel_rfl) ?hq29 ?hy29 (by assumption) ?hr29
        case hi29 => (simp only [List.getElem?_toArray, List.getElem?_cons_succ, List.getElem?_cons_zero]; rfl)
        case hq29 => exact fun _ _ _ h => h
        case hy29 => exact Or.inr ⟨by rfl, rfl⟩
        simp only [Act.put, List.setIfInBounds_toArray, List.set_cons_zero, List.set_cons_succ]
        refine wpAnyH_take (i := 10) (oi := ?o30) (v := undef) ?hi30 (by kernel_rfl) (by kernel_rfl) (by kernel_rfl) ?hq30 ?hy30 (by assumption) ?hr30
        case hi30 => (simp only [List.getElem?_toArray, List.getElem?_cons_succ, List.getElem?_cons_zero]; rfl)
        case hq30 => exact fun _ _ _ h => h
        case hy30 => exact Or.inr ⟨by rfl, rfl⟩
        simp only [Act.put, List.setIfInBounds_toArray, List.set_cons_zero, List.set_cons_succ]
        refine wpAnyH_take (i := 11) (oi := ?o31) (v := undef) ?hi31 (by kernel_rfl) (by kernel_rfl) (by kernel_rfl) ?hq31 ?hy31 (by assumption) ?hr31
        case hi31 => (simp only [List.getElem?_toArray, List.getElem?_cons_succ, List.getElem?_cons_zero]; rfl)
        case hq31 => exact fun _ _ _ h => h
        case hy31 => exact Or.inr ⟨by rfl, rfl⟩
        simp only [Act.put, List.setIfInBounds_toArray, List.set_cons_zero, List.set_cons_succ]
        refine wpAnyH_take (i := 12) (oi := ?o32) (v := undef) ?hi32 (by kernel_rfl) (by kernel_rfl) (by kernel_rfl) ?hq32 ?hy32 (by assumption) ?hr32
        case hi32 => (simp only [List.getElem?_toArray, List.getElem?_cons_succ, List.getElem?_cons_zero]; rfl)
        case hq32 => exact fun _ _ _ h => h
        case hy32 => exact Or.inr ⟨by rfl, rfl⟩
        simp only [Act.put, List.setIfInBounds_toArray, List.set_cons_zero, List.set_cons_succ]
        refine wpAnyH_take (i := 13) (oi := ?o33) (v := undef) ?hi33 (by kernel_rfl) (by kernel_rfl) (by kernel_rfl) ?hq33 ?hy33 (by assumption) ?hr33
        case hi33 => (simp only [List.getElem?_toArray, List.getElem?_cons_succ, List.getElem?_cons_zero]; rfl)
        case hq33 => exact fun _ _ _ h => h
        case hy33 => exact Or.inr ⟨by rfl, rfl⟩
        simp only [Act.put, List.setIfInBounds_toArray, List.set_cons_zero, List.set_cons_succ]
        refine wpAnyH_take (i := 14) (oi := ?o34) (v := undef) ?hi34 (by kernel_rfl) (by kernel_rfl) (by kernel_rfl) ?hq34 ?hy34 (by assumption) ?hr34
        case hi34 => (simp only [List.getElem?_toArray, List.getElem?_cons_succ, List.getElem?_cons_zero]; rfl)
        case hq34 => exact fun _ _ _ h => h
        case hy34 => exact Or.inr ⟨by rfl, rfl⟩
        simp only [Act.put, List.setIfInBounds_toArray, List.set_cons_zero, List.set_cons_succ]
        refine wpAnyH_take (i := 15) (oi := ?o35) (v := undef) ?hi35 (by kernel_rfl) (by kernel_rfl) (by kernel_rfl) ?hq35 ?hy35 (by assumption) ?hr35
        case hi35 => (simp only [List.getElem?_toArray, List.getElem?_cons_succ, List.getElem?_cons_zero]; rfl)
        case hq35 => exact fun _ _ _ h => h
        case hy35 => exact Or.inr ⟨by rfl, rfl⟩
        simp only [Act.put, List.setIfInBounds_toArray, List.set_cons_zero, List.set_cons_succ]
        refine wpAnyH_take (i := 16) (oi := ?o36) (v := undef) ?hi36 (by kernel_rfl) (by kernel_rfl) (by kernel_rfl) ?hq36 ?hy36 (by assumption) ?hr36
        case hi36 => (simp only [List.getElem?_toArray, List.getElem?_cons_succ, List.getElem?_cons_zero]; rfl)
        case hq36 => exact fun _ _ _ h => h
        case hy36 => exact Or.inr ⟨by rfl, rfl⟩
        simp only [Act.put, List.setIfInBounds_toArray, List.set_cons_zero, List.set_cons_succ]
        refine wpAnyH_take (i := 17) (oi := ?o37) (v := ?hv37) ?hi37 (by kernel_rfl) (by kernel_rfl) (by kernel_rfl) ?hq37 ?hy37 (by assumption) ?hr37
        case hi37 => (simp only [List.getElem?_toArray, List.getElem?_cons_succ, List.getElem?_cons_zero]; rfl)
        case hq37 => exact fun _ _ _ h => h
        case hy37 => exact Or.inl ⟨by rfl, by intro w hSw; (try dsimp only at hSw); go_simp; try with_reducible rfl⟩
        simp only [Act.put, List.setIfInBounds_toArray, List.set_cons_zero, List.set_cons_succ]
        refine wpAnyH_take (i := 18) (oi := ?o38) (v := ?hv38) ?hi38 (by kernel_rfl) (by kernel_rfl) (by kernel_rfl) ?hq38 ?hy38 (by assumption) ?hr38
        case hi38 => (simp only [List.getElem?_toArray, List.getElem?_cons_succ, List.getElem?_cons_zero]; rfl)
        case hq38 => exact fun _ _ _ h => h
        case hy38 => exact Or.inl ⟨by rfl, by intro w hSw; (try dsimp only at hSw); go_simp; try with_reducible rfl⟩
        simp only [Act.put, List.setIfInBounds_toArray, List.set_cons_zero, List.set_cons_succ]
        refine wpAnyH_done (by kernel_rfl) ?_ _
        go_wp2_with fail
        go_roundw
        case rel => exact ⟨0 + 1, by omega, by go_num, bstep hw5 hb6 (Nat.le_refl _), H'⟩
        case measure => simp [intOf]; omega
      obtain ⟨m, hm⟩ : ∃ m, k = m + 1 := ⟨k - 1, by omega⟩
      have hmn : m < n := by omega
      obtain ⟨b', off', q, hA', hbq, eq_, q0⟩ := (HC.out.below hw5).at_ hmn
      cases hA'
      have hQ5 : Hid (Row5 w5 b (off + m * 5) q) := Lib.hid q0
      have hpv : Hid (prevAt cs k = some q) := Lib.hid (by rw [hm]; exact eq_)
      have hsub : IntKind.i64.wrap ((k : Int) - 1) = (m : Int) := by rw [IntWalk.i64_in _ (by omega)]; omega
      have hwm : IntKind.i64.wrap (m : Int) = (m : Int) := IntWalk.i64_in _ (by omega)
      have hm0 : (0 : Int) ≤ (m : Int) := by omega
      have hkpos : (0 : Int) < (k : Int) := by omega
      clear q0 eq_
      by_cases hlt0 : cmpC q x < 0
      · have hcmp : decide (0 ≤ cmpC q x) = false := by simp; omega
        have H' : Hid (chainB L O (prevAt cs (k + 1)) (cs.drop (k + 1)) = r) := Lib.hid (by rw [← H.out, hd.out, hfm.out, hpv.out]; simp [hlt0])
        refine wp_region_held_drew (S := (fun w' => w'.cell? ⟨w.heap.size, 0, none⟩ = some (.int .i64 L) ∧ w'.cell? ⟨w.heap.size, 1, none⟩ = some (.int .i64 O) ∧ w'.cell? ⟨w.heap.size, 2, none⟩ = some (.slice (some ⟨b, off, none⟩) n c) ∧ w'.cell? ⟨wr.heap.size, 0, none⟩ = some (.int .i64 x.s) ∧ w'.cell? ⟨wr.heap.size, 1, none⟩ = some (.int .i64 x.o) ∧ w'.cell? ⟨wr.heap.size, 2, none⟩ = some (.int .i64 x.f) ∧ w'.cell? ⟨wr.heap.size, 3, none⟩ = some (.int .i64 x.t) ∧ w'.cell? ⟨wr.heap.size, 4, none⟩ = some (.int .i64 x.w) ∧ w'.cell? ⟨b, off + m * 5, none⟩ = some (.int .i64 q.s) ∧ w'.cell? ⟨b, off + m * 5 + 1, none⟩ = some (.int .i64 q.o) ∧ w'.cell? ⟨b, off + m * 5 + 2, none⟩ = some (.int .i64 q.f) ∧ w'.cell? ⟨b, off + m * 5 + 3, none⟩ = some (.int .i64 q.t) ∧ w'.cell? ⟨b, off + m * 5 + 4, none⟩ = some (.int .i64 q.w))) (by kernel_rfl) ?_ (fun hHeld => ?_)
        · (refine keep13 hB5 hX5 hQ5 hdz hgz hbz ?_; (repeat first | assumption | exact Below.refl _ _ | refine Below.drew ?_ | refine ba ?_ _))
        refine wpAnyH_take (i := 0) (oi := ?o39) (v := ?hv39) ?hi39 (by kernel_rfl) (by kernel_rfl) (by kernel_rfl) ?hq39 ?hy39 (by assumption) ?hr39
        case hi39 => (simp only [List.getElem?_toArray, List.getElem?_cons_zero]; rfl)
        case hq39 => exact fun _ _ _ h => h
        case hy39 => exact Or.inl ⟨by rfl, by intro w hSw; (try dsimp only at hSw); go_simp; try with_reducible rfl⟩
        simp only [Act.put, List.setIfInBounds_toArray, List.set_cons_zero, List.set_cons_succ]
        refine wpAnyH_take (i := 1) (oi := ?o40) (v := ?hv40) ?hi40 (by kernel_rfl) (by kernel_rfl) (by kernel_rfl) ?hq40 ?hy40 (by assumption) ?hr40
        case hi40 => (simp only [List.getElem?_toArray, List.getElem?_cons_succ, List.getElem?_cons_zero]; rfl)
        case hq40 => exact fun _ _ _ h => h
        case hy40 => exact Or.inl ⟨by rfl, by intro w hSw; (try dsimp only at hSw); go_simp; try with_reducible rfl⟩
        simp only [Act.put, List.setIfInBounds_toArray, List.set_cons_zero, List.set_cons_succ]
        refine wpAnyH_ready (rs := [2]) (by kernel_rfl) (by simp) ?_
        refine AllReadyH.cons (o := ?o41) ?hi41 (fun K hK => ?hr41) AllReadyH.nil
        case hi41 => (simp only [List.getElem?_toArray, List.getElem?_cons_succ, List.getElem?_cons_zero]; rfl)
        go_simp
        refine (carry (w0 := w5) (formed_lit L O _ x true hfm.out _) ?_).mono ?_
        · (repeat first | assumption | exact Below.refl _ _ | refine Below.drew ?_ | refine ba ?_ _)
        rintro e w6 ⟨rfl, hb6⟩
        go_wp2_with fail
        refine hK.out _ _ ?_ (fun hHeld => ?_)
        · (refine keep13 hB5 hX5 hQ5 hdz hgz hbz ?_; (repeat first | assumption | exact Below.refl _ _ | refine Below.drew ?_ | refine ba ?_ _))
        clear hK K
        try simp only [Act.put, List.setIfInBounds_toArray, List.set_cons_zero, List.set_cons_succ]
        refine wpAnyH_take (i := 3) (oi := ?o42) (v := ?hv42) ?hi42 (by kernel_rfl) (by kernel_rfl) (by kernel_rfl) ?hq42 ?hy42 (by assumption) ?hr42
        case hi42 => (simp only [List.getElem?_toArray, List.getElem?_cons_succ, List.getElem?_cons_zero]; rfl)
        case hq42 => exact fun _ _ _ h => h
        case hy42 => exact Or.inl ⟨by rfl, by intro w hSw; (try dsimp only at hSw); go_simp; try with_reducible rfl⟩
        simp only [Act.put, List.setIfInBounds_toArray, List.set_cons_zero, List.set_cons_succ]
        refine wpAnyH_take (i := 4) (oi := ?o43) (v := ?hv43) ?hi43 (by kernel_rfl) (by kernel_rfl) (by kernel_rfl) ?hq43 ?hy43 (by assumption) ?hr43
        case hi43 => (simp only [List.getElem?_toArray, List.getElem?_cons_succ, List.getElem?_cons_zero]; rfl)
        case hq43 => exact fun _ _ _ h => h
        case hy43 => exact Or.inl ⟨by rfl, by intro w hSw; (try dsimp only at hSw); go_simp; try with_reducible rfl⟩
        simp only [Act.put, List.setIfInBounds_toArray, List.set_cons_zero, List.set_cons_succ]
        refine wpAnyH_take (i := 5) (oi := ?o44) (v := ?hv44) ?hi44 (by kernel_rfl) (by kernel_rfl) (by kernel_rfl) ?hq44 ?hy44 (by assumption) ?hr44
        case hi44 => (simp only [List.getElem?_toArray, List.getElem?_cons_succ, List.getElem?_cons_zero]; rfl)
        case hq44 => exact fun _ _ _ h => h
        case hy44 => exact Or.inl ⟨by rfl, by intro w hSw; (try dsimp only at hSw); go_simp; try with_reducible rfl⟩
        simp only [Act.put, List.setIfInBounds_toArray, List.set_cons_zero, List.set_cons_succ]
        refine wpAnyH_take (i := 6) (oi := ?o45) (v := ?hv45) ?hi45 (by kernel_rfl) (by kernel_rfl) (by kernel_rfl) ?hq45 ?hy45 (by assumption) ?hr45
        case hi45 => (simp only [List.getElem?_toArray, List.getElem?_cons_succ, List.getElem?_cons_zero]; rfl)
        case hq45 => exact fun _ _ _ h => h
        case hy45 => exact Or.inl ⟨by rfl, by intro w hSw; (try dsimp only at hSw); go_simp; try with_reducible rfl⟩
        simp only [Act.put, List.setIfInBounds_toArray, List.set_cons_zero, List.set_cons_succ]
        refine wpAnyH_take (i := 7) (oi := ?o46) (v := ?hv46) ?hi46 (by kernel_rfl) (by kernel_rfl) (by kernel_rfl) ?hq46 ?hy46 (by assumption) ?hr46
        case hi46 => (simp only [List.getElem?_toArray, List.getElem?_cons_succ, List.getElem?_cons_zero]; rfl)
        case hq46 => exact fun _ _ _ h => h
        case hy46 => exact Or.inl ⟨by rfl, by intro w hSw; (try dsimp only at hSw); go_simp; try with_reducible rfl⟩
        simp only [Act.put, List.setIfInBounds_toArray, List.set_cons_zero, List.set_cons_succ]
        refine wpAnyH_take (i := 8) (oi := ?o47) (v := ?hv47) ?hi47 (by kernel_rfl) (by kernel_rfl) (by kernel_rfl) ?hq47 ?hy47 (by assumption) ?hr47
        case hi47 => (simp only [List.getElem?_toArray, List.getElem?_cons_succ, List.getElem?_cons_zero]; rfl)
        case hq47 => exact fun _ _ _ h => h
        case hy47 => exact Or.inl ⟨by rfl, by intro w hSw; (try dsimp only at hSw); go_simp; try with_reducible rfl⟩
        simp only [Act.put, List.setIfInBounds_toArray, List.set_cons_zero, List.set_cons_succ]
        refine wpAnyH_take (i := 9) (oi := ?o48) (v := ?hv48) ?hi48 (by kernel_rfl) (by kernel_rfl) (by kernel_rfl) ?hq48 ?hy48 (by assumption) ?hr48
        case hi48 => (simp only [List.getElem?_toArray, List.getElem?_cons_succ, List.getElem?_cons_zero]; rfl)
        case hq48 => exact fun _ _ _ h => h
        case hy48 => exact Or.inl ⟨by rfl, by intro w hSw; (try dsimp only at hSw); go_simp; try with_reducible rfl⟩
        simp only [Act.put, List.setIfInBounds_toArray, List.set_cons_zero, List.set_cons_succ]
        refine wpAnyH_take (i := 10) (oi := ?o49) (v := ?hv49) ?hi49 (by kernel_rfl) (by kernel_rfl) (by kernel_rfl) ?hq49 ?hy49 (by assumption) ?hr49
        case hi49 => (simp only [List.getElem?_toArray, List.getElem?_cons_succ, List.getElem?_cons_zero]; rfl)
        case hq49 => exact fun _ _ _ h => h
        case hy49 => exact Or.inl ⟨by rfl, by intro w hSw; (try dsimp only at hSw); go_simp; try with_reducible rfl⟩
        simp only [Act.put, List.setIfInBounds_toArray, List.set_cons_zero, List.set_cons_succ]
        refine wpAnyH_take (i := 11) (oi := ?o50) (v := .int .i64 (m : Int)) ?hi50 (by kernel_rfl) (by kernel_rfl) (by kernel_rfl) ?hq50 ?hy50 (by assumption) ?hr50
        case hi50 => (simp only [List.getElem?_toArray, List.getElem?_cons_succ, List.getElem?_cons_zero]; rfl)
        case hq50 => exact fun _ _ _ h => h
        case hy50 => exact Or.inl ⟨by rfl, by intro w hSw; (try dsimp only at hSw); go_simp; try simp only [hsub, hwm]; try with_reducible rfl⟩
        simp only [Act.put, List.setIfInBounds_toArray, List.set_cons_zero, List.set_cons_succ]
        refine wpAnyH_take (i := 12) (oi := ?o51) (v := ?hv51) ?hi51 (by kernel_rfl) (by kernel_rfl) (by kernel_rfl) ?hq51 ?hy51 (by assumption) ?hr51
        case hi51 => (simp only [List.getElem?_toArray, List.getElem?_cons_succ, List.getElem?_cons_zero]; rfl)
        case hq51 => exact fun _ _ _ h => h
        case hy51 => exact Or.inl ⟨by rfl, by intro w hSw; (try dsimp only at hSw); go_simp; try with_reducible rfl⟩
        simp only [Act.put, List.setIfInBounds_toArray, List.set_cons_zero, List.set_cons_succ]
        refine wpAnyH_take (i := 13) (oi := ?o52) (v := ?hv52) ?hi52 (by kernel_rfl) (by kernel_rfl) (by kernel_rfl) ?hq52 ?hy52 (by assumption) ?hr52
        case hi52 => (simp only [List.getElem?_toArray, List.getElem?_cons_succ, List.getElem?_cons_zero]; rfl)
        case hq52 => exact fun _ _ _ h => h
        case hy52 => exact Or.inl ⟨by rfl, by intro w hSw; (try dsimp only at hSw); go_simp; try with_reducible rfl⟩
        simp only [Act.put, List.setIfInBounds_toArray, List.set_cons_zero, List.set_cons_succ]
        refine wpAnyH_take (i := 14) (oi := ?o53) (v := ?hv53) ?hi53 (by kernel_rfl) (by kernel_rfl) (by kernel_rfl) ?hq53 ?hy53 (by assumption) ?hr53
        case hi53 => (simp only [List.getElem?_toArray, List.getElem?_cons_succ, List.getElem?_cons_zero]; rfl)
        case hq53 => exact fun _ _ _ h => h
        case hy53 => exact Or.inl ⟨by rfl, by intro w hSw; (try dsimp only at hSw); go_simp; try with_reducible rfl⟩
        simp only [Act.put, List.setIfInBounds_toArray, List.set_cons_zero, List.set_cons_succ]
        refine wpAnyH_ready (rs := [15]) (by kernel_rfl) (by simp) ?_
        refine AllReadyH.cons (o := ?o54) ?hi54 (fun K hK => ?hr54) AllReadyH.nil
        case hi54 => (simp only [List.getElem?_toArray, List.getElem?_cons_succ, List.getElem?_cons_zero]; rfl)
        go_simp
        refine (carry (w0 := w5) (compare_lit q x _ rfl _) ?_).mono ?_
        · (repeat first | assumption | exact Below.refl _ _ | refine Below.drew ?_ | refine ba ?_ _)
        rintro e w7 ⟨rfl, hb7⟩
        go_wp2_with fail
        refine hK.out _ _ ?_ (fun hHeld => ?_)
        · (refine keep13 hB5 hX5 hQ5 hdz hgz hbz ?_; (repeat first | assumption | exact Below.refl _ _ | refine Below.drew ?_ | refine ba ?_ _))
        clear hK K
        try simp only [Act.put, List.setIfInBounds_toArray, List.set_cons_zero, List.set_cons_succ]
        refine wpAnyH_take (i := 16) (oi := ?o55) (v := .bool false) ?hi55 (by kernel_rfl) (by kernel_rfl) (by kernel_rfl) ?hq55 ?hy55 (by assumption) ?hr55
        case hi55 => (simp only [List.getElem?_toArray, List.getElem?_cons_succ, List.getElem?_cons_zero]; rfl)
        case hq55 => exact fun _ _ _ h => h
        case hy55 => exact Or.inl ⟨by rfl, by intro w hSw; (try dsimp only at hSw); go_simp; try simp only [hcmp]; try with_reducible rfl⟩
        simp only [Act.put, List.setIfInBounds_toArray, List.set_cons_zero, List.set_cons_succ]
        refine wpAnyH_take (i := 17) (oi := ?o56) (v := ?hv56) ?hi56 (by kernel_rfl) (by kernel_rfl) (by kernel_rfl) ?hq56 ?hy56 (by assumption) ?hr56
        case hi56 => (simp only [List.getElem?_toArray, List.getElem?_cons_succ, List.getElem?_cons_zero]; rfl)
        case hq56 => exact fun _ _ _ h => h
        case hy56 => exact Or.inl ⟨by rfl, by intro w hSw; (try dsimp only at hSw); go_simp; try with_reducible rfl⟩
        simp only [Act.put, List.setIfInBounds_toArray, List.set_cons_zero, List.set_cons_succ]
        refine wpAnyH_take (i := 18) (oi := ?o57) (v := ?hv57) ?hi57 (by kernel_rfl) (by kernel_rfl) (by kernel_rfl) ?hq57 ?hy57 (by assumption) ?hr57
        case hi57 => (simp only [List.getElem?_toArray, List.getElem?_cons_succ, List.getElem?_cons_zero]; rfl)
        case hq57 => exact fun _ _ _ h => h
        case hy57 => exact Or.inl ⟨by rfl, by intro w hSw; (try dsimp only at hSw); go_simp; try with_reducible rfl⟩
        simp only [Act.put, List.setIfInBounds_toArray, List.set_cons_zero, List.set_cons_succ]
        refine wpAnyH_done (by kernel_rfl) ?_ _
        go_wp2_with fail
        go_roundw
        case rel => exact ⟨k + 1, by omega, by go_num, bstep hw5 hb7 (Nat.le_refl _), H'⟩
        case measure => simp [intOf]; omega
      · have hcmp : decide (0 ≤ cmpC q x) = true := by simp; omega
        obtain rfl : r = false := by rw [← H.out, hd.out, hfm.out, hpv.out]; simp [hlt0]
        refine wp_region_held_drew (S := (fun w' => w'.cell? ⟨w.heap.size, 0, none⟩ = some (.int .i64 L) ∧ w'.cell? ⟨w.heap.size, 1, none⟩ = some (.int .i64 O) ∧ w'.cell? ⟨w.heap.size, 2, none⟩ = some (.slice (some ⟨b, off, none⟩) n c) ∧ w'.cell? ⟨wr.heap.size, 0, none⟩ = some (.int .i64 x.s) ∧ w'.cell? ⟨wr.heap.size, 1, none⟩ = some (.int .i64 x.o) ∧ w'.cell? ⟨wr.heap.size, 2, none⟩ = some (.int .i64 x.f) ∧ w'.cell? ⟨wr.heap.size, 3, none⟩ = some (.int .i64 x.t) ∧ w'.cell? ⟨wr.heap.size, 4, none⟩ = some (.int .i64 x.w) ∧ w'.cell? ⟨b, off + m * 5, none⟩ = some (.int .i64 q.s) ∧ w'.cell? ⟨b, off + m * 5 + 1, none⟩ = some (.int .i64 q.o) ∧ w'.cell? ⟨b, off + m * 5 + 2, none⟩ = some (.int .i64 q.f) ∧ w'.cell? ⟨b, off + m * 5 + 3, none⟩ = some (.int .i64 q.t) ∧ w'.cell? ⟨b, off + m * 5 + 4, none⟩ = some (.int .i64 q.w))) (by kernel_rfl) ?_ (fun hHeld => ?_)
        · (refine keep13 hB5 hX5 hQ5 hdz hgz hbz ?_; (repeat first | assumption | exact Below.refl _ _ | refine Below.drew ?_ | refine ba ?_ _))
        refine wpAnyH_take (i := 0) (oi := ?o58) (v := ?hv58) ?hi58 (by kernel_rfl) (by kernel_rfl) (by kernel_rfl) ?hq58 ?hy58 (by assumption) ?hr58
        case hi58 => (simp only [List.getElem?_toArray, List.getElem?_cons_zero]; rfl)
        case hq58 => exact fun _ _ _ h => h
        case hy58 => exact Or.inl ⟨by rfl, by intro w hSw; (try dsimp only at hSw); go_simp; try with_reducible rfl⟩
        simp only [Act.put, List.setIfInBounds_toArray, List.set_cons_zero, List.set_cons_succ]
        refine wpAnyH_take (i := 1) (oi := ?o59) (v := ?hv59) ?hi59 (by kernel_rfl) (by kernel_rfl) (by kernel_rfl) ?hq59 ?hy59 (by assumption) ?hr59
        case hi59 => (simp only [List.getElem?_toArray, List.getElem?_cons_succ, List.getElem?_cons_zero]; rfl)
        case hq59 => exact fun _ _ _ h => h
        case hy59 => exact Or.inl ⟨by rfl, by intro w hSw; (try dsimp only at hSw); go_simp; try with_reducible rfl⟩
        simp only [Act.put, List.setIfInBounds_toArray, List.set_cons_zero, List.set_cons_succ]
        refine wpAnyH_ready (rs := [2]) (by kernel_rfl) (by simp) ?_
        refine AllReadyH.cons (o := ?o60) ?hi60 (fun K hK => ?hr60) AllReadyH.nil
        case hi60 => (simp only [List.getElem?_toArray, List.getElem?_cons_succ, List.getElem?_cons_zero]; rfl)
        go_simp
        refine (carry (w0 := w5) (formed_lit L O _ x true hfm.out _) ?_).mono ?_
        · (repeat first | assumption | exact Below.refl _ _ | refine Below.drew ?_ | refine ba ?_ _)
        rintro e w6 ⟨rfl, hb6⟩
        go_wp2_with fail
        refine hK.out _ _ ?_ (fun hHeld => ?_)
        · (refine keep13 hB5 hX5 hQ5 hdz hgz hbz ?_; (repeat first | assumption | exact Below.refl _ _ | refine Below.drew ?_ | refine ba ?_ _))
        clear hK K
        try simp only [Act.put, List.setIfInBounds_toArray, List.set_cons_zero, List.set_cons_succ]
        refine wpAnyH_take (i := 3) (oi := ?o61) (v := ?hv61) ?hi61 (by kernel_rfl) (by kernel_rfl) (by kernel_rfl) ?hq61 ?hy61 (by assumption) ?hr61
        case hi61 => (simp only [List.getElem?_toArray, List.getElem?_cons_succ, List.getElem?_cons_zero]; rfl)
        case hq61 => exact fun _ _ _ h => h
        case hy61 => exact Or.inl ⟨by rfl, by intro w hSw; (try dsimp only at hSw); go_simp; try with_reducible rfl⟩
        simp only [Act.put, List.setIfInBounds_toArray, List.set_cons_zero, List.set_cons_succ]
        refine wpAnyH_take (i := 4) (oi := ?o62) (v := ?hv62) ?hi62 (by kernel_rfl) (by kernel_rfl) (by kernel_rfl) ?hq62 ?hy62 (by assumption) ?hr62
        case hi62 => (simp only [List.getElem?_toArray, List.getElem?_cons_succ, List.getElem?_cons_zero]; rfl)
        case hq62 => exact fun _ _ _ h => h
        case hy62 => exact Or.inl ⟨by rfl, by intro w hSw; (try dsimp only at hSw); go_simp; try with_reducible rfl⟩
        simp only [Act.put, List.setIfInBounds_toArray, List.set_cons_zero, List.set_cons_succ]
        refine wpAnyH_take (i := 5) (oi := ?o63) (v := ?hv63) ?hi63 (by kernel_rfl) (by kernel_rfl) (by kernel_rfl) ?hq63 ?hy63 (by assumption) ?hr63
        case hi63 => (simp only [List.getElem?_toArray, List.getElem?_cons_succ, List.getElem?_cons_zero]; rfl)
        case hq63 => exact fun _ _ _ h => h
        case hy63 => exact Or.inl ⟨by rfl, by intro w hSw; (try dsimp only at hSw); go_simp; try with_reducible rfl⟩
        simp only [Act.put, List.setIfInBounds_toArray, List.set_cons_zero, List.set_cons_succ]
        refine wpAnyH_take (i := 6) (oi := ?o64) (v := ?hv64) ?hi64 (by kernel_rfl) (by kernel_rfl) (by kernel_rfl) ?hq64 ?hy64 (by assumption) ?hr64
        case hi64 => (simp only [List.getElem?_toArray, List.getElem?_cons_succ, List.getElem?_cons_zero]; rfl)
        case hq64 => exact fun _ _ _ h => h
        case hy64 => exact Or.inl ⟨by rfl, by intro w hSw; (try dsimp only at hSw); go_simp; try with_reducible rfl⟩
        simp only [Act.put, List.setIfInBounds_toArray, List.set_cons_zero, List.set_cons_succ]
        refine wpAnyH_take (i := 7) (oi := ?o65) (v := ?hv65) ?hi65 (by kernel_rfl) (by kernel_rfl) (by kernel_rfl) ?hq65 ?hy65 (by assumption) ?hr65
        case hi65 => (simp only [List.getElem?_toArray, List.getElem?_cons_succ, List.getElem?_cons_zero]; rfl)
        case hq65 => exact fun _ _ _ h => h
        case hy65 => exact Or.inl ⟨by rfl, by intro w hSw; (try dsimp only at hSw); go_simp; try with_reducible rfl⟩
        simp only [Act.put, List.setIfInBounds_toArray, List.set_cons_zero, List.set_cons_succ]
        refine wpAnyH_take (i := 8) (oi := ?o66) (v := ?hv66) ?hi66 (by kernel_rfl) (by kernel_rfl) (by kernel_rfl) ?hq66 ?hy66 (by assumption) ?hr66
        case hi66 => (simp only [List.getElem?_toArray, List.getElem?_cons_succ, List.getElem?_cons_zero]; rfl)
        case hq66 => exact fun _ _ _ h => h
        case hy66 => exact Or.inl ⟨by rfl, by intro w hSw; (try dsimp only at hSw); go_simp; try with_reducible rfl⟩
        simp only [Act.put, List.setIfInBounds_toArray, List.set_cons_zero, List.set_cons_succ]
        refine wpAnyH_take (i := 9) (oi := ?o67) (v := ?hv67) ?hi67 (by kernel_rfl) (by kernel_rfl) (by kernel_rfl) ?hq67 ?hy67 (by assumption) ?hr67
        case hi67 => (simp only [List.getElem?_toArray, List.getElem?_cons_succ, List.getElem?_cons_zero]; rfl)
        case hq67 => exact fun _ _ _ h => h
        case hy67 => exact Or.inl ⟨by rfl, by intro w hSw; (try dsimp only at hSw); go_simp; try with_reducible rfl⟩
        simp only [Act.put, List.setIfInBounds_toArray, List.set_cons_zero, List.set_cons_succ]
        refine wpAnyH_take (i := 10) (oi := ?o68) (v := ?hv68) ?hi68 (by kernel_rfl) (by kernel_rfl) (by kernel_rfl) ?hq68 ?hy68 (by assumption) ?hr68
        case hi68 => (simp only [List.getElem?_toArray, List.getElem?_cons_succ, List.getElem?_cons_zero]; rfl)
        case hq68 => exact fun _ _ _ h => h
        case hy68 => exact Or.inl ⟨by rfl, by intro w hSw; (try dsimp only at hSw); go_simp; try with_reducible rfl⟩
        simp only [Act.put, List.setIfInBounds_toArray, List.set_cons_zero, List.set_cons_succ]
        refine wpAnyH_take (i := 11) (oi := ?o69) (v := .int .i64 (m : Int)) ?hi69 (by kernel_rfl) (by kernel_rfl) (by kernel_rfl) ?hq69 ?hy69 (by assumption) ?hr69
        case hi69 => (simp only [List.getElem?_toArray, List.getElem?_cons_succ, List.getElem?_cons_zero]; rfl)
        case hq69 => exact fun _ _ _ h => h
        case hy69 => exact Or.inl ⟨by rfl, by intro w hSw; (try dsimp only at hSw); go_simp; try simp only [hsub, hwm]; try with_reducible rfl⟩
        simp only [Act.put, List.setIfInBounds_toArray, List.set_cons_zero, List.set_cons_succ]
        refine wpAnyH_take (i := 12) (oi := ?o70) (v := ?hv70) ?hi70 (by kernel_rfl) (by kernel_rfl) (by kernel_rfl) ?hq70 ?hy70 (by assumption) ?hr70
        case hi70 => (simp only [List.getElem?_toArray, List.getElem?_cons_succ, List.getElem?_cons_zero]; rfl)
        case hq70 => exact fun _ _ _ h => h
        case hy70 => exact Or.inl ⟨by rfl, by intro w hSw; (try dsimp only at hSw); go_simp; try with_reducible rfl⟩
        simp only [Act.put, List.setIfInBounds_toArray, List.set_cons_zero, List.set_cons_succ]
        refine wpAnyH_take (i := 13) (oi := ?o71) (v := ?hv71) ?hi71 (by kernel_rfl) (by kernel_rfl) (by kernel_rfl) ?hq71 ?hy71 (by assumption) ?hr71
        case hi71 => (simp only [List.getElem?_toArray, List.getElem?_cons_succ, List.getElem?_cons_zero]; rfl)
        case hq71 => exact fun _ _ _ h => h
        case hy71 => exact Or.inl ⟨by rfl, by intro w hSw; (try dsimp only at hSw); go_simp; try with_reducible rfl⟩
        simp only [Act.put, List.setIfInBounds_toArray, List.set_cons_zero, List.set_cons_succ]
        refine wpAnyH_take (i := 14) (oi := ?o72) (v := ?hv72) ?hi72 (by kernel_rfl) (by kernel_rfl) (by kernel_rfl) ?hq72 ?hy72 (by assumption) ?hr72
        case hi72 => (simp only [List.getElem?_toArray, List.getElem?_cons_succ, List.getElem?_cons_zero]; rfl)
        case hq72 => exact fun _ _ _ h => h
        case hy72 => exact Or.inl ⟨by rfl, by intro w hSw; (try dsimp only at hSw); go_simp; try with_reducible rfl⟩
        simp only [Act.put, List.setIfInBounds_toArray, List.set_cons_zero, List.set_cons_succ]
        refine wpAnyH_ready (rs := [15]) (by kernel_rfl) (by simp) ?_
        refine AllReadyH.cons (o := ?o73) ?hi73 (fun K hK => ?hr73) AllReadyH.nil
        case hi73 => (simp only [List.getElem?_toArray, List.getElem?_cons_succ, List.getElem?_cons_zero]; rfl)
        go_simp
        refine (carry (w0 := w5) (compare_lit q x _ rfl _) ?_).mono ?_
        · (repeat first | assumption | exact Below.refl _ _ | refine Below.drew ?_ | refine ba ?_ _)
        rintro e w7 ⟨rfl, hb7⟩
        go_wp2_with fail
        refine hK.out _ _ ?_ (fun hHeld => ?_)
        · (refine keep13 hB5 hX5 hQ5 hdz hgz hbz ?_; (repeat first | assumption | exact Below.refl _ _ | refine Below.drew ?_ | refine ba ?_ _))
        clear hK K
        try simp only [Act.put, List.setIfInBounds_toArray, List.set_cons_zero, List.set_cons_succ]
        refine wpAnyH_take (i := 16) (oi := ?o74) (v := .bool true) ?hi74 (by kernel_rfl) (by kernel_rfl) (by kernel_rfl) ?hq74 ?hy74 (by assumption) ?hr74
        case hi74 => (simp only [List.getElem?_toArray, List.getElem?_cons_succ, List.getElem?_cons_zero]; rfl)
        case hq74 => exact fun _ _ _ h => h
        case hy74 => exact Or.inl ⟨by rfl, by intro w hSw; (try dsimp only at hSw); go_simp; try simp only [hcmp]; try with_reducible rfl⟩
        simp only [Act.put, List.setIfInBounds_toArray, List.set_cons_zero, List.set_cons_succ]
        refine wpAnyH_take (i := 17) (oi := ?o75) (v := ?hv75) ?hi75 (by kernel_rfl) (by kernel_rfl) (by kernel_rfl) ?hq75 ?hy75 (by assumption) ?hr75
        case hi75 => (simp only [List.getElem?_toArray, List.getElem?_cons_succ, List.getElem?_cons_zero]; rfl)
        case hq75 => exact fun _ _ _ h => h
        case hy75 => exact Or.inl ⟨by rfl, by intro w hSw; (try dsimp only at hSw); go_simp; try with_reducible rfl⟩
        simp only [Act.put, List.setIfInBounds_toArray, List.set_cons_zero, List.set_cons_succ]
        refine wpAnyH_take (i := 18) (oi := ?o76) (v := ?hv76) ?hi76 (by kernel_rfl) (by kernel_rfl) (by kernel_rfl) ?hq76 ?hy76 (by assumption) ?hr76
        case hi76 => (simp only [List.getElem?_toArray, List.getElem?_cons_succ, List.getElem?_cons_zero]; rfl)
        case hq76 => exact fun _ _ _ h => h
        case hy76 => exact Or.inl ⟨by rfl, by intro w hSw; (try dsimp only at hSw); go_simp; try with_reducible rfl⟩
        simp only [Act.put, List.setIfInBounds_toArray, List.set_cons_zero, List.set_cons_succ]
        refine wpAnyH_done (by kernel_rfl) ?_ _
        go_wp2_with fail
        go_ret
        exact ⟨rfl, bstep hw1 (bstep hw5 hb7 (Nat.le_refl _)) (Nat.le_refl _)⟩
    · obtain rfl : r = true := by rw [← H.out]; exact chain_end L O cs k (by have := HC.out.1; omega)
      go_wp2_with fail
      go_ret
      exact ⟨rfl, bstep hw1 hwx (Nat.le_refl _)⟩

theorem form_lit (L O : Int) (A : Option Addr) (n c : Nat) (cs : List C5) (hn : n ≤ 1000000) (r : Bool) (hr : formB L O cs = r) (w : World) (hcs : Cells w w.heap.size A n cs) :
    Calls Tryz.prog 53 #[.agg #[.int .i64 L, .int .i64 O, .slice A n c]] w fun e w' => e = .returned (.bool r) ∧ Below w.heap.size w w' := by
  have hl := hcs.1
  subst hr
  by_cases h : sizedB L O = true ∧ n ≤ 512
  · exact form_loop L O A n c cs h.2 _ (Lib.hid h.1) (Lib.hid (by unfold formB; simp [h.1, hl, h.2])) w (Lib.hid hcs)
  · have e : formB L O cs = false := by
      unfold formB
      by_cases h1 : sizedB L O = true
      · have : ¬ n ≤ 512 := fun h2 => h ⟨h1, h2⟩
        simp [hl, this]
      · simp [h1]
    rw [e]
    cases hs : sizedB L O
    · exact form_small L O A n c hn false (Lib.hid hs) (.inl (Lib.hid rfl)) w
    · exact form_small L O A n c hn true (Lib.hid hs) (.inr (Nat.lt_of_not_le fun h2 => h ⟨hs, h2⟩)) w
end Go.Proofs.YtnddjcadkbjjhaaGreatDoor
