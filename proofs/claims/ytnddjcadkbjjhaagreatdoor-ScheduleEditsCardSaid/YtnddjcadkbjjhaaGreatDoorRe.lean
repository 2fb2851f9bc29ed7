/-
  CHAPTER 35, THE REFERENCE: Less1, With.
-/
import Derived.Test.YtnddjcadkbjjhaaGreatDoorRd
import Derived.Test.YtnddjcadkbjjhaaGreatDoorAddA
namespace Go.Proofs.YtnddjcadkbjjhaaGreatDoor
open Go.RowKit

def neC (x z : C5) : Bool := !decide (z = x)
/-- What a loop has gathered in the field of a schedule of the call's own (block X). -/
def QR (w1 : World) (L O : Int) (X : Nat) (acc : List C5) (wx : World) : Prop :=
  ∃ v, Blk wx X 30 #[.int .i64 L, .int .i64 O, v] ∧ wx.ownsRow (X + 1) 51 5 v acc.length (acc.flatMap C5.cells) ∧ Below X w1 wx ∧ X + 1 ≤ wx.heap.size
theorem QR.start (w1 : World) (L O : Int) (X : Nat) (hX : w1.heap.size = X) : QR w1 L O X [] (w1.alloc (.cells #[.int .i64 L, .int .i64 O, .slice none 0 0] 30)) := by
  subst hX
  exact ⟨_, Blk.new w1 30 _, World.ownsRow_nil _ _ _ _, (Below.refl _ _).alloc (Nat.le_refl _) _, by simp⟩
theorem QR.later {w1 wr w2 : World} {L O : Int} {X : Nat} {acc : List C5} (h : QR w1 L O X acc wr) (hb : Below wr.heap.size wr w2) : QR w1 L O X acc w2 := by
  obtain ⟨v, h1, h2, h3, h4⟩ := h
  exact ⟨v, h1.below hb (by omega), own_below h2 hb, h3.trans (hb.mono (by omega)), by have := hb.size; omega⟩
theorem QR.blk {wr W4 w4 : World} {X : Nat} {v : Value} {cs : Array Value} {xs : List Value} {n : Nat} (hB : Blk wr X 30 cs) (hown : wr.ownsRow (X + 1) 51 5 v n xs) (hs : X + 1 ≤ wr.heap.size) (hW : Below wr.heap.size wr W4) (hg : W4.grownBy w4 v.ownBlock) : Blk w4 X 30 cs :=
  (hB.below hW (by omega)).grown hg (fun e => by have := (hown.lt X e.symm).1; omega)
theorem QR.bel {wr W4 w4 : World} {X : Nat} {v : Value} {xs : List Value} {n : Nat} (hown : wr.ownsRow (X + 1) 51 5 v n xs) (hs : X + 1 ≤ wr.heap.size) (hW : Below wr.heap.size wr W4) (hg : W4.grownBy w4 v.ownBlock) : Below X wr w4 :=
  (hW.mono (by omega)).grown hg (by have := hW.size; omega) (fun j hj => by have := (hown.lt j hj).1; omega)
theorem QR.step {w1 wr W4 w4 : World} {L O : Int} {X g cap : Nat} {acc : List C5} {y : C5} {v : Value} (hB : Blk wr X 30 #[.int .i64 L, .int .i64 O, v]) (hown : wr.ownsRow (X + 1) 51 5 v acc.length (acc.flatMap C5.cells)) (hb : Below X w1 wr) (hs : X + 1 ≤ wr.heap.size) (hW : Below wr.heap.size wr W4)
    (hown4 : w4.ownsRow (X + 1) 51 5 (.slice (some ⟨g, 0, none⟩) (acc.length + 1) cap) (acc.length + 1) (acc.flatMap C5.cells ++ y.cells)) (hg : W4.grownBy w4 v.ownBlock) :
    QR w1 L O X (acc ++ [y]) (w4.setCell ⟨X, 2, none⟩ (.slice (some ⟨g, 0, none⟩) (acc.length + 1) cap)) := by
  have hb4 := hb.trans (QR.bel hown hs hW hg)
  refine ⟨_, (QR.blk hB hown hs hW hg).set_ 2 _, ?_, hb4.setCell (p := ⟨X, 2, none⟩) (Nat.le_refl X) _, ?_⟩
  · have := ownsRow_setCell_below hown4 (a := ⟨X, 2, none⟩) (by show X < X + 1; omega) (.slice (some ⟨g, 0, none⟩) (acc.length + 1) cap)
    simpa using this
  · have h1 := hg.size
    have h2 := hW.size
    simp [World.setCell] at *
    omega
theorem boxesA (w : World) (L O : Int) (A : Option Addr) (n c : Nat) (x : C5) : (A0 w L O A n c x).heap.size = w.heap.size + 1 + 1 + 1 := by simp
/-- How With and Less1 end. -/
def SchedRet (w : World) (L O : Int) (rs : List C5) (e : Ending) (w' : World) : Prop :=
  ∃ A c, e = .returned (.agg #[.int .i64 L, .int .i64 O, .slice A rs.length c]) ∧ Cells w' w'.heap.size A rs.length rs ∧ rs.length ≤ c ∧ (∀ b off, A = some ⟨b, off, none⟩ → w.heap.size ≤ b) ∧ Below w.heap.size w w'
theorem QR.end_ {w w1 wx : World} {L O : Int} {X R : Nat} {rs : List C5} (h : QR w1 L O X rs wx) (hb : Below w.heap.size w w1) (hR : w.heap.size ≤ R) (hRX : R < X) :
    ∃ A c, Blk wx X 30 #[.int .i64 L, .int .i64 O, .slice A rs.length c] ∧ SchedRet w L O rs (.returned (.agg #[.int .i64 L, .int .i64 O, .slice A rs.length c])) (((wx.setCell ⟨R, 0, none⟩ (.int .i64 L)).setCell ⟨R, 1, none⟩ (.int .i64 O)).setCell ⟨R, 2, none⟩ (.slice A rs.length c)) := by
  obtain ⟨v, h1, h2, h3, h4⟩ := h
  obtain ⟨A, c, rfl, hle, hC⟩ := own_cells h2
  have hown := own_block h2
  refine ⟨A, c, h1, ?_⟩
  obtain ⟨A', c', e, hC', _, hb'⟩ := sched_good (w := w) L O 0 0 rs R hR hle hC (hb.trans (h3.mono (by omega))) (fun b off h => by have := hown b off h; omega)
  cases e
  exact ⟨A, c, rfl, hC', hle, fun b off h => by have := hown b off h; omega, hb'⟩
theorem keepW {W5 W : World} {d e b o B : Nat} {L O : Int} {V : Value} {x y : C5} (hS : BoxS W5 d L O V) (hX : Box5 W5 e x) (hY : Row5 W5 b o y) (hd : d < B) (he : e < B) (hb : b < B) (h : Below B W5 W) :
    W.cell? ⟨d, 0, none⟩ = some (.int .i64 L) ∧ W.cell? ⟨d, 1, none⟩ = some (.int .i64 O) ∧ W.cell? ⟨d, 2, none⟩ = some V ∧
    W.cell? ⟨e, 0, none⟩ = some (.int .i64 x.s) ∧ W.cell? ⟨e, 1, none⟩ = some (.int .i64 x.o) ∧ W.cell? ⟨e, 2, none⟩ = some (.int .i64 x.f) ∧ W.cell? ⟨e, 3, none⟩ = some (.int .i64 x.t) ∧ W.cell? ⟨e, 4, none⟩ = some (.int .i64 x.w) ∧
    W.cell? ⟨b, o, none⟩ = some (.int .i64 y.s) ∧ W.cell? ⟨b, o + 1, none⟩ = some (.int .i64 y.o) ∧ W.cell? ⟨b, o + 2, none⟩ = some (.int .i64 y.f) ∧ W.cell? ⟨b, o + 3, none⟩ = some (.int .i64 y.t) ∧ W.cell? ⟨b, o + 4, none⟩ = some (.int .i64 y.w) := by
  obtain ⟨a0, a1, a2⟩ := hS.below h hd
  obtain ⟨e0, e1, e2, e3, e4⟩ := hX.below h he
  obtain ⟨b0, b1, b2, b3, b4⟩ := hY.below h hb
  exact ⟨a0, a1, a2, e0, e1, e2, e3, e4, b0, b1, b2, b3, b4⟩
set_option maxHeartbeats 4000000 in
set_option maxRecDepth 100000 in
theorem Less1_any (L O : Int) (x : C5) (A : Option Addr) (n c : Nat) (cs : List C5) (hn : n ≤ 1000000) (w : World) (hcs : Hid (Cells w w.heap.size A n cs)) :
    Calls Tryz.prog 76 #[.agg #[.int .i64 L, .int .i64 O, .slice A n c], .agg #[.int .i64 x.s, .int .i64 x.o, .int .i64 x.f, .int .i64 x.t, .int .i64 x.w]] w (SchedRet w L O (cs.filter (neC x))) := by
  have hm51 := hm51
  have hw0 := A0_below w L O A n c x
  have hB0 := Lib.hid (A0_box w L O A n c x)
  have hX0 := Lib.hid (A0_x w L O A n c x)
  have hC0 := Lib.hid (hcs.out.below hw0)
  have hsz0 := boxesA w L O A n c x
  have hsz0 := Lib.hid hsz0
  have hQ0 := Lib.hid (QR.start (A0 w L O A n c x) L O (w.heap.size + 1 + 1 + 1) hsz0.out)
  have hZ0 := Lib.hid (A0_blk w L O A n c x)
  have hl := hcs.out.1
  clear hcs
  obtain ⟨i0, hi, hj0, hj1, hj2⟩ := info_parts Tryz.info51
  unfold A0 at hw0 hB0 hX0 hC0 hsz0 hQ0 hZ0
  go_enter Tryz.func76, Tryz.ntmps76
  go_wp2_with fail
  revert hw0 hB0 hX0 hC0 hsz0 hQ0 hZ0
  generalize (((w.alloc (N30 L O (.slice A n c))).alloc (N51 x)).alloc (.cells Z3 30)) = w1
  intro hw0 hB0 hX0 hC0 hsz0 hQ0 hZ0
  go_loopw [6] (fun i wx => ∃ k : Nat, k ≤ n ∧ i = .int .i64 k ∧ Hid (QR w1 L O (w.heap.size + 1 + 1 + 1) ((cs.take k).filter (neC x)) wx)) (fun i _ => n - (intOf i).toNat)
  case atStart => exact ⟨0, Nat.zero_le _, rfl, hQ0⟩
  case round =>
    obtain ⟨k, hk, rfl, H⟩ := hrel
    have hsz1 := hsz0.out
    have hbX := H.out.choose_spec.2.2.1
    have hbX := Lib.hid hbX
    have hS5 := Lib.hid (hB0.out.below hbX.out (by omega))
    have hX5 := Lib.hid (hX0.out.below hbX.out (by omega))
    obtain ⟨s0, s1, s2⟩ := id hS5.out
    obtain ⟨x0, x1, x2, x3, x4⟩ := id hX5.out
    by_cases hlt : k < n
    · obtain ⟨b, off, y, hA, hby, ey, y0⟩ := (hC0.out.below (hbX.out.mono (by omega))).at_ hlt
      subst hA
      have hY5 : Hid (Row5 wr b (off + k * 5) y) := Lib.hid y0
      obtain ⟨y0, y1, y2, y3, y4⟩ := y0
      have hk0 : (0 : Int) ≤ (k : Int) := by omega
      have hk1 : (k : Int) < (n : Int) := by omega
      have hsn := Lib.hid (filt_snoc (neC x) ey)
      have hle := filt_le (neC x) cs k
      clear ey
      obtain ⟨acc, hacc⟩ : ∃ acc, (cs.take k).filter (neC x) = acc := ⟨_, rfl⟩
      rw [hacc] at H hle hsn
      clear hacc
      have heq := equal51 y x
      cases hxy : eqC y x
      · have hne : ¬ y = x := fun e => by rw [(eqC_iff y x).2 e] at hxy; cases hxy
        have hn1 : Hid ((cs.take (k + 1)).filter (neC x) = acc ++ [y]) := Lib.hid (by rw [hsn.out, if_pos (by unfold neC; simpa using hne)])
        clear hne
        rw [hxy] at heq
        have hxy := Lib.hid hxy
        clear hsn
        have hsz1' := Lib.hid hsz1
        clear hsz1
        go_wp2_with fail
        go_quiet (fail)
        clear heq
        have H9 := Lib.hid (H.out.later (below_drewN (Below.refl _ wr) nq))
        have hd9 : Below wr.heap.size wr (wr.drewN nq) := below_drewN (Below.refl _ wr) nq
        have hbz : w.heap.size + 1 + 1 + 1 < wr.heap.size := by obtain ⟨_, _, _, _, h⟩ := H.out; omega
        have hk9' : ∀ W, Below (w.heap.size + 1 + 1 + 1) (wr.drewN nq) W → _ := fun W h => keepW (hS5.out.below hd9 (by omega)) (hX5.out.below hd9 (by omega)) (hY5.out.below hd9 (by omega)) (by omega) (by omega) (by omega) h
        have hk9 := Lib.hid hk9'
        clear hk9' s0 s1 s2 x0 x1 x2 x3 x4 y0 y1 y2 y3 y4 hd9
        go_wp2_with fail
        obtain ⟨w9, hw9⟩ : ∃ w9, w9 = wr.drewN nq := ⟨_, rfl⟩
        rw [← hw9] at H9 hk9 ⊢
        clear hw9
        obtain ⟨v9, hB9, hown9, hb9, hs9⟩ := id H9.out
        obtain ⟨z0, z1, z2, f0, f1, f2⟩ := hB9.three
        have hB9 := Lib.hid hB9
        have hown9 := Lib.hid hown9
        refine wp_region_held_drew (S := (fun w' => w'.cell? ⟨w.heap.size, 0, none⟩ = some (.int .i64 L) ∧ w'.cell? ⟨w.heap.size, 1, none⟩ = some (.int .i64 O) ∧ w'.cell? ⟨w.heap.size, 2, none⟩ = some (.slice (some ⟨b, off, none⟩) n c) ∧ w'.cell? ⟨w.heap.size + 1, 0, none⟩ = some (.int .i64 x.s) ∧ w'.cell? ⟨w.heap.size + 1, 1, none⟩ = some (.int .i64 x.o) ∧ w'.cell? ⟨w.heap.size + 1, 2, none⟩ = some (.int .i64 x.f) ∧ w'.cell? ⟨w.heap.size + 1, 3, none⟩ = some (.int .i64 x.t) ∧ w'.cell? ⟨w.heap.size + 1, 4, none⟩ = some (.int .i64 x.w) ∧ w'.cell? ⟨b, off + k * 5, none⟩ = some (.int .i64 y.s) ∧ w'.cell? ⟨b, off + k * 5 + 1, none⟩ = some (.int .i64 y.o) ∧ w'.cell? ⟨b, off + k * 5 + 2, none⟩ = some (.int .i64 y.f) ∧ w'.cell? ⟨b, off + k * 5 + 3, none⟩ = some (.int .i64 y.t) ∧ w'.cell? ⟨b, off + k * 5 + 4, none⟩ = some (.int .i64 y.w))) (by kernel_rfl) (hk9.out _ (Below.refl _ w9).drew) (fun hHeld => ?_)
        refine wpAnyH_take (i := 0) (oi := ?o1) (v := ?hv1) ?hi1 (by kernel_rfl) (by kernel_rfl) (by kernel_rfl) ?hq1 ?hy1 (by assumption) ?hr1
        case hi1 => (simp only [List.getElem?_toArray, List.getElem?_cons_zero]; rfl)
        case hq1 => exact fun _ _ _ h => h
        case hy1 => exact Or.inl ⟨by rfl, by intro w hSw; (try dsimp only at hSw); go_simp; try with_reducible rfl⟩
        simp only [Act.put, List.setIfInBounds_toArray, List.set_cons_zero, List.set_cons_succ]
        refine wpAnyH_take (i := 2) (oi := ?o2) (v := ?hv2) ?hi2 (by kernel_rfl) (by kernel_rfl) (by kernel_rfl) ?hq2 ?hy2 (by assumption) ?hr2
        case hi2 => (simp only [List.getElem?_toArray, List.getElem?_cons_succ, List.getElem?_cons_zero]; rfl)
        case hq2 => exact fun _ _ _ h => h
        case hy2 => exact Or.inl ⟨by rfl, by intro w hSw; (try dsimp only at hSw); go_simp; try with_reducible rfl⟩
        simp only [Act.put, List.setIfInBounds_toArray, List.set_cons_zero, List.set_cons_succ]
        refine wpAnyH_take (i := 3) (oi := ?o3) (v := ?hv3) ?hi3 (by kernel_rfl) (by kernel_rfl) (by kernel_rfl) ?hq3 ?hy3 (by assumption) ?hr3
        case hi3 => (simp only [List.getElem?_toArray, List.getElem?_cons_succ, List.getElem?_cons_zero]; rfl)
        case hq3 => exact fun _ _ _ h => h
        case hy3 => exact Or.inl ⟨by rfl, by intro w hSw; (try dsimp only at hSw); go_simp; try with_reducible rfl⟩
        simp only [Act.put, List.setIfInBounds_toArray, List.set_cons_zero, List.set_cons_succ]
        refine wpAnyH_take (i := 4) (oi := ?o4) (v := ?hv4) ?hi4 (by kernel_rfl) (by kernel_rfl) (by kernel_rfl) ?hq4 ?hy4 (by assumption) ?hr4
        case hi4 => (simp only [List.getElem?_toArray, List.getElem?_cons_succ, List.getElem?_cons_zero]; rfl)
        case hq4 => exact fun _ _ _ h => h
        case hy4 => exact Or.inl ⟨by rfl, by intro w hSw; (try dsimp only at hSw); go_simp; try with_reducible rfl⟩
        simp only [Act.put, List.setIfInBounds_toArray, List.set_cons_zero, List.set_cons_succ]
        refine wpAnyH_take (i := 5) (oi := ?o5) (v := ?hv5) ?hi5 (by kernel_rfl) (by kernel_rfl) (by kernel_rfl) ?hq5 ?hy5 (by assumption) ?hr5
        case hi5 => (simp only [List.getElem?_toArray, List.getElem?_cons_succ, List.getElem?_cons_zero]; rfl)
        case hq5 => exact fun _ _ _ h => h
        case hy5 => exact Or.inl ⟨by rfl, by intro w hSw; (try dsimp only at hSw); go_simp; try with_reducible rfl⟩
        simp only [Act.put, List.setIfInBounds_toArray, List.set_cons_zero, List.set_cons_succ]
        refine wpAnyH_take (i := 6) (oi := ?o6) (v := ?hv6) ?hi6 (by kernel_rfl) (by kernel_rfl) (by kernel_rfl) ?hq6 ?hy6 (by assumption) ?hr6
        case hi6 => (simp only [List.getElem?_toArray, List.getElem?_cons_succ, List.getElem?_cons_zero]; rfl)
        case hq6 => exact fun _ _ _ h => h
        case hy6 => exact Or.inl ⟨by rfl, by intro w hSw; (try dsimp only at hSw); go_simp; try with_reducible rfl⟩
        simp only [Act.put, List.setIfInBounds_toArray, List.set_cons_zero, List.set_cons_succ]
        refine wpAnyH_ready (rs := [1, 7]) (by kernel_rfl) (by simp) ?_
        refine (AllReadyH.cons (o := ?o16) ?hi16 (fun K hK => ?hr16) (AllReadyH.cons (o := ?o15) ?hi15 (fun K hK => ?hr15) AllReadyH.nil))
        case hi16 => (simp only [List.getElem?_toArray, List.getElem?_cons_succ, List.getElem?_cons_zero]; rfl)
        case hi15 => (simp only [List.getElem?_toArray, List.getElem?_cons_succ, List.getElem?_cons_zero]; rfl)
        case hr16 =>
          go_simp
          refine hK.out _ _ ?_ (fun hHeld => ?_)
          · exact hk9.out _ (Below.refl _ w9).drew
          clear hK K
          try simp only [Act.put, List.setIfInBounds_toArray, List.set_cons_zero, List.set_cons_succ]
          refine wpAnyH_ready (rs := [7]) (by kernel_rfl) (by simp) ?_
          refine (AllReadyH.cons (o := ?o10) ?hi10 (fun K hK => ?hr10) AllReadyH.nil)
          case hi10 => (simp only [List.getElem?_toArray, List.getElem?_cons_succ, List.getElem?_cons_zero]; rfl)
          case hr10 =>
            go_simp
            refine hK.out _ _ ?_ (fun hHeld => ?_)
            · exact hk9.out _ (((Below.refl _ w9).alloc (by omega) (N51 y)).drew)
            clear hK K
            try simp only [Act.put, List.setIfInBounds_toArray, List.set_cons_zero, List.set_cons_succ]
            refine wpAnyH_ready (rs := [8]) (by kernel_rfl) (by simp) ?_
            refine (AllReadyH.cons (o := ?o9) ?hi9 (fun K hK => ?hr9) AllReadyH.nil)
            case hi9 => (simp only [List.getElem?_toArray, List.getElem?_cons_succ, List.getElem?_cons_zero]; rfl)
            case hr9 =>
              refine step_append_lies _ (by rfl) _ _ _ (by rfl) ((w.heap.size + 1 + 1 + 1) + 1) 51 i0 _ 5 40 Tryz.underlying28 hi hj0 hj1 hj2 rfl (by omega) v9 acc.length (acc.flatMap C5.cells) (by rfl) ((hown9.out.alloc _).drew) ⟨w9.heap.size, 0, none⟩ 1 1 y.cells (by rfl) (by rfl) (news_cells w9 51 y) (cells_one _) (by omega) (by unfold maxLen; omega) (by omega) (by simp; omega) (w9.heap.size + 1) (by simp) ?_
              intro gg cap w4 hown4 hgrow4 _ _
              have hW9 : Below w9.heap.size w9 (w9.alloc (N51 y)).drew := ((Below.refl _ w9).alloc (Nat.le_refl _) (N51 y)).drew
              have H4 := Lib.hid (QR.step hB9.out hown9.out hb9 hs9 hW9 hown4 hgrow4)
              obtain ⟨u0, u1, u2, r0, r1, r2⟩ := (QR.blk hB9.out hown9.out hs9 hW9 hgrow4).three
              have hX4 : Below (w.heap.size + 1 + 1 + 1) w9 w4 := QR.bel hown9.out hs9 hW9 hgrow4
              refine hK.out _ _ ?_ (fun hHeld => ?_)
              · exact hk9.out _ hX4
              clear hK K
              try simp only [Act.put, List.setIfInBounds_toArray, List.set_cons_zero, List.set_cons_succ]
              refine wpAnyH_take (i := 9) (oi := ?o7) (v := ?hv7) ?hi7 (by kernel_rfl) (by kernel_rfl) (by kernel_rfl) ?hq7 ?hy7 (by assumption) ?hr7
              case hi7 => (simp only [List.getElem?_toArray, List.getElem?_cons_succ, List.getElem?_cons_zero]; rfl)
              case hq7 => exact fun _ _ _ h => h
              case hy7 => exact Or.inl ⟨by rfl, by intro w hSw; (try dsimp only at hSw); go_simp; try with_reducible rfl⟩
              simp only [Act.put, List.setIfInBounds_toArray, List.set_cons_zero, List.set_cons_succ]
              refine wpAnyH_ready (rs := [10]) (by kernel_rfl) (by simp) ?_
              refine (AllReadyH.cons (o := ?o8) ?hi8 (fun K hK => ?hr8) AllReadyH.nil)
              case hi8 => (simp only [List.getElem?_toArray, List.getElem?_cons_succ, List.getElem?_cons_zero]; rfl)
              case hr8 =>
                go_simp
                refine hK.out _ _ ?_ (fun hHeld => ?_)
                · exact hk9.out _ (hX4.setCell (p := ⟨(w.heap.size + 1 + 1 + 1), 2, none⟩) (Nat.le_refl _) _)
                clear hK K
                try simp only [Act.put, List.setIfInBounds_toArray, List.set_cons_zero, List.set_cons_succ]
                refine wpAnyH_done (by kernel_rfl) ?_ _
                go_wp2_with fail
                have H7 : Hid (QR w1 L O (w.heap.size + 1 + 1 + 1) ((cs.take (k + 1)).filter (neC x)) (w4.setCell ⟨(w.heap.size + 1 + 1 + 1), 2, none⟩ (.slice (some ⟨gg, 0, none⟩) (acc.length + 1) cap))) := Lib.hid (by rw [hn1.out]; exact H4.out)
                go_roundw
                case rel => exact ⟨k + 1, by omega, by go_num, H7⟩
                case measure => simp [intOf]; omega
        case hr15 =>
          have z2b := (World.cell?_alloc_lt w9 (N51 y) ⟨(w.heap.size + 1 + 1 + 1), 2, none⟩ (by show (w.heap.size + 1 + 1 + 1) < w9.heap.size; omega)).trans z2
          go_simp
          refine hK.out _ _ ?_ (fun hHeld => ?_)
          · exact hk9.out _ (((Below.refl _ w9).alloc (by omega) (N51 y)).drew)
          clear hK K
          try simp only [Act.put, List.setIfInBounds_toArray, List.set_cons_zero, List.set_cons_succ]
          refine wpAnyH_ready (rs := [1]) (by kernel_rfl) (by simp) ?_
          refine (AllReadyH.cons (o := ?o14) ?hi14 (fun K hK => ?hr14) AllReadyH.nil)
          case hi14 => (simp only [List.getElem?_toArray, List.getElem?_cons_succ, List.getElem?_cons_zero]; rfl)
          case hr14 =>
            go_simp
            refine hK.out _ _ ?_ (fun hHeld => ?_)
            · exact hk9.out _ (((Below.refl _ w9).alloc (by omega) (N51 y)).drew)
            clear hK K
            try simp only [Act.put, List.setIfInBounds_toArray, List.set_cons_zero, List.set_cons_succ]
            refine wpAnyH_ready (rs := [8]) (by kernel_rfl) (by simp) ?_
            refine (AllReadyH.cons (o := ?o13) ?hi13 (fun K hK => ?hr13) AllReadyH.nil)
            case hi13 => (simp only [List.getElem?_toArray, List.getElem?_cons_succ, List.getElem?_cons_zero]; rfl)
            case hr13 =>
              refine step_append_lies _ (by rfl) _ _ _ (by rfl) ((w.heap.size + 1 + 1 + 1) + 1) 51 i0 _ 5 40 Tryz.underlying28 hi hj0 hj1 hj2 rfl (by omega) v9 acc.length (acc.flatMap C5.cells) (by rfl) ((hown9.out.alloc _).drew) ⟨w9.heap.size, 0, none⟩ 1 1 y.cells (by rfl) (by rfl) (news_cells w9 51 y) (cells_one _) (by omega) (by unfold maxLen; omega) (by omega) (by simp; omega) (w9.heap.size + 1) (by simp) ?_
              intro gg cap w4 hown4 hgrow4 _ _
              have hW9 : Below w9.heap.size w9 (w9.alloc (N51 y)).drew := ((Below.refl _ w9).alloc (Nat.le_refl _) (N51 y)).drew
              have H4 := Lib.hid (QR.step hB9.out hown9.out hb9 hs9 hW9 hown4 hgrow4)
              obtain ⟨u0, u1, u2, r0, r1, r2⟩ := (QR.blk hB9.out hown9.out hs9 hW9 hgrow4).three
              have hX4 : Below (w.heap.size + 1 + 1 + 1) w9 w4 := QR.bel hown9.out hs9 hW9 hgrow4
              refine hK.out _ _ ?_ (fun hHeld => ?_)
              · exact hk9.out _ hX4
              clear hK K
              try simp only [Act.put, List.setIfInBounds_toArray, List.set_cons_zero, List.set_cons_succ]
              refine wpAnyH_take (i := 9) (oi := ?o11) (v := ?hv11) ?hi11 (by kernel_rfl) (by kernel_rfl) (by kernel_rfl) ?hq11 ?hy11 (by assumption) ?hr11
              case hi11 => (simp only [List.getElem?_toArray, List.getElem?_cons_succ, List.getElem?_cons_zero]; rfl)
              case hq11 => exact fun _ _ _ h => h
              case hy11 => exact Or.inl ⟨by rfl, by intro w hSw; (try dsimp only at hSw); go_simp; try with_reducible rfl⟩
              simp only [Act.put, List.setIfInBounds_toArray, List.set_cons_zero, List.set_cons_succ]
              refine wpAnyH_ready (rs := [10]) (by kernel_rfl) (by simp) ?_
              refine (AllReadyH.cons (o := ?o12) ?hi12 (fun K hK => ?hr12) AllReadyH.nil)
              case hi12 => (simp only [List.getElem?_toArray, List.getElem?_cons_succ, List.getElem?_cons_zero]; rfl)
              case hr12 =>
                go_simp
                refine hK.out _ _ ?_ (fun hHeld => ?_)
                · exact hk9.out _ (hX4.setCell (p := ⟨(w.heap.size + 1 + 1 + 1), 2, none⟩) (Nat.le_refl _) _)
                clear hK K
                try simp only [Act.put, List.setIfInBounds_toArray, List.set_cons_zero, List.set_cons_succ]
                refine wpAnyH_done (by kernel_rfl) ?_ _
                go_wp2_with fail
                have H7 : Hid (QR w1 L O (w.heap.size + 1 + 1 + 1) ((cs.take (k + 1)).filter (neC x)) (w4.setCell ⟨(w.heap.size + 1 + 1 + 1), 2, none⟩ (.slice (some ⟨gg, 0, none⟩) (acc.length + 1) cap))) := Lib.hid (by rw [hn1.out]; exact H4.out)
                go_roundw
                case rel => exact ⟨k + 1, by omega, by go_num, H7⟩
                case measure => simp [intOf]; omega
      · have hn1 : Hid ((cs.take (k + 1)).filter (neC x) = acc) := Lib.hid (by rw [hsn.out, if_neg (by have := (eqC_iff y x).1 hxy; unfold neC; simp [this])])
        rw [hxy] at heq
        have hxy := Lib.hid hxy
        clear hsn
        have hsz1' := Lib.hid hsz1
        clear hsz1
        go_wp2_with fail
        go_quiet (fail)
        have H7 : Hid (QR w1 L O (w.heap.size + 1 + 1 + 1) ((cs.take (k + 1)).filter (neC x)) (wr.drewN nq)) := Lib.hid (by rw [hn1.out]; exact H.out.later (below_drewN (Below.refl _ wr) nq))
        go_wp2_with fail
        go_roundw
        case rel => exact ⟨k + 1, by omega, by go_num, H7⟩
        case measure => simp [intOf]; omega
    · have H8 : Hid (QR w1 L O (w.heap.size + 1 + 1 + 1) (cs.filter (neC x)) wr) := Lib.hid (by have := H.out; rwa [List.take_of_length_le (by omega)] at this)
      have hbX8 := hbX.out
      clear H
      obtain ⟨A8, c8, hB8, hE8⟩ := H8.out.end_ hw0 (R := w.heap.size + 1 + 1) (by omega) (by omega)
      obtain ⟨t0, t1, t2, g0, g1, g2⟩ := hB8.three
      obtain ⟨q0, q1, q2, d0, d1, d2⟩ := (hZ0.out.below hbX8 (by omega)).three
      have hE8 := Lib.hid hE8
      clear hB8
      go_wp2_with fail
      refine bodyPost_ret (v := .agg #[.int .i64 L, .int .i64 O, .slice A8 (cs.filter (neC x)).length c8]) (by simp [results, Tryz.results76, go_sem, q0, q1, q2]) rfl ?_
      exact hE8.out
def withL (x : C5) : List C5 → List C5
  | [] => [x]
  | y :: l => if lessB x y = true then x :: y :: l else y :: withL x l
theorem withL_length (x : C5) : ∀ cs : List C5, (withL x cs).length = cs.length + 1
  | [] => rfl
  | y :: l => by
    unfold withL
    split
    · rfl
    · simp [withL_length x l]
/-- What is still to come in With's loop. -/
def wRest (x : C5) (pb : Bool) (l : List C5) : List C5 := if pb = true then l else withL x l
theorem wRest_put {x y : C5} {cs acc R : List C5} {k : Nat} (hy : cs[k]? = some y) (h : acc ++ wRest x true (cs.drop k) = R) : (acc ++ [y]) ++ wRest x true (cs.drop (k + 1)) = R := by
  rw [drop_cons hy] at h
  rw [← h]; simp [wRest]
theorem wRest_no {x y : C5} {cs acc R : List C5} {k : Nat} (hy : cs[k]? = some y) (hl : lessB x y = false) (h : acc ++ wRest x false (cs.drop k) = R) : (acc ++ [y]) ++ wRest x false (cs.drop (k + 1)) = R := by
  rw [drop_cons hy] at h
  rw [← h]; simp [wRest, withL, hl]
theorem wRest_yes {x y : C5} {cs acc R : List C5} {k : Nat} (hy : cs[k]? = some y) (hl : lessB x y = true) (h : acc ++ wRest x false (cs.drop k) = R) : ((acc ++ [x]) ++ [y]) ++ wRest x true (cs.drop (k + 1)) = R := by
  rw [drop_cons hy] at h
  rw [← h]; simp [wRest, withL, hl]
theorem wRest_le {x : C5} {pb : Bool} {cs acc : List C5} {k : Nat} (h : acc ++ wRest x pb (cs.drop k) = withL x cs) : acc.length ≤ cs.length + 1 := by
  have := congrArg List.length h
  rw [withL_length, List.length_append] at this
  omega
set_option maxHeartbeats 8000000 in
set_option maxRecDepth 100000 in
theorem With_any (L O : Int) (x : C5) (A : Option Addr) (n c : Nat) (cs : List C5) (hn : n ≤ 1000000) (w : World) (hcs : Hid (Cells w w.heap.size A n cs)) :
    Calls Tryz.prog 75 #[.agg #[.int .i64 L, .int .i64 O, .slice A n c], .agg #[.int .i64 x.s, .int .i64 x.o, .int .i64 x.f, .int .i64 x.t, .int .i64 x.w]] w (SchedRet w L O (withL x cs)) := by
  have hw0 := A0_below w L O A n c x
  have hB0 := Lib.hid (A0_box w L O A n c x)
  have hX0 := Lib.hid (A0_x w L O A n c x)
  have hC0 := Lib.hid (hcs.out.below hw0)
  have hsz0 := boxesA w L O A n c x
  have hsz0 := Lib.hid hsz0
  have hQ0 := Lib.hid (QR.start (A0 w L O A n c x) L O (w.heap.size + 1 + 1 + 1) hsz0.out)
  have hZ0 := Lib.hid (A0_blk w L O A n c x)
  have hl := hcs.out.1
  clear hcs
  obtain ⟨i0, hi, hj0, hj1, hj2⟩ := info_parts Tryz.info51
  unfold A0 at hw0 hB0 hX0 hC0 hsz0 hQ0 hZ0
  go_enter Tryz.func75, Tryz.ntmps75
  go_wp2_with fail
  revert hw0 hB0 hX0 hC0 hsz0 hQ0 hZ0
  generalize (((w.alloc (N30 L O (.slice A n c))).alloc (N51 x)).alloc (.cells Z3 30)) = w1
  intro hw0 hB0 hX0 hC0 hsz0 hQ0 hZ0
  go_loopw [6, 7] (fun p i wx => ∃ (k : Nat) (pb : Bool) (acc : List C5), k ≤ n ∧ p = .bool pb ∧ i = .int .i64 k ∧ Hid (QR w1 L O (w.heap.size + 1 + 1 + 1) acc wx) ∧ Hid (acc ++ wRest x pb (cs.drop k) = withL x cs)) (fun _ i _ => n - (intOf i).toNat)
  case atStart => exact ⟨0, false, [], Nat.zero_le _, rfl, rfl, hQ0, Lib.hid rfl⟩
  case round =>
    obtain ⟨k, pb, acc0, hk, rfl, rfl, H, HR⟩ := hrel
    have hsz1 := hsz0.out
    have hlea0 := wRest_le HR.out
    rw [hl] at hlea0
    have hbz : w.heap.size + 1 + 1 + 1 < wr.heap.size := by obtain ⟨_, _, _, _, h⟩ := H.out; omega
    have hbX := H.out.choose_spec.2.2.1
    have hbX := Lib.hid hbX
    have hS5 := Lib.hid (hB0.out.below hbX.out (by omega))
    have hX5 := Lib.hid (hX0.out.below hbX.out (by omega))
    obtain ⟨s0, s1, s2⟩ := id hS5.out
    obtain ⟨x0, x1, x2, x3, x4⟩ := id hX5.out
    by_cases hlt : k < n
    · obtain ⟨b, off, y, hA, hby, ey, y0⟩ := (hC0.out.below (hbX.out.mono (by omega))).at_ hlt
      subst hA
      have hY5 : Hid (Row5 wr b (off + k * 5) y) := Lib.hid y0
      have hk9' : ∀ W, Below (w.heap.size + 1 + 1 + 1) wr W → _ := fun W h => keepW hS5.out hX5.out hY5.out (by omega) (by omega) (by omega) h
      have hk9 := Lib.hid hk9'
      clear hk9' y0
      have hk0 : (0 : Int) ≤ (k : Int) := by omega
      have hk1 : (k : Int) < (n : Int) := by omega
      have hsz1' := Lib.hid hsz1
      clear hsz1
      cases pb
      · cases hlx : lessB x y
        · have hn1 := Lib.hid (wRest_no ey hlx HR.out)
          have hls := Lib.hid hlx
          clear ey HR
          clear hlx
          go_wp2_with fail
          obtain ⟨acc, hacc⟩ : ∃ acc, acc = acc0 := ⟨_, rfl⟩
          rw [← hacc] at H hn1 hlea0
          clear hacc
          have hle : acc.length ≤ n + 2 := by omega
          clear hlea0
          refine wp_region_held_drew (S := (fun w' => w'.cell? ⟨w.heap.size, 0, none⟩ = some (.int .i64 L) ∧ w'.cell? ⟨w.heap.size, 1, none⟩ = some (.int .i64 O) ∧ w'.cell? ⟨w.heap.size, 2, none⟩ = some (.slice (some ⟨b, off, none⟩) n c) ∧ w'.cell? ⟨w.heap.size + 1, 0, none⟩ = some (.int .i64 x.s) ∧ w'.cell? ⟨w.heap.size + 1, 1, none⟩ = some (.int .i64 x.o) ∧ w'.cell? ⟨w.heap.size + 1, 2, none⟩ = some (.int .i64 x.f) ∧ w'.cell? ⟨w.heap.size + 1, 3, none⟩ = some (.int .i64 x.t) ∧ w'.cell? ⟨w.heap.size + 1, 4, none⟩ = some (.int .i64 x.w) ∧ w'.cell? ⟨b, off + k * 5, none⟩ = some (.int .i64 y.s) ∧ w'.cell? ⟨b, off + k * 5 + 1, none⟩ = some (.int .i64 y.o) ∧ w'.cell? ⟨b, off + k * 5 + 2, none⟩ = some (.int .i64 y.f) ∧ w'.cell? ⟨b, off + k * 5 + 3, none⟩ = some (.int .i64 y.t) ∧ w'.cell? ⟨b, off + k * 5 + 4, none⟩ = some (.int .i64 y.w))) (by kernel_rfl) (hk9.out _ (Below.refl _ wr).drew) (fun hHeld => ?_)
          refine wpAnyH_take (i := 0) (oi := ?o17) (v := ?hv17) ?hi17 (by kernel_rfl) (by kernel_rfl) (by kernel_rfl) ?hq17 ?hy17 (by assumption) ?hr17
          case hi17 => (simp only [List.getElem?_toArray, List.getElem?_cons_zero]; rfl)
          case hq17 => exact fun _ _ _ h => h
          case hy17 => exact Or.inl ⟨by rfl, by intro w hSw; (try dsimp only at hSw); go_simp; try with_reducible rfl⟩
          simp only [Act.put, List.setIfInBounds_toArray, List.set_cons_zero, List.set_cons_succ]
          refine wpAnyH_take (i := 1) (oi := ?o18) (v := ?hv18) ?hi18 (by kernel_rfl) (by kernel_rfl) (by kernel_rfl) ?hq18 ?hy18 (by assumption) ?hr18
          case hi18 => (simp only [List.getElem?_toArray, List.getElem?_cons_succ, List.getElem?_cons_zero]; rfl)
          case hq18 => exact fun _ _ _ h => h
          case hy18 => exact Or.inl ⟨by rfl, by intro w hSw; (try dsimp only at hSw); go_simp; try with_reducible rfl⟩
          simp only [Act.put, List.setIfInBounds_toArray, List.set_cons_zero, List.set_cons_succ]
          refine wpAnyH_take (i := 2) (oi := ?o19) (v := ?hv19) ?hi19 (by kernel_rfl) (by kernel_rfl) (by kernel_rfl) ?hq19 ?hy19 (by assumption) ?hr19
          case hi19 => (simp only [List.getElem?_toArray, List.getElem?_cons_succ, List.getElem?_cons_zero]; rfl)
          case hq19 => exact fun _ _ _ h => h
          case hy19 => exact Or.inl ⟨by rfl, by intro w hSw; (try dsimp only at hSw); go_simp; try with_reducible rfl⟩
          simp only [Act.put, List.setIfInBounds_toArray, List.set_cons_zero, List.set_cons_succ]
          refine wpAnyH_take (i := 3) (oi := ?o20) (v := ?hv20) ?hi20 (by kernel_rfl) (by kernel_rfl) (by kernel_rfl) ?hq20 ?hy20 (by assumption) ?hr20
          case hi20 => (simp only [List.getElem?_toArray, List.getElem?_cons_succ, List.getElem?_cons_zero]; rfl)
          case hq20 => exact fun _ _ _ h => h
          case hy20 => exact Or.inl ⟨by rfl, by intro w hSw; (try dsimp only at hSw); go_simp; try with_reducible rfl⟩
          simp only [Act.put, List.setIfInBounds_toArray, List.set_cons_zero, List.set_cons_succ]
          refine wpAnyH_take (i := 4) (oi := ?o21) (v := ?hv21) ?hi21 (by kernel_rfl) (by kernel_rfl) (by kernel_rfl) ?hq21 ?hy21 (by assumption) ?hr21
          case hi21 => (simp only [List.getElem?_toArray, List.getElem?_cons_succ, List.getElem?_cons_zero]; rfl)
          case hq21 => exact fun _ _ _ h => h
          case hy21 => exact Or.inl ⟨by rfl, by intro w hSw; (try dsimp only at hSw); go_simp; try with_reducible rfl⟩
          simp only [Act.put, List.setIfInBounds_toArray, List.set_cons_zero, List.set_cons_succ]
          refine wpAnyH_take (i := 5) (oi := ?o22) (v := ?hv22) ?hi22 (by kernel_rfl) (by kernel_rfl) (by kernel_rfl) ?hq22 ?hy22 (by assumption) ?hr22
          case hi22 => (simp only [List.getElem?_toArray, List.getElem?_cons_succ, List.getElem?_cons_zero]; rfl)
          case hq22 => exact fun _ _ _ h => h
          case hy22 => exact Or.inl ⟨by rfl, by intro w hSw; (try dsimp only at hSw); go_simp; try with_reducible rfl⟩
          simp only [Act.put, List.setIfInBounds_toArray, List.set_cons_zero, List.set_cons_succ]
          refine wpAnyH_take (i := 6) (oi := ?o23) (v := ?hv23) ?hi23 (by kernel_rfl) (by kernel_rfl) (by kernel_rfl) ?hq23 ?hy23 (by assumption) ?hr23
          case hi23 => (simp only [List.getElem?_toArray, List.getElem?_cons_succ, List.getElem?_cons_zero]; rfl)
          case hq23 => exact fun _ _ _ h => h
          case hy23 => exact Or.inl ⟨by rfl, by intro w hSw; (try dsimp only at hSw); go_simp; try with_reducible rfl⟩
          simp only [Act.put, List.setIfInBounds_toArray, List.set_cons_zero, List.set_cons_succ]
          refine wpAnyH_take (i := 7) (oi := ?o24) (v := ?hv24) ?hi24 (by kernel_rfl) (by kernel_rfl) (by kernel_rfl) ?hq24 ?hy24 (by assumption) ?hr24
          case hi24 => (simp only [List.getElem?_toArray, List.getElem?_cons_succ, List.getElem?_cons_zero]; rfl)
          case hq24 => exact fun _ _ _ h => h
          case hy24 => exact Or.inl ⟨by rfl, by intro w hSw; (try dsimp only at hSw); go_simp; try with_reducible rfl⟩
          simp only [Act.put, List.setIfInBounds_toArray, List.set_cons_zero, List.set_cons_succ]
          refine wpAnyH_take (i := 8) (oi := ?o25) (v := ?hv25) ?hi25 (by kernel_rfl) (by kernel_rfl) (by kernel_rfl) ?hq25 ?hy25 (by assumption) ?hr25
          case hi25 => (simp only [List.getElem?_toArray, List.getElem?_cons_succ, List.getElem?_cons_zero]; rfl)
          case hq25 => exact fun _ _ _ h => h
          case hy25 => exact Or.inl ⟨by rfl, by intro w hSw; (try dsimp only at hSw); go_simp; try with_reducible rfl⟩
          simp only [Act.put, List.setIfInBounds_toArray, List.set_cons_zero, List.set_cons_succ]
          refine wpAnyH_ready (rs := [9]) (by kernel_rfl) (by simp) ?_
          refine (AllReadyH.cons (o := ?o27) ?hi27 (fun K hK => ?hr27) AllReadyH.nil)
          case hi27 => (simp only [List.getElem?_toArray, List.getElem?_cons_succ, List.getElem?_cons_zero]; rfl)
          case hr27 =>
            go_simp
            refine (carry (w0 := wr) (Less_lit x y false hls _) ?_).mono ?_
            · (repeat first | assumption | exact Below.refl _ _ | refine Below.drew ?_)
            rintro e w6 ⟨rfl, hb6⟩
            go_wp2_with fail
            refine hK.out _ _ ?_ (fun hHeld => ?_)
            · exact hk9.out _ (hb6.mono (by omega))
            clear hK K
            try simp only [Act.put, List.setIfInBounds_toArray, List.set_cons_zero, List.set_cons_succ]
            refine wpAnyH_take (i := 10) (oi := ?o26) (v := ?hv26) ?hi26 (by kernel_rfl) (by kernel_rfl) (by kernel_rfl) ?hq26 ?hy26 (by assumption) ?hr26
            case hi26 => (simp only [List.getElem?_toArray, List.getElem?_cons_succ, List.getElem?_cons_zero]; rfl)
            case hq26 => exact fun _ _ _ h => h
            case hy26 => exact Or.inl ⟨by rfl, by intro w hSw; (try dsimp only at hSw); go_simp; try with_reducible rfl⟩
            simp only [Act.put, List.setIfInBounds_toArray, List.set_cons_zero, List.set_cons_succ]
            refine wpAnyH_done (by kernel_rfl) ?_ _
            go_wp2_with fail
            have H9 := Lib.hid (H.out.later hb6)
            have hk9b := Lib.hid (fun W (h : Below (w.heap.size + 1 + 1 + 1) w6 W) => hk9.out W ((hb6.mono (by omega)).trans h))
            have hbz9 : (w.heap.size + 1 + 1 + 1) < w6.heap.size := by have := hb6.size; omega
            clear hk9 s0 s1 s2 x0 x1 x2 x3 x4 H
            obtain ⟨w9, hw9⟩ : ∃ w9, w9 = w6 := ⟨_, rfl⟩
            rw [← hw9] at H9 hk9b hbz9 ⊢
            clear hw9
            have hk9 := hk9b
            clear hk9b
            obtain ⟨v9, hB9, hown9, hb9, hs9⟩ := id H9.out
            obtain ⟨z0, z1, z2, f0, f1, f2⟩ := hB9.three
            have hB9 := Lib.hid hB9
            have hown9 := Lib.hid hown9
            refine wp_region_held_drew (S := (fun w' => w'.cell? ⟨w.heap.size, 0, none⟩ = some (.int .i64 L) ∧ w'.cell? ⟨w.heap.size, 1, none⟩ = some (.int .i64 O) ∧ w'.cell? ⟨w.heap.size, 2, none⟩ = some (.slice (some ⟨b, off, none⟩) n c) ∧ w'.cell? ⟨w.heap.size + 1, 0, none⟩ = some (.int .i64 x.s) ∧ w'.cell? ⟨w.heap.size + 1, 1, none⟩ = some (.int .i64 x.o) ∧ w'.cell? ⟨w.heap.size + 1, 2, none⟩ = some (.int .i64 x.f) ∧ w'.cell? ⟨w.heap.size + 1, 3, none⟩ = some (.int .i64 x.t) ∧ w'.cell? ⟨w.heap.size + 1, 4, none⟩ = some (.int .i64 x.w) ∧ w'.cell? ⟨b, off + k * 5, none⟩ = some (.int .i64 y.s) ∧ w'.cell? ⟨b, off + k * 5 + 1, none⟩ = some (.int .i64 y.o) ∧ w'.cell? ⟨b, off + k * 5 + 2, none⟩ = some (.int .i64 y.f) ∧ w'.cell? ⟨b, off + k * 5 + 3, none⟩ = some (.int .i64 y.t) ∧ w'.cell? ⟨b, off + k * 5 + 4, none⟩ = some (.int .i64 y.w))) (by kernel_rfl) (hk9.out _ (Below.refl _ w9).drew) (fun hHeld => ?_)
            refine wpAnyH_take (i := 0) (oi := ?o28) (v := ?hv28) ?hi28 (by kernel_rfl) (by kernel_rfl) (by kernel_rfl) ?hq28 ?hy28 (by assumption) ?hr28
            case hi28 => (simp only [List.getElem?_toArray, List.getElem?_cons_zero]; rfl)
            case hq28 => exact fun _ _ _ h => h
            case hy28 => exact Or.inl ⟨by rfl, by intro w hSw; (try dsimp only at hSw); go_simp; try with_reducible rfl⟩
            simp only [Act.put, List.setIfInBounds_toArray, List.set_cons_zero, List.set_cons_succ]
            refine wpAnyH_take (i := 2) (oi := ?o29) (v := ?hv29) ?hi29 (by kernel_rfl) (by kernel_rfl) (by kernel_rfl) ?hq29 ?hy29 (by assumption) ?hr29
            case hi29 => (simp only [List.getElem?_toArray, List.getElem?_cons_succ, List.getElem?_cons_zero]; rfl)
            case hq29 => exact fun _ _ _ h => h
            case hy29 => exact Or.inl ⟨by rfl, by intro w hSw; (try dsimp only at hSw); go_simp; try with_reducible rfl⟩
            simp only [Act.put, List.setIfInBounds_toArray, List.set_cons_zero, List.set_cons_succ]
            refine wpAnyH_take (i := 3) (oi := ?o30) (v := ?hv30) ?hi30 (by kernel_rfl) (by kernel_rfl) (by kernel_rfl) ?hq30 ?hy30 (by assumption) ?hr30
            case hi30 => (simp only [List.getElem?_toArray, List.getElem?_cons_succ, List.getElem?_cons_zero]; rfl)
            case hq30 => exact fun _ _ _ h => h
            case hy30 => exact Or.inl ⟨by rfl, by intro w hSw; (try dsimp only at hSw); go_simp; try with_reducible rfl⟩
            simp only [Act.put, List.setIfInBounds_toArray, List.set_cons_zero, List.set_cons_succ]
            refine wpAnyH_take (i := 4) (oi := ?o31) (v := ?hv31) ?hi31 (by kernel_rfl) (by kernel_rfl) (by kernel_rfl) ?hq31 ?hy31 (by assumption) ?hr31
            case hi31 => (simp only [List.getElem?_toArray, List.getElem?_cons_succ, List.getElem?_cons_zero]; rfl)
            case hq31 => exact fun _ _ _ h => h
            case hy31 => exact Or.inl ⟨by rfl, by intro w hSw; (try dsimp only at hSw); go_simp; try with_reducible rfl⟩
            simp only [Act.put, List.setIfInBounds_toArray, List.set_cons_zero, List.set_cons_succ]
            refine wpAnyH_take (i := 5) (oi := ?o32) (v := ?hv32) ?hi32 (by kernel_rfl) (by kernel_rfl) (by kernel_rfl) ?hq32 ?hy32 (by assumption) ?hr32
            case hi32 => (simp only [List.getElem?_toArray, List.getElem?_cons_succ, List.getElem?_cons_zero]; rfl)
            case hq32 => exact fun _ _ _ h => h
            case hy32 => exact Or.inl ⟨by rfl, by intro w hSw; (try dsimp only at hSw); go_simp; try with_reducible rfl⟩
            simp only [Act.put, List.setIfInBounds_toArray, List.set_cons_zero, List.set_cons_succ]
            refine wpAnyH_take (i := 6) (oi := ?o33) (v := ?hv33) ?hi33 (by kernel_rfl) (by kernel_rfl) (by kernel_rfl) ?hq33 ?hy33 (by assumption) ?hr33
            case hi33 => (simp only [List.getElem?_toArray, List.getElem?_cons_succ, List.getElem?_cons_zero]; rfl)
            case hq33 => exact fun _ _ _ h => h
            case hy33 => exact Or.inl ⟨by rfl, by intro w hSw; (try dsimp only at hSw); go_simp; try with_reducible rfl⟩
            simp only [Act.put, List.setIfInBounds_toArray, List.set_cons_zero, List.set_cons_succ]
            refine wpAnyH_ready (rs := [1, 7]) (by kernel_rfl) (by simp) ?_
            refine (AllReadyH.cons (o := ?o43) ?hi43 (fun K hK => ?hr43) (AllReadyH.cons (o := ?o42) ?hi42 (fun K hK => ?hr42) AllReadyH.nil))
            case hi43 => (simp only [List.getElem?_toArray, List.getElem?_cons_succ, List.getElem?_cons_zero]; rfl)
            case hi42 => (simp only [List.getElem?_toArray, List.getElem?_cons_succ, List.getElem?_cons_zero]; rfl)
            case hr43 =>
              go_simp
              refine hK.out _ _ ?_ (fun hHeld => ?_)
              · exact hk9.out _ (Below.refl _ w9).drew
              clear hK K
              try simp only [Act.put, List.setIfInBounds_toArray, List.set_cons_zero, List.set_cons_succ]
              refine wpAnyH_ready (rs := [7]) (by kernel_rfl) (by simp) ?_
              refine (AllReadyH.cons (o := ?o37) ?hi37 (fun K hK => ?hr37) AllReadyH.nil)
              case hi37 => (simp only [List.getElem?_toArray, List.getElem?_cons_succ, List.getElem?_cons_zero]; rfl)
              case hr37 =>
                go_simp
                refine hK.out _ _ ?_ (fun hHeld => ?_)
                · exact hk9.out _ (((Below.refl _ w9).alloc (by omega) (N51 y)).drew)
                clear hK K
                try simp only [Act.put, List.setIfInBounds_toArray, List.set_cons_zero, List.set_cons_succ]
                refine wpAnyH_ready (rs := [8]) (by kernel_rfl) (by simp) ?_
                refine (AllReadyH.cons (o := ?o36) ?hi36 (fun K hK => ?hr36) AllReadyH.nil)
                case hi36 => (simp only [List.getElem?_toArray, List.getElem?_cons_succ, List.getElem?_cons_zero]; rfl)
                case hr36 =>
                  refine step_append_lies _ (by rfl) _ _ _ (by rfl) ((w.heap.size + 1 + 1 + 1) + 1) 51 i0 _ 5 40 Tryz.underlying28 hi hj0 hj1 hj2 rfl (by omega) v9 acc.length (acc.flatMap C5.cells) (by rfl) ((hown9.out.alloc _).drew) ⟨w9.heap.size, 0, none⟩ 1 1 y.cells (by rfl) (by rfl) (news_cells w9 51 y) (cells_one _) (by omega) (by unfold maxLen; omega) (by omega) (by simp; omega) (w9.heap.size + 1) (by simp) ?_
                  intro gg cap w4 hown4 hgrow4 _ _
                  have hW9 : Below w9.heap.size w9 (w9.alloc (N51 y)).drew := ((Below.refl _ w9).alloc (Nat.le_refl _) (N51 y)).drew
                  have H4 := Lib.hid (QR.step hB9.out hown9.out hb9 hs9 hW9 hown4 hgrow4)
                  obtain ⟨u0, u1, u2, r0, r1, r2⟩ := (QR.blk hB9.out hown9.out hs9 hW9 hgrow4).three
                  have hX4 : Below (w.heap.size + 1 + 1 + 1) w9 w4 := QR.bel hown9.out hs9 hW9 hgrow4
                  refine hK.out _ _ ?_ (fun hHeld => ?_)
                  · exact hk9.out _ hX4
                  clear hK K
                  try simp only [Act.put, List.setIfInBounds_toArray, List.set_cons_zero, List.set_cons_succ]
                  refine wpAnyH_take (i := 9) (oi := ?o34) (v := ?hv34) ?hi34 (by kernel_rfl) (by kernel_rfl) (by kernel_rfl) ?hq34 ?hy34 (by assumption) ?hr34
                  case hi34 => (simp only [List.getElem?_toArray, List.getElem?_cons_succ, List.getElem?_cons_zero]; rfl)
                  case hq34 => exact fun _ _ _ h => h
                  case hy34 => exact Or.inl ⟨by rfl, by intro w hSw; (try dsimp only at hSw); go_simp; try with_reducible rfl⟩
                  simp only [Act.put, List.setIfInBounds_toArray, List.set_cons_zero, List.set_cons_succ]
                  refine wpAnyH_ready (rs := [10]) (by kernel_rfl) (by simp) ?_
                  refine (AllReadyH.cons (o := ?o35) ?hi35 (fun K hK => ?hr35) AllReadyH.nil)
                  case hi35 => (simp only [List.getElem?_toArray, List.getElem?_cons_succ, List.getElem?_cons_zero]; rfl)
                  case hr35 =>
                    go_simp
                    refine hK.out _ _ ?_ (fun hHeld => ?_)
                    · exact hk9.out _ (hX4.setCell (p := ⟨(w.heap.size + 1 + 1 + 1), 2, none⟩) (Nat.le_refl _) _)
                    clear hK K
                    try simp only [Act.put, List.setIfInBounds_toArray, List.set_cons_zero, List.set_cons_succ]
                    refine wpAnyH_done (by kernel_rfl) ?_ _
                    go_wp2_with fail
                    have H7 : Hid (QR w1 L O (w.heap.size + 1 + 1 + 1) (acc ++ [y]) (w4.setCell ⟨(w.heap.size + 1 + 1 + 1), 2, none⟩ (.slice (some ⟨gg, 0, none⟩) (acc.length + 1) cap))) := H4
                    go_roundw
                    case rel => exact ⟨k + 1, false, _, by omega, rfl, by go_num, H7, hn1⟩
                    case measure => simp [intOf]; omega
            case hr42 =>
              have z2b := (World.cell?_alloc_lt w9 (N51 y) ⟨(w.heap.size + 1 + 1 + 1), 2, none⟩ (by show (w.heap.size + 1 + 1 + 1) < w9.heap.size; omega)).trans z2
              go_simp
              refine hK.out _ _ ?_ (fun hHeld => ?_)
              · exact hk9.out _ (((Below.refl _ w9).alloc (by omega) (N51 y)).drew)
              clear hK K
              try simp only [Act.put, List.setIfInBounds_toArray, List.set_cons_zero, List.set_cons_succ]
              refine wpAnyH_ready (rs := [1]) (by kernel_rfl) (by simp) ?_
              refine (AllReadyH.cons (o := ?o41) ?hi41 (fun K hK => ?hr41) AllReadyH.nil)
              case hi41 => (simp only [List.getElem?_toArray, List.getElem?_cons_succ, List.getElem?_cons_zero]; rfl)
              case hr41 =>
                go_simp
                refine hK.out _ _ ?_ (fun hHeld => ?_)
                · exact hk9.out _ (((Below.refl _ w9).alloc (by omega) (N51 y)).drew)
                clear hK K
                try simp only [Act.put, List.setIfInBounds_toArray, List.set_cons_zero, List.set_cons_succ]
                refine wpAnyH_ready (rs := [8]) (by kernel_rfl) (by simp) ?_
                refine (AllReadyH.cons (o := ?o40) ?hi40 (fun K hK => ?hr40) AllReadyH.nil)
                case hi40 => (simp only [List.getElem?_toArray, List.getElem?_cons_succ, List.getElem?_cons_zero]; rfl)
                case hr40 =>
                  refine step_append_lies _ (by rfl) _ _ _ (by rfl) ((w.heap.size + 1 + 1 + 1) + 1) 51 i0 _ 5 40 Tryz.underlying28 hi hj0 hj1 hj2 rfl (by omega) v9 acc.length (acc.flatMap C5.cells) (by rfl) ((hown9.out.alloc _).drew) ⟨w9.heap.size, 0, none⟩ 1 1 y.cells (by rfl) (by rfl) (news_cells w9 51 y) (cells_one _) (by omega) (by unfold maxLen; omega) (by omega) (by simp; omega) (w9.heap.size + 1) (by simp) ?_
                  intro gg cap w4 hown4 hgrow4 _ _
                  have hW9 : Below w9.heap.size w9 (w9.alloc (N51 y)).drew := ((Below.refl _ w9).alloc (Nat.le_refl _) (N51 y)).drew
                  have H4 := Lib.hid (QR.step hB9.out hown9.out hb9 hs9 hW9 hown4 hgrow4)
                  obtain ⟨u0, u1, u2, r0, r1, r2⟩ := (QR.blk hB9.out hown9.out hs9 hW9 hgrow4).three
                  have hX4 : Below (w.heap.size + 1 + 1 + 1) w9 w4 := QR.bel hown9.out hs9 hW9 hgrow4
                  refine hK.out _ _ ?_ (fun hHeld => ?_)
                  · exact hk9.out _ hX4
                  clear hK K
                  try simp only [Act.put, List.setIfInBounds_toArray, List.set_cons_zero, List.set_cons_succ]
                  refine wpAnyH_take (i := 9) (oi := ?o38) (v := ?hv38) ?hi38 (by kernel_rfl) (by kernel_rfl) (by kernel_rfl) ?hq38 ?hy38 (by assumption) ?hr38
                  case hi38 => (simp only [List.getElem?_toArray, List.getElem?_cons_succ, List.getElem?_cons_zero]; rfl)
                  case hq38 => exact fun _ _ _ h => h
                  case hy38 => exact Or.inl ⟨by rfl, by intro w hSw; (try dsimp only at hSw); go_simp; try with_reducible rfl⟩
                  simp only [Act.put, List.setIfInBounds_toArray, List.set_cons_zero, List.set_cons_succ]
                  refine wpAnyH_ready (rs := [10]) (by kernel_rfl) (by simp) ?_
                  refine (AllReadyH.cons (o := ?o39) ?hi39 (fun K hK => ?hr39) AllReadyH.nil)
                  case hi39 => (simp only [List.getElem?_toArray, List.getElem?_cons_succ, List.getElem?_cons_zero]; rfl)
                  case hr39 =>
                    go_simp
                    refine hK.out _ _ ?_ (fun hHeld => ?_)
                    · exact hk9.out _ (hX4.setCell (p := ⟨(w.heap.size + 1 + 1 + 1), 2, none⟩) (Nat.le_refl _) _)
                    clear hK K
                    try simp only [Act.put, List.setIfInBounds_toArray, List.set_cons_zero, List.set_cons_succ]
                    refine wpAnyH_done (by kernel_rfl) ?_ _
                    go_wp2_with fail
                    have H7 : Hid (QR w1 L O (w.heap.size + 1 + 1 + 1) (acc ++ [y]) (w4.setCell ⟨(w.heap.size + 1 + 1 + 1), 2, none⟩ (.slice (some ⟨gg, 0, none⟩) (acc.length + 1) cap))) := H4
                    go_roundw
                    case rel => exact ⟨k + 1, false, _, by omega, rfl, by go_num, H7, hn1⟩
                    case measure => simp [intOf]; omega
        · have hn1 := Lib.hid (wRest_yes ey hlx HR.out)
          have hls := Lib.hid hlx
          clear ey HR
          clear hlx
          go_wp2_with fail
          refine wp_region_held_drew (S := (fun w' => w'.cell? ⟨w.heap.size, 0, none⟩ = some (.int .i64 L) ∧ w'.cell? ⟨w.heap.size, 1, none⟩ = some (.int .i64 O) ∧ w'.cell? ⟨w.heap.size, 2, none⟩ = some (.slice (some ⟨b, off, none⟩) n c) ∧ w'.cell? ⟨w.heap.size + 1, 0, none⟩ = some (.int .i64 x.s) ∧ w'.cell? ⟨w.heap.size + 1, 1, none⟩ = some (.int .i64 x.o) ∧ w'.cell? ⟨w.heap.size + 1, 2, none⟩ = some (.int .i64 x.f) ∧ w'.cell? ⟨w.heap.size + 1, 3, none⟩ = some (.int .i64 x.t) ∧ w'.cell? ⟨w.heap.size + 1, 4, none⟩ = some (.int .i64 x.w) ∧ w'.cell? ⟨b, off + k * 5, none⟩ = some (.int .i64 y.s) ∧ w'.cell? ⟨b, off + k * 5 + 1, none⟩ = some (.int .i64 y.o) ∧ w'.cell? ⟨b, off + k * 5 + 2, none⟩ = some (.int .i64 y.f) ∧ w'.cell? ⟨b, off + k * 5 + 3, none⟩ = some (.int .i64 y.t) ∧ w'.cell? ⟨b, off + k * 5 + 4, none⟩ = some (.int .i64 y.w))) (by kernel_rfl) (hk9.out _ (Below.refl _ wr).drew) (fun hHeld => ?_)
          refine wpAnyH_take (i := 0) (oi := ?o44) (v := ?hv44) ?hi44 (by kernel_rfl) (by kernel_rfl) (by kernel_rfl) ?hq44 ?hy44 (by assumption) ?hr44
          case hi44 => (simp only [List.getElem?_toArray, List.getElem?_cons_zero]; rfl)
          case hq44 => exact fun _ _ _ h => h
          case hy44 => exact Or.inl ⟨by rfl, by intro w hSw; (try dsimp only at hSw); go_simp; try with_reducible rfl⟩
          simp only [Act.put, List.setIfInBounds_toArray, List.set_cons_zero, List.set_cons_succ]
          refine wpAnyH_take (i := 1) (oi := ?o45) (v := ?hv45) ?hi45 (by kernel_rfl) (by kernel_rfl) (by kernel_rfl) ?hq45 ?hy45 (by assumption) ?hr45
          case hi45 => (simp only [List.getElem?_toArray, List.getElem?_cons_succ, List.getElem?_cons_zero]; rfl)
          case hq45 => exact fun _ _ _ h => h
          case hy45 => exact Or.inl ⟨by rfl, by intro w hSw; (try dsimp only at hSw); go_simp; try with_reducible rfl⟩
          simp only [Act.put, List.setIfInBounds_toArray, List.set_cons_zero, List.set_cons_succ]
          refine wpAnyH_take (i := 2) (oi := ?o46) (v := ?hv46) ?hi46 (by kernel_rfl) (by kernel_rfl) (by kernel_rfl) ?hq46 ?hy46 (by assumption) ?hr46
          case hi46 => (simp only [List.getElem?_toArray, List.getElem?_cons_succ, List.getElem?_cons_zero]; rfl)
          case hq46 => exact fun _ _ _ h => h
          case hy46 => exact Or.inl ⟨by rfl, by intro w hSw; (try dsimp only at hSw); go_simp; try with_reducible rfl⟩
          simp only [Act.put, List.setIfInBounds_toArray, List.set_cons_zero, List.set_cons_succ]
          refine wpAnyH_take (i := 3) (oi := ?o47) (v := ?hv47) ?hi47 (by kernel_rfl) (by kernel_rfl) (by kernel_rfl) ?hq47 ?hy47 (by assumption) ?hr47
          case hi47 => (simp only [List.getElem?_toArray, List.getElem?_cons_succ, List.getElem?_cons_zero]; rfl)
          case hq47 => exact fun _ _ _ h => h
          case hy47 => exact Or.inl ⟨by rfl, by intro w hSw; (try dsimp only at hSw); go_simp; try with_reducible rfl⟩
          simp only [Act.put, List.setIfInBounds_toArray, List.set_cons_zero, List.set_cons_succ]
          refine wpAnyH_take (i := 4) (oi := ?o48) (v := ?hv48) ?hi48 (by kernel_rfl) (by kernel_rfl) (by kernel_rfl) ?hq48 ?hy48 (by assumption) ?hr48
          case hi48 => (simp only [List.getElem?_toArray, List.getElem?_cons_succ, List.getElem?_cons_zero]; rfl)
          case hq48 => exact fun _ _ _ h => h
          case hy48 => exact Or.inl ⟨by rfl, by intro w hSw; (try dsimp only at hSw); go_simp; try with_reducible rfl⟩
          simp only [Act.put, List.setIfInBounds_toArray, List.set_cons_zero, List.set_cons_succ]
          refine wpAnyH_take (i := 5) (oi := ?o49) (v := ?hv49) ?hi49 (by kernel_rfl) (by kernel_rfl) (by kernel_rfl) ?hq49 ?hy49 (by assumption) ?hr49
          case hi49 => (simp only [List.getElem?_toArray, List.getElem?_cons_succ, List.getElem?_cons_zero]; rfl)
          case hq49 => exact fun _ _ _ h => h
          case hy49 => exact Or.inl ⟨by rfl, by intro w hSw; (try dsimp only at hSw); go_simp; try with_reducible rfl⟩
          simp only [Act.put, List.setIfInBounds_toArray, List.set_cons_zero, List.set_cons_succ]
          refine wpAnyH_take (i := 6) (oi := ?o50) (v := ?hv50) ?hi50 (by kernel_rfl) (by kernel_rfl) (by kernel_rfl) ?hq50 ?hy50 (by assumption) ?hr50
          case hi50 => (simp only [List.getElem?_toArray, List.getElem?_cons_succ, List.getElem?_cons_zero]; rfl)
          case hq50 => exact fun _ _ _ h => h
          case hy50 => exact Or.inl ⟨by rfl, by intro w hSw; (try dsimp only at hSw); go_simp; try with_reducible rfl⟩
          simp only [Act.put, List.setIfInBounds_toArray, List.set_cons_zero, List.set_cons_succ]
          refine wpAnyH_take (i := 7) (oi := ?o51) (v := ?hv51) ?hi51 (by kernel_rfl) (by kernel_rfl) (by kernel_rfl) ?hq51 ?hy51 (by assumption) ?hr51
          case hi51 => (simp only [List.getElem?_toArray, List.getElem?_cons_succ, List.getElem?_cons_zero]; rfl)
          case hq51 => exact fun _ _ _ h => h
          case hy51 => exact Or.inl ⟨by rfl, by intro w hSw; (try dsimp only at hSw); go_simp; try with_reducible rfl⟩
          simp only [Act.put, List.setIfInBounds_toArray, List.set_cons_zero, List.set_cons_succ]
          refine wpAnyH_take (i := 8) (oi := ?o52) (v := ?hv52) ?hi52 (by kernel_rfl) (by kernel_rfl) (by kernel_rfl) ?hq52 ?hy52 (by assumption) ?hr52
          case hi52 => (simp only [List.getElem?_toArray, List.getElem?_cons_succ, List.getElem?_cons_zero]; rfl)
          case hq52 => exact fun _ _ _ h => h
          case hy52 => exact Or.inl ⟨by rfl, by intro w hSw; (try dsimp only at hSw); go_simp; try with_reducible rfl⟩
          simp only [Act.put, List.setIfInBounds_toArray, List.set_cons_zero, List.set_cons_succ]
          refine wpAnyH_ready (rs := [9]) (by kernel_rfl) (by simp) ?_
          refine (AllReadyH.cons (o := ?o54) ?hi54 (fun K hK => ?hr54) AllReadyH.nil)
          case hi54 => (simp only [List.getElem?_toArray, List.getElem?_cons_succ, List.getElem?_cons_zero]; rfl)
          case hr54 =>
            go_simp
            refine (carry (w0 := wr) (Less_lit x y true hls _) ?_).mono ?_
            · (repeat first | assumption | exact Below.refl _ _ | refine Below.drew ?_)
            rintro e w6 ⟨rfl, hb6⟩
            go_wp2_with fail
            refine hK.out _ _ ?_ (fun hHeld => ?_)
            · exact hk9.out _ (hb6.mono (by omega))
            clear hK K
            try simp only [Act.put, List.setIfInBounds_toArray, List.set_cons_zero, List.set_cons_succ]
            refine wpAnyH_take (i := 10) (oi := ?o53) (v := ?hv53) ?hi53 (by kernel_rfl) (by kernel_rfl) (by kernel_rfl) ?hq53 ?hy53 (by assumption) ?hr53
            case hi53 => (simp only [List.getElem?_toArray, List.getElem?_cons_succ, List.getElem?_cons_zero]; rfl)
            case hq53 => exact fun _ _ _ h => h
            case hy53 => exact Or.inl ⟨by rfl, by intro w hSw; (try dsimp only at hSw); go_simp; try with_reducible rfl⟩
            simp only [Act.put, List.setIfInBounds_toArray, List.set_cons_zero, List.set_cons_succ]
            refine wpAnyH_done (by kernel_rfl) ?_ _
            have H6 := Lib.hid (H.out.later hb6)
            have hbz6 : (w.heap.size + 1 + 1 + 1) < w6.heap.size := by have := hb6.size; omega
            have hx6 := (hX5.out.below hb6 (by omega))
            obtain ⟨v0, v1, v2, v3, v4⟩ := hx6
            clear s0 s1 s2 x0 x1 x2 x3 x4 H
            obtain ⟨vp, hBp, hownp, hbp, hsp⟩ := id H6.out
            obtain ⟨z0, z1, z2, f0, f1, f2⟩ := hBp.three
            have hBp := Lib.hid hBp
            have hownp := Lib.hid hownp
            have hWp : Below w6.heap.size w6 (w6.alloc (N51 x)) := (Below.refl _ w6).alloc (Nat.le_refl _) (N51 x)
            go_wp2_with (at_builtin; refine wpList_append_lies _ rfl _ _ 28 rfl ((w.heap.size + 1 + 1 + 1) + 1) 51 i0 _ 5 40 Tryz.underlying28 hi hj0 hj1 hj2 rfl (by omega) vp acc0.length (acc0.flatMap C5.cells) rfl (hownp.out.alloc _) ⟨w6.heap.size, 0, none⟩ 1 1 x.cells rfl rfl (news_cells w6 51 x) (cells_one _) (by omega) (by unfold maxLen; omega) (by omega) (by simp; omega) (w6.heap.size + 1) (by simp) ?_; intro ga capa w7 hown7 hgrow7 _ _; have H7a := Lib.hid (QR.step hBp.out hownp.out hbp hsp hWp hown7 hgrow7); obtain ⟨u0, u1, u2, r0, r1, r2⟩ := (QR.blk hBp.out hownp.out hsp hWp hgrow7).three; have hX7 := Lib.hid (QR.bel hownp.out hsp hWp hgrow7))
            clear u0 u1 u2 r0 r1 r2 z0 z1 z2 f0 f1 f2 v0 v1 v2 v3 v4
            have hs7 := hX7.out.size
            obtain ⟨w9, hw9⟩ : ∃ w9, w9 = w7.setCell ⟨(w.heap.size + 1 + 1 + 1), 2, none⟩ (.slice (some ⟨ga, 0, none⟩) (acc0.length + 1) capa) := ⟨_, rfl⟩
            have hX9 : Below (w.heap.size + 1 + 1 + 1) w6 w9 := by rw [hw9]; exact hX7.out.setCell (p := ⟨(w.heap.size + 1 + 1 + 1), 2, none⟩) (Nat.le_refl _) _
            rw [← hw9] at H7a ⊢
            clear hw9
            have H9 := H7a
            clear H7a hX7 hown7 hgrow7
            have hk9b := Lib.hid (fun W (h : Below (w.heap.size + 1 + 1 + 1) w9 W) => hk9.out W ((hb6.mono (by omega)).trans (hX9.trans h)))
            clear hk9
            have hk9 := hk9b
            clear hk9b
            have hbz9 : (w.heap.size + 1 + 1 + 1) < w9.heap.size := by have := hX9.size; omega
            obtain ⟨acc, hacc⟩ : ∃ acc, acc0 ++ [x] = acc := ⟨_, rfl⟩
            rw [hacc] at H9 hn1
            have hlea : acc.length ≤ n + 2 := by rw [← hacc]; simp; omega
            clear hacc hlea0
            have hle := hlea
            clear hlea
            obtain ⟨v9, hB9, hown9, hb9, hs9⟩ := id H9.out
            obtain ⟨z0, z1, z2, f0, f1, f2⟩ := hB9.three
            have hB9 := Lib.hid hB9
            have hown9 := Lib.hid hown9
            refine wp_region_held_drew (S := (fun w' => w'.cell? ⟨w.heap.size, 0, none⟩ = some (.int .i64 L) ∧ w'.cell? ⟨w.heap.size, 1, none⟩ = some (.int .i64 O) ∧ w'.cell? ⟨w.heap.size, 2, none⟩ = some (.slice (some ⟨b, off, none⟩) n c) ∧ w'.cell? ⟨w.heap.size + 1, 0, none⟩ = some (.int .i64 x.s) ∧ w'.cell? ⟨w.heap.size + 1, 1, none⟩ = some (.int .i64 x.o) ∧ w'.cell? ⟨w.heap.size + 1, 2, none⟩ = some (.int .i64 x.f) ∧ w'.cell? ⟨w.heap.size + 1, 3, none⟩ = some (.int .i64 x.t) ∧ w'.cell? ⟨w.heap.size + 1, 4, none⟩ = some (.int .i64 x.w) ∧ w'.cell? ⟨b, off + k * 5, none⟩ = some (.int .i64 y.s) ∧ w'.cell? ⟨b, off + k * 5 + 1, none⟩ = some (.int .i64 y.o) ∧ w'.cell? ⟨b, off + k * 5 + 2, none⟩ = some (.int .i64 y.f) ∧ w'.cell? ⟨b, off + k * 5 + 3, none⟩ = some (.int .i64 y.t) ∧ w'.cell? ⟨b, off + k * 5 + 4, none⟩ = some (.int .i64 y.w))) (by kernel_rfl) (hk9.out _ (Below.refl _ w9).drew) (fun hHeld => ?_)
            refine wpAnyH_take (i := 0) (oi := ?o55) (v := ?hv55) ?hi55 (by kernel_rfl) (by kernel_rfl) (by kernel_rfl) ?hq55 ?hy55 (by assumption) ?hr55
            case hi55 => (simp only [List.getElem?_toArray, List.getElem?_cons_zero]; rfl)
            case hq55 => exact fun _ _ _ h => h
            case hy55 => exact Or.inl ⟨by rfl, by intro w hSw; (try dsimp only at hSw); go_simp; try with_reducible rfl⟩
            simp only [Act.put, List.setIfInBounds_toArray, List.set_cons_zero, List.set_cons_succ]
            refine wpAnyH_take (i := 2) (oi := ?o56) (v := ?hv56) ?hi56 (by kernel_rfl) (by kernel_rfl) (by kernel_rfl) ?hq56 ?hy56 (by assumption) ?hr56
            case hi56 => (simp only [List.getElem?_toArray, List.getElem?_cons_succ, List.getElem?_cons_zero]; rfl)
            case hq56 => exact fun _ _ _ h => h
            case hy56 => exact Or.inl ⟨by rfl, by intro w hSw; (try dsimp only at hSw); go_simp; try with_reducible rfl⟩
            simp only [Act.put, List.setIfInBounds_toArray, List.set_cons_zero, List.set_cons_succ]
            refine wpAnyH_take (i := 3) (oi := ?o57) (v := ?hv57) ?hi57 (by kernel_rfl) (by kernel_rfl) (by kernel_rfl) ?hq57 ?hy57 (by assumption) ?hr57
            case hi57 => (simp only [List.getElem?_toArray, List.getElem?_cons_succ, List.getElem?_cons_zero]; rfl)
            case hq57 => exact fun _ _ _ h => h
            case hy57 => exact Or.inl ⟨by rfl, by intro w hSw; (try dsimp only at hSw); go_simp; try with_reducible rfl⟩
            simp only [Act.put, List.setIfInBounds_toArray, List.set_cons_zero, List.set_cons_succ]
            refine wpAnyH_take (i := 4) (oi := ?o58) (v := ?hv58) ?hi58 (by kernel_rfl) (by kernel_rfl) (by kernel_rfl) ?hq58 ?hy58 (by assumption) ?hr58
            case hi58 => (simp only [List.getElem?_toArray, List.getElem?_cons_succ, List.getElem?_cons_zero]; rfl)
            case hq58 => exact fun _ _ _ h => h
            case hy58 => exact Or.inl ⟨by rfl, by intro w hSw; (try dsimp only at hSw); go_simp; try with_reducible rfl⟩
            simp only [Act.put, List.setIfInBounds_toArray, List.set_cons_zero, List.set_cons_succ]
            refine wpAnyH_take (i := 5) (oi := ?o59) (v := ?hv59) ?hi59 (by kernel_rfl) (by kernel_rfl) (by kernel_rfl) ?hq59 ?hy59 (by assumption) ?hr59
            case hi59 => (simp only [List.getElem?_toArray, List.getElem?_cons_succ, List.getElem?_cons_zero]; rfl)
            case hq59 => exact fun _ _ _ h => h
            case hy59 => exact Or.inl ⟨by rfl, by intro w hSw; (try dsimp only at hSw); go_simp; try with_reducible rfl⟩
            simp only [Act.put, List.setIfInBounds_toArray, List.set_cons_zero, List.set_cons_succ]
            refine wpAnyH_take (i := 6) (oi := ?o60) (v := ?hv60) ?hi60 (by kernel_rfl) (by kernel_rfl) (by kernel_rfl) ?hq60 ?hy60 (by assumption) ?hr60
            case hi60 => (simp only [List.getElem?_toArray, List.getElem?_cons_succ, List.getElem?_cons_zero]; rfl)
            case hq60 => exact fun _ _ _ h => h
            case hy60 => exact Or.inl ⟨by rfl, by intro w hSw; (try dsimp only at hSw); go_simp; try with_reducible rfl⟩
            simp only [Act.put, List.setIfInBounds_toArray, List.set_cons_zero, List.set_cons_succ]
            refine wpAnyH_ready (rs := [1, 7]) (by kernel_rfl) (by simp) ?_
            refine (AllReadyH.cons (o := ?o70) ?hi70 (fun K hK => ?hr70) (AllReadyH.cons (o := ?o69) ?hi69 (fun K hK => ?hr69) AllReadyH.nil))
            case hi70 => (simp only [List.getElem?_toArray, List.getElem?_cons_succ, List.getElem?_cons_zero]; rfl)
            case hi69 => (simp only [List.getElem?_toArray, List.getElem?_cons_succ, List.getElem?_cons_zero]; rfl)
            case hr70 =>
              go_simp
              refine hK.out _ _ ?_ (fun hHeld => ?_)
              · exact hk9.out _ (Below.refl _ w9).drew
              clear hK K
              try simp only [Act.put, List.setIfInBounds_toArray, List.set_cons_zero, List.set_cons_succ]
              refine wpAnyH_ready (rs := [7]) (by kernel_rfl) (by simp) ?_
              refine (AllReadyH.cons (o := ?o64) ?hi64 (fun K hK => ?hr64) AllReadyH.nil)
              case hi64 => (simp only [List.getElem?_toArray, List.getElem?_cons_succ, List.getElem?_cons_zero]; rfl)
              case hr64 =>
                go_simp
                refine hK.out _ _ ?_ (fun hHeld => ?_)
                · exact hk9.out _ (((Below.refl _ w9).alloc (by omega) (N51 y)).drew)
                clear hK K
                try simp only [Act.put, List.setIfInBounds_toArray, List.set_cons_zero, List.set_cons_succ]
                refine wpAnyH_ready (rs := [8]) (by kernel_rfl) (by simp) ?_
                refine (AllReadyH.cons (o := ?o63) ?hi63 (fun K hK => ?hr63) AllReadyH.nil)
                case hi63 => (simp only [List.getElem?_toArray, List.getElem?_cons_succ, List.getElem?_cons_zero]; rfl)
                case hr63 =>
                  refine step_append_lies _ (by rfl) _ _ _ (by rfl) ((w.heap.size + 1 + 1 + 1) + 1) 51 i0 _ 5 40 Tryz.underlying28 hi hj0 hj1 hj2 rfl (by omega) v9 acc.length (acc.flatMap C5.cells) (by rfl) ((hown9.out.alloc _).drew) ⟨w9.heap.size, 0, none⟩ 1 1 y.cells (by rfl) (by rfl) (news_cells w9 51 y) (cells_one _) (by omega) (by unfold maxLen; omega) (by omega) (by simp; omega) (w9.heap.size + 1) (by simp) ?_
                  intro gg cap w4 hown4 hgrow4 _ _
                  have hW9 : Below w9.heap.size w9 (w9.alloc (N51 y)).drew := ((Below.refl _ w9).alloc (Nat.le_refl _) (N51 y)).drew
                  have H4 := Lib.hid (QR.step hB9.out hown9.out hb9 hs9 hW9 hown4 hgrow4)
                  obtain ⟨u0, u1, u2, r0, r1, r2⟩ := (QR.blk hB9.out hown9.out hs9 hW9 hgrow4).three
                  have hX4 : Below (w.heap.size + 1 + 1 + 1) w9 w4 := QR.bel hown9.out hs9 hW9 hgrow4
                  refine hK.out _ _ ?_ (fun hHeld => ?_)
                  · exact hk9.out _ hX4
                  clear hK K
                  try simp only [Act.put, List.setIfInBounds_toArray, List.set_cons_zero, List.set_cons_succ]
                  refine wpAnyH_take (i := 9) (oi := ?o61) (v := ?hv61) ?hi61 (by kernel_rfl) (by kernel_rfl) (by kernel_rfl) ?hq61 ?hy61 (by assumption) ?hr61
                  case hi61 => (simp only [List.getElem?_toArray, List.getElem?_cons_succ, List.getElem?_cons_zero]; rfl)
                  case hq61 => exact fun _ _ _ h => h
                  case hy61 => exact Or.inl ⟨by rfl, by intro w hSw; (try dsimp only at hSw); go_simp; try with_reducible rfl⟩
                  simp only [Act.put, List.setIfInBounds_toArray, List.set_cons_zero, List.set_cons_succ]
                  refine wpAnyH_ready (rs := [10]) (by kernel_rfl) (by simp) ?_
                  refine (AllReadyH.cons (o := ?o62) ?hi62 (fun K hK => ?hr62) AllReadyH.nil)
                  case hi62 => (simp only [List.getElem?_toArray, List.getElem?_cons_succ, List.getElem?_cons_zero]; rfl)
                  case hr62 =>
                    go_simp
                    refine hK.out _ _ ?_ (fun hHeld => ?_)
                    · exact hk9.out _ (hX4.setCell (p := ⟨(w.heap.size + 1 + 1 + 1), 2, none⟩) (Nat.le_refl _) _)
                    clear hK K
                    try simp only [Act.put, List.setIfInBounds_toArray, List.set_cons_zero, List.set_cons_succ]
                    refine wpAnyH_done (by kernel_rfl) ?_ _
                    go_wp2_with fail
                    have H7 : Hid (QR w1 L O (w.heap.size + 1 + 1 + 1) (acc ++ [y]) (w4.setCell ⟨(w.heap.size + 1 + 1 + 1), 2, none⟩ (.slice (some ⟨gg, 0, none⟩) (acc.length + 1) cap))) := H4
                    go_roundw
                    case rel => exact ⟨k + 1, true, _, by omega, rfl, by go_num, H7, hn1⟩
                    case measure => simp [intOf]; omega
            case hr69 =>
              have z2b := (World.cell?_alloc_lt w9 (N51 y) ⟨(w.heap.size + 1 + 1 + 1), 2, none⟩ (by show (w.heap.size + 1 + 1 + 1) < w9.heap.size; omega)).trans z2
              go_simp
              refine hK.out _ _ ?_ (fun hHeld => ?_)
              · exact hk9.out _ (((Below.refl _ w9).alloc (by omega) (N51 y)).drew)
              clear hK K
              try simp only [Act.put, List.setIfInBounds_toArray, List.set_cons_zero, List.set_cons_succ]
              refine wpAnyH_ready (rs := [1]) (by kernel_rfl) (by simp) ?_
              refine (AllReadyH.cons (o := ?o68) ?hi68 (fun K hK => ?hr68) AllReadyH.nil)
              case hi68 => (simp only [List.getElem?_toArray, List.getElem?_cons_succ, List.getElem?_cons_zero]; rfl)
              case hr68 =>
                go_simp
                refine hK.out _ _ ?_ (fun hHeld => ?_)
                · exact hk9.out _ (((Below.refl _ w9).alloc (by omega) (N51 y)).drew)
                clear hK K
                try simp only [Act.put, List.setIfInBounds_toArray, List.set_cons_zero, List.set_cons_succ]
                refine wpAnyH_ready (rs := [8]) (by kernel_rfl) (by simp) ?_
                refine (AllReadyH.cons (o := ?o67) ?hi67 (fun K hK => ?hr67) AllReadyH.nil)
                case hi67 => (simp only [List.getElem?_toArray, List.getElem?_cons_succ, List.getElem?_cons_zero]; rfl)
                case hr67 =>
                  refine step_append_lies _ (by rfl) _ _ _ (by rfl) ((w.heap.size + 1 + 1 + 1) + 1) 51 i0 _ 5 40 Tryz.underlying28 hi hj0 hj1 hj2 rfl (by omega) v9 acc.length (acc.flatMap C5.cells) (by rfl) ((hown9.out.alloc _).drew) ⟨w9.heap.size, 0, none⟩ 1 1 y.cells (by rfl) (by rfl) (news_cells w9 51 y) (cells_one _) (by omega) (by unfold maxLen; omega) (by omega) (by simp; omega) (w9.heap.size + 1) (by simp) ?_
                  intro gg cap w4 hown4 hgrow4 _ _
                  have hW9 : Below w9.heap.size w9 (w9.alloc (N51 y)).drew := ((Below.refl _ w9).alloc (Nat.le_refl _) (N51 y)).drew
                  have H4 := Lib.hid (QR.step hB9.out hown9.out hb9 hs9 hW9 hown4 hgrow4)
                  obtain ⟨u0, u1, u2, r0, r1, r2⟩ := (QR.blk hB9.out hown9.out hs9 hW9 hgrow4).three
                  have hX4 : Below (w.heap.size + 1 + 1 + 1) w9 w4 := QR.bel hown9.out hs9 hW9 hgrow4
                  refine hK.out _ _ ?_ (fun hHeld => ?_)
                  · exact hk9.out _ hX4
                  clear hK K
                  try simp only [Act.put, List.setIfInBounds_toArray, List.set_cons_zero, List.set_cons_succ]
                  refine wpAnyH_take (i := 9) (oi := ?o65) (v := ?hv65) ?hi65 (by kernel_rfl) (by kernel_rfl) (by kernel_rfl) ?hq65 ?hy65 (by assumption) ?hr65
                  case hi65 => (simp only [List.getElem?_toArray, List.getElem?_cons_succ, List.getElem?_cons_zero]; rfl)
                  case hq65 => exact fun _ _ _ h => h
                  case hy65 => exact Or.inl ⟨by rfl, by intro w hSw; (try dsimp only at hSw); go_simp; try with_reducible rfl⟩
                  simp only [Act.put, List.setIfInBounds_toArray, List.set_cons_zero, List.set_cons_succ]
                  refine wpAnyH_ready (rs := [10]) (by kernel_rfl) (by simp) ?_
                  refine (AllReadyH.cons (o := ?o66) ?hi66 (fun K hK => ?hr66) AllReadyH.nil)
                  case hi66 => (simp only [List.getElem?_toArray, List.getElem?_cons_succ, List.getElem?_cons_zero]; rfl)
                  case hr66 =>
                    go_simp
                    refine hK.out _ _ ?_ (fun hHeld => ?_)
                    · exact hk9.out _ (hX4.setCell (p := ⟨(w.heap.size + 1 + 1 + 1), 2, none⟩) (Nat.le_refl _) _)
                    clear hK K
                    try simp only [Act.put, List.setIfInBounds_toArray, List.set_cons_zero, List.set_cons_succ]
                    refine wpAnyH_done (by kernel_rfl) ?_ _
                    go_wp2_with fail
                    have H7 : Hid (QR w1 L O (w.heap.size + 1 + 1 + 1) (acc ++ [y]) (w4.setCell ⟨(w.heap.size + 1 + 1 + 1), 2, none⟩ (.slice (some ⟨gg, 0, none⟩) (acc.length + 1) cap))) := H4
                    go_roundw
                    case rel => exact ⟨k + 1, true, _, by omega, rfl, by go_num, H7, hn1⟩
                    case measure => simp [intOf]; omega
      · have hn1 := Lib.hid (wRest_put ey HR.out)
        clear ey HR
        go_wp2_with fail
        go_quiet (fail)
        have H9 := Lib.hid (H.out.later (below_drewN (Below.refl _ wr) nq))
        have hd9 : Below (w.heap.size + 1 + 1 + 1) wr (wr.drewN nq) := below_drewN (Below.refl _ wr) nq
        have hk9b := Lib.hid (fun W (h : Below (w.heap.size + 1 + 1 + 1) (wr.drewN nq) W) => hk9.out W (hd9.trans h))
        have hbz9 : (w.heap.size + 1 + 1 + 1) < (wr.drewN nq).heap.size := hbz
        clear hk9 s0 s1 s2 x0 x1 x2 x3 x4 H hd9
        have hk9 := hk9b
        clear hk9b
        go_wp2_with fail
        obtain ⟨acc, hacc⟩ : ∃ acc, acc = acc0 := ⟨_, rfl⟩
        rw [← hacc] at H9 hn1 hlea0
        clear hacc
        have hle : acc.length ≤ n + 2 := by omega
        clear hlea0
        obtain ⟨w9, hw9⟩ : ∃ w9, w9 = wr.drewN nq := ⟨_, rfl⟩
        rw [← hw9] at H9 hk9 hbz9 ⊢
        clear hw9
        obtain ⟨v9, hB9, hown9, hb9, hs9⟩ := id H9.out
        obtain ⟨z0, z1, z2, f0, f1, f2⟩ := hB9.three
        have hB9 := Lib.hid hB9
        have hown9 := Lib.hid hown9
        refine wp_region_held_drew (S := (fun w' => w'.cell? ⟨w.heap.size, 0, none⟩ = some (.int .i64 L) ∧ w'.cell? ⟨w.heap.size, 1, none⟩ = some (.int .i64 O) ∧ w'.cell? ⟨w.heap.size, 2, none⟩ = some (.slice (some ⟨b, off, none⟩) n c) ∧ w'.cell? ⟨w.heap.size + 1, 0, none⟩ = some (.int .i64 x.s) ∧ w'.cell? ⟨w.heap.size + 1, 1, none⟩ = some (.int .i64 x.o) ∧ w'.cell? ⟨w.heap.size + 1, 2, none⟩ = some (.int .i64 x.f) ∧ w'.cell? ⟨w.heap.size + 1, 3, none⟩ = some (.int .i64 x.t) ∧ w'.cell? ⟨w.heap.size + 1, 4, none⟩ = some (.int .i64 x.w) ∧ w'.cell? ⟨b, off + k * 5, none⟩ = some (.int .i64 y.s) ∧ w'.cell? ⟨b, off + k * 5 + 1, none⟩ = some (.int .i64 y.o) ∧ w'.cell? ⟨b, off + k * 5 + 2, none⟩ = some (.int .i64 y.f) ∧ w'.cell? ⟨b, off + k * 5 + 3, none⟩ = some (.int .i64 y.t) ∧ w'.cell? ⟨b, off + k * 5 + 4, none⟩ = some (.int .i64 y.w))) (by kernel_rfl) (hk9.out _ (Below.refl _ w9).drew) (fun hHeld => ?_)
        refine wpAnyH_take (i := 0) (oi := ?o71) (v := ?hv71) ?hi71 (by kernel_rfl) (by kernel_rfl) (by kernel_rfl) ?hq71 ?hy71 (by assumption) ?hr71
        case hi71 => (simp only [List.getElem?_toArray, List.getElem?_cons_zero]; rfl)
        case hq71 => exact fun _ _ _ h => h
        case hy71 => exact Or.inl ⟨by rfl, by intro w hSw; (try dsimp only at hSw); go_simp; try with_reducible rfl⟩
        simp only [Act.put, List.setIfInBounds_toArray, List.set_cons_zero, List.set_cons_succ]
        refine wpAnyH_take (i := 2) (oi := ?o72) (v := ?hv72) ?hi72 (by kernel_rfl) (by kernel_rfl) (by kernel_rfl) ?hq72 ?hy72 (by assumption) ?hr72
        case hi72 => (simp only [List.getElem?_toArray, List.getElem?_cons_succ, List.getElem?_cons_zero]; rfl)
        case hq72 => exact fun _ _ _ h => h
        case hy72 => exact Or.inl ⟨by rfl, by intro w hSw; (try dsimp only at hSw); go_simp; try with_reducible rfl⟩
        simp only [Act.put, List.setIfInBounds_toArray, List.set_cons_zero, List.set_cons_succ]
        refine wpAnyH_take (i := 3) (oi := ?o73) (v := ?hv73) ?hi73 (by kernel_rfl) (by kernel_rfl) (by kernel_rfl) ?hq73 ?hy73 (by assumption) ?hr73
        case hi73 => (simp only [List.getElem?_toArray, List.getElem?_cons_succ, List.getElem?_cons_zero]; rfl)
        case hq73 => exact fun _ _ _ h => h
        case hy73 => exact Or.inl ⟨by rfl, by intro w hSw; (try dsimp only at hSw); go_simp; try with_reducible rfl⟩
        simp only [Act.put, List.setIfInBounds_toArray, List.set_cons_zero, List.set_cons_succ]
        refine wpAnyH_take (i := 4) (oi := ?o74) (v := ?hv74) ?hi74 (by kernel_rfl) (by kernel_rfl) (by kernel_rfl) ?hq74 ?hy74 (by assumption) ?hr74
        case hi74 => (simp only [List.getElem?_toArray, List.getElem?_cons_succ, List.getElem?_cons_zero]; rfl)
        case hq74 => exact fun _ _ _ h => h
        case hy74 => exact Or.inl ⟨by rfl, by intro w hSw; (try dsimp only at hSw); go_simp; try with_reducible rfl⟩
        simp only [Act.put, List.setIfInBounds_toArray, List.set_cons_zero, List.set_cons_succ]
        refine wpAnyH_take (i := 5) (oi := ?o75) (v := ?hv75) ?hi75 (by kernel_rfl) (by kernel_rfl) (by kernel_rfl) ?hq75 ?hy75 (by assumption) ?hr75
        case hi75 => (simp only [List.getElem?_toArray, List.getElem?_cons_succ, List.getElem?_cons_zero]; rfl)
        case hq75 => exact fun _ _ _ h => h
        case hy75 => exact Or.inl ⟨by rfl, by intro w hSw; (try dsimp only at hSw); go_simp; try with_reducible rfl⟩
        simp only [Act.put, List.setIfInBounds_toArray, List.set_cons_zero, List.set_cons_succ]
        refine wpAnyH_take (i := 6) (oi := ?o76) (v := ?hv76) ?hi76 (by kernel_rfl) (by kernel_rfl) (by kernel_rfl) ?hq76 ?hy76 (by assumption) ?hr76
        case hi76 => (simp only [List.getElem?_toArray, List.getElem?_cons_succ, List.getElem?_cons_zero]; rfl)
        case hq76 => exact fun _ _ _ h => h
        case hy76 => exact Or.inl ⟨by rfl, by intro w hSw; (try dsimp only at hSw); go_simp; try with_reducible rfl⟩
        simp only [Act.put, List.setIfInBounds_toArray, List.set_cons_zero, List.set_cons_succ]
        refine wpAnyH_ready (rs := [1, 7]) (by kernel_rfl) (by simp) ?_
        refine (AllReadyH.cons (o := ?o86) ?hi86 (fun K hK => ?hr86) (AllReadyH.cons (o := ?o85) ?hi85 (fun K hK => ?hr85) AllReadyH.nil))
        case hi86 => (simp only [List.getElem?_toArray, List.getElem?_cons_succ, List.getElem?_cons_zero]; rfl)
        case hi85 => (simp only [List.getElem?_toArray, List.getElem?_cons_succ, List.getElem?_cons_zero]; rfl)
        case hr86 =>
          go_simp
          refine hK.out _ _ ?_ (fun hHeld => ?_)
          · exact hk9.out _ (Below.refl _ w9).drew
          clear hK K
          try simp only [Act.put, List.setIfInBounds_toArray, List.set_cons_zero, List.set_cons_succ]
          refine wpAnyH_ready (rs := [7]) (by kernel_rfl) (by simp) ?_
          refine (AllReadyH.cons (o := ?o80) ?hi80 (fun K hK => ?hr80) AllReadyH.nil)
          case hi80 => (simp only [List.getElem?_toArray, List.getElem?_cons_succ, List.getElem?_cons_zero]; rfl)
          case hr80 =>
            go_simp
            refine hK.out _ _ ?_ (fun hHeld => ?_)
            · exact hk9.out _ (((Below.refl _ w9).alloc (by omega) (N51 y)).drew)
            clear hK K
            try simp only [Act.put, List.setIfInBounds_toArray, List.set_cons_zero, List.set_cons_succ]
            refine wpAnyH_ready (rs := [8]) (by kernel_rfl) (by simp) ?_
            refine (AllReadyH.cons (o := ?o79) ?hi79 (fun K hK => ?hr79) AllReadyH.nil)
            case hi79 => (simp only [List.getElem?_toArray, List.getElem?_cons_succ, List.getElem?_cons_zero]; rfl)
            case hr79 =>
              refine step_append_lies _ (by rfl) _ _ _ (by rfl) ((w.heap.size + 1 + 1 + 1) + 1) 51 i0 _ 5 40 Tryz.underlying28 hi hj0 hj1 hj2 rfl (by omega) v9 acc.length (acc.flatMap C5.cells) (by rfl) ((hown9.out.alloc _).drew) ⟨w9.heap.size, 0, none⟩ 1 1 y.cells (by rfl) (by rfl) (news_cells w9 51 y) (cells_one _) (by omega) (by unfold maxLen; omega) (by omega) (by simp; omega) (w9.heap.size + 1) (by simp) ?_
              intro gg cap w4 hown4 hgrow4 _ _
              have hW9 : Below w9.heap.size w9 (w9.alloc (N51 y)).drew := ((Below.refl _ w9).alloc (Nat.le_refl _) (N51 y)).drew
              have H4 := Lib.hid (QR.step hB9.out hown9.out hb9 hs9 hW9 hown4 hgrow4)
              obtain ⟨u0, u1, u2, r0, r1, r2⟩ := (QR.blk hB9.out hown9.out hs9 hW9 hgrow4).three
              have hX4 : Below (w.heap.size + 1 + 1 + 1) w9 w4 := QR.bel hown9.out hs9 hW9 hgrow4
              refine hK.out _ _ ?_ (fun hHeld => ?_)
              · exact hk9.out _ hX4
              clear hK K
              try simp only [Act.put, List.setIfInBounds_toArray, List.set_cons_zero, List.set_cons_succ]
              refine wpAnyH_take (i := 9) (oi := ?o77) (v := ?hv77) ?hi77 (by kernel_rfl) (by kernel_rfl) (by kernel_rfl) ?hq77 ?hy77 (by assumption) ?hr77
              case hi77 => (simp only [List.getElem?_toArray, List.getElem?_cons_succ, List.getElem?_cons_zero]; rfl)
              case hq77 => exact fun _ _ _ h => h
              case hy77 => exact Or.inl ⟨by rfl, by intro w hSw; (try dsimp only at hSw); go_simp; try with_reducible rfl⟩
              simp only [Act.put, List.setIfInBounds_toArray, List.set_cons_zero, List.set_cons_succ]
              refine wpAnyH_ready (rs := [10]) (by kernel_rfl) (by simp) ?_
              refine (AllReadyH.cons (o := ?o78) ?hi78 (fun K hK => ?hr78) AllReadyH.nil)
              case hi78 => (simp only [List.getElem?_toArray, List.getElem?_cons_succ, List.getElem?_cons_zero]; rfl)
              case hr78 =>
                go_simp
                refine hK.out _ _ ?_ (fun hHeld => ?_)
                · exact hk9.out _ (hX4.setCell (p := ⟨(w.heap.size + 1 + 1 + 1), 2, none⟩) (Nat.le_refl _) _)
                clear hK K
                try simp only [Act.put, List.setIfInBounds_toArray, List.set_cons_zero, List.set_cons_succ]
                refine wpAnyH_done (by kernel_rfl) ?_ _
                go_wp2_with fail
                have H7 : Hid (QR w1 L O (w.heap.size + 1 + 1 + 1) (acc ++ [y]) (w4.setCell ⟨(w.heap.size + 1 + 1 + 1), 2, none⟩ (.slice (some ⟨gg, 0, none⟩) (acc.length + 1) cap))) := H4
                go_roundw
                case rel => exact ⟨k + 1, true, _, by omega, rfl, by go_num, H7, hn1⟩
                case measure => simp [intOf]; omega
        case hr85 =>
          have z2b := (World.cell?_alloc_lt w9 (N51 y) ⟨(w.heap.size + 1 + 1 + 1), 2, none⟩ (by show (w.heap.size + 1 + 1 + 1) < w9.heap.size; omega)).trans z2
          go_simp
          refine hK.out _ _ ?_ (fun hHeld => ?_)
          · exact hk9.out _ (((Below.refl _ w9).alloc (by omega) (N51 y)).drew)
          clear hK K
          try simp only [Act.put, List.setIfInBounds_toArray, List.set_cons_zero, List.set_cons_succ]
          refine wpAnyH_ready (rs := [1]) (by kernel_rfl) (by simp) ?_
          refine (AllReadyH.cons (o := ?o84) ?hi84 (fun K hK => ?hr84) AllReadyH.nil)
          case hi84 => (simp only [List.getElem?_toArray, List.getElem?_cons_succ, List.getElem?_cons_zero]; rfl)
          case hr84 =>
            go_simp
            refine hK.out _ _ ?_ (fun hHeld => ?_)
            · exact hk9.out _ (((Below.refl _ w9).alloc (by omega) (N51 y)).drew)
            clear hK K
            try simp only [Act.put, List.setIfInBounds_toArray, List.set_cons_zero, List.set_cons_succ]
            refine wpAnyH_ready (rs := [8]) (by kernel_rfl) (by simp) ?_
            refine (AllReadyH.cons (o := ?o83) ?hi83 (fun K hK => ?hr83) AllReadyH.nil)
            case hi83 => (simp only [List.getElem?_toArray, List.getElem?_cons_succ, List.getElem?_cons_zero]; rfl)
            case hr83 =>
              refine step_append_lies _ (by rfl) _ _ _ (by rfl) ((w.heap.size + 1 + 1 + 1) + 1) 51 i0 _ 5 40 Tryz.underlying28 hi hj0 hj1 hj2 rfl (by omega) v9 acc.length (acc.flatMap C5.cells) (by rfl) ((hown9.out.alloc _).drew) ⟨w9.heap.size, 0, none⟩ 1 1 y.cells (by rfl) (by rfl) (news_cells w9 51 y) (cells_one _) (by omega) (by unfold maxLen; omega) (by omega) (by simp; omega) (w9.heap.size + 1) (by simp) ?_
              intro gg cap w4 hown4 hgrow4 _ _
              have hW9 : Below w9.heap.size w9 (w9.alloc (N51 y)).drew := ((Below.refl _ w9).alloc (Nat.le_refl _) (N51 y)).drew
              have H4 := Lib.hid (QR.step hB9.out hown9.out hb9 hs9 hW9 hown4 hgrow4)
              obtain ⟨u0, u1, u2, r0, r1, r2⟩ := (QR.blk hB9.out hown9.out hs9 hW9 hgrow4).three
              have hX4 : Below (w.heap.size + 1 + 1 + 1) w9 w4 := QR.bel hown9.out hs9 hW9 hgrow4
              refine hK.out _ _ ?_ (fun hHeld => ?_)
              · exact hk9.out _ hX4
              clear hK K
              try simp only [Act.put, List.setIfInBounds_toArray, List.set_cons_zero, List.set_cons_succ]
              refine wpAnyH_take (i := 9) (oi := ?o81) (v := ?hv81) ?hi81 (by kernel_rfl) (by kernel_rfl) (by kernel_rfl) ?hq81 ?hy81 (by assumption) ?hr81
              case hi81 => (simp only [List.getElem?_toArray, List.getElem?_cons_succ, List.getElem?_cons_zero]; rfl)
              case hq81 => exact fun _ _ _ h => h
              case hy81 => exact Or.inl ⟨by rfl, by intro w hSw; (try dsimp only at hSw); go_simp; try with_reducible rfl⟩
              simp only [Act.put, List.setIfInBounds_toArray, List.set_cons_zero, List.set_cons_succ]
              refine wpAnyH_ready (rs := [10]) (by kernel_rfl) (by simp) ?_
              refine (AllReadyH.cons (o := ?o82) ?hi82 (fun K hK => ?hr82) AllReadyH.nil)
              case hi82 => (simp only [List.getElem?_toArray, List.getElem?_cons_succ, List.getElem?_cons_zero]; rfl)
              case hr82 =>
                go_simp
                refine hK.out _ _ ?_ (fun hHeld => ?_)
                · exact hk9.out _ (hX4.setCell (p := ⟨(w.heap.size + 1 + 1 + 1), 2, none⟩) (Nat.le_refl _) _)
                clear hK K
                try simp only [Act.put, List.setIfInBounds_toArray, List.set_cons_zero, List.set_cons_succ]
                refine wpAnyH_done (by kernel_rfl) ?_ _
                go_wp2_with fail
                have H7 : Hid (QR w1 L O (w.heap.size + 1 + 1 + 1) (acc ++ [y]) (w4.setCell ⟨(w.heap.size + 1 + 1 + 1), 2, none⟩ (.slice (some ⟨gg, 0, none⟩) (acc.length + 1) cap))) := H4
                go_roundw
                case rel => exact ⟨k + 1, true, _, by omega, rfl, by go_num, H7, hn1⟩
                case measure => simp [intOf]; omega
    · obtain rfl : k = n := by omega
      cases pb
      · have H6 := H
        have hE : Hid (acc0 ++ [x] = withL x cs) := Lib.hid (by have h := HR.out; rw [List.drop_eq_nil_of_le (by omega)] at h; exact h)
        obtain ⟨q0, q1, q2, d0, d1, d2⟩ := (hZ0.out.below hbX.out (by omega)).three
        have hq := Lib.hid (hZ0.out.below hbX.out (by omega))
        clear HR H
        clear q0 q1 q2 d0 d1 d2
        obtain ⟨vp, hBp, hownp, hbp, hsp⟩ := id H6.out
        obtain ⟨z0, z1, z2, f0, f1, f2⟩ := hBp.three
        have hBp := Lib.hid hBp
        have hownp := Lib.hid hownp
        have hWp : Below wr.heap.size wr (wr.alloc (N51 x)) := (Below.refl _ wr).alloc (Nat.le_refl _) (N51 x)
        go_wp2_with (at_builtin; refine wpList_append_lies _ rfl _ _ 28 rfl ((w.heap.size + 1 + 1 + 1) + 1) 51 i0 _ 5 40 Tryz.underlying28 hi hj0 hj1 hj2 rfl (by omega) vp acc0.length (acc0.flatMap C5.cells) rfl (hownp.out.alloc _) ⟨wr.heap.size, 0, none⟩ 1 1 x.cells rfl rfl (news_cells wr 51 x) (cells_one _) (by omega) (by unfold maxLen; omega) (by omega) (by simp; omega) (wr.heap.size + 1) (by simp) ?_; intro ga capa w7 hown7 hgrow7 _ _; have H7a := Lib.hid (QR.step hBp.out hownp.out hbp hsp hWp hown7 hgrow7); obtain ⟨u0, u1, u2, r0, r1, r2⟩ := (QR.blk hBp.out hownp.out hsp hWp hgrow7).three; have hX7 := Lib.hid (QR.bel hownp.out hsp hWp hgrow7); obtain ⟨q0, q1, q2, d0, d1, d2⟩ := (hq.out.below (QR.bel hownp.out hsp hWp hgrow7) (by omega)).three)
        rw [hE.out] at H7a
        obtain ⟨A8, c8, hB8, hE8⟩ := H7a.out.end_ hw0 (R := w.heap.size + 1 + 1) (by omega) (by omega)
        obtain ⟨t0, t1, t2, g0, g1, g2⟩ := hB8.three
        have e8 : some (Value.slice A8 (withL x cs).length c8) = some (.slice (some ⟨ga, 0, none⟩) (acc0.length + 1) capa) := t2.symm.trans (World.cell?_setCell_same' w7 ⟨(w.heap.size + 1 + 1 + 1), 2, none⟩ _ (by rw [u2]; rfl))
        injection e8 with e8
        injection e8 with ea en ec
        subst ea ec
        have hE9 := hE8
        rw [en] at hE9
        refine bodyPost_ret (v := .agg #[.int .i64 L, .int .i64 O, .slice (some ⟨ga, 0, none⟩) (acc0.length + 1) c8]) (by simp [results, Tryz.results75, go_sem, q0, q1, q2]) rfl ?_
        exact hE9
      · have H8 : Hid (QR w1 L O (w.heap.size + 1 + 1 + 1) (withL x cs) wr) := Lib.hid (by
          have h := HR.out
          rw [List.drop_eq_nil_of_le (by omega)] at h
          have : acc0 = withL x cs := by simpa [wRest] using h
          rw [← this]; exact H.out)
        have hbX8 := hbX.out
        clear H HR
        obtain ⟨A8, c8, hB8, hE8⟩ := H8.out.end_ hw0 (R := w.heap.size + 1 + 1) (by omega) (by omega)
        obtain ⟨t0, t1, t2, g0, g1, g2⟩ := hB8.three
        obtain ⟨q0, q1, q2, d0, d1, d2⟩ := (hZ0.out.below hbX8 (by omega)).three
        have hE8 := Lib.hid hE8
        clear hB8
        go_wp2_with fail
        refine bodyPost_ret (v := .agg #[.int .i64 L, .int .i64 O, .slice A8 (withL x cs).length c8]) (by simp [results, Tryz.results75, go_sem, q0, q1, q2]) rfl ?_
        exact hE8.out
end Go.Proofs.YtnddjcadkbjjhaaGreatDoor
