/-
  CHAPTER 35, NETWORKS AND FLOWS: how they lie in memory; the first index with a property.
-/
import Derived.Test.YtnddjcadkbjjhaaGreatDoorJ
import Derived.Laws.EntriesVeiled
namespace Go.Proofs.YtnddjcadkbjjhaaGreatDoor
open Go.RowKit

structure L3 where
  f : Int
  t : Int
  l : Int
deriving DecidableEq
def Links (w : World) (B : Nat) (A : Option Addr) (n : Nat) (xs : List L3) : Prop :=
  xs.length = n ∧ (0 < n → ∃ b off, A = some ⟨b, off, none⟩ ∧ b < B ∧ ∀ (j : Nat) c, xs[j]? = some c → w.cell? ⟨b, off + j * 3, none⟩ = some (.int .i64 c.f) ∧ w.cell? ⟨b, off + j * 3 + 1, none⟩ = some (.int .i64 c.t) ∧ w.cell? ⟨b, off + j * 3 + 2, none⟩ = some (.int .i64 c.l))
section
variable {w w' : World} {B B' n : Nat} {A : Option Addr} {xs : List L3}
theorem Links.at_ {k : Nat} (h : Links w B A n xs) (hk : k < n) : ∃ b off c, A = some ⟨b, off, none⟩ ∧ b < B ∧ xs[k]? = some c ∧ w.cell? ⟨b, off + k * 3, none⟩ = some (.int .i64 c.f) ∧ w.cell? ⟨b, off + k * 3 + 1, none⟩ = some (.int .i64 c.t) ∧ w.cell? ⟨b, off + k * 3 + 2, none⟩ = some (.int .i64 c.l) := by
  obtain ⟨b, off, e, hb, hc⟩ := h.2 (by omega)
  have hl : k < xs.length := by have := h.1; omega
  exact ⟨b, off, xs[k], e, hb, List.getElem?_eq_getElem hl, hc k _ (List.getElem?_eq_getElem hl)⟩
theorem Links.keep (h : Links w B A n xs) (hk : ∀ p : Addr, p.block < B → w'.cell? p = w.cell? p) : Links w' B A n xs :=
  ⟨h.1, fun hn => by
    obtain ⟨b, off, e, hb, hc⟩ := h.2 hn
    refine ⟨b, off, e, hb, fun j u hu => ?_⟩
    obtain ⟨h0, h1, h2⟩ := hc j u hu
    exact ⟨(hk ⟨b, _, none⟩ hb).trans h0, (hk ⟨b, _, none⟩ hb).trans h1, (hk ⟨b, _, none⟩ hb).trans h2⟩⟩
theorem Links.below (h : Links w B A n xs) (hb : Below B w w') : Links w' B A n xs := h.keep fun _ hp => hb.cell hp
theorem Links.more (h : Links w B A n xs) (hB : B ≤ B') : Links w B' A n xs :=
  ⟨h.1, fun hn => by
    obtain ⟨b, off, e, hb, hc⟩ := h.2 hn
    exact ⟨b, off, e, by omega, hc⟩⟩
end
/-- Such a struct at a place. -/
def RowL3 (w : World) (b o : Nat) (c : L3) : Prop := w.cell? ⟨b, o, none⟩ = some (.int .i64 c.f) ∧ w.cell? ⟨b, o + 1, none⟩ = some (.int .i64 c.t) ∧ w.cell? ⟨b, o + 2, none⟩ = some (.int .i64 c.l)
theorem RowL3.below {w w' : World} {b o B : Nat} {c : L3} (h : RowL3 w b o c) (hb : Below B w w') (hB : b < B) : RowL3 w' b o c := by
  obtain ⟨h0, h1, h2⟩ := h
  exact ⟨(hb.cell (p := ⟨b, _, none⟩) hB).trans h0, (hb.cell (p := ⟨b, _, none⟩) hB).trans h1, (hb.cell (p := ⟨b, _, none⟩) hB).trans h2⟩
def BoxL3 (w : World) (b : Nat) (c : L3) : Prop := w.cell? ⟨b, 0, none⟩ = some (.int .i64 c.f) ∧ w.cell? ⟨b, 1, none⟩ = some (.int .i64 c.t) ∧ w.cell? ⟨b, 2, none⟩ = some (.int .i64 c.l)
theorem BoxL3.below {w w' : World} {b B : Nat} {c : L3} (h : BoxL3 w b c) (hb : Below B w w') (hB : b < B) : BoxL3 w' b c := by
  obtain ⟨h0, h1, h2⟩ := h
  exact ⟨(hb.cell (p := ⟨b, 0, none⟩) hB).trans h0, (hb.cell (p := ⟨b, 1, none⟩) hB).trans h1, (hb.cell (p := ⟨b, 2, none⟩) hB).trans h2⟩
abbrev OL3 (c : L3) : Obj := .cells #[.int .i64 c.f, .int .i64 c.t, .int .i64 c.l] 135
theorem BoxL3.new (c : L3) (w : World) : BoxL3 (w.alloc (OL3 c)) w.heap.size c := by
  refine ⟨?_, ?_, ?_⟩ <;> simp [go_sem]
structure F6 where
  i : Int
  f : Int
  t : Int
  p : Int
  h : Int
  d : Int
deriving DecidableEq
def Flows (w : World) (B : Nat) (A : Option Addr) (n : Nat) (xs : List F6) : Prop :=
  xs.length = n ∧ (0 < n → ∃ b off, A = some ⟨b, off, none⟩ ∧ b < B ∧ ∀ (j : Nat) c, xs[j]? = some c → w.cell? ⟨b, off + j * 6, none⟩ = some (.int .i64 c.i) ∧ w.cell? ⟨b, off + j * 6 + 1, none⟩ = some (.int .i64 c.f) ∧ w.cell? ⟨b, off + j * 6 + 2, none⟩ = some (.int .i64 c.t) ∧ w.cell? ⟨b, off + j * 6 + 3, none⟩ = some (.int .i64 c.p) ∧ w.cell? ⟨b, off + j * 6 + 4, none⟩ = some (.int .i64 c.h) ∧ w.cell? ⟨b, off + j * 6 + 5, none⟩ = some (.int .i64 c.d))
section
variable {w w' : World} {B B' n : Nat} {A : Option Addr} {xs : List F6}
theorem Flows.at_ {k : Nat} (h : Flows w B A n xs) (hk : k < n) : ∃ b off c, A = some ⟨b, off, none⟩ ∧ b < B ∧ xs[k]? = some c ∧ w.cell? ⟨b, off + k * 6, none⟩ = some (.int .i64 c.i) ∧ w.cell? ⟨b, off + k * 6 + 1, none⟩ = some (.int .i64 c.f) ∧ w.cell? ⟨b, off + k * 6 + 2, none⟩ = some (.int .i64 c.t) ∧ w.cell? ⟨b, off + k * 6 + 3, none⟩ = some (.int .i64 c.p) ∧ w.cell? ⟨b, off + k * 6 + 4, none⟩ = some (.int .i64 c.h) ∧ w.cell? ⟨b, off + k * 6 + 5, none⟩ = some (.int .i64 c.d) := by
  obtain ⟨b, off, e, hb, hc⟩ := h.2 (by omega)
  have hl : k < xs.length := by have := h.1; omega
  exact ⟨b, off, xs[k], e, hb, List.getElem?_eq_getElem hl, hc k _ (List.getElem?_eq_getElem hl)⟩
theorem Flows.keep (h : Flows w B A n xs) (hk : ∀ p : Addr, p.block < B → w'.cell? p = w.cell? p) : Flows w' B A n xs :=
  ⟨h.1, fun hn => by
    obtain ⟨b, off, e, hb, hc⟩ := h.2 hn
    refine ⟨b, off, e, hb, fun j u hu => ?_⟩
    obtain ⟨h0, h1, h2, h3, h4, h5⟩ := hc j u hu
    exact ⟨(hk ⟨b, _, none⟩ hb).trans h0, (hk ⟨b, _, none⟩ hb).trans h1, (hk ⟨b, _, none⟩ hb).trans h2, (hk ⟨b, _, none⟩ hb).trans h3, (hk ⟨b, _, none⟩ hb).trans h4, (hk ⟨b, _, none⟩ hb).trans h5⟩⟩
theorem Flows.below (h : Flows w B A n xs) (hb : Below B w w') : Flows w' B A n xs := h.keep fun _ hp => hb.cell hp
theorem Flows.more (h : Flows w B A n xs) (hB : B ≤ B') : Flows w B' A n xs :=
  ⟨h.1, fun hn => by
    obtain ⟨b, off, e, hb, hc⟩ := h.2 hn
    exact ⟨b, off, e, by omega, hc⟩⟩
end
/-- Such a struct at a place. -/
def RowF6 (w : World) (b o : Nat) (c : F6) : Prop := w.cell? ⟨b, o, none⟩ = some (.int .i64 c.i) ∧ w.cell? ⟨b, o + 1, none⟩ = some (.int .i64 c.f) ∧ w.cell? ⟨b, o + 2, none⟩ = some (.int .i64 c.t) ∧ w.cell? ⟨b, o + 3, none⟩ = some (.int .i64 c.p) ∧ w.cell? ⟨b, o + 4, none⟩ = some (.int .i64 c.h) ∧ w.cell? ⟨b, o + 5, none⟩ = some (.int .i64 c.d)
theorem RowF6.below {w w' : World} {b o B : Nat} {c : F6} (h : RowF6 w b o c) (hb : Below B w w') (hB : b < B) : RowF6 w' b o c := by
  obtain ⟨h0, h1, h2, h3, h4, h5⟩ := h
  exact ⟨(hb.cell (p := ⟨b, _, none⟩) hB).trans h0, (hb.cell (p := ⟨b, _, none⟩) hB).trans h1, (hb.cell (p := ⟨b, _, none⟩) hB).trans h2, (hb.cell (p := ⟨b, _, none⟩) hB).trans h3, (hb.cell (p := ⟨b, _, none⟩) hB).trans h4, (hb.cell (p := ⟨b, _, none⟩) hB).trans h5⟩
def BoxF6 (w : World) (b : Nat) (c : F6) : Prop := w.cell? ⟨b, 0, none⟩ = some (.int .i64 c.i) ∧ w.cell? ⟨b, 1, none⟩ = some (.int .i64 c.f) ∧ w.cell? ⟨b, 2, none⟩ = some (.int .i64 c.t) ∧ w.cell? ⟨b, 3, none⟩ = some (.int .i64 c.p) ∧ w.cell? ⟨b, 4, none⟩ = some (.int .i64 c.h) ∧ w.cell? ⟨b, 5, none⟩ = some (.int .i64 c.d)
theorem BoxF6.below {w w' : World} {b B : Nat} {c : F6} (h : BoxF6 w b c) (hb : Below B w w') (hB : b < B) : BoxF6 w' b c := by
  obtain ⟨h0, h1, h2, h3, h4, h5⟩ := h
  exact ⟨(hb.cell (p := ⟨b, 0, none⟩) hB).trans h0, (hb.cell (p := ⟨b, 1, none⟩) hB).trans h1, (hb.cell (p := ⟨b, 2, none⟩) hB).trans h2, (hb.cell (p := ⟨b, 3, none⟩) hB).trans h3, (hb.cell (p := ⟨b, 4, none⟩) hB).trans h4, (hb.cell (p := ⟨b, 5, none⟩) hB).trans h5⟩
abbrev OF6 (c : F6) : Obj := .cells #[.int .i64 c.i, .int .i64 c.f, .int .i64 c.t, .int .i64 c.p, .int .i64 c.h, .int .i64 c.d] 70
theorem BoxF6.new (c : F6) (w : World) : BoxF6 (w.alloc (OF6 c)) w.heap.size c := by
  refine ⟨?_, ?_, ?_, ?_, ?_, ?_⟩ <;> simp [go_sem]
/-- A slice of slices of ints. -/
def Rows2 (w : World) (B : Nat) (A : Option Addr) (n : Nat) (xs : List (List Int)) : Prop :=
  xs.length = n ∧ (0 < n → ∃ b off, A = some ⟨b, off, none⟩ ∧ b < B ∧ ∀ (j : Nat) r, xs[j]? = some r → ∃ A' c', w.cell? ⟨b, off + j, none⟩ = some (.slice A' r.length c') ∧ Reads w B A' r.length r ∧ r.length ≤ 1000000)
section
variable {w w' : World} {B B' n : Nat} {A : Option Addr} {xs : List (List Int)}
theorem Rows2.at_ {k : Nat} (h : Rows2 w B A n xs) (hk : k < n) : ∃ b off r A' c', A = some ⟨b, off, none⟩ ∧ b < B ∧ xs[k]? = some r ∧ w.cell? ⟨b, off + k, none⟩ = some (.slice A' r.length c') ∧ Reads w B A' r.length r ∧ r.length ≤ 1000000 := by
  obtain ⟨b, off, e, hb, hc⟩ := h.2 (by omega)
  have hl : k < xs.length := by have := h.1; omega
  obtain ⟨A', c', h1, h2⟩ := hc k _ (List.getElem?_eq_getElem hl)
  exact ⟨b, off, xs[k], A', c', e, hb, List.getElem?_eq_getElem hl, h1, h2⟩
theorem Rows2.below (h : Rows2 w B A n xs) (hb : Below B w w') : Rows2 w' B A n xs :=
  ⟨h.1, fun hn => by
    obtain ⟨b, off, e, hbb, hc⟩ := h.2 hn
    refine ⟨b, off, e, hbb, fun j u hu => ?_⟩
    obtain ⟨A', c', h1, h2, h3⟩ := hc j u hu
    exact ⟨A', c', (hb.cell (p := ⟨b, _, none⟩) hbb).trans h1, h2.below hb, h3⟩⟩
theorem Rows2.more (h : Rows2 w B A n xs) (hB : B ≤ B') : Rows2 w B' A n xs :=
  ⟨h.1, fun hn => by
    obtain ⟨b, off, e, hbb, hc⟩ := h.2 hn
    refine ⟨b, off, e, by omega, fun j u hu => ?_⟩
    obtain ⟨A', c', h1, h2, h3⟩ := hc j u hu
    exact ⟨A', c', h1, h2.more hB, h3⟩⟩
end
/-- A network that came in: its numbers and what lies in its slices. -/
structure NT where
  k : Int
  z : Int
  h : Int
  Ap : Option Addr
  np : Nat
  cp : Nat
  Al : Option Addr
  nl : Nat
  cl : Nat
  Am : Option Addr
  nm : Nat
  cm : Nat
  rows : List (List Int)
  ls : List L3
  ms : List Int
abbrev NT.cs (N : NT) : Array Value := #[.int .i64 N.k, .slice N.Ap N.np N.cp, .int .i64 N.z, .int .i64 N.h, .slice N.Al N.nl N.cl, .slice N.Am N.nm N.cm]
abbrev ONT (N : NT) : Obj := .cells #[.int .i64 N.k, .slice N.Ap N.np N.cp, .int .i64 N.z, .int .i64 N.h, .slice N.Al N.nl N.cl, .slice N.Am N.nm N.cm] 26
def NetM (w : World) (B : Nat) (N : NT) : Prop := Rows2 w B N.Ap N.np N.rows ∧ Links w B N.Al N.nl N.ls ∧ Reads w B N.Am N.nm N.ms
theorem NetM.below {w w' : World} {B : Nat} {N : NT} (h : NetM w B N) (hb : Below B w w') : NetM w' B N := ⟨h.1.below hb, h.2.1.below hb, h.2.2.below hb⟩
theorem NetM.more {w : World} {B B' : Nat} {N : NT} (h : NetM w B N) (hB : B ≤ B') : NetM w B' N := ⟨h.1.more hB, h.2.1.more hB, h.2.2.more hB⟩
/-- The sizes of a network's slices are small. -/
def NT.small (N : NT) : Prop := N.np ≤ 1000000 ∧ N.nl ≤ 1000000 ∧ N.nm ≤ 1000000
def BoxNT (w : World) (b : Nat) (N : NT) : Prop :=
  w.cell? ⟨b, 0, none⟩ = some (.int .i64 N.k) ∧ w.cell? ⟨b, 1, none⟩ = some (.slice N.Ap N.np N.cp) ∧ w.cell? ⟨b, 2, none⟩ = some (.int .i64 N.z) ∧ w.cell? ⟨b, 3, none⟩ = some (.int .i64 N.h) ∧ w.cell? ⟨b, 4, none⟩ = some (.slice N.Al N.nl N.cl) ∧ w.cell? ⟨b, 5, none⟩ = some (.slice N.Am N.nm N.cm)
theorem BoxNT.below {w w' : World} {b B : Nat} {N : NT} (h : BoxNT w b N) (hb : Below B w w') (hB : b < B) : BoxNT w' b N := by
  obtain ⟨h0, h1, h2, h3, h4, h5⟩ := h
  exact ⟨(hb.cell (p := ⟨b, 0, none⟩) hB).trans h0, (hb.cell (p := ⟨b, 1, none⟩) hB).trans h1, (hb.cell (p := ⟨b, 2, none⟩) hB).trans h2, (hb.cell (p := ⟨b, 3, none⟩) hB).trans h3, (hb.cell (p := ⟨b, 4, none⟩) hB).trans h4, (hb.cell (p := ⟨b, 5, none⟩) hB).trans h5⟩
theorem BoxNT.new (N : NT) (w : World) : BoxNT (w.alloc (ONT N)) w.heap.size N := by
  refine ⟨?_, ?_, ?_, ?_, ?_, ?_⟩ <;> simp [go_sem]
theorem alloc_below (w : World) (o : Obj) : Below w.heap.size w (w.alloc o) := (Below.refl _ _).alloc (Nat.le_refl _) _

/-- The first index from k on with a property, -1 if there is none. -/
def fidx {α : Type} (p : α → Bool) : Nat → List α → Int
  | _, [] => -1
  | k, x :: l => if p x = true then k else fidx p (k + 1) l
theorem fidx_drop {α : Type} (p : α → Bool) (xs : List α) (k : Nat) (x : α) (h : xs[k]? = some x) : fidx p k (xs.drop k) = if p x = true then (k : Int) else fidx p (k + 1) (xs.drop (k + 1)) := by
  obtain ⟨h1, e1⟩ := List.getElem?_eq_some_iff.1 h
  rw [List.drop_eq_getElem_cons h1, e1]; rfl
theorem fidx_any {α : Type} (p : α → Bool) : ∀ (k : Nat) (xs : List α), decide (0 ≤ fidx p k xs) = xs.any p
  | _, [] => rfl
  | k, x :: l => by
    unfold fidx
    rw [List.any_cons]
    cases hx : p x
    · simpa using fidx_any p (k + 1) l
    · simp
set_option maxHeartbeats 1600000 in
set_option maxRecDepth 100000 in
theorem idx145_112 (A : Option Addr) (n c : Nat) (xs : List (Int)) (p : Int → Bool) (hn : n ≤ 1000000) (r : Int) (hr : Hid (fidx p 0 xs = r)) (w : World) (hx : Hid (Reads w w.heap.size A n xs)) (hT : Hid (∀ (wx : World) (x : Int) (b : Bool), Below w.heap.size w wx → x ∈ xs → p x = b → Calls Tryz.prog 112 #[.int .i64 x] wx fun e w' => e = .returned (.bool b) ∧ Below wx.heap.size wx w')) :
    Calls Tryz.prog 145 #[.slice A n c, .func (.func 112) #[] #[]] w fun e w' => e = .returned (.int .i64 r) ∧ Below w.heap.size w w' := by
  have hl := hx.out.1
  go_enter Tryz.func145, Tryz.ntmps145
  go_wp2_with fail
  go_loopw [8] (fun i wx => ∃ k : Nat, k ≤ n ∧ i = .int .i64 k ∧ Below w.heap.size w wx ∧ Hid (fidx p k (xs.drop k) = r)) (fun i _ => n - (intOf i).toNat)
  case atStart => exact ⟨0, Nat.zero_le _, rfl, Below.refl _ _, hr⟩
  case round =>
    obtain ⟨k, hk, rfl, hwx, H⟩ := hrel
    by_cases hlt : k < n
    · obtain ⟨b, off, x, rfl, hb, ex, x0⟩ := (hx.out.below hwx).at_ hlt
      have hd := Lib.hid (fidx_drop p xs k x ex)
      have hk0 : (0 : Int) ≤ (k : Int) := by omega
      have hk1 : (k : Int) < (n : Int) := by omega
      have ex := Lib.hid ex
      cases hp : p x
      · have hp := Lib.hid hp
        go_wp2_with fail
        refine (hT.out wr x false hwx (List.mem_of_getElem? ex.out) hp.out).mono ?_
        rintro e w2 ⟨rfl, hb2⟩
        go_wp2_with fail
        go_roundw
        case rel => exact ⟨k + 1, by omega, by go_num, bstep hwx hb2 (Nat.le_refl _), Lib.hid (by rw [← H.out, hd.out, if_neg (by rw [hp.out]; simp)])⟩
        case measure => simp [intOf]; omega
      · have hp := Lib.hid hp
        have hr1 : Hid ((k : Int) = r) := Lib.hid (by rw [← H.out, hd.out, if_pos hp.out])
        go_wp2_with fail
        refine (hT.out wr x true hwx (List.mem_of_getElem? ex.out) hp.out).mono ?_
        rintro e w2 ⟨rfl, hb2⟩
        go_wp2_with fail
        go_ret
        exact ⟨ret_int hr1.out, bstep hwx hb2 (Nat.le_refl _)⟩
    · have hr1 : Hid (r = -1) := Lib.hid (by rw [← H.out, List.drop_eq_nil_of_le (by omega)]; rfl)
      go_wp2_with fail
      go_ret
      exact ⟨ret_int hr1.out.symm, hwx⟩
set_option maxHeartbeats 1600000 in
theorem has114_112 (A : Option Addr) (n c : Nat) (xs : List (Int)) (p : Int → Bool) (hn : n ≤ 1000000) (r : Bool) (hr : Hid (xs.any p = r)) (w : World) (hx : Hid (Reads w w.heap.size A n xs)) (hT : Hid (∀ (wx : World) (x : Int) (b : Bool), Below w.heap.size w wx → x ∈ xs → p x = b → Calls Tryz.prog 112 #[.int .i64 x] wx fun e w' => e = .returned (.bool b) ∧ Below wx.heap.size wx w')) :
    Calls Tryz.prog 114 #[.slice A n c, .func (.func 112) #[] #[]] w fun e w' => e = .returned (.bool r) ∧ Below w.heap.size w w' := by
  obtain ⟨q, hq⟩ : ∃ q, fidx p 0 xs = q := ⟨_, rfl⟩
  have hd : Hid (decide (0 ≤ q) = r) := Lib.hid (by rw [← hq, fidx_any, hr.out])
  have hq' := Lib.hid hq
  clear hq
  go_enter Tryz.func114, Tryz.ntmps114
  go_wp2_with fail
  refine (idx145_112 A n c xs p hn q hq' _ hx hT).mono ?_
  rintro e w2 ⟨rfl, hb2⟩
  go_wp2_with fail
  go_ret
  exact ⟨ret_bool hd.out, hb2⟩
set_option maxHeartbeats 1600000 in
set_option maxRecDepth 100000 in
theorem idx144_111 (cap : Value) (A : Option Addr) (n c : Nat) (xs : List (List Int)) (p : List Int → Bool) (hn : n ≤ 1000000) (r : Int) (hr : Hid (fidx p 0 xs = r)) (w : World) (hx : Hid (Rows2 w w.heap.size A n xs)) (hT : Hid (∀ (wx : World) (A' : Option Addr) (c' : Nat) (x : List Int) (b : Bool), Below w.heap.size w wx → x ∈ xs → Reads wx wx.heap.size A' x.length x → x.length ≤ 1000000 → p x = b → Calls Tryz.prog 111 #[.slice A' x.length c', cap] wx fun e w' => e = .returned (.bool b) ∧ Below wx.heap.size wx w')) :
    Calls Tryz.prog 144 #[.slice A n c, .func (.func 111) #[] #[cap]] w fun e w' => e = .returned (.int .i64 r) ∧ Below w.heap.size w w' := by
  have hl := hx.out.1
  go_enter Tryz.func144, Tryz.ntmps144
  go_wp2_with fail
  go_loopw [8] (fun i wx => ∃ k : Nat, k ≤ n ∧ i = .int .i64 k ∧ Below w.heap.size w wx ∧ Hid (fidx p k (xs.drop k) = r)) (fun i _ => n - (intOf i).toNat)
  case atStart => exact ⟨0, Nat.zero_le _, rfl, Below.refl _ _, hr⟩
  case round =>
    obtain ⟨k, hk, rfl, hwx, H⟩ := hrel
    by_cases hlt : k < n
    · obtain ⟨b, off, x, A', c', rfl, hb, ex, x0, hR, hx6⟩ := (hx.out.below hwx).at_ hlt
      have hd := Lib.hid (fidx_drop p xs k x ex)
      have hk0 : (0 : Int) ≤ (k : Int) := by omega
      have hk1 : (k : Int) < (n : Int) := by omega
      have ex := Lib.hid ex
      have hR := Lib.hid hR
      cases hp : p x
      · have hp := Lib.hid hp
        go_wp2_with fail
        refine (hT.out wr A' c' x false hwx (List.mem_of_getElem? ex.out) (hR.out.more hwx.size) hx6 hp.out).mono ?_
        rintro e w2 ⟨rfl, hb2⟩
        go_wp2_with fail
        go_roundw
        case rel => exact ⟨k + 1, by omega, by go_num, bstep hwx hb2 (Nat.le_refl _), Lib.hid (by rw [← H.out, hd.out, if_neg (by rw [hp.out]; simp)])⟩
        case measure => simp [intOf]; omega
      · have hp := Lib.hid hp
        have hr1 : Hid ((k : Int) = r) := Lib.hid (by rw [← H.out, hd.out, if_pos hp.out])
        go_wp2_with fail
        refine (hT.out wr A' c' x true hwx (List.mem_of_getElem? ex.out) (hR.out.more hwx.size) hx6 hp.out).mono ?_
        rintro e w2 ⟨rfl, hb2⟩
        go_wp2_with fail
        go_ret
        exact ⟨ret_int hr1.out, bstep hwx hb2 (Nat.le_refl _)⟩
    · have hr1 : Hid (r = -1) := Lib.hid (by rw [← H.out, List.drop_eq_nil_of_le (by omega)]; rfl)
      go_wp2_with fail
      go_ret
      exact ⟨ret_int hr1.out.symm, hwx⟩
set_option maxHeartbeats 1600000 in
theorem has110_111 (cap : Value) (A : Option Addr) (n c : Nat) (xs : List (List Int)) (p : List Int → Bool) (hn : n ≤ 1000000) (r : Bool) (hr : Hid (xs.any p = r)) (w : World) (hx : Hid (Rows2 w w.heap.size A n xs)) (hT : Hid (∀ (wx : World) (A' : Option Addr) (c' : Nat) (x : List Int) (b : Bool), Below w.heap.size w wx → x ∈ xs → Reads wx wx.heap.size A' x.length x → x.length ≤ 1000000 → p x = b → Calls Tryz.prog 111 #[.slice A' x.length c', cap] wx fun e w' => e = .returned (.bool b) ∧ Below wx.heap.size wx w')) :
    Calls Tryz.prog 110 #[.slice A n c, .func (.func 111) #[] #[cap]] w fun e w' => e = .returned (.bool r) ∧ Below w.heap.size w w' := by
  obtain ⟨q, hq⟩ : ∃ q, fidx p 0 xs = q := ⟨_, rfl⟩
  have hd : Hid (decide (0 ≤ q) = r) := Lib.hid (by rw [← hq, fidx_any, hr.out])
  have hq' := Lib.hid hq
  clear hq
  go_enter Tryz.func110, Tryz.ntmps110
  go_wp2_with fail
  refine (idx144_111 cap A n c xs p hn q hq' _ hx hT).mono ?_
  rintro e w2 ⟨rfl, hb2⟩
  go_wp2_with fail
  go_ret
  exact ⟨ret_bool hd.out, hb2⟩
set_option maxHeartbeats 1600000 in
set_option maxRecDepth 100000 in
theorem idx144_113 (cap : Value) (A : Option Addr) (n c : Nat) (xs : List (List Int)) (p : List Int → Bool) (hn : n ≤ 1000000) (r : Int) (hr : Hid (fidx p 0 xs = r)) (w : World) (hx : Hid (Rows2 w w.heap.size A n xs)) (hT : Hid (∀ (wx : World) (A' : Option Addr) (c' : Nat) (x : List Int) (b : Bool), Below w.heap.size w wx → x ∈ xs → Reads wx wx.heap.size A' x.length x → x.length ≤ 1000000 → p x = b → Calls Tryz.prog 113 #[.slice A' x.length c', cap] wx fun e w' => e = .returned (.bool b) ∧ Below wx.heap.size wx w')) :
    Calls Tryz.prog 144 #[.slice A n c, .func (.func 113) #[] #[cap]] w fun e w' => e = .returned (.int .i64 r) ∧ Below w.heap.size w w' := by
  have hl := hx.out.1
  go_enter Tryz.func144, Tryz.ntmps144
  go_wp2_with fail
  go_loopw [8] (fun i wx => ∃ k : Nat, k ≤ n ∧ i = .int .i64 k ∧ Below w.heap.size w wx ∧ Hid (fidx p k (xs.drop k) = r)) (fun i _ => n - (intOf i).toNat)
  case atStart => exact ⟨0, Nat.zero_le _, rfl, Below.refl _ _, hr⟩
  case round =>
    obtain ⟨k, hk, rfl, hwx, H⟩ := hrel
    by_cases hlt : k < n
    · obtain ⟨b, off, x, A', c', rfl, hb, ex, x0, hR, hx6⟩ := (hx.out.below hwx).at_ hlt
      have hd := Lib.hid (fidx_drop p xs k x ex)
      have hk0 : (0 : Int) ≤ (k : Int) := by omega
      have hk1 : (k : Int) < (n : Int) := by omega
      have ex := Lib.hid ex
      have hR := Lib.hid hR
      cases hp : p x
      · have hp := Lib.hid hp
        go_wp2_with fail
        refine (hT.out wr A' c' x false hwx (List.mem_of_getElem? ex.out) (hR.out.more hwx.size) hx6 hp.out).mono ?_
        rintro e w2 ⟨rfl, hb2⟩
        go_wp2_with fail
        go_roundw
        case rel => exact ⟨k + 1, by omega, by go_num, bstep hwx hb2 (Nat.le_refl _), Lib.hid (by rw [← H.out, hd.out, if_neg (by rw [hp.out]; simp)])⟩
        case measure => simp [intOf]; omega
      · have hp := Lib.hid hp
        have hr1 : Hid ((k : Int) = r) := Lib.hid (by rw [← H.out, hd.out, if_pos hp.out])
        go_wp2_with fail
        refine (hT.out wr A' c' x true hwx (List.mem_of_getElem? ex.out) (hR.out.more hwx.size) hx6 hp.out).mono ?_
        rintro e w2 ⟨rfl, hb2⟩
        go_wp2_with fail
        go_ret
        exact ⟨ret_int hr1.out, bstep hwx hb2 (Nat.le_refl _)⟩
    · have hr1 : Hid (r = -1) := Lib.hid (by rw [← H.out, List.drop_eq_nil_of_le (by omega)]; rfl)
      go_wp2_with fail
      go_ret
      exact ⟨ret_int hr1.out.symm, hwx⟩
set_option maxHeartbeats 1600000 in
theorem has110_113 (cap : Value) (A : Option Addr) (n c : Nat) (xs : List (List Int)) (p : List Int → Bool) (hn : n ≤ 1000000) (r : Bool) (hr : Hid (xs.any p = r)) (w : World) (hx : Hid (Rows2 w w.heap.size A n xs)) (hT : Hid (∀ (wx : World) (A' : Option Addr) (c' : Nat) (x : List Int) (b : Bool), Below w.heap.size w wx → x ∈ xs → Reads wx wx.heap.size A' x.length x → x.length ≤ 1000000 → p x = b → Calls Tryz.prog 113 #[.slice A' x.length c', cap] wx fun e w' => e = .returned (.bool b) ∧ Below wx.heap.size wx w')) :
    Calls Tryz.prog 110 #[.slice A n c, .func (.func 113) #[] #[cap]] w fun e w' => e = .returned (.bool r) ∧ Below w.heap.size w w' := by
  obtain ⟨q, hq⟩ : ∃ q, fidx p 0 xs = q := ⟨_, rfl⟩
  have hd : Hid (decide (0 ≤ q) = r) := Lib.hid (by rw [← hq, fidx_any, hr.out])
  have hq' := Lib.hid hq
  clear hq
  go_enter Tryz.func110, Tryz.ntmps110
  go_wp2_with fail
  refine (idx144_113 cap A n c xs p hn q hq' _ hx hT).mono ?_
  rintro e w2 ⟨rfl, hb2⟩
  go_wp2_with fail
  go_ret
  exact ⟨ret_bool hd.out, hb2⟩
set_option maxHeartbeats 1600000 in
set_option maxRecDepth 100000 in
theorem idx83_120 (cap : Value) (A : Option Addr) (n c : Nat) (xs : List (F6)) (p : F6 → Bool) (hn : n ≤ 1000000) (r : Int) (hr : Hid (fidx p 0 xs = r)) (w : World) (hx : Hid (Flows w w.heap.size A n xs)) (hT : Hid (∀ (wx : World) (x : F6) (b : Bool), Below w.heap.size w wx → x ∈ xs → p x = b → Calls Tryz.prog 120 #[.agg #[.int .i64 x.i, .int .i64 x.f, .int .i64 x.t, .int .i64 x.p, .int .i64 x.h, .int .i64 x.d], cap] wx fun e w' => e = .returned (.bool b) ∧ Below wx.heap.size wx w')) :
    Calls Tryz.prog 83 #[.slice A n c, .func (.func 120) #[] #[cap]] w fun e w' => e = .returned (.int .i64 r) ∧ Below w.heap.size w w' := by
  have hl := hx.out.1
  go_enter Tryz.func83, Tryz.ntmps83
  go_wp2_with fail
  go_loopw [8] (fun i wx => ∃ k : Nat, k ≤ n ∧ i = .int .i64 k ∧ Below w.heap.size w wx ∧ Hid (fidx p k (xs.drop k) = r)) (fun i _ => n - (intOf i).toNat)
  case atStart => exact ⟨0, Nat.zero_le _, rfl, Below.refl _ _, hr⟩
  case round =>
    obtain ⟨k, hk, rfl, hwx, H⟩ := hrel
    by_cases hlt : k < n
    · obtain ⟨b, off, x, rfl, hb, ex, x0, x1, x2, x3, x4, x5⟩ := (hx.out.below hwx).at_ hlt
      have hd := Lib.hid (fidx_drop p xs k x ex)
      have hk0 : (0 : Int) ≤ (k : Int) := by omega
      have hk1 : (k : Int) < (n : Int) := by omega
      have ex := Lib.hid ex
      cases hp : p x
      · have hp := Lib.hid hp
        go_wp2_with fail
        refine (hT.out wr x false hwx (List.mem_of_getElem? ex.out) hp.out).mono ?_
        rintro e w2 ⟨rfl, hb2⟩
        go_wp2_with fail
        go_roundw
        case rel => exact ⟨k + 1, by omega, by go_num, bstep hwx hb2 (Nat.le_refl _), Lib.hid (by rw [← H.out, hd.out, if_neg (by rw [hp.out]; simp)])⟩
        case measure => simp [intOf]; omega
      · have hp := Lib.hid hp
        have hr1 : Hid ((k : Int) = r) := Lib.hid (by rw [← H.out, hd.out, if_pos hp.out])
        go_wp2_with fail
        refine (hT.out wr x true hwx (List.mem_of_getElem? ex.out) hp.out).mono ?_
        rintro e w2 ⟨rfl, hb2⟩
        go_wp2_with fail
        go_ret
        exact ⟨ret_int hr1.out, bstep hwx hb2 (Nat.le_refl _)⟩
    · have hr1 : Hid (r = -1) := Lib.hid (by rw [← H.out, List.drop_eq_nil_of_le (by omega)]; rfl)
      go_wp2_with fail
      go_ret
      exact ⟨ret_int hr1.out.symm, hwx⟩
set_option maxHeartbeats 1600000 in
set_option maxRecDepth 100000 in
theorem idx83_42 (cap : Value) (A : Option Addr) (n c : Nat) (xs : List (F6)) (p : F6 → Bool) (hn : n ≤ 1000000) (r : Int) (hr : Hid (fidx p 0 xs = r)) (w : World) (hx : Hid (Flows w w.heap.size A n xs)) (hT : Hid (∀ (wx : World) (x : F6) (b : Bool), Below w.heap.size w wx → x ∈ xs → p x = b → Calls Tryz.prog 42 #[.agg #[.int .i64 x.i, .int .i64 x.f, .int .i64 x.t, .int .i64 x.p, .int .i64 x.h, .int .i64 x.d], cap] wx fun e w' => e = .returned (.bool b) ∧ Below wx.heap.size wx w')) :
    Calls Tryz.prog 83 #[.slice A n c, .func (.func 42) #[] #[cap]] w fun e w' => e = .returned (.int .i64 r) ∧ Below w.heap.size w w' := by
  have hl := hx.out.1
  go_enter Tryz.func83, Tryz.ntmps83
  go_wp2_with fail
  go_loopw [8] (fun i wx => ∃ k : Nat, k ≤ n ∧ i = .int .i64 k ∧ Below w.heap.size w wx ∧ Hid (fidx p k (xs.drop k) = r)) (fun i _ => n - (intOf i).toNat)
  case atStart => exact ⟨0, Nat.zero_le _, rfl, Below.refl _ _, hr⟩
  case round =>
    obtain ⟨k, hk, rfl, hwx, H⟩ := hrel
    by_cases hlt : k < n
    · obtain ⟨b, off, x, rfl, hb, ex, x0, x1, x2, x3, x4, x5⟩ := (hx.out.below hwx).at_ hlt
      have hd := Lib.hid (fidx_drop p xs k x ex)
      have hk0 : (0 : Int) ≤ (k : Int) := by omega
      have hk1 : (k : Int) < (n : Int) := by omega
      have ex := Lib.hid ex
      cases hp : p x
      · have hp := Lib.hid hp
        go_wp2_with fail
        refine (hT.out wr x false hwx (List.mem_of_getElem? ex.out) hp.out).mono ?_
        rintro e w2 ⟨rfl, hb2⟩
        go_wp2_with fail
        go_roundw
        case rel => exact ⟨k + 1, by omega, by go_num, bstep hwx hb2 (Nat.le_refl _), Lib.hid (by rw [← H.out, hd.out, if_neg (by rw [hp.out]; simp)])⟩
        case measure => simp [intOf]; omega
      · have hp := Lib.hid hp
        have hr1 : Hid ((k : Int) = r) := Lib.hid (by rw [← H.out, hd.out, if_pos hp.out])
        go_wp2_with fail
        refine (hT.out wr x true hwx (List.mem_of_getElem? ex.out) hp.out).mono ?_
        rintro e w2 ⟨rfl, hb2⟩
        go_wp2_with fail
        go_ret
        exact ⟨ret_int hr1.out, bstep hwx hb2 (Nat.le_refl _)⟩
    · have hr1 : Hid (r = -1) := Lib.hid (by rw [← H.out, List.drop_eq_nil_of_le (by omega)]; rfl)
      go_wp2_with fail
      go_ret
      exact ⟨ret_int hr1.out.symm, hwx⟩
set_option maxHeartbeats 1600000 in
theorem has41_42 (cap : Value) (A : Option Addr) (n c : Nat) (xs : List (F6)) (p : F6 → Bool) (hn : n ≤ 1000000) (r : Bool) (hr : Hid (xs.any p = r)) (w : World) (hx : Hid (Flows w w.heap.size A n xs)) (hT : Hid (∀ (wx : World) (x : F6) (b : Bool), Below w.heap.size w wx → x ∈ xs → p x = b → Calls Tryz.prog 42 #[.agg #[.int .i64 x.i, .int .i64 x.f, .int .i64 x.t, .int .i64 x.p, .int .i64 x.h, .int .i64 x.d], cap] wx fun e w' => e = .returned (.bool b) ∧ Below wx.heap.size wx w')) :
    Calls Tryz.prog 41 #[.slice A n c, .func (.func 42) #[] #[cap]] w fun e w' => e = .returned (.bool r) ∧ Below w.heap.size w w' := by
  obtain ⟨q, hq⟩ : ∃ q, fidx p 0 xs = q := ⟨_, rfl⟩
  have hd : Hid (decide (0 ≤ q) = r) := Lib.hid (by rw [← hq, fidx_any, hr.out])
  have hq' := Lib.hid hq
  clear hq
  go_enter Tryz.func41, Tryz.ntmps41
  go_wp2_with fail
  refine (idx83_42 cap A n c xs p hn q hq' _ hx hT).mono ?_
  rintro e w2 ⟨rfl, hb2⟩
  go_wp2_with fail
  go_ret
  exact ⟨ret_bool hd.out, hb2⟩
set_option maxHeartbeats 1600000 in
set_option maxRecDepth 100000 in
theorem idx143_122 (cap : Value) (A : Option Addr) (n c : Nat) (xs : List (C5)) (p : C5 → Bool) (hn : n ≤ 1000000) (r : Int) (hr : Hid (fidx p 0 xs = r)) (w : World) (hx : Hid (Cells w w.heap.size A n xs)) (hT : Hid (∀ (wx : World) (x : C5) (b : Bool), Below w.heap.size w wx → x ∈ xs → p x = b → Calls Tryz.prog 122 #[.agg #[.int .i64 x.s, .int .i64 x.o, .int .i64 x.f, .int .i64 x.t, .int .i64 x.w], cap] wx fun e w' => e = .returned (.bool b) ∧ Below wx.heap.size wx w')) :
    Calls Tryz.prog 143 #[.slice A n c, .func (.func 122) #[] #[cap]] w fun e w' => e = .returned (.int .i64 r) ∧ Below w.heap.size w w' := by
  have hl := hx.out.1
  go_enter Tryz.func143, Tryz.ntmps143
  go_wp2_with fail
  go_loopw [8] (fun i wx => ∃ k : Nat, k ≤ n ∧ i = .int .i64 k ∧ Below w.heap.size w wx ∧ Hid (fidx p k (xs.drop k) = r)) (fun i _ => n - (intOf i).toNat)
  case atStart => exact ⟨0, Nat.zero_le _, rfl, Below.refl _ _, hr⟩
  case round =>
    obtain ⟨k, hk, rfl, hwx, H⟩ := hrel
    by_cases hlt : k < n
    · obtain ⟨b, off, x, rfl, hb, ex, x0, x1, x2, x3, x4⟩ := (hx.out.below hwx).at_ hlt
      have hd := Lib.hid (fidx_drop p xs k x ex)
      have hk0 : (0 : Int) ≤ (k : Int) := by omega
      have hk1 : (k : Int) < (n : Int) := by omega
      have ex := Lib.hid ex
      cases hp : p x
      · have hp := Lib.hid hp
        go_wp2_with fail
        refine (hT.out wr x false hwx (List.mem_of_getElem? ex.out) hp.out).mono ?_
        rintro e w2 ⟨rfl, hb2⟩
        go_wp2_with fail
        go_roundw
        case rel => exact ⟨k + 1, by omega, by go_num, bstep hwx hb2 (Nat.le_refl _), Lib.hid (by rw [← H.out, hd.out, if_neg (by rw [hp.out]; simp)])⟩
        case measure => simp [intOf]; omega
      · have hp := Lib.hid hp
        have hr1 : Hid ((k : Int) = r) := Lib.hid (by rw [← H.out, hd.out, if_pos hp.out])
        go_wp2_with fail
        refine (hT.out wr x true hwx (List.mem_of_getElem? ex.out) hp.out).mono ?_
        rintro e w2 ⟨rfl, hb2⟩
        go_wp2_with fail
        go_ret
        exact ⟨ret_int hr1.out, bstep hwx hb2 (Nat.le_refl _)⟩
    · have hr1 : Hid (r = -1) := Lib.hid (by rw [← H.out, List.drop_eq_nil_of_le (by omega)]; rfl)
      go_wp2_with fail
      go_ret
      exact ⟨ret_int hr1.out.symm, hwx⟩
set_option maxHeartbeats 1600000 in
theorem has124_122 (cap : Value) (A : Option Addr) (n c : Nat) (xs : List (C5)) (p : C5 → Bool) (hn : n ≤ 1000000) (r : Bool) (hr : Hid (xs.any p = r)) (w : World) (hx : Hid (Cells w w.heap.size A n xs)) (hT : Hid (∀ (wx : World) (x : C5) (b : Bool), Below w.heap.size w wx → x ∈ xs → p x = b → Calls Tryz.prog 122 #[.agg #[.int .i64 x.s, .int .i64 x.o, .int .i64 x.f, .int .i64 x.t, .int .i64 x.w], cap] wx fun e w' => e = .returned (.bool b) ∧ Below wx.heap.size wx w')) :
    Calls Tryz.prog 124 #[.slice A n c, .func (.func 122) #[] #[cap]] w fun e w' => e = .returned (.bool r) ∧ Below w.heap.size w w' := by
  obtain ⟨q, hq⟩ : ∃ q, fidx p 0 xs = q := ⟨_, rfl⟩
  have hd : Hid (decide (0 ≤ q) = r) := Lib.hid (by rw [← hq, fidx_any, hr.out])
  have hq' := Lib.hid hq
  clear hq
  go_enter Tryz.func124, Tryz.ntmps124
  go_wp2_with fail
  refine (idx143_122 cap A n c xs p hn q hq' _ hx hT).mono ?_
  rintro e w2 ⟨rfl, hb2⟩
  go_wp2_with fail
  go_ret
  exact ⟨ret_bool hd.out, hb2⟩
end Go.Proofs.YtnddjcadkbjjhaaGreatDoor
