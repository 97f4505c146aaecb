/- Functions in a row of one's own: what stores do to them. -/
import Derived.Test.YtcllifcafgiopaaPg15
import Derived.OneCell
set_option linter.unusedVariables false
set_option linter.unusedSimpArgs false
namespace Go.Proofs.Ytcllifcafgiopaa
open Go.RowKit

theorem own_not {X : World} {b s n : Nat} {t t2 : TypeId} {v : Value} {xs : List Value} (h : X.ownsRow b t s v n xs) {D : Nat} {cur : Array Value} (hD : X.heap[D]? = some (.cells cur t2 (0, 0))) (ht : t ≠ t2) : v.ownBlock ≠ some D := by
  intro e
  rcases h.2 with ⟨rfl, _⟩ | ⟨g, cap, cur', rfl, _, hh, _⟩
  · cases e
  · have : g = D := by simpa [Value.ownBlock] using e
    subst this
    rw [hh] at hD
    simp only [Option.some.injEq, Obj.cells.injEq] at hD
    exact ht hD.2.1
theorem RowF.bel {b0 : Nat} {W W' : World} {D c : Nat} {L : List FnD} {A : Nat → Option Addr} {cc : Nat → Nat} (h : RowF b0 W D c L A cc) (hb : Bel W W') : RowF b0 W' D c L A cc :=
  ⟨h.D0, by obtain ⟨cur, e⟩ := h.ty; exact ⟨cur, (hb.out.block D h.lt).trans e⟩, h.le, h.big, fun i hi => ⟨hb.cell (h.cells i hi).1, hb.cell (h.cells i hi).2⟩⟩
def upd {α : Type} (f : Nat → α) (j : Nat) (x : α) : Nat → α := fun i => if i = j then x else f i
theorem upd_same {α : Type} (f : Nat → α) (j : Nat) (x : α) : upd f j x j = x := if_pos rfl
theorem upd_other {α : Type} (f : Nat → α) {j i : Nat} (x : α) (h : i ≠ j) : upd f j x i = f i := if_neg h
theorem RowF.code {b0 : Nat} {W : World} {D c : Nat} {L : List FnD} {A : Nat → Option Addr} {cc : Nat → Nat} (h : RowF b0 W D c L A cc) {j : Nat} (hj : j < L.length) (A' : Option Addr) (c' : Nat) : RowF b0 (W.setCell ⟨D, j * 2 + 1, none⟩ (.slice A' (L[j]).code.length c')) D c L (upd A j A') (upd cc j c') := by
  refine ⟨h.D0, ?_, h.le, h.big, fun i hi => ?_⟩
  · obtain ⟨cur, e⟩ := h.ty
    exact ⟨_, Blk.set (cs := cur) e (j * 2 + 1) _⟩
  · obtain ⟨e1, e2⟩ := h.cells i hi
    by_cases hij : i = j
    · subst hij
      rw [upd_same, upd_same]
      exact ⟨by rw [World.cell?_setCell_other _ _ _ _ (by simp only [ne_eq, Addr.mk.injEq, true_and, and_true]; omega)]; exact e1, World.cell?_setCell_same _ _ _ e2⟩
    · rw [upd_other _ _ hij, upd_other _ _ hij]
      exact ⟨by rw [World.cell?_setCell_other _ _ _ _ (by simp only [ne_eq, Addr.mk.injEq, true_and, and_true]; omega)]; exact e1, by rw [World.cell?_setCell_other _ _ _ _ (by simp only [ne_eq, Addr.mk.injEq, true_and, and_true]; omega)]; exact e2⟩
theorem RowF.put {b0 : Nat} {W : World} {D c : Nat} {L : List FnD} {A : Nat → Option Addr} {cc : Nat → Nat} (h : RowF b0 W D c L A cc) {j : Nat} (hj : j < L.length) (f : FnD) (A' : Option Addr) (c' : Nat) : RowF b0 ((W.setCell ⟨D, j * 2, none⟩ (.int .i64 f.args)).setCell ⟨D, j * 2 + 1, none⟩ (.slice A' f.code.length c')) D c (L.set j f) (upd A j A') (upd cc j c') := by
  refine ⟨h.D0, ?_, by rw [List.length_set]; exact h.le, h.big, fun i hi => ?_⟩
  · obtain ⟨cur, e⟩ := h.ty
    exact ⟨_, Blk.set (Blk.set (cs := cur) e (j * 2) _) (j * 2 + 1) _⟩
  · rw [List.length_set] at hi
    obtain ⟨e1, e2⟩ := h.cells i hi
    by_cases hij : i = j
    · subst hij
      rw [upd_same, upd_same, List.getElem_set_self]
      refine ⟨?_, ?_⟩
      · rw [World.cell?_setCell_other _ _ _ _ (by simp only [ne_eq, Addr.mk.injEq, true_and, and_true]; omega)]
        exact World.cell?_setCell_same _ _ _ e1
      · refine World.cell?_setCell_same _ _ _ (u := .slice (A i) (L[i]).code.length (cc i)) ?_
        rw [World.cell?_setCell_other _ _ _ _ (by simp only [ne_eq, Addr.mk.injEq, true_and, and_true]; omega)]
        exact e2
    · rw [upd_other _ _ hij, upd_other _ _ hij, List.getElem_set_ne (fun e => hij e.symm)]
      refine ⟨?_, ?_⟩
      · rw [World.cell?_setCell_other _ _ _ _ (by simp only [ne_eq, Addr.mk.injEq, true_and, and_true]; omega), World.cell?_setCell_other _ _ _ _ (by simp only [ne_eq, Addr.mk.injEq, true_and, and_true]; omega)]
        exact e1
      · rw [World.cell?_setCell_other _ _ _ _ (by simp only [ne_eq, Addr.mk.injEq, true_and, and_true]; omega), World.cell?_setCell_other _ _ _ _ (by simp only [ne_eq, Addr.mk.injEq, true_and, and_true]; omega)]
        exact e2
/-- A code that lay before, or in a row of one's own. -/
def CodeAt (w X : World) (A : Option Addr) (c : Nat) (l : List InstD) : Prop := Sl InstR 7 w A c l ∨ X.ownsRow w.heap.size 43 7 (.slice A l.length c) l.length (l.flatMap InstD.cells)
theorem CodeAt.bel {w X Y : World} {A : Option Addr} {c : Nat} {l : List InstD} (h : CodeAt w X A c l) (hb : Bel X Y) : CodeAt w Y A c l := h.imp id fun h => own_bel h hb
theorem CodeAt.sl {w X : World} {A : Option Addr} {c : Nat} {l : List InstD} (h : CodeAt w X A c l) (hb : Bel w X) (hw : ∀ x ∈ l, x.Wf) : Sl InstR 7 X A c l := by
  rcases h with h | h
  · exact h.mono InstR.mono hb
  · obtain ⟨A', c', e, hs⟩ := sl_of_rows (R := InstR) InstD.cells (fun _ => rfl) id h (fun z hz => ⟨rfl, hw z hz⟩)
    cases e
    rw [List.map_id] at hs
    exact hs
theorem CodeAt.set {w X : World} {A : Option Addr} {c : Nat} {l : List InstD} (h : CodeAt w X A c l) {D : Nat} {cur : Array Value} (hD : X.heap[D]? = some (.cells cur 38 (0, 0))) (k : Nat) (v : Value) : CodeAt w (X.setCell ⟨D, k, none⟩ v) A c l :=
  h.imp id fun h => ownsRow_setCell_other h (own_not h hD (by decide)) v
/-- The clone that is under way. -/
structure SwI (w : World) (D c gp n : Nat) (L : List FnD) (X : World) : Prop where
  bel : Bel w X
  box : Blk X gp 24 #[.slice (some ⟨D, 0, none⟩) n c]
  ne : gp ≠ D
  row : ∃ A cc, RowF w.heap.size X D c L A cc ∧ ∀ i (hi : i < L.length), CodeAt w X (A i) (cc i) (L[i]).code
theorem SwI.mono {w X Y : World} {D c gp n : Nat} {L : List FnD} (h : SwI w D c gp n L X) (hb : Bel X Y) : SwI w D c gp n L Y := by
  obtain ⟨A, cc, h1, h2⟩ := h.row
  exact ⟨h.bel.trans hb, h.box.bel hb, h.ne, A, cc, h1.bel hb, fun i hi => (h2 i hi).bel hb⟩
theorem SwI.code {w X : World} {D c gp n : Nat} {L : List FnD} (h : SwI w D c gp n L X) {j : Nat} (hj : j < L.length) {v : Value} (hv : X.ownsRow w.heap.size 43 7 v (L[j]).code.length ((L[j]).code.flatMap InstD.cells)) : SwI w D c gp n L (X.setCell ⟨D, j * 2 + 1, none⟩ v) := by
  obtain ⟨A, cc, h1, h2⟩ := h.row
  obtain ⟨A', c', rfl⟩ := own_slice hv
  obtain ⟨cur, hD⟩ := h1.ty
  refine ⟨h.bel.setCell h1.D0 _, h.box.other h.ne _, h.ne, _, _, h1.code hj A' c', fun i hi => ?_⟩
  by_cases hij : i = j
  · subst hij
    rw [upd_same, upd_same]
    exact CodeAt.set (.inr hv) hD _ _
  · rw [upd_other _ _ hij, upd_other _ _ hij]
    exact (h2 i hi).set hD _ _
theorem SwI.sl {w X : World} {D c gp n : Nat} {L : List FnD} (h : SwI w D c gp n L X) (hw : ∀ f ∈ L, (∀ x ∈ f.code, x.Wf) ∧ (Lit.int .i64 f.args).wf = true) : Sl FnR 2 X (some ⟨D, 0, none⟩) c L := by
  obtain ⟨A, cc, h1, h2⟩ := h.row
  refine ⟨h1.le, h1.big, fun i hi => ⟨D, 0, [.int .i64 (L[i]).args, .slice (A i) (L[i]).code.length (cc i)], rfl, rfl, ⟨A i, cc i, rfl, (h2 i hi).sl h.bel (hw _ (List.getElem_mem hi)).1, (hw _ (List.getElem_mem hi)).2⟩, fun j v hv => ?_⟩⟩
  obtain ⟨e1, e2⟩ := h1.cells i hi
  rw [Nat.zero_add]
  match j, hv with
  | 0, hv => simp only [List.getElem?_cons_zero, Option.some.injEq] at hv; subst hv; exact e1
  | 1, hv => simp only [List.getElem?_cons_succ, List.getElem?_cons_zero, Option.some.injEq] at hv; subst hv; exact e2
theorem own_low {X : World} {b b' s n : Nat} {t : TypeId} {v : Value} {xs : List Value} (h : X.ownsRow b t s v n xs) (hb : b' ≤ b) : X.ownsRow b' t s v n xs :=
  ⟨h.1, h.2.imp id fun ⟨g, cap, cur, e, h1, r⟩ => ⟨g, cap, cur, e, Nat.le_trans hb h1, r⟩⟩
theorem RowF.low {b0 b1 : Nat} {W : World} {D c : Nat} {L : List FnD} {A : Nat → Option Addr} {cc : Nat → Nat} (h : RowF b0 W D c L A cc) (hb : b1 ≤ b0) : RowF b1 W D c L A cc := ⟨Nat.le_trans hb h.D0, h.ty, h.le, h.big, h.cells⟩
theorem CodeAt.other {w X : World} {A : Option Addr} {c : Nat} {l : List InstD} (h : CodeAt w X A c l) {r : Nat} {cs : Array Value} (hK : Blk X r 24 cs) (k : Nat) (v : Value) : CodeAt w (X.setCell ⟨r, k, none⟩ v) A c l := by
  have e : X.heap[r]? = some (.cells cs 24 (0, 0)) := hK
  exact h.imp id fun h => ownsRow_setCell_other h (own_not h e (by decide)) v
theorem SwI.slr {w X : World} {D c gp n : Nat} {L : List FnD} (h : SwI w D c gp n L X) {r : Nat} {cs : Array Value} (hK : Blk X r 24 cs) (hr : w.heap.size ≤ r) (v : Value) (hw : ∀ f ∈ L, (∀ x ∈ f.code, x.Wf) ∧ (Lit.int .i64 f.args).wf = true) : Sl FnR 2 (X.setCell ⟨r, 0, none⟩ v) (some ⟨D, 0, none⟩) c L := by
  obtain ⟨A, cc, h1, h2⟩ := h.row
  obtain ⟨cur, hD⟩ := h1.ty
  have hne : D ≠ r := by
    rintro rfl
    have e : X.heap[D]? = some (.cells cs 24 (0, 0)) := hK
    rw [hD] at e
    simp at e
  have hb := h.bel.setCell (p := ⟨r, 0, none⟩) hr v
  refine ⟨h1.le, h1.big, fun i hi => ⟨D, 0, [.int .i64 (L[i]).args, .slice (A i) (L[i]).code.length (cc i)], rfl, rfl, ⟨A i, cc i, rfl, CodeAt.sl (w := w) ((h2 i hi).other hK 0 v) hb (hw _ (List.getElem_mem hi)).1, (hw _ (List.getElem_mem hi)).2⟩, fun j u hu => ?_⟩⟩
  obtain ⟨e1, e2⟩ := h1.cells i hi
  rw [Nat.zero_add, World.cell?_setCell_other _ _ _ _ (by simp only [ne_eq, Addr.mk.injEq, not_and]; intro e; exact absurd e.symm hne)]
  match j, hu with
  | 0, hu => simp only [List.getElem?_cons_zero, Option.some.injEq] at hu; subst hu; exact e1
  | 1, hu => simp only [List.getElem?_cons_succ, List.getElem?_cons_zero, Option.some.injEq] at hu; subst hu; exact e2
/-- The same without the box. -/
structure SwR (w : World) (D c : Nat) (L : List FnD) (X : World) : Prop where
  bel : Bel w X
  row : ∃ A cc, RowF w.heap.size X D c L A cc ∧ ∀ i (hi : i < L.length), CodeAt w X (A i) (cc i) (L[i]).code
theorem SwR.other {w X : World} {D c : Nat} {L : List FnD} (h : SwR w D c L X) {r : Nat} {cs : Array Value} (hK : Blk X r 24 cs) (hr : w.heap.size ≤ r) (v : Value) : SwR w D c L (X.setCell ⟨r, 0, none⟩ v) := by
  obtain ⟨A, cc, h1, h2⟩ := h.row
  obtain ⟨cur, hD⟩ := h1.ty
  have hne : D ≠ r := by
    rintro rfl
    have e : X.heap[D]? = some (.cells cs 24 (0, 0)) := hK
    rw [hD] at e
    simp at e
  have ho : ∀ j, (X.setCell ⟨r, 0, none⟩ v).cell? ⟨D, j, none⟩ = X.cell? ⟨D, j, none⟩ := fun j => World.cell?_setCell_other _ _ _ _ (by simp only [ne_eq, Addr.mk.injEq, not_and]; intro e; exact absurd e.symm hne)
  exact ⟨h.bel.setCell (p := ⟨r, 0, none⟩) hr v, A, cc, ⟨h1.D0, ⟨cur, (setCell_heap_ne X v hne).trans hD⟩, h1.le, h1.big, fun i hi => by rw [ho, ho]; exact h1.cells i hi⟩, fun i hi => (h2 i hi).other hK 0 v⟩
theorem SwR.sl {w X : World} {D c : Nat} {L : List FnD} (h : SwR w D c L X) (hw : ∀ f ∈ L, (∀ x ∈ f.code, x.Wf) ∧ (Lit.int .i64 f.args).wf = true) : Sl FnR 2 X (some ⟨D, 0, none⟩) c L := by
  obtain ⟨A, cc, h1, h2⟩ := h.row
  refine ⟨h1.le, h1.big, fun i hi => ⟨D, 0, [.int .i64 (L[i]).args, .slice (A i) (L[i]).code.length (cc i)], rfl, rfl, ⟨A i, cc i, rfl, (h2 i hi).sl h.bel (hw _ (List.getElem_mem hi)).1, (hw _ (List.getElem_mem hi)).2⟩, fun j v hv => ?_⟩⟩
  obtain ⟨e1, e2⟩ := h1.cells i hi
  rw [Nat.zero_add]
  match j, hv with
  | 0, hv => simp only [List.getElem?_cons_zero, Option.some.injEq] at hv; subst hv; exact e1
  | 1, hv => simp only [List.getElem?_cons_succ, List.getElem?_cons_zero, Option.some.injEq] at hv; subst hv; exact e2
end Go.Proofs.Ytcllifcafgiopaa
