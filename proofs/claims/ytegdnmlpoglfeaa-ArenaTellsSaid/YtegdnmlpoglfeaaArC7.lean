/- arena.own by its contract. -/
import Derived.Test.YtegdnmlpoglfeaaArC6
import Derived.Deep.RegionHeld3
set_option linter.unusedVariables false
set_option linter.unusedSimpArgs false
namespace Go.Proofs.Ytegdnmlpoglfeaa
open Go.RowKit

/-- Blocks of the call's own: k of them have words of its own too; the words of the others are w0's. -/
structure OwnB (w0 W : World) (D c : Nat) (l : List BlkD) (k : Nat) (A : Nat → Option Addr) (cc : Nat → Nat) : Prop where
  row : RowB w0.heap.size W D c l A cc
  rest : ∀ i, i < l.length → k ≤ i → Sl (IntR .u64) 1 w0 (A i) (cc i) (l[i]!).w
  own : ∀ i, i < l.length → i < k → ∃ g, A i = some ⟨g, 0, none⟩ ∧ w0.heap.size ≤ g ∧ g < W.heap.size ∧ g ≠ D ∧ OwnW W g (cc i) (l[i]!).w
  ne : ∀ i j, i < j → j < l.length → j < k → A i ≠ A j
theorem RowB.other {b0 : Nat} {W W' : World} {D c : Nat} {l : List BlkD} {A : Nat → Option Addr} {cc : Nat → Nat} (h : RowB b0 W D c l A cc) (e : W'.heap[D]? = W.heap[D]?) (hs : W.heap.size ≤ W'.heap.size) : RowB b0 W' D c l A cc :=
  ⟨h.D0, Nat.lt_of_lt_of_le h.lt hs, h.le, h.big, fun i => (World.frozen?_of_block (a := ⟨D, i, none⟩) e).trans (h.frz i), fun i hi => by
    obtain ⟨a, b, c⟩ := h.cells i hi
    exact ⟨(World.cell?_of_block (a := ⟨D, _, none⟩) e).trans a, (World.cell?_of_block (a := ⟨D, _, none⟩) e).trans b, (World.cell?_of_block (a := ⟨D, _, none⟩) e).trans c⟩⟩
theorem OwnB.other {w0 W W' : World} {D c : Nat} {l : List BlkD} {k : Nat} {A : Nat → Option Addr} {cc : Nat → Nat} (h : OwnB w0 W D c l k A cc) (e : ∀ g, w0.heap.size ≤ g → g < W.heap.size → (g = D ∨ ∃ i, i < k ∧ i < l.length ∧ A i = some ⟨g, 0, none⟩) → W'.heap[g]? = W.heap[g]?) (hs : W.heap.size ≤ W'.heap.size) : OwnB w0 W' D c l k A cc :=
  ⟨h.row.other (e D h.row.D0 h.row.lt (.inl rfl)) hs, h.rest, fun i hi hk => by
    obtain ⟨g, e1, e2, e3, e4, e5⟩ := h.own i hi hk
    exact ⟨g, e1, e2, Nat.lt_of_lt_of_le e3 hs, e4, e5.other (e g e2 e3 (.inr ⟨i, hk, hi, e1⟩))⟩, h.ne⟩
theorem OwnB.bel {w0 W W' : World} {D c : Nat} {l : List BlkD} {k : Nat} {A : Nat → Option Addr} {cc : Nat → Nat} (h : OwnB w0 W D c l k A cc) (hb : Bel W W') : OwnB w0 W' D c l k A cc := h.other (fun g _ hg _ => hb.out.block g hg) hb.size
theorem setCell_heap_ne (W : World) {p : Addr} {k : Nat} (v : Value) (h : k ≠ p.block) : (W.setCell p v).heap[k]? = W.heap[k]? := Below.heap_setCell _ _ _ _ h
theorem setCell_size (W : World) (p : Addr) (v : Value) : (W.setCell p v).heap.size = W.heap.size := Array.size_modify
theorem OwnB.step {w0 W : World} {D c : Nat} {l : List BlkD} {k : Nat} {A : Nat → Option Addr} {cc : Nat → Nat} (h : OwnB w0 W D c l k A cc) (hk : k < l.length) {g cg : Nat} (hg0 : w0.heap.size ≤ g) (hgD : g ≠ D) (hgW : g < W.heap.size) (hnew : ∀ i, i < l.length → i < k → A i ≠ some ⟨g, 0, none⟩) (hw : OwnW W g cg (l[k]!).w) :
    OwnB w0 (W.setCell ⟨D, k * 3 + 2, none⟩ (.slice (some ⟨g, 0, none⟩) (l[k]!).w.length cg)) D c l (k + 1) (fun i => if i = k then some ⟨g, 0, none⟩ else A i) (fun i => if i = k then cg else cc i) := by
  have hne : ∀ i, i ≠ k → (if i = k then some (⟨g, 0, none⟩ : Addr) else A i) = A i := fun i hi => if_neg hi
  have hne2 : ∀ i, i ≠ k → (if i = k then cg else cc i) = cc i := fun i hi => if_neg hi
  have oth : ∀ q v, q ≠ k * 3 + 2 → (W.setCell ⟨D, k * 3 + 2, none⟩ v).cell? ⟨D, q, none⟩ = W.cell? ⟨D, q, none⟩ := fun q v hq => World.cell?_setCell_other _ _ _ _ (by simp only [ne_eq, Addr.mk.injEq, true_and, and_true]; omega)
  refine ⟨⟨h.row.D0, by rw [setCell_size]; exact h.row.lt, h.row.le, h.row.big, fun i => by rw [World.frozen?_setCell]; exact h.row.frz i, fun i hi => ?_⟩, fun i hi hki => ?_, fun i hi hki => ?_, fun i j hij hj hjk => ?_⟩
  · obtain ⟨a, b, d⟩ := h.row.cells i hi
    by_cases e : i = k
    · subst e
      refine ⟨by rw [oth _ _ (by omega)]; exact a, by rw [oth _ _ (by omega)]; exact b, ?_⟩
      simp only [if_true]
      exact World.cell?_setCell_same _ _ _ d
    · simp only [if_neg e]
      exact ⟨by rw [oth _ _ (by omega)]; exact a, by rw [oth _ _ (by omega)]; exact b, by rw [oth _ _ (by omega)]; exact d⟩
  · simp only [if_neg (show i ≠ k by omega)]
    exact h.rest i hi (by omega)
  · by_cases e : i = k
    · subst e
      simp only [if_true]
      exact ⟨g, rfl, hg0, by rw [setCell_size]; exact hgW, hgD, hw.other (setCell_heap_ne _ _ hgD)⟩
    · simp only [if_neg e]
      obtain ⟨g', e1, e2, e3, e4, e5⟩ := h.own i hi (by omega)
      exact ⟨g', e1, e2, by rw [setCell_size]; exact e3, e4, e5.other (setCell_heap_ne _ _ e4)⟩
  · simp only [if_neg (show i ≠ k by omega)]
    by_cases e : j = k
    · subst e
      simp only [if_true]
      exact hnew i (by omega) hij
    · simp only [if_neg e]
      exact h.ne i j hij hj (by omega)
/-- What is of the call's own reads as the same blocks. -/
theorem OwnB.sl {w0 W : World} {D c : Nat} {l : List BlkD} {A : Nat → Option Addr} {cc : Nat → Nat} (h : OwnB w0 W D c l l.length A cc) (hwf : ∀ i, i < l.length → (Lit.int .i64 (l[i]!).id).wf = true ∧ (Lit.int .i64 (l[i]!).at').wf = true) : Sl BlkR 3 W (some ⟨D, 0, none⟩) c l := by
  refine ⟨h.row.le, h.row.big, fun i hi => ?_⟩
  obtain ⟨a, b, d⟩ := h.row.cells i hi
  obtain ⟨g, e1, e2, e3, e4, e5⟩ := h.own i hi hi
  have hl : l[i]! = l[i] := getElem!_pos l i hi
  obtain ⟨f1, f2⟩ := hwf i hi
  refine ⟨D, 0, [.int .i64 (l[i]!).id, .int .i64 (l[i]!).at', .slice (A i) (l[i]!).w.length (cc i)], rfl, rfl, ⟨A i, cc i, by rw [hl], ?_, by rw [← hl]; exact f1, by rw [← hl]; exact f2⟩, fun j v hv => ?_⟩
  · rw [e1, ← hl]
    exact e5.sl
  · match j, hv with
    | 0, hv => simp only [List.getElem?_cons_zero, Option.some.injEq] at hv; subst hv; simpa using a
    | 1, hv => simp only [List.getElem?_cons_succ, List.getElem?_cons_zero, Option.some.injEq] at hv; subst hv; simpa using b
    | 2, hv => simp only [List.getElem?_cons_succ, List.getElem?_cons_zero, Option.some.injEq] at hv; subst hv; simpa using d
    | j + 3, hv => simp at hv
/-- A block that holds just these cells. -/
def Blk (W : World) (B : Nat) (t : TypeId) (cs : Array Value) : Prop := W.heap[B]? = some (.cells cs t (0, 0))
theorem Blk.lt {W : World} {B : Nat} {t : TypeId} {cs : Array Value} (h : Blk W B t cs) : B < W.heap.size := (Array.getElem?_eq_some_iff.1 h).1
theorem Blk.cell {W : World} {B : Nat} {t : TypeId} {cs : Array Value} (h : Blk W B t cs) (k : Nat) {v : Value} (e : cs[k]? = some v) : W.cell? ⟨B, k, none⟩ = some v := by simp [World.cell?, show W.heap[B]? = _ from h, e]
theorem Blk.frozen {W : World} {B : Nat} {t : TypeId} {cs : Array Value} (h : Blk W B t cs) (k : Nat) : W.frozen? ⟨B, k, none⟩ = false := by simp [World.frozen?, show W.heap[B]? = _ from h]
theorem Blk.new (W : World) (t : TypeId) (cs : Array Value) : Blk (W.alloc (.cells cs t)) W.heap.size t cs := World.alloc_heap_new W _
theorem Blk.bel {W W' : World} {B : Nat} {t : TypeId} {cs : Array Value} (h : Blk W B t cs) (hb : Bel W W') : Blk W' B t cs := (hb.out.block B h.lt).trans h
theorem Blk.alloc {W : World} {B : Nat} {t : TypeId} {cs : Array Value} (h : Blk W B t cs) (o : Obj) : Blk (W.alloc o) B t cs := h.bel ((Bel.refl W).alloc o)
theorem Blk.set {W : World} {B : Nat} {t : TypeId} {cs : Array Value} (h : Blk W B t cs) (k : Nat) (v : Value) : Blk (W.setCell ⟨B, k, none⟩ v) B t (cs.setIfInBounds k v) := by
  show (W.setCell ⟨B, k, none⟩ v).heap[B]? = _
  have hh : W.heap[B]? = some (.cells cs t (0, 0)) := h
  simp [World.setCell, Array.getElem?_modify, hh]
theorem Blk.other {W : World} {B : Nat} {t : TypeId} {cs : Array Value} (h : Blk W B t cs) {p : Addr} (hp : B ≠ p.block) (v : Value) : Blk (W.setCell p v) B t cs := (setCell_heap_ne W v hp).trans h
/-- What a round of own's loop knows. -/
structure OwnI (w0 : World) (B : Nat) (cap : Int) (D c n : Nat) (l : List BlkD) (k : Nat) (W : World) : Prop where
  bel : Bel w0 W
  bm : Blk W B 26 #[.int .i64 cap, .slice (some ⟨D, 0, none⟩) n c]
  br : Blk W (B + 1) 26 #[.int .i64 0, .slice none 0 0]
  own : ∃ A cc, OwnB w0 W D c l k A cc ∧ ∀ i, i < l.length → i < k → ∀ g, A i = some ⟨g, 0, none⟩ → B + 1 < g
theorem OwnI.next {w0 : World} {B : Nat} {cap : Int} {D c n : Nat} {l : List BlkD} {k : Nat} {W W' : World} (h : OwnI w0 B cap D c n l k W) (hBD : B ≠ D) (hBD1 : B + 1 ≠ D) (hk : k < l.length) (hb : Bel W W') {g cg : Nat} (hg : W.heap.size ≤ g) (hg2 : g < W'.heap.size) (hw : OwnW W' g cg (l[k]!).w) :
    OwnI w0 B cap D c n l (k + 1) (W'.setCell ⟨D, k * 3 + 2, none⟩ (.slice (some ⟨g, 0, none⟩) (l[k]!).w.length cg)) := by
  obtain ⟨A, cc, ho, hgt⟩ := h.own
  have hD := ho.row.lt
  have hB := h.br.lt
  have hw0 := h.bel.size
  refine ⟨(h.bel.trans hb).setCell (p := ⟨D, k * 3 + 2, none⟩) ho.row.D0 _, (h.bm.bel hb).other hBD _, (h.br.bel hb).other hBD1 _, _, _, (ho.bel hb).step hk (by omega) (by omega) hg2 (fun i hi hik e => ?_) hw, fun i hi hik g' e => ?_⟩
  · obtain ⟨g', e1, e2, e3, -⟩ := ho.own i hi hik
    rw [e1] at e
    have : g' = g := by cases e; rfl
    omega
  · by_cases ei : i = k
    · subst ei
      simp only [if_true] at e
      have : g = g' := by simpa using e
      omega
    · simp only [if_neg ei] at e
      exact hgt i hi (by omega) g' e
end Go.Proofs.Ytegdnmlpoglfeaa
