/- A row of one-cell elements in a block of its own: what it reads as, and what a store makes of it. Over whatever program. -/
import Derived.Test.YtebdnobgdimdoaaRead
set_option linter.unusedVariables false
set_option linter.unusedSimpArgs false
namespace Go.Proofs.Ytebdnobgdimdoaa
open Go.RowKit

/-- The block g holds just these elements. -/
structure Row {α : Type} (enc : α → Value) (t : TypeId) (w : World) (g : Nat) (L : List α) : Prop where mk :: (out : w.heap[g]? = some (.cells (L.map enc).toArray t (0, 0)))
section
variable {α : Type} {enc : α → Value} {t : TypeId} {w w' : World} {g : Nat} {L : List α}
theorem Row.lt (h : Row enc t w g L) : g < w.heap.size := (Array.getElem?_eq_some_iff.1 h.out).1
theorem Row.mono (h : Row enc t w g L) (hb : Bel w w') : Row enc t w' g L := ⟨by rw [hb.out.block g h.lt]; exact h.out⟩
theorem Row.cell (h : Row enc t w g L) {i : Nat} (hi : i < L.length) : w.cell? ⟨g, i, none⟩ = some (enc L[i]) := by
  simp [World.cell?, h.out, hi]
theorem Row.frozen (h : Row enc t w g L) (i : Nat) : w.frozen? ⟨g, i, none⟩ = false := by
  simp [World.frozen?, h.out]
theorem Row.set (h : Row enc t w g L) {i : Nat} (hi : i < L.length) (x : α) : Row enc t (w.setCell ⟨g, i, none⟩ (enc x)) g (L.set i x) := by
  refine ⟨?_⟩
  simp only [World.setCell, Array.getElem?_modify, ↓reduceIte, h.out, Option.map_some]
  simp [List.map_set]
theorem Row.drew (h : Row enc t w g L) : Row enc t w.drew g L := ⟨h.out⟩
theorem Row.alloc (h : Row enc t w g L) (o : Obj) : Row enc t (w.alloc o) g L := h.mono ((Bel.refl w).alloc o)
theorem Row.new (w : World) (t : TypeId) (L : List α) : Row enc t (w.alloc (.cells (L.map enc).toArray t)) w.heap.size L := ⟨by show (w.heap.push _)[w.heap.size]? = _; simp⟩
end
/-- A slice of Booleans. -/
def BoolR (w : World) (cs : List Value) (x : Bool) : Prop := cs = [.bool x]
theorem BoolR.mono : Mono BoolR := fun w w' cs x hb h => h
theorem Row.sl_bool {t : TypeId} {w : World} {g : Nat} {L : List Bool} (h : Row Value.bool t w g L) (hm : L.length ≤ maxLen) : Sl BoolR 1 w (some ⟨g, 0, none⟩) L.length L :=
  ⟨Nat.le_refl _, hm, fun i hi => ⟨g, 0, [.bool L[i]], rfl, rfl, rfl, fun j v hv => by
    cases j with
    | zero => simp at hv; subst hv; simpa using h.cell hi
    | succ j => simp at hv⟩⟩
theorem Sl.bool_cell {w : World} {A : Option Addr} {cap : Nat} {l : List Bool} (h : Sl BoolR 1 w A cap l) (hp : 0 < l.length) :
    ∃ b off, A = some ⟨b, off, none⟩ ∧ ∀ i (hi : i < l.length), w.cell? ⟨b, off + i, none⟩ = some (.bool (l.getD i false)) := by
  obtain ⟨b, off, rfl⟩ := h.addr hp
  refine ⟨b, off, rfl, fun i hi => ?_⟩
  obtain ⟨b', off', cs, e, hl, hw, hc⟩ := h.get i hi
  simp at e; obtain ⟨rfl, rfl⟩ := e
  have := hc 0 _ (by rw [hw]; rfl)
  simp at this
  rw [List.getD_eq_getElem?_getD, List.getElem?_eq_getElem hi]
  exact this
end Go.Proofs.Ytebdnobgdimdoaa
