/- arena.Left by its contract. -/
import Derived.Test.YteopeocgbfdofaaArC3
set_option linter.unusedVariables false
set_option linter.unusedSimpArgs false
namespace Go.Proofs.Yteopeocgbfdofaa
open Go.RowKit Go.Shelf
attribute [local go_sem] Oper.semAt_some

theorem KpG.setCell {n₀ Bs b : Nat} {W : World} (h1 : n₀ ≤ b) (h2 : b < Bs) (v : Value) : KpG n₀ Bs W (W.setCell ⟨b, 0, none⟩ v) :=
  ⟨(Below.refl _ _).setCell (p := ⟨b, 0, none⟩) h1 v, fun k o hk ho hb => (Below.heap_setCell _ _ _ k (by simp only; omega)).trans hk⟩
theorem Ok.count {m : MemD} (h : Ok m) : ∀ i, i ≤ m.l.length → (i : Int) ≤ prevEnd m.l i
  | 0, _ => by unfold prevEnd; rw [if_pos rfl]; simp
  | i + 1, hi => by
    have ih := h.count i (by omega)
    have b := h.blk i (by omega)
    have h1 := b.lo
    have h2 := b.len
    rw [prevEnd_succ]
    omega
theorem Ok.few {m : MemD} (h : Ok m) : m.l.length ≤ 1024 := by
  have h1 := h.count m.l.length (Nat.le_refl _)
  have h2 := (h.prev m.l.length (Nat.le_refl _)).2
  have h3 := h.cap1
  omega
theorem gapsUpto_len (m : MemD) : ∀ i, (gapsUpto m i).length ≤ i
  | 0 => by simp [gapsUpto]
  | i + 1 => by
    have ih := gapsUpto_len m i
    rw [gapsUpto, List.length_append]
    unfold gapAt
    split <;> simp <;> omega
theorem gapsL_len {m : MemD} (h : Ok m) : (gapsL m).length ≤ 1025 := by
  have h1 := gapsUpto_len m (m.l.length + 1)
  have h2 := h.few
  unfold gapsL
  omega
theorem leftL_range : ∀ (xs : List GapV), -(1024 * (xs.length : Int)) ≤ leftL (vals xs) ∧ leftL (vals xs) ≤ 1024 * (xs.length : Int)
  | [] => by simp [leftL, vals]
  | x :: xs => by
    have ih := leftL_range xs
    have hx := x.2
    simp only [leftL, vals, List.map_cons, List.sum_cons, List.length_cons] at ih ⊢
    omega
theorem leftL_snoc (xs : List GapV) (x : GapV) : leftL (vals (xs ++ [x])) = leftL (vals xs) + (x.1.2 - x.1.1) := by
  rw [vals_snoc]
  simp [leftL]
end Go.Proofs.Yteopeocgbfdofaa
