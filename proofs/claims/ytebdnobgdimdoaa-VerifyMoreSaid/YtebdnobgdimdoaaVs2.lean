/- Rows of shapes, made. -/
import Derived.Test.YtebdnobgdimdoaaVs1
import Derived.Test.YtebdnobgdimdoaaCrs3
set_option linter.unusedVariables false
set_option linter.unusedSimpArgs false
namespace Go.Proofs.Ytebdnobgdimdoaa
open Go.RowKit

theorem made_shapes (n : Nat) (hn : n ≤ 64) (w : World) : (Instr.makeSlice 41 (.int .i64 n) (.int .i64 n)).run Try.prog w = .ok (.slice (some ⟨w.heap.size, 0, none⟩) n n) (w.alloc (.cells (insC (List.replicate n none)) 68)) := by
  have h : (Try.prog.info? 68).map (fun i => (i.zero, i.size, i.bytes)) = some (some (.agg #[.bool false, .bool false, .bool false, .bool false, .bool false, .bool false, .bool false, .bool false, .complex .f64 0 0, .complex .f64 0 0, .complex .f64 0 0, .complex .f64 0 0, .complex .f64 0 0, .complex .f64 0 0, .complex .f64 0 0, .complex .f64 0 0]), 16, 136) := by kernel_rfl
  rw [← shC_zero] at h
  obtain ⟨i, hi, hz⟩ := Option.map_eq_some_iff.1 h
  simp only [Prod.mk.injEq] at hz
  obtain ⟨hz0, hz1, hz2⟩ := hz
  have := run_make (P := Try.prog) w 41 68 i (.agg (shC (fun _ => none))) Try.underlying41 hi hz0 .i64 .i64 (n : Int) (n : Int) (by omega) (Int.le_refl _) (by rw [hz2]; omega) (by omega)
  rw [this, hz1, Int.toNat_natCast, show (Value.agg (shC (fun _ => none))).cells = shC (fun _ => none) from rfl]
  have e : madeCells (shC (fun _ => none)) (n * 16) = insC (List.replicate n none) := by
    apply Array.ext_getElem?
    intro i
    by_cases hi : i < n * 16
    · obtain ⟨q, j, hj, rfl⟩ : ∃ q j, j < 16 ∧ i = q * 16 + j := ⟨i / 16, i % 16, by omega, by omega⟩
      rw [insC_get _ (by rw [List.length_replicate]; omega) hj, List.getElem_replicate]
      have hm : (q * 16 + j) % 16 = j := by omega
      have hj2 : j < (shC (fun _ => none)).size := by rw [shC_size]; exact hj
      rw [show sh0 none = (fun _ => none : ShD) from rfl, Array.getElem?_eq_getElem hj2]
      have hr : (Array.range (n * 16))[q * 16 + j]? = some (q * 16 + j) := by simp [hi]
      simp only [madeCells, Array.getElem?_map, hr, Option.map_some, shC_size, hm]
      exact congrArg some (getElem!_pos (shC (fun _ => none)) j hj2)
    · rw [Array.getElem?_eq_none (by rw [size_madeCells]; omega), Array.getElem?_eq_none (by rw [insC_size, List.length_replicate]; omega)]
  rw [e]
theorem made_bools (n : Nat) (hn : n ≤ 64) (w : World) : (Instr.makeSlice 42 (.int .i64 n) (.int .i64 n)).run Try.prog w = .ok (.slice (some ⟨w.heap.size, 0, none⟩) n n) (w.alloc (.cells (insB (List.replicate n none)) 4)) := by
  have := (made_row n w).resolve_right (by omega)
  rw [this]
  have e : ((List.replicate n false).map Value.bool).toArray = insB (List.replicate n none) := by
    unfold insB
    simp
  rw [e]
theorem fn_fine {p : List FnD} (h : progMay p = true) {j : Nat} (hj : j < p.length) : crsMay (p[j]).code = true ∧ 0 ≤ (p[j]).args ∧ (p[j]).args ≤ 4 := by
  unfold progMay at h
  simp only [Bool.and_eq_true, decide_eq_true_iff, List.all_eq_true] at h
  have := h.2 _ (List.getElem_mem hj)
  unfold fnFine at this
  simp only [Bool.and_eq_true, decide_eq_true_iff] at this
  exact ⟨this.2, this.1.1, this.1.2⟩
end Go.Proofs.Ytebdnobgdimdoaa
