/- A program, read, among the texts of chapter 14. -/
import Derived.Test.YteopeocgbfdofaaIm7
set_option linter.unusedVariables false
set_option linter.unusedSimpArgs false
namespace Go.Proofs.Yteopeocgbfdofaa
open Go.RowKit

def ProgR (w : World) (cs : List Value) (L : List FnD) : Prop := ∃ A c, cs = [.slice A L.length c] ∧ Sl FnR 2 w A c L
theorem cells_Fn : Try.prog.cellsOf 40 = 2 := by kernel_rfl
theorem cells_Prog : Try.prog.cellsOf 24 = 1 := by kernel_rfl
theorem cells_insts : Try.prog.cellsOf 38 = 1 := by kernel_rfl
theorem cells_fns : Try.prog.cellsOf 22 = 1 := by kernel_rfl
section
variable {H : Type} {enc : TypeId × Value → H} {w : World} {base : Nat} {spare : Nat → Bool} {held : Bool}
theorem open_Fn {n : Nat} {cs : List Value} {y : DataW H × List MemPlace} (h : DataW.trod enc Try.prog w base spare held n 40 cs = some y) : ∃ x : FnD, FnR w cs x := by
  obtain ⟨m, hl, hf⟩ := trod_field Try.underlying40 h
  rw [cells_Fn] at hl
  match cs, hl with
  | [v0, v1], _ =>
  obtain ⟨y0, h0⟩ := hf 0 3 0 1 rfl cells_int
  obtain ⟨y1, h1⟩ := hf 1 38 1 1 rfl cells_insts
  obtain ⟨a0, e0, _, w0⟩ := DataW.trod_int Try.underlying3 h0
  obtain ⟨A, c, l, e1, hs⟩ := open_sl (R := InstR) (sz := 7) Try.underlying38 cells_Inst (by decide) (fun n cs y hl hy => open_Inst hy) h1
  simp at e0 e1
  subst e0 e1
  exact ⟨⟨a0, l⟩, A, c, rfl, hs, w0⟩
theorem open_Prog {n : Nat} {cs : List Value} {y : DataW H × List MemPlace} (h : DataW.trod enc Try.prog w base spare held n 24 cs = some y) : ∃ L : List FnD, ProgR w cs L := by
  obtain ⟨m, hl, hf⟩ := trod_field Try.underlying24 h
  rw [cells_Prog] at hl
  match cs, hl with
  | [v0], _ =>
  obtain ⟨y0, h0⟩ := hf 0 22 0 1 rfl cells_fns
  obtain ⟨A, c, L, e0, hs⟩ := open_sl (R := FnR) (sz := 2) Try.underlying22 cells_Fn (by decide) (fun n cs y hl hy => open_Fn hy) h0
  simp at e0
  subst e0
  exact ⟨L, A, c, rfl, hs⟩
end
end Go.Proofs.Yteopeocgbfdofaa
