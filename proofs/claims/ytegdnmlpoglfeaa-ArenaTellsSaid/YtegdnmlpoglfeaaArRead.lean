/- How a memory of blocks lies in memory; blocks and memories that came in are read. -/
import Derived.Test.YtegdnmlpoglfeaaProg
import Derived.Test.YtegdnmlpoglfeaaRead
import Derived.Test.YtegdnmlpoglfeaaArPure2
import Derived.KernelRfl
import Derived.Lib.SlBy
set_option linter.unusedVariables false
set_option linter.unusedSimpArgs false
namespace Go.Proofs.Ytegdnmlpoglfeaa
open Go.RowKit

def BlkR (W : World) (cs : List Value) (x : BlkD) : Prop := ∃ A c, cs = [.int .i64 x.id, .int .i64 x.at', .slice A x.w.length c] ∧ Sl (IntR .u64) 1 W A c x.w ∧ (Lit.int .i64 x.id).wf = true ∧ (Lit.int .i64 x.at').wf = true
theorem BlkR.mono : Mono BlkR := fun w w' cs x hb ⟨A, c, e, hs, h1, h2⟩ => ⟨A, c, e, hs.mono (IntR.mono _) hb, h1, h2⟩
def MemR (W : World) (cs : List Value) (m : MemD) : Prop := ∃ A c, cs = [.int .i64 m.cap, .slice A m.l.length c] ∧ Sl BlkR 3 W A c m.l ∧ (Lit.int .i64 m.cap).wf = true
theorem MemR.mono : Mono MemR := fun w w' cs x hb ⟨A, c, e, hs, h1⟩ => ⟨A, c, e, hs.mono BlkR.mono hb, h1⟩
theorem arcells_int : Try.prog.cellsOf 3 = 1 := by kernel_rfl
theorem cells_Block : Try.prog.cellsOf 33 = 3 := by kernel_rfl
theorem cells_Mem : Try.prog.cellsOf 26 = 2 := by kernel_rfl
theorem cells_words : Try.prog.cellsOf 31 = 1 := by kernel_rfl
theorem cells_word : Try.prog.cellsOf 40 = 1 := by kernel_rfl
theorem cells_blocks : Try.prog.cellsOf 24 = 1 := by kernel_rfl
section
variable {H : Type} {enc : TypeId × Value → H} {w : World} {base : Nat} {spare : Nat → Bool} {held : Bool}
theorem open_Block {n : Nat} {cs : List Value} {y : DataW H × List MemPlace} (h : DataW.trod enc Try.prog w base spare held n 33 cs = some y) : ∃ x : BlkD, BlkR w cs x := by
  obtain ⟨m, hl, hf⟩ := trod_field Try.underlying33 h
  rw [cells_Block] at hl
  match cs, hl with
  | [v0, v1, v2], _ =>
  obtain ⟨y0, h0⟩ := hf 0 3 0 1 rfl arcells_int
  obtain ⟨y1, h1⟩ := hf 1 3 1 1 rfl arcells_int
  obtain ⟨y2, h2⟩ := hf 2 31 2 1 rfl cells_words
  obtain ⟨a0, e0, _, w0⟩ := DataW.trod_int Try.underlying3 h0
  obtain ⟨a1, e1, _, w1⟩ := DataW.trod_int Try.underlying3 h1
  obtain ⟨A, c, l, e2, hs⟩ := open_sl (R := IntR .u64) (sz := 1) Try.underlying31 cells_word (by decide) (fun n cs y hl hy => open_Int Try.underlying40 hy) h2
  simp at e0 e1 e2
  subst e0 e1 e2
  exact ⟨⟨a0, a1, l⟩, A, c, rfl, hs, w0, w1⟩
theorem open_Mem {n : Nat} {cs : List Value} {y : DataW H × List MemPlace} (h : DataW.trod enc Try.prog w base spare held n 26 cs = some y) : ∃ m : MemD, MemR w cs m := by
  obtain ⟨m, hl, hf⟩ := trod_field Try.underlying26 h
  rw [cells_Mem] at hl
  match cs, hl with
  | [v0, v1], _ =>
  obtain ⟨y0, h0⟩ := hf 0 3 0 1 rfl arcells_int
  obtain ⟨y1, h1⟩ := hf 1 24 1 1 rfl cells_blocks
  obtain ⟨a0, e0, _, w0⟩ := DataW.trod_int Try.underlying3 h0
  obtain ⟨A, c, l, e1, hs⟩ := open_sl (R := BlkR) (sz := 3) Try.underlying24 cells_Block (by decide) (fun n cs y hl hy => open_Block hy) h1
  simp at e0 e1
  subst e0 e1
  exact ⟨⟨a0, l⟩, A, c, rfl, hs, w0⟩
end
/-- A block and where its words lie. -/
structure BlkX (w : World) where
  b : BlkD
  A : Option Addr
  c : Nat
  sl : Sl (IntR .u64) 1 w A c b.w
  wf1 : (Lit.int .i64 b.id).wf = true
  wf2 : (Lit.int .i64 b.at').wf = true
instance (w : World) : Inhabited (BlkX w) := ⟨⟨⟨0, 0, []⟩, none, 0, Sl.nil _ _ _, by decide, by decide⟩⟩
def BlkX.cells {w : World} (x : BlkX w) : List Value := [.int .i64 x.b.id, .int .i64 x.b.at', .slice x.A x.b.w.length x.c]
theorem Sl.blks {w : World} {b off c : Nat} {L : List BlkD} (h : Sl BlkR 3 w (some ⟨b, off, none⟩) c L) :
    ∃ zs : List (BlkX w), zs.map BlkX.b = L ∧ ∀ j, j < zs.length → ∀ i v, (BlkX.cells zs[j]!)[i]? = some v → w.cell? ⟨b, off + j * 3 + i, none⟩ = some v := by
  have key : ∀ i : Fin L.length, ∃ x : BlkX w, x.b = L[i.1] ∧ ∀ j v, (BlkX.cells x)[j]? = some v → w.cell? ⟨b, off + i.1 * 3 + j, none⟩ = some v := by
    intro i
    obtain ⟨b', off', cs, e, hl, ⟨A, c', rfl, hs, hw1, hw2⟩, hc⟩ := h.get i.1 i.2
    simp at e; obtain ⟨rfl, rfl⟩ := e
    exact ⟨⟨L[i.1], A, c', hs, hw1, hw2⟩, rfl, hc⟩
  obtain ⟨f, hf⟩ := Classical.axiomOfChoice key
  refine ⟨List.ofFn f, ?_, ?_⟩
  · apply List.ext_getElem
    · simp
    · intro i h1 h2
      simp only [List.getElem_map, List.getElem_ofFn]
      exact (hf _).1
  · intro j hj i v hv
    rw [getElem!_pos _ j hj, List.getElem_ofFn] at hv
    exact (hf ⟨j, by simpa using hj⟩).2 i v hv
theorem blk_cells {w : World} {b off c : Nat} {L : List BlkD} (h : Sl BlkR 3 w (some ⟨b, off, none⟩) c L) (j : Nat) (hj : j < L.length) :
    ∃ A c', w.cell? ⟨b, off + j * 3, none⟩ = some (.int .i64 (L[j]!).id) ∧ w.cell? ⟨b, off + j * 3 + 1, none⟩ = some (.int .i64 (L[j]!).at') ∧ w.cell? ⟨b, off + j * 3 + 2, none⟩ = some (.slice A (L[j]!).w.length c') ∧ Sl (IntR .u64) 1 w A c' (L[j]!).w ∧ (Lit.int .i64 (L[j]!).id).wf = true ∧ (Lit.int .i64 (L[j]!).at').wf = true := by
  obtain ⟨b', off', cs, e, hl, ⟨A, c', rfl, hs, hw1, hw2⟩, hc⟩ := h.get j hj
  simp at e; obtain ⟨rfl, rfl⟩ := e
  rw [getElem!_pos L j hj]
  exact ⟨A, c', hc 0 _ rfl, hc 1 _ rfl, hc 2 _ rfl, hs, hw1, hw2⟩
/-- The first block of a number, or -1. -/
def idxR (l : List BlkD) (id : Int) : Int := Lib.idxBy (fun _ (b : BlkD) => decide (b.id = id)) l default
end Go.Proofs.Ytegdnmlpoglfeaa
