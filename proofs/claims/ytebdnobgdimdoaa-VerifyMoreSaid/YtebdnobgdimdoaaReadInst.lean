/- An instruction (api.Inst) as data, and as it lies in memory. -/
import Derived.Test.YtebdnobgdimdoaaProg
import Derived.Test.YtebdnobgdimdoaaRead
import Derived.KernelRfl
set_option linter.unusedVariables false
set_option linter.unusedSimpArgs false
namespace Go.Proofs.Ytebdnobgdimdoaa
open Go.RowKit Go.ChangeShapes Go.WideShapes

/-- A number that fits an int. -/
structure I64 (x : Int) : Prop where mk :: (lo : -9223372036854775808 ≤ x) (hi : x ≤ 9223372036854775807)
theorem i64_of_wf {x : Int} (h : (Lit.int .i64 x).wf = true) : I64 x := by
  simp [Lit.wf, IntKind.min, IntKind.max, IntKind.bits, IntKind.signed] at h
  exact ⟨by omega, by omega⟩
structure InstD where
  op : Int
  fn : Int
  dst : Int
  src : Int
  reg : Bool
  off : Int
  imm : Int
deriving DecidableEq
instance : Inhabited InstD := ⟨⟨0, 0, 0, 0, false, 0, 0⟩⟩
def InstD.cells (i : InstD) : List Value := [.int .i64 i.op, .int .i64 i.fn, .int .i64 i.dst, .int .i64 i.src, .bool i.reg, .int .i64 i.off, .int .u32 i.imm]
structure InstD.Wf (i : InstD) : Prop where mk :: (op : I64 i.op) (fn : I64 i.fn) (dst : I64 i.dst) (src : I64 i.src) (off : I64 i.off) (imm : U32 i.imm)
def InstR (w : World) (cs : List Value) (i : InstD) : Prop := cs = i.cells ∧ i.Wf
theorem InstR.mono : Mono InstR := fun w w' cs x hb h => h

theorem cells_int : Try.prog.cellsOf 3 = 1 := by kernel_rfl
theorem cells_u32 : Try.prog.cellsOf 30 = 1 := by kernel_rfl
theorem cells_bool : Try.prog.cellsOf 4 = 1 := by kernel_rfl
theorem cells_Inst : Try.prog.cellsOf 32 = 7 := by kernel_rfl
section
variable {H : Type} {enc : TypeId × Value → H} {w : World} {base : Nat} {spare : Nat → Bool} {held : Bool}
theorem open_Inst {n : Nat} {cs : List Value} {y : DataW H × List MemPlace} (h : DataW.trod enc Try.prog w base spare held n 32 cs = some y) : ∃ i : InstD, InstR w cs i := by
  obtain ⟨m, hl, hf⟩ := trod_field Try.underlying32 h
  rw [cells_Inst] at hl
  match cs, hl with
  | [v0, v1, v2, v3, v4, v5, v6], _ =>
  obtain ⟨y0, h0⟩ := hf 0 3 0 1 rfl cells_int
  obtain ⟨y1, h1⟩ := hf 1 3 1 1 rfl cells_int
  obtain ⟨y2, h2⟩ := hf 2 3 2 1 rfl cells_int
  obtain ⟨y3, h3⟩ := hf 3 3 3 1 rfl cells_int
  obtain ⟨y4, h4⟩ := hf 4 4 4 1 rfl cells_bool
  obtain ⟨y5, h5⟩ := hf 5 3 5 1 rfl cells_int
  obtain ⟨y6, h6⟩ := hf 6 30 6 1 rfl cells_u32
  obtain ⟨a0, e0, _, w0⟩ := DataW.trod_int Try.underlying3 h0
  obtain ⟨a1, e1, _, w1⟩ := DataW.trod_int Try.underlying3 h1
  obtain ⟨a2, e2, _, w2⟩ := DataW.trod_int Try.underlying3 h2
  obtain ⟨a3, e3, _, w3⟩ := DataW.trod_int Try.underlying3 h3
  obtain ⟨a4, e4, _⟩ := DataW.trod_bool Try.underlying4 h4
  obtain ⟨a5, e5, _, w5⟩ := DataW.trod_int Try.underlying3 h5
  obtain ⟨a6, e6, _, w6⟩ := DataW.trod_int Try.underlying30 h6
  simp at e0 e1 e2 e3 e4 e5 e6
  subst e0 e1 e2 e3 e4 e5 e6
  exact ⟨⟨a0, a1, a2, a3, a4, a5, a6⟩, rfl, ⟨i64_of_wf w0, i64_of_wf w1, i64_of_wf w2, i64_of_wf w3, i64_of_wf w5, u32_of_wf w6⟩⟩
end
end Go.Proofs.Ytebdnobgdimdoaa
