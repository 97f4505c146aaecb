/- inst.May by its contract. -/
import Derived.Test.YtebdnobgdimdoaaInst2a
import Derived.Test.YtebdnobgdimdoaaInst2b
import Derived.Test.YtebdnobgdimdoaaInst2c
set_option linter.unusedVariables false
namespace Go.Proofs.Ytebdnobgdimdoaa
open Go.RowKit
theorem may_any (op fn dst src : Int) (reg : Bool) (off imm : Int) (w : World) :
    Calls Try.prog 51 #[.agg #[.int .i64 op, .int .i64 fn, .int .i64 dst, .int .i64 src, .bool reg, .int .i64 off, .int .u32 imm]] w fun e w' => e = .returned (.bool (mayB op fn dst src reg off imm)) ∧ Bel w w' := by
  by_cases h0 : 0 ≤ op ∧ op < 8
  · by_cases h1 : 0 ≤ dst ∧ dst < 8
    · by_cases h2 : 0 ≤ src ∧ src < 8
      · have b1 : inB dst 8 = true := decide_eq_true h1
        have b2 : inB src 8 = true := decide_eq_true h2
        obtain rfl | rfl | rfl | rfl | rfl | rfl | rfl | rfl : op = 0 ∨ op = 1 ∨ op = 2 ∨ op = 3 ∨ op = 4 ∨ op = 5 ∨ op = 6 ∨ op = 7 := by omega
        · exact may_0 fn dst src reg off imm w b1 b2
        · by_cases hf : fn = 0
          · subst hf; exact may_1z dst src reg off imm w b1 b2
          · exact may_1 fn dst src reg off imm w b1 b2 (by simp [hf])
        · exact may_2 fn dst src reg off imm w b1 b2
        · exact may_3 fn dst src reg off imm w b1 b2
        · exact may_4 fn dst src reg off imm w b1 b2
        · exact may_5 fn dst src reg off imm w b1 b2
        · exact may_6 fn dst src reg off imm w b1 b2
        · exact may_7 fn dst src reg off imm w b1 b2
      · rw [show mayB op fn dst src reg off imm = false from decide_eq_false (fun h => h2 h.2.2.1)]
        exact may_no_src op fn dst src reg off imm w (decide_eq_true h0) (decide_eq_true h1) (decide_eq_false h2)
    · rw [show mayB op fn dst src reg off imm = false from decide_eq_false (fun h => h1 h.2.1)]
      exact may_no_dst op fn dst src reg off imm w (decide_eq_true h0) (decide_eq_false h1)
  · rw [show mayB op fn dst src reg off imm = false from decide_eq_false (fun h => h0 h.1)]
    exact may_no_op op fn dst src reg off imm w (decide_eq_false h0)
end Go.Proofs.Ytebdnobgdimdoaa
