/- inst.May by its contract. -/
import Derived.Test.YtebdnobgdimdoaaInst1
set_option linter.unusedVariables false
set_option linter.unusedSimpArgs false
namespace Go.Proofs.Ytebdnobgdimdoaa
open Go.RowKit

/-- Which instructions may be (chapter 2). -/
def mayP (op fn dst src : Int) (reg : Bool) (off imm : Int) : Prop :=
  (0 ≤ op ∧ op < 8) ∧ (0 ≤ dst ∧ dst < 8) ∧ (0 ≤ src ∧ src < 8) ∧ (0 ≤ fn ∧ fn < (if op = 0 then 11 else if op = 1 then 5 else 1)) ∧ (0 ≤ off ∧ off ≤ (if op = 1 then 65535 else 0))
  ∧ ((op < 5 ∧ ¬ (op = 1 ∧ fn = 0)) ∨ (dst = 0 ∧ reg = false)) ∧ ((op < 7 ∧ ¬ (op = 1 ∧ fn = 0)) ∨ imm = 0) ∧ (if reg = true then imm = 0 else src = 0)
instance (op fn dst src : Int) (reg : Bool) (off imm : Int) : Decidable (mayP op fn dst src reg off imm) := by unfold mayP; infer_instance
def mayB (op fn dst src : Int) (reg : Bool) (off imm : Int) : Bool := decide (mayP op fn dst src reg off imm)
theorem may_close {a : Bool} {P : Prop} [Decidable P] (h : a = true ↔ P) : a = decide P := by by_cases hp : P <;> simp_all
theorem inB_yes {n h : Int} (h0 : 0 ≤ n) (h1 : n < h) : inB n h = true := decide_eq_true ⟨h0, h1⟩
theorem inB_no {n h : Int} (h0 : ¬ (0 ≤ n ∧ n < h)) : inB n h = false := decide_eq_false h0
theorem inB_iff (n h : Int) : inB n h = true ↔ (0 ≤ n ∧ n < h) := by simp [inB]
theorem inB_not (n h : Int) : inB n h = false ↔ ¬ (0 ≤ n ∧ n < h) := by simp [inB]

set_option maxHeartbeats 1000000 in
theorem may_no_op (op fn dst src : Int) (reg : Bool) (off imm : Int) (w : World) (h0 : inB op 8 = false) :
    Calls Try.prog 51 #[.agg #[.int .i64 op, .int .i64 fn, .int .i64 dst, .int .i64 src, .bool reg, .int .i64 off, .int .u32 imm]] w fun e w' => e = .returned (.bool false) ∧ Bel w w' := by
  go_enter Try.func51, Try.ntmps51
  go_wp2_with (first | (go_at_call 79; refine (in_any _ _ _).mono ?_; rintro e w1 ⟨rfl, rfl⟩))
  go_ret
  exact ⟨by simp, (Bel.refl _).alloc _⟩
set_option maxHeartbeats 1000000 in
theorem may_no_dst (op fn dst src : Int) (reg : Bool) (off imm : Int) (w : World) (h0 : inB op 8 = true) (h1 : inB dst 8 = false) :
    Calls Try.prog 51 #[.agg #[.int .i64 op, .int .i64 fn, .int .i64 dst, .int .i64 src, .bool reg, .int .i64 off, .int .u32 imm]] w fun e w' => e = .returned (.bool false) ∧ Bel w w' := by
  go_enter Try.func51, Try.ntmps51
  go_wp2_with (first | (go_at_call 79; refine (in_any _ _ _).mono ?_; rintro e w1 ⟨rfl, rfl⟩))
  go_ret
  exact ⟨by simp, (Bel.refl _).alloc _⟩
set_option maxHeartbeats 1000000 in
theorem may_no_src (op fn dst src : Int) (reg : Bool) (off imm : Int) (w : World) (h0 : inB op 8 = true) (h1 : inB dst 8 = true) (h2 : inB src 8 = false) :
    Calls Try.prog 51 #[.agg #[.int .i64 op, .int .i64 fn, .int .i64 dst, .int .i64 src, .bool reg, .int .i64 off, .int .u32 imm]] w fun e w' => e = .returned (.bool false) ∧ Bel w w' := by
  go_enter Try.func51, Try.ntmps51
  go_wp2_with (first | (go_at_call 79; refine (in_any _ _ _).mono ?_; rintro e w1 ⟨rfl, rfl⟩))
  go_ret
  exact ⟨by simp, (Bel.refl _).alloc _⟩
theorem rule_idx0 : ∀ w, (Instr.index 140 (.agg rulesV) (.int .i64 0)).run Try.prog w = .ok (.agg #[.int .i64 11, .bool true, .bool true, .int .i64 0, .bool true]) w := fun _ => by kernel_rfl
theorem rule_idx1 : ∀ w, (Instr.index 140 (.agg rulesV) (.int .i64 1)).run Try.prog w = .ok (.agg #[.int .i64 5, .bool true, .bool true, .int .i64 65535, .bool true]) w := fun _ => by kernel_rfl
theorem rule_idx2 : ∀ w, (Instr.index 140 (.agg rulesV) (.int .i64 2)).run Try.prog w = .ok (.agg #[.int .i64 1, .bool true, .bool true, .int .i64 0, .bool true]) w := fun _ => by kernel_rfl
theorem rule_idx3 : ∀ w, (Instr.index 140 (.agg rulesV) (.int .i64 3)).run Try.prog w = .ok (.agg #[.int .i64 1, .bool true, .bool true, .int .i64 0, .bool true]) w := fun _ => by kernel_rfl
theorem rule_idx4 : ∀ w, (Instr.index 140 (.agg rulesV) (.int .i64 4)).run Try.prog w = .ok (.agg #[.int .i64 1, .bool true, .bool true, .int .i64 0, .bool true]) w := fun _ => by kernel_rfl
theorem rule_idx5 : ∀ w, (Instr.index 140 (.agg rulesV) (.int .i64 5)).run Try.prog w = .ok (.agg #[.int .i64 1, .bool false, .bool false, .int .i64 0, .bool true]) w := fun _ => by kernel_rfl
theorem rule_idx6 : ∀ w, (Instr.index 140 (.agg rulesV) (.int .i64 6)).run Try.prog w = .ok (.agg #[.int .i64 1, .bool false, .bool false, .int .i64 0, .bool true]) w := fun _ => by kernel_rfl
theorem rule_idx7 : ∀ w, (Instr.index 140 (.agg rulesV) (.int .i64 7)).run Try.prog w = .ok (.agg #[.int .i64 1, .bool false, .bool false, .int .i64 0, .bool false]) w := fun _ => by kernel_rfl
end Go.Proofs.Ytebdnobgdimdoaa
