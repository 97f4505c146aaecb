/- '==' between two instructions: as the data are. -/
import Derived.Test.YteopeocgbfdofaaReadInst
import Derived.Laws.StructEq
import Derived.Tactics
set_option linter.unusedVariables false
set_option linter.unusedSimpArgs false
namespace Go.Proofs.Yteopeocgbfdofaa
open Go.RowKit
section
variable {P : Program} {d : Nat} {xs ys : Array Value} {f : Field} {fs : List Field} {a b : Value} {r s : Bool} {w : World}
theorem eq_more (hn : f.name ≠ "_") (ha : (part f.type xs f.offset).run P w = .ok a w) (hb : (part f.type ys f.offset).run P w = .ok b w) (he : (Op.equalIn d f.type a b).run P w = .ok r w) (hr : (Op.eqFields d xs ys fs).run P w = .ok s w) :
    (Op.eqFields d xs ys (f :: fs)).run P w = .ok (r && s) w := by
  rw [Op.eqFields]
  simp only [if_pos hn, Sem.run_bind, ha, hb, he, Result.andThen_ok]
  cases r
  · simp
  · simpa using hr
theorem eq_of_fields {t : TypeId} {gs : Array Field} (hu : P.underlying t = some (.struct gs)) (hp : P.stoodInHeld t = false) (h : (Op.eqFields d xs ys gs.toList).run P w = .ok r w) : (Op.equalIn (d + 1) t (.agg xs) (.agg ys)).run P w = .ok r w := by
  have hf : P.fieldsOf t = gs := by simp [Program.fieldsOf, hu]
  rw [run_equalIn_struct (P := P) w d t xs ys (by rw [hf]; exact hu) hp, hf]
  exact h
theorem eq_none : (Op.eqFields d xs ys []).run P w = .ok true w := by simp [Op.eqFields]
end
theorem eqA_Inst (d : Nat) (w : World) (i k : InstD) :
    (Op.equalIn (d + 2) 34 (.agg #[.int .i64 i.op, .int .i64 i.fn, .int .i64 i.dst, .int .i64 i.src, .bool i.reg, .int .i64 i.off, .int .u32 i.imm]) (.agg #[.int .i64 k.op, .int .i64 k.fn, .int .i64 k.dst, .int .i64 k.src, .bool k.reg, .int .i64 k.off, .int .u32 k.imm])).run Try.prog w = .ok (decide (i = k)) w := by
  have e : decide (i = k) = (decide (i.op = k.op) && (decide (i.fn = k.fn) && (decide (i.dst = k.dst) && (decide (i.src = k.src) && ((i.reg == k.reg) && (decide (i.off = k.off) && (decide (i.imm = k.imm) && true))))))) := by
    obtain ⟨a0, a1, a2, a3, a4, a5, a6⟩ := i
    obtain ⟨b0, b1, b2, b3, b4, b5, b6⟩ := k
    rw [Bool.eq_iff_iff]
    simp
  rw [e]
  refine eq_of_fields Try.underlying34 (by kernel_rfl) ?_
  refine eq_more (by decide) (by go_simp <;> rfl) (by go_simp <;> rfl) (by go_simp <;> rfl) ?_
  refine eq_more (by decide) (by go_simp <;> rfl) (by go_simp <;> rfl) (by go_simp <;> rfl) ?_
  refine eq_more (by decide) (by go_simp <;> rfl) (by go_simp <;> rfl) (by go_simp <;> rfl) ?_
  refine eq_more (by decide) (by go_simp <;> rfl) (by go_simp <;> rfl) (by go_simp <;> rfl) ?_
  refine eq_more (by decide) (by go_simp <;> rfl) (by go_simp <;> rfl) (by go_simp <;> rfl) ?_
  refine eq_more (by decide) (by go_simp <;> rfl) (by go_simp <;> rfl) (by go_simp <;> rfl) ?_
  refine eq_more (by decide) (by go_simp <;> rfl) (by go_simp <;> rfl) (by go_simp <;> rfl) ?_
  exact eq_none
theorem inst_eql (i k : InstD) (b : Bool) (hb : Hid (decide (i = k) = b)) : ∀ w, (binOp .eql 34 (.agg #[.int .i64 i.op, .int .i64 i.fn, .int .i64 i.dst, .int .i64 i.src, .bool i.reg, .int .i64 i.off, .int .u32 i.imm]) (.agg #[.int .i64 k.op, .int .i64 k.fn, .int .i64 k.dst, .int .i64 k.src, .bool k.reg, .int .i64 k.off, .int .u32 k.imm])).run Try.prog w = .ok (.bool b) w := by
  intro w
  rw [run_eql_struct, eqA_Inst, hb.out]; rfl
theorem inst_neq (i k : InstD) (b : Bool) (hb : Hid (decide (i = k) = b)) : ∀ w, (binOp .neq 34 (.agg #[.int .i64 i.op, .int .i64 i.fn, .int .i64 i.dst, .int .i64 i.src, .bool i.reg, .int .i64 i.off, .int .u32 i.imm]) (.agg #[.int .i64 k.op, .int .i64 k.fn, .int .i64 k.dst, .int .i64 k.src, .bool k.reg, .int .i64 k.off, .int .u32 k.imm])).run Try.prog w = .ok (.bool !b) w := by
  intro w
  rw [run_neq_struct, eqA_Inst, hb.out]; rfl
end Go.Proofs.Yteopeocgbfdofaa
