/- Small words that all texts of this seat use: a world that grew ('Bel'), two-sided ranges. Nothing of the program. -/
import Derived.Below
import Derived.RowKit3
import Derived.WalkKit
import Derived.Deep.Draws
set_option linter.unusedVariables false
namespace Go.Proofs.Ytebpbogiifaneaa
open Go.RowKit

/-- What was there below the old heap's size is as it was. -/
structure Bel (w w' : World) : Prop where mk :: (out : Below w.heap.size w w')
theorem Bel.refl (w : World) : Bel w w := ⟨Below.refl _ _⟩
theorem Bel.trans {a b c : World} (h : Bel a b) (k : Bel b c) : Bel a c := ⟨h.out.trans (k.out.mono h.out.size)⟩
theorem Bel.alloc {a b : World} (h : Bel a b) (o : Obj) : Bel a (b.alloc o) := ⟨h.out.alloc h.out.size o⟩
theorem Bel.drew {a b : World} (h : Bel a b) : Bel a b.drew := ⟨h.out.drew⟩
theorem Bel.drewN {a b : World} (h : Bel a b) (n : Nat) : Bel a (b.drewN n) := by
  induction n with
  | zero => exact h
  | succ n ih => exact ⟨⟨h.out.os, h.out.tape, h.out.output, h.out.size, h.out.block⟩⟩
theorem Bel.setCell {a b : World} (h : Bel a b) {p : Addr} (hp : a.heap.size ≤ p.block) (u : Value) : Bel a (b.setCell p u) := ⟨h.out.setCell hp u⟩
theorem Bel.of {w w' : World} (h : Below w.heap.size w w') : Bel w w' := ⟨h⟩
theorem Bel.size {a b : World} (h : Bel a b) : a.heap.size ≤ b.heap.size := h.out.size

theorem ret_u32 {a b : Int} (h : a = b) : Ending.returned (.int .u32 a) = .returned (.int .u32 b) := by rw [h]
theorem ret_u64 {a b : Int} (h : a = b) : Ending.returned (.int .u64 a) = .returned (.int .u64 b) := by rw [h]
theorem ret_i64 {a b : Int} (h : a = b) : Ending.returned (.int .i64 a) = .returned (.int .i64 b) := by rw [h]
theorem ret_bool {a b : Bool} (h : a = b) : Ending.returned (.bool a) = .returned (.bool b) := by rw [h]

/-- A 32-bit word. -/
structure U32 (x : Int) : Prop where mk :: (lo : 0 ≤ x) (hi : x < 4294967296)
theorem u32_of_wf {x : Int} (h : (Lit.int .u32 x).wf = true) : U32 x := by
  simp [Lit.wf, IntKind.min, IntKind.max, IntKind.bits, IntKind.signed] at h
  exact ⟨by omega, by omega⟩
theorem u32_lit (x : Int) (h : (decide (0 ≤ x) && decide (x < 4294967296)) = true) : U32 x := by
  simp at h
  exact ⟨h.1, h.2⟩
end Go.Proofs.Ytebpbogiifaneaa
