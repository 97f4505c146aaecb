/- inst.May by its contract. -/
import Derived.Test.YtebdnobgdimdoaaProg
import Derived.Test.YtebdnobgdimdoaaKit
import Derived.KernelRfl
import Derived.WalkLawsBesides
import Derived.WalkSpells
import Derived.Outline
import Derived.BigQuiet
import Derived.Deep.QuietTactic
import Derived.Deep.RegionHeld3
import Derived.Deep.DeepCutAuto
set_option linter.unusedVariables false
set_option linter.unusedSimpArgs false
set_option maxRecDepth 100000
namespace Go.Proofs.Ytebdnobgdimdoaa
open Go.RowKit

def inB (n h : Int) : Bool := decide (0 ≤ n ∧ n < h)
set_option maxHeartbeats 400000 in
theorem in_any (n h : Int) (w : World) :
    Calls Try.prog 79 #[.int .i64 n, .int .i64 h] w fun e w' => e = .returned (.bool (inB n h)) ∧ w = w' := by
  by_cases h0 : 0 ≤ n
  · by_cases h1 : n < h
    · rw [show inB n h = true from decide_eq_true ⟨h0, h1⟩]
      go_enter Try.func79, Try.ntmps79
      go_wp2
      go_ret
      exact ⟨by simp, rfl⟩
    · rw [show inB n h = false from decide_eq_false (by omega)]
      go_enter Try.func79, Try.ntmps79
      go_wp2
      go_ret
      exact ⟨by simp, rfl⟩
  · rw [show inB n h = false from decide_eq_false (by omega)]
    go_enter Try.func79, Try.ntmps79
    go_wp2
    go_ret
    exact ⟨by simp, rfl⟩


def rulesV : Array Value := #[.int .i64 11, .bool true, .bool true, .int .i64 0, .bool true, .int .i64 5, .bool true, .bool true, .int .i64 65535, .bool true,
  .int .i64 1, .bool true, .bool true, .int .i64 0, .bool true, .int .i64 1, .bool true, .bool true, .int .i64 0, .bool true, .int .i64 1, .bool true, .bool true, .int .i64 0, .bool true,
  .int .i64 1, .bool false, .bool false, .int .i64 0, .bool true, .int .i64 1, .bool false, .bool false, .int .i64 0, .bool true, .int .i64 1, .bool false, .bool false, .int .i64 0, .bool false]
set_option maxHeartbeats 400000 in
theorem rules_any (w : World) :
    Calls Try.prog 80 #[] w fun e w' => e = .returned (.agg rulesV) ∧ w.alloc (.cells rulesV 140) = w' := by
  go_enter Try.func80, Try.ntmps80
  go_wp2_with (first | (refine at_build (t := 140) rulesV (by kernel_rfl) ?_) | (refine at_store_new (ty := 140) rulesV (by rfl) (by rfl) (by kernel_rfl) (by kernel_rfl) (by kernel_rfl) ?_))
  exact bodyPost_ret (v := .agg rulesV) (results_cell_row Try.results80 _ _ w.heap.size 140 rulesV (0, 0) _ (by rfl) (heap_alloc_last w _) Try.underlying140 rfl (by kernel_rfl)) rfl ⟨rfl, rfl⟩
end Go.Proofs.Ytebdnobgdimdoaa
