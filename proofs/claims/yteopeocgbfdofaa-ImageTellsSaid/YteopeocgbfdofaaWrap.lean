/- Two small words: a number that fits is itself; the cells of a new block. -/
import Derived.Test.YteopeocgbfdofaaKit
import Derived.RangeFuncBox
set_option linter.unusedVariables false
set_option linter.unusedSimpArgs false
namespace Go.Proofs.Yteopeocgbfdofaa
open Go.RowKit

theorem wrap_i64 {x : Int} (h0 : -9223372036854775808 ≤ x) (h1 : x ≤ 9223372036854775807) : IntKind.i64.wrap x = x := by
  unfold IntKind.wrap
  simp only [IntKind.signed, IntKind.bits]
  simp
  omega
theorem cell_fresh (w : World) (a : Array Value) (t : TypeId) (k : Nat) (v : Value) (h : a[k]? = some v) : (w.alloc (.cells a t)).cell? ⟨w.heap.size, k, none⟩ = some v := by
  have e := World.alloc_heap_new w (.cells a t)
  unfold World.cell?
  simp only
  rw [e]
  exact h
end Go.Proofs.Yteopeocgbfdofaa
