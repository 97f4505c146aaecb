/- The map of functions in image.code: two entries, laid and looked up. -/
import Derived.Test.YteopeocgbfdofaaProg
import Derived.Test.YteopeocgbfdofaaKit
import Derived.MapKept
import Derived.Carry
import Derived.KernelRfl
set_option linter.unusedVariables false
set_option linter.unusedSimpArgs false
namespace Go.Proofs.Yteopeocgbfdofaa
open Go.RowKit Go.MapKept

/-- The entries of the map. -/
def ents1 (f : Value) : Array MapEntry := #[{ key := .int .i64 1, val := f, born := 0 }]
def ents2 (f g : Value) : Array MapEntry := #[{ key := .int .i64 1, val := f, born := 0 }, { key := .int .i64 6, val := g, born := 1 }]
theorem alloc_set (w : World) (o o' : Obj) : ({ w.alloc o with heap := (w.alloc o).heap.setIfInBounds w.heap.size o' } : World) = w.alloc o' := by
  have e : (w.heap.push o).setIfInBounds w.heap.size o' = w.heap.push o' := by
    apply Array.toList_inj.1
    rw [Array.toList_setIfInBounds, Array.toList_push, Array.toList_push, ← Array.length_toList, List.set_append_right _ _ (Nat.le_refl _), Nat.sub_self]
    rfl
  show ({ w.alloc o with heap := (w.heap.push o).setIfInBounds w.heap.size o' } : World) = _
  rw [e]
  rfl
theorem key_int (a : Int) : IsKey (.int .i64) (.int .i64 a) := by simp [IsKey]
theorem checkKey_int (b : Bool) (a : Int) (w : World) : (Instr.checkKey b 10000 3 (.int .i64 a)).run Try.prog w = .ok () w := run_checkKey Try.underlying3 (key_int a) b 9999
theorem insert_first (w : World) (f : Value) : (Instr.mapUpdate 81 (.map (some w.heap.size)) (.int .i64 1) f).run Try.prog (w.alloc (.map #[] 0)) = .ok () (w.alloc (.map (ents1 f) 1)) := by
  have hb : (w.alloc (.map #[] 0)).heap[w.heap.size]? = some (.map #[] 0) := (heap_alloc w _).1
  have hf : Instr.findNow (.int .i64) (.int .i64 1) (#[] : Array MapEntry).toList 0 = some none := rfl
  unfold Instr.mapUpdate
  simp only [Sem.run_bind, Sem.run_pure, Result.andThen_ok, run_underlying Try.underlying81, Go.MapKept.run_getObj_map hb, checkKey_int, run_findKey Try.underlying3 hf, run_setObj_map _ hb, alloc_set]
  rfl
theorem insert_second (w : World) (f g : Value) : (Instr.mapUpdate 81 (.map (some w.heap.size)) (.int .i64 6) g).run Try.prog (w.alloc (.map (ents1 f) 1)) = .ok () (w.alloc (.map (ents2 f g) 2)) := by
  have hb : (w.alloc (.map (ents1 f) 1)).heap[w.heap.size]? = some (.map (ents1 f) 1) := (heap_alloc w _).1
  have hf : Instr.findNow (.int .i64) (.int .i64 6) (ents1 f).toList 0 = some none := rfl
  unfold Instr.mapUpdate
  simp only [Sem.run_bind, Sem.run_pure, Result.andThen_ok, run_underlying Try.underlying81, Go.MapKept.run_getObj_map hb, checkKey_int, run_findKey Try.underlying3 hf, run_setObj_map _ hb, alloc_set]
  rfl
theorem zero_func (w : World) : (zeroValue 80).run Try.prog w = .ok .nilFunc w := by kernel_rfl
theorem look_some {w : World} {b : Nat} {f g : Value} (hb : w.heap[b]? = some (.map (ents2 f g) 2)) (a : Int) (r : Nat × Value) (hr : Instr.findNow (.int .i64) (.int .i64 a) (ents2 f g).toList 0 = some (some r)) : (Instr.lookup 81 (.map (some b)) (.int .i64 a) true).run Try.prog w = .ok (.tuple #[r.2, .bool true]) w := by
  obtain ⟨i, v⟩ := r
  unfold Instr.lookup
  simp only [Sem.run_bind, Sem.run_pure, Result.andThen_ok, run_underlying Try.underlying81, Go.MapKept.run_getObj_map hb, checkKey_int, run_findKey Try.underlying3 hr]
  rfl
theorem look_jump {w : World} {b : Nat} {f g : Value} (hb : w.heap[b]? = some (.map (ents2 f g) 2)) : (Instr.lookup 81 (.map (some b)) (.int .i64 1) true).run Try.prog w = .ok (.tuple #[f, .bool true]) w :=
  look_some hb 1 (0, f) rfl
theorem look_call {w : World} {b : Nat} {f g : Value} (hb : w.heap[b]? = some (.map (ents2 f g) 2)) : (Instr.lookup 81 (.map (some b)) (.int .i64 6) true).run Try.prog w = .ok (.tuple #[g, .bool true]) w :=
  look_some hb 6 (1, g) rfl
theorem look_none {w : World} {b : Nat} {f g : Value} (hb : w.heap[b]? = some (.map (ents2 f g) 2)) {a : Int} (h1 : a ≠ 1) (h6 : a ≠ 6) : (Instr.lookup 81 (.map (some b)) (.int .i64 a) true).run Try.prog w = .ok (.tuple #[.nilFunc, .bool false]) w := by
  have hf : Instr.findNow (.int .i64) (.int .i64 a) (ents2 f g).toList 0 = some none := by
    have e1 : (a == 1) = false := by simpa using h1
    have e6 : (a == 6) = false := by simpa using h6
    simp [ents2, Instr.findNow, Instr.sameNow, e1, e6]
  unfold Instr.lookup
  simp only [Sem.run_bind, Sem.run_pure, Result.andThen_ok, run_underlying Try.underlying81, Go.MapKept.run_getObj_map hb, checkKey_int, run_findKey Try.underlying3 hf, zero_func]
  rfl
end Go.Proofs.Yteopeocgbfdofaa
