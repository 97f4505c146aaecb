/- verify's kinds: what is done with instructions, as a map of functions. -/
import Derived.Test.YtebdnobgdimdoaaVw5
import Derived.MapKept
import Derived.Carry
set_option linter.unusedVariables false
set_option linter.unusedSimpArgs false
namespace Go.Proofs.Ytebdnobgdimdoaa
open Go.RowKit Go.MapKept

theorem kalloc_set (w : World) (o o' : Obj) : ({ w.alloc o with heap := (w.alloc o).heap.setIfInBounds w.heap.size o' } : World) = w.alloc o' := by
  have e : (w.heap.push o).setIfInBounds w.heap.size o' = w.heap.push o' := by
    apply Array.toList_inj.1
    rw [Array.toList_setIfInBounds, Array.toList_push, Array.toList_push, ← Array.length_toList, List.set_append_right _ _ (Nat.le_refl _), Nat.sub_self]
    rfl
  show ({ w.alloc o with heap := (w.heap.push o).setIfInBounds w.heap.size o' } : World) = _
  rw [e]
  rfl
theorem kkey_int (a : Int) : IsKey (.int .i64) (.int .i64 a) := by simp [IsKey]
theorem kcheckKey (b : Bool) (a : Int) (w : World) : (Instr.checkKey b 10000 3 (.int .i64 a)).run Try.prog w = .ok () w := run_checkKey Try.underlying3 (kkey_int a) b 9999
theorem kinsert (w : World) (E : Array MapEntry) (n : Nat) (a : Int) (f : Value) (hf : Instr.findNow (.int .i64) (.int .i64 a) E.toList 0 = some none) : (Instr.mapUpdate 72 (.map (some w.heap.size)) (.int .i64 a) f).run Try.prog (w.alloc (.map E n)) = .ok () (w.alloc (.map (E.push { key := .int .i64 a, val := f, born := n }) (n + 1))) := by
  have hb : (w.alloc (.map E n)).heap[w.heap.size]? = some (.map E n) := (heap_alloc w _).1
  unfold Instr.mapUpdate
  simp only [Sem.run_bind, Sem.run_pure, Result.andThen_ok, run_underlying Try.underlying72, Go.MapKept.run_getObj_map hb, kcheckKey, run_findKey Try.underlying3 hf, run_setObj_map _ hb, kalloc_set]
def kindsE : Array MapEntry := #[{ key := .int .i64 0, val := .func (.func 41) #[] #[], born := 0 }, { key := .int .i64 1, val := .func (.func 42) #[] #[], born := 1 }, { key := .int .i64 2, val := .func (.func 43) #[] #[], born := 2 }, { key := .int .i64 3, val := .func (.func 44) #[] #[], born := 3 }, { key := .int .i64 4, val := .func (.func 45) #[] #[], born := 4 }, { key := .int .i64 5, val := .func (.func 46) #[] #[], born := 5 }, { key := .int .i64 6, val := .func (.func 47) #[] #[], born := 6 }, { key := .int .i64 7, val := .func (.func 48) #[] #[], born := 7 }]
theorem klook {w : World} {b : Nat} (hb : w.heap[b]? = some (.map kindsE 8)) (a : Int) (r : Nat × Value) (hr : Instr.findNow (.int .i64) (.int .i64 a) kindsE.toList 0 = some (some r)) : (Instr.lookup 72 (.map (some b)) (.int .i64 a) false).run Try.prog w = .ok r.2 w := by
  obtain ⟨i, v⟩ := r
  unfold Instr.lookup
  simp only [Sem.run_bind, Sem.run_pure, Result.andThen_ok, run_underlying Try.underlying72, Go.MapKept.run_getObj_map hb, kcheckKey, run_findKey Try.underlying3 hr]
  rfl
set_option maxHeartbeats 4000000 in
set_option maxRecDepth 100000 in
theorem kinds_any (w : World) : Calls Try.prog 24 #[] w fun e w' => e = .returned (.map (some w.heap.size)) ∧ w' = w.alloc (.map kindsE 8) := by
  have hmm := @run_makeMap Try.prog
  have k0 := kinsert w #[] 0 0 (.func (.func 41) #[] #[]) rfl
  have k1 := kinsert w #[{ key := .int .i64 0, val := .func (.func 41) #[] #[], born := 0 }] 1 1 (.func (.func 42) #[] #[]) rfl
  have k2 := kinsert w #[{ key := .int .i64 0, val := .func (.func 41) #[] #[], born := 0 }, { key := .int .i64 1, val := .func (.func 42) #[] #[], born := 1 }] 2 2 (.func (.func 43) #[] #[]) rfl
  have k3 := kinsert w #[{ key := .int .i64 0, val := .func (.func 41) #[] #[], born := 0 }, { key := .int .i64 1, val := .func (.func 42) #[] #[], born := 1 }, { key := .int .i64 2, val := .func (.func 43) #[] #[], born := 2 }] 3 3 (.func (.func 44) #[] #[]) rfl
  have k4 := kinsert w #[{ key := .int .i64 0, val := .func (.func 41) #[] #[], born := 0 }, { key := .int .i64 1, val := .func (.func 42) #[] #[], born := 1 }, { key := .int .i64 2, val := .func (.func 43) #[] #[], born := 2 }, { key := .int .i64 3, val := .func (.func 44) #[] #[], born := 3 }] 4 4 (.func (.func 45) #[] #[]) rfl
  have k5 := kinsert w #[{ key := .int .i64 0, val := .func (.func 41) #[] #[], born := 0 }, { key := .int .i64 1, val := .func (.func 42) #[] #[], born := 1 }, { key := .int .i64 2, val := .func (.func 43) #[] #[], born := 2 }, { key := .int .i64 3, val := .func (.func 44) #[] #[], born := 3 }, { key := .int .i64 4, val := .func (.func 45) #[] #[], born := 4 }] 5 5 (.func (.func 46) #[] #[]) rfl
  have k6 := kinsert w #[{ key := .int .i64 0, val := .func (.func 41) #[] #[], born := 0 }, { key := .int .i64 1, val := .func (.func 42) #[] #[], born := 1 }, { key := .int .i64 2, val := .func (.func 43) #[] #[], born := 2 }, { key := .int .i64 3, val := .func (.func 44) #[] #[], born := 3 }, { key := .int .i64 4, val := .func (.func 45) #[] #[], born := 4 }, { key := .int .i64 5, val := .func (.func 46) #[] #[], born := 5 }] 6 6 (.func (.func 47) #[] #[]) rfl
  have k7 := kinsert w #[{ key := .int .i64 0, val := .func (.func 41) #[] #[], born := 0 }, { key := .int .i64 1, val := .func (.func 42) #[] #[], born := 1 }, { key := .int .i64 2, val := .func (.func 43) #[] #[], born := 2 }, { key := .int .i64 3, val := .func (.func 44) #[] #[], born := 3 }, { key := .int .i64 4, val := .func (.func 45) #[] #[], born := 4 }, { key := .int .i64 5, val := .func (.func 46) #[] #[], born := 5 }, { key := .int .i64 6, val := .func (.func 47) #[] #[], born := 6 }] 7 7 (.func (.func 48) #[] #[]) rfl
  simp only [List.push_toArray, List.cons_append, List.nil_append, Nat.reduceAdd] at k0
  simp only [List.push_toArray, List.cons_append, List.nil_append, Nat.reduceAdd] at k1
  simp only [List.push_toArray, List.cons_append, List.nil_append, Nat.reduceAdd] at k2
  simp only [List.push_toArray, List.cons_append, List.nil_append, Nat.reduceAdd] at k3
  simp only [List.push_toArray, List.cons_append, List.nil_append, Nat.reduceAdd] at k4
  simp only [List.push_toArray, List.cons_append, List.nil_append, Nat.reduceAdd] at k5
  simp only [List.push_toArray, List.cons_append, List.nil_append, Nat.reduceAdd] at k6
  simp only [List.push_toArray, List.cons_append, List.nil_append, Nat.reduceAdd] at k7
  go_enter Try.func24, Try.ntmps24
  go_wp2_with fail
  go_ret
  exact ⟨rfl, rfl⟩
end Go.Proofs.Ytebdnobgdimdoaa
