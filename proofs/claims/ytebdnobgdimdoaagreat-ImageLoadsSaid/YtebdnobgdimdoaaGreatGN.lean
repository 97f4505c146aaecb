/- isa.patterns by its contract. '==' between two instructions: as the data are. isa.Code by its contract. isa.Put by its contract. isa.Get by its contract. -/
import Derived.Test.YtebdnobgdimdoaaGreatGA
import Derived.LoopTactic
import Derived.Laws.CopyOwn
import Derived.Laws.ResultCell
import Derived.Lib.Hide
import Derived.Laws.StructEq
import Derived.Tactics
import Derived.Test.YtebdnobgdimdoaaGreatGB
import Derived.Laws.BitsAllLaws
import Derived.Sort.AtCall
set_option linter.unusedVariables false
set_option linter.unusedSimpArgs false
namespace Go.Proofs.YtebdnobgdimdoaaGreat
open Go.RowKit
def c0 : Array Value := #[.int .i64 0, .int .i64 0, .bool false, .int .i64 0, .int .i64 0, .bool false, .int .i64 0, .int .i64 0, .bool false, .int .i64 0, .int .i64 0, .bool false, .int .i64 0, .int .i64 0, .bool false, .int .i64 0, .int .i64 0, .bool false, .int .i64 0, .int .i64 0, .bool false, .int .i64 0, .int .i64 0, .bool false, .int .i64 0, .int .i64 0, .bool false, .int .i64 0, .int .i64 0, .bool false, .int .i64 0, .int .i64 0, .bool false, .int .i64 0, .int .i64 0, .bool false, .int .i64 0, .int .i64 0, .bool false, .int .i64 0, .int .i64 0, .bool false, .int .i64 0, .int .i64 0, .bool false, .int .i64 0, .int .i64 0, .bool false, .int .i64 0, .int .i64 0, .bool false, .int .i64 0, .int .i64 0, .bool false, .int .i64 0, .int .i64 0, .bool false, .int .i64 0, .int .i64 0, .bool false, .int .i64 0, .int .i64 0, .bool false, .int .i64 0, .int .i64 0, .bool false, .int .i64 0, .int .i64 0, .bool false, .int .i64 0, .int .i64 0, .bool false, .int .i64 0, .int .i64 0, .bool false, .int .i64 0, .int .i64 0, .bool false, .int .i64 0, .int .i64 0, .bool false, .int .i64 0, .int .i64 0, .bool false, .int .i64 0, .int .i64 0, .bool false, .int .i64 0, .int .i64 0, .bool false, .int .i64 0, .int .i64 0, .bool false, .int .i64 0, .int .i64 0, .bool false, .int .i64 0, .int .i64 0, .bool false, .int .i64 0, .int .i64 0, .bool false, .int .i64 0, .int .i64 0, .bool false, .int .i64 0, .int .i64 0, .bool false, .int .i64 0, .int .i64 0, .bool false, .int .i64 0, .int .i64 0, .bool false, .int .i64 0, .int .i64 0, .bool false, .int .i64 0, .int .i64 0, .bool false]
theorem c0_size : c0.size = 120 := rfl
def c1 : Array Value := ((((((c0.setIfInBounds 0 (.int .i64 0)).setIfInBounds 1 (.int .i64 0)).setIfInBounds 2 (.bool false)).setIfInBounds 3 (.int .i64 0)).setIfInBounds 4 (.int .i64 0)).setIfInBounds 5 (.bool true))
theorem c1_eq : c1 = ((((((c0.setIfInBounds 0 (.int .i64 0)).setIfInBounds 1 (.int .i64 0)).setIfInBounds 2 (.bool false)).setIfInBounds 3 (.int .i64 0)).setIfInBounds 4 (.int .i64 0)).setIfInBounds 5 (.bool true)) := rfl
theorem c1_size : c1.size = 120 := by simpa [c1] using c0_size
def c2 : Array Value := ((((((c1.setIfInBounds 6 (.int .i64 0)).setIfInBounds 7 (.int .i64 1)).setIfInBounds 8 (.bool false)).setIfInBounds 9 (.int .i64 0)).setIfInBounds 10 (.int .i64 1)).setIfInBounds 11 (.bool true))
theorem c2_eq : c2 = ((((((c1.setIfInBounds 6 (.int .i64 0)).setIfInBounds 7 (.int .i64 1)).setIfInBounds 8 (.bool false)).setIfInBounds 9 (.int .i64 0)).setIfInBounds 10 (.int .i64 1)).setIfInBounds 11 (.bool true)) := rfl
theorem c2_size : c2.size = 120 := by simpa [c2] using c1_size
def c3 : Array Value := ((((((c2.setIfInBounds 12 (.int .i64 0)).setIfInBounds 13 (.int .i64 2)).setIfInBounds 14 (.bool false)).setIfInBounds 15 (.int .i64 0)).setIfInBounds 16 (.int .i64 2)).setIfInBounds 17 (.bool true))
theorem c3_eq : c3 = ((((((c2.setIfInBounds 12 (.int .i64 0)).setIfInBounds 13 (.int .i64 2)).setIfInBounds 14 (.bool false)).setIfInBounds 15 (.int .i64 0)).setIfInBounds 16 (.int .i64 2)).setIfInBounds 17 (.bool true)) := rfl
theorem c3_size : c3.size = 120 := by simpa [c3] using c2_size
def c4 : Array Value := ((((((c3.setIfInBounds 18 (.int .i64 0)).setIfInBounds 19 (.int .i64 3)).setIfInBounds 20 (.bool false)).setIfInBounds 21 (.int .i64 0)).setIfInBounds 22 (.int .i64 3)).setIfInBounds 23 (.bool true))
theorem c4_eq : c4 = ((((((c3.setIfInBounds 18 (.int .i64 0)).setIfInBounds 19 (.int .i64 3)).setIfInBounds 20 (.bool false)).setIfInBounds 21 (.int .i64 0)).setIfInBounds 22 (.int .i64 3)).setIfInBounds 23 (.bool true)) := rfl
theorem c4_size : c4.size = 120 := by simpa [c4] using c3_size
def c5 : Array Value := ((((((c4.setIfInBounds 24 (.int .i64 0)).setIfInBounds 25 (.int .i64 4)).setIfInBounds 26 (.bool false)).setIfInBounds 27 (.int .i64 0)).setIfInBounds 28 (.int .i64 4)).setIfInBounds 29 (.bool true))
theorem c5_eq : c5 = ((((((c4.setIfInBounds 24 (.int .i64 0)).setIfInBounds 25 (.int .i64 4)).setIfInBounds 26 (.bool false)).setIfInBounds 27 (.int .i64 0)).setIfInBounds 28 (.int .i64 4)).setIfInBounds 29 (.bool true)) := rfl
theorem c5_size : c5.size = 120 := by simpa [c5] using c4_size
def c6 : Array Value := ((((((c5.setIfInBounds 30 (.int .i64 0)).setIfInBounds 31 (.int .i64 5)).setIfInBounds 32 (.bool false)).setIfInBounds 33 (.int .i64 0)).setIfInBounds 34 (.int .i64 5)).setIfInBounds 35 (.bool true))
theorem c6_eq : c6 = ((((((c5.setIfInBounds 30 (.int .i64 0)).setIfInBounds 31 (.int .i64 5)).setIfInBounds 32 (.bool false)).setIfInBounds 33 (.int .i64 0)).setIfInBounds 34 (.int .i64 5)).setIfInBounds 35 (.bool true)) := rfl
theorem c6_size : c6.size = 120 := by simpa [c6] using c5_size
def c7 : Array Value := ((((((c6.setIfInBounds 36 (.int .i64 0)).setIfInBounds 37 (.int .i64 6)).setIfInBounds 38 (.bool false)).setIfInBounds 39 (.int .i64 0)).setIfInBounds 40 (.int .i64 6)).setIfInBounds 41 (.bool true))
theorem c7_eq : c7 = ((((((c6.setIfInBounds 36 (.int .i64 0)).setIfInBounds 37 (.int .i64 6)).setIfInBounds 38 (.bool false)).setIfInBounds 39 (.int .i64 0)).setIfInBounds 40 (.int .i64 6)).setIfInBounds 41 (.bool true)) := rfl
theorem c7_size : c7.size = 120 := by simpa [c7] using c6_size
def c8 : Array Value := ((((((c7.setIfInBounds 42 (.int .i64 0)).setIfInBounds 43 (.int .i64 7)).setIfInBounds 44 (.bool false)).setIfInBounds 45 (.int .i64 0)).setIfInBounds 46 (.int .i64 7)).setIfInBounds 47 (.bool true))
theorem c8_eq : c8 = ((((((c7.setIfInBounds 42 (.int .i64 0)).setIfInBounds 43 (.int .i64 7)).setIfInBounds 44 (.bool false)).setIfInBounds 45 (.int .i64 0)).setIfInBounds 46 (.int .i64 7)).setIfInBounds 47 (.bool true)) := rfl
theorem c8_size : c8.size = 120 := by simpa [c8] using c7_size
def c9 : Array Value := ((((((c8.setIfInBounds 48 (.int .i64 0)).setIfInBounds 49 (.int .i64 8)).setIfInBounds 50 (.bool false)).setIfInBounds 51 (.int .i64 0)).setIfInBounds 52 (.int .i64 8)).setIfInBounds 53 (.bool true))
theorem c9_eq : c9 = ((((((c8.setIfInBounds 48 (.int .i64 0)).setIfInBounds 49 (.int .i64 8)).setIfInBounds 50 (.bool false)).setIfInBounds 51 (.int .i64 0)).setIfInBounds 52 (.int .i64 8)).setIfInBounds 53 (.bool true)) := rfl
theorem c9_size : c9.size = 120 := by simpa [c9] using c8_size
def c10 : Array Value := ((((((c9.setIfInBounds 54 (.int .i64 0)).setIfInBounds 55 (.int .i64 9)).setIfInBounds 56 (.bool false)).setIfInBounds 57 (.int .i64 0)).setIfInBounds 58 (.int .i64 9)).setIfInBounds 59 (.bool true))
theorem c10_eq : c10 = ((((((c9.setIfInBounds 54 (.int .i64 0)).setIfInBounds 55 (.int .i64 9)).setIfInBounds 56 (.bool false)).setIfInBounds 57 (.int .i64 0)).setIfInBounds 58 (.int .i64 9)).setIfInBounds 59 (.bool true)) := rfl
theorem c10_size : c10.size = 120 := by simpa [c10] using c9_size
def c11 : Array Value := ((((((c10.setIfInBounds 60 (.int .i64 0)).setIfInBounds 61 (.int .i64 10)).setIfInBounds 62 (.bool false)).setIfInBounds 63 (.int .i64 0)).setIfInBounds 64 (.int .i64 10)).setIfInBounds 65 (.bool true))
theorem c11_eq : c11 = ((((((c10.setIfInBounds 60 (.int .i64 0)).setIfInBounds 61 (.int .i64 10)).setIfInBounds 62 (.bool false)).setIfInBounds 63 (.int .i64 0)).setIfInBounds 64 (.int .i64 10)).setIfInBounds 65 (.bool true)) := rfl
theorem c11_size : c11.size = 120 := by simpa [c11] using c10_size
def c12 : Array Value := (((c11.setIfInBounds 66 (.int .i64 1)).setIfInBounds 67 (.int .i64 0)).setIfInBounds 68 (.bool false))
theorem c12_eq : c12 = (((c11.setIfInBounds 66 (.int .i64 1)).setIfInBounds 67 (.int .i64 0)).setIfInBounds 68 (.bool false)) := rfl
theorem c12_size : c12.size = 120 := by simpa [c12] using c11_size
def c13 : Array Value := ((((((c12.setIfInBounds 69 (.int .i64 1)).setIfInBounds 70 (.int .i64 1)).setIfInBounds 71 (.bool false)).setIfInBounds 72 (.int .i64 1)).setIfInBounds 73 (.int .i64 1)).setIfInBounds 74 (.bool true))
theorem c13_eq : c13 = ((((((c12.setIfInBounds 69 (.int .i64 1)).setIfInBounds 70 (.int .i64 1)).setIfInBounds 71 (.bool false)).setIfInBounds 72 (.int .i64 1)).setIfInBounds 73 (.int .i64 1)).setIfInBounds 74 (.bool true)) := rfl
theorem c13_size : c13.size = 120 := by simpa [c13] using c12_size
def c14 : Array Value := ((((((c13.setIfInBounds 75 (.int .i64 1)).setIfInBounds 76 (.int .i64 2)).setIfInBounds 77 (.bool false)).setIfInBounds 78 (.int .i64 1)).setIfInBounds 79 (.int .i64 2)).setIfInBounds 80 (.bool true))
theorem c14_eq : c14 = ((((((c13.setIfInBounds 75 (.int .i64 1)).setIfInBounds 76 (.int .i64 2)).setIfInBounds 77 (.bool false)).setIfInBounds 78 (.int .i64 1)).setIfInBounds 79 (.int .i64 2)).setIfInBounds 80 (.bool true)) := rfl
theorem c14_size : c14.size = 120 := by simpa [c14] using c13_size
def c15 : Array Value := ((((((c14.setIfInBounds 81 (.int .i64 1)).setIfInBounds 82 (.int .i64 3)).setIfInBounds 83 (.bool false)).setIfInBounds 84 (.int .i64 1)).setIfInBounds 85 (.int .i64 3)).setIfInBounds 86 (.bool true))
theorem c15_eq : c15 = ((((((c14.setIfInBounds 81 (.int .i64 1)).setIfInBounds 82 (.int .i64 3)).setIfInBounds 83 (.bool false)).setIfInBounds 84 (.int .i64 1)).setIfInBounds 85 (.int .i64 3)).setIfInBounds 86 (.bool true)) := rfl
theorem c15_size : c15.size = 120 := by simpa [c15] using c14_size
def c16 : Array Value := ((((((c15.setIfInBounds 87 (.int .i64 1)).setIfInBounds 88 (.int .i64 4)).setIfInBounds 89 (.bool false)).setIfInBounds 90 (.int .i64 1)).setIfInBounds 91 (.int .i64 4)).setIfInBounds 92 (.bool true))
theorem c16_eq : c16 = ((((((c15.setIfInBounds 87 (.int .i64 1)).setIfInBounds 88 (.int .i64 4)).setIfInBounds 89 (.bool false)).setIfInBounds 90 (.int .i64 1)).setIfInBounds 91 (.int .i64 4)).setIfInBounds 92 (.bool true)) := rfl
theorem c16_size : c16.size = 120 := by simpa [c16] using c15_size
theorem run_copy_k {P : Program} (w : World) (dT sT ty elem : TypeId) (g o dLen dCap : Nat) (a : Addr) (sLen sCap k n : Nat) (cur : Array Value) (t : TypeId) (cs : List Value)
    (hu : P.underlying dT = some (.slice elem)) (hs : (P.info? elem).map (·.size) = some k)
    (hg : w.heap[g]? = some (.cells cur t (0, 0))) (hn1 : Nat.min sLen dLen = n) (hn : cs.length = n * k)
    (hsrc : ∀ j v, cs[j]? = some v → w.cell? (a.add j) = some v) (hfit : o + cs.length ≤ cur.size) (h1 : ∀ v ∈ cs, v.oneCell' = true) :
    (Builtin.copy_ #[dT, sT] ty #[.slice (some ⟨g, o, none⟩) dLen dCap, .slice (some a) sLen sCap]).run P w =
      .ok (goInt n) (w.setRow g (cur.toList.take o ++ cs ++ cur.toList.drop (o + cs.length)).toArray) := by
  have hl := run_loadCells_list (P := P) w a cs hsrc
  have hst := run_storeCells_at (P := P) g o t cs 0 cur w hg (by simpa using hfit) h1
  cases hq : P.info? elem with
  | none => simp [hq] at hs
  | some i =>
    have hi : i.size = k := by simpa [hq] using hs
    rw [Nat.add_zero] at hst
    simp [Builtin.copy_, run_underlying hu, Builtin.lenOf, Builtin.firstCells, sizeOf, typeInfo, hq, hi, hn1, ← hn, hl]
    simp at hst
    simp [hst]
theorem setRow_mid (w : World) (a b : Obj) (c c' : Array Value) (t : TypeId) : ((((w.alloc a).alloc (.cells c t)).alloc b).drew).setRow (w.heap.size + 1) c' = (((w.alloc a).alloc (.cells c' t)).alloc b).drew := by
  simp only [World.setRow, World.alloc, World.drew]
  congr 1
  apply Array.ext_getElem?
  intro i
  rw [Array.getElem?_modify]
  by_cases h : w.heap.size + 1 = i
  · subst h
    simp [Array.getElem?_push, Array.getElem_push]
  · have h' : ¬ i = w.heap.size + 1 := fun e => h e.symm
    simp [h, h', Array.getElem?_push]
theorem z40 (w : World) : (zeroValue 216).run Tryz.prog w = .ok (.agg c0) w := by kernel_rfl
theorem at_load_row {P : Program} {ops : Array Oper} {rest : List Oper} {a : Act} {Q : Exit → Act → World → Prop} {w : World} {dst : Option Tmp} {tt : TypeId} {pos : String} {after : Array Edge} {ty : TypeId} {x : Operand} {ad : Addr} {v : Value}
    (hx : a.eval x = .pointer (some ad)) (hl : (loadVar ty ad).run P w = .ok v w)
    (h : wpList P ops Q rest (a.put dst v) w) : wpList P ops Q ({ dst := dst, op := .load ty x, type := tt, pos := pos, after := after, guard := none } :: rest) a w :=
  wpList_plain rfl fun _ hK => by
    unfold Oper.wp execOp
    simp only [hx, Instr.loadAt, Instr.sureAddr, Sem.run_bind, Sem.run_pure, Result.andThen, hl]
    exact hK _ _ h
theorem at_store_row {P : Program} {ops : Array Oper} {rest : List Oper} {a : Act} {Q : Exit → Act → World → Prop} {w w' : World} {dst : Option Tmp} {tt : TypeId} {pos : String} {after : Array Edge} {ty : TypeId} {x y : Operand} {ad : Addr} {v : Value}
    (hx : a.eval x = .pointer (some ad)) (hy : a.eval y = v) (hl : (storeVar ty ad v).run P w = .ok () w')
    (h : wpList P ops Q rest (a.put dst undef) w') : wpList P ops Q ({ dst := dst, op := .store ty x y, type := tt, pos := pos, after := after, guard := none } :: rest) a w :=
  wpList_plain rfl fun _ hK => by
    unfold Oper.wp execOp
    simp only [hx, hy, Instr.storeAt, Instr.sureAddr, Sem.run_bind, Sem.run_pure, Result.andThen, hl]
    exact hK _ _ h
theorem copy_rest (C0 C16 C17 : Array Value) (w : World) (hs : C16.size = 120) (e17 : Hid ((C16.toList.take 93 ++ (#[.int .i64 2, .int .i64 0, .bool false, .int .i64 2, .int .i64 0, .bool true, .int .i64 3, .int .i64 0, .bool false, .int .i64 3, .int .i64 0, .bool true, .int .i64 4, .int .i64 0, .bool false, .int .i64 4, .int .i64 0, .bool true, .int .i64 5, .int .i64 0, .bool false, .int .i64 6, .int .i64 0, .bool false, .int .i64 7, .int .i64 0, .bool false] : Array Value).toList ++ C16.toList.drop 120).toArray = C17)) :
    ∀ ty, (Builtin.copy_ #[232, 232] ty #[.slice (some ⟨w.heap.size + 1, 93, none⟩) 9 9, .slice (some ⟨w.heap.size + 1 + 1, 0, none⟩) 9 9]).run Tryz.prog ((((w.alloc (.cells C0 216)).alloc (.cells C16 216)).alloc (.cells #[.int .i64 2, .int .i64 0, .bool false, .int .i64 2, .int .i64 0, .bool true, .int .i64 3, .int .i64 0, .bool false, .int .i64 3, .int .i64 0, .bool true, .int .i64 4, .int .i64 0, .bool false, .int .i64 4, .int .i64 0, .bool true, .int .i64 5, .int .i64 0, .bool false, .int .i64 6, .int .i64 0, .bool false, .int .i64 7, .int .i64 0, .bool false] 231)).drew) = .ok (goInt 9) ((((w.alloc (.cells C0 216)).alloc (.cells C17 216)).alloc (.cells #[.int .i64 2, .int .i64 0, .bool false, .int .i64 2, .int .i64 0, .bool true, .int .i64 3, .int .i64 0, .bool false, .int .i64 3, .int .i64 0, .bool true, .int .i64 4, .int .i64 0, .bool false, .int .i64 4, .int .i64 0, .bool true, .int .i64 5, .int .i64 0, .bool false, .int .i64 6, .int .i64 0, .bool false, .int .i64 7, .int .i64 0, .bool false] 231)).drew) := by
  intro ty
  obtain ⟨R, hR⟩ : ∃ R : Array Value, R = #[.int .i64 2, .int .i64 0, .bool false, .int .i64 2, .int .i64 0, .bool true, .int .i64 3, .int .i64 0, .bool false, .int .i64 3, .int .i64 0, .bool true, .int .i64 4, .int .i64 0, .bool false, .int .i64 4, .int .i64 0, .bool true, .int .i64 5, .int .i64 0, .bool false, .int .i64 6, .int .i64 0, .bool false, .int .i64 7, .int .i64 0, .bool false] := ⟨_, rfl⟩
  rw [← hR] at e17 ⊢
  have hl : R.toList.length = 27 := by rw [hR]; rfl
  have h1 : ∀ v ∈ R.toList, v.oneCell' = true := by rw [hR]; decide
  clear hR
  have hsrc : ∀ j v, R.toList[j]? = some v → ((((w.alloc (.cells C0 216)).alloc (.cells C16 216)).alloc (.cells R 231)).drew).cell? ((⟨w.heap.size + 1 + 1, 0, none⟩ : Addr).add j) = some v := by
    intro j v hj
    have : ((((w.alloc (.cells C0 216)).alloc (.cells C16 216)).alloc (.cells R 231)).drew).cell? ⟨w.heap.size + 1 + 1, j, none⟩ = R[j]? := by
      have := World.cell?_alloc_new ((w.alloc (.cells C0 216)).alloc (.cells C16 216)) R 231 j
      simpa using this
    have hadd : (⟨w.heap.size + 1 + 1, 0, none⟩ : Addr).add j = ⟨w.heap.size + 1 + 1, j, none⟩ := by unfold Addr.add; split <;> simp_all
    rw [hadd, this]
    simpa using hj
  have := run_copy_k (P := Tryz.prog) ((((w.alloc (.cells C0 216)).alloc (.cells C16 216)).alloc (.cells R 231)).drew) 232 232 ty 215 (w.heap.size + 1) 93 9 9 ⟨w.heap.size + 1 + 1, 0, none⟩ 9 9 3 9 C16 216 R.toList Tryz.underlying232 (by kernel_rfl)
    (by show (((w.heap.push _).push _).push _)[w.heap.size + 1]? = _; simp [Array.getElem?_push, Array.getElem_push]) rfl (by rw [hl]) hsrc (by rw [hs, hl]; decide) h1
  rw [setRow_mid] at this
  rw [hl] at this
  rw [this, ← e17.out]
  rfl
set_option maxHeartbeats 4000000 in
set_option maxRecDepth 100000 in
theorem patterns_core (C0 C1 C2 C3 C4 C5 C6 C7 C8 C9 C10 C11 C12 C13 C14 C15 C16 C17 : Array Value) (s0 : Hid (C0.size = 120)) (s1 : Hid (C1.size = 120)) (s2 : Hid (C2.size = 120)) (s3 : Hid (C3.size = 120)) (s4 : Hid (C4.size = 120)) (s5 : Hid (C5.size = 120)) (s6 : Hid (C6.size = 120)) (s7 : Hid (C7.size = 120)) (s8 : Hid (C8.size = 120)) (s9 : Hid (C9.size = 120)) (s10 : Hid (C10.size = 120)) (s11 : Hid (C11.size = 120)) (s12 : Hid (C12.size = 120)) (s13 : Hid (C13.size = 120)) (s14 : Hid (C14.size = 120)) (s15 : Hid (C15.size = 120)) (s16 : Hid (C16.size = 120)) (e1 : Hid (C1 = ((((((C0.setIfInBounds 0 (.int .i64 0)).setIfInBounds 1 (.int .i64 0)).setIfInBounds 2 (.bool false)).setIfInBounds 3 (.int .i64 0)).setIfInBounds 4 (.int .i64 0)).setIfInBounds 5 (.bool true)))) (e2 : Hid (C2 = ((((((C1.setIfInBounds 6 (.int .i64 0)).setIfInBounds 7 (.int .i64 1)).setIfInBounds 8 (.bool false)).setIfInBounds 9 (.int .i64 0)).setIfInBounds 10 (.int .i64 1)).setIfInBounds 11 (.bool true)))) (e3 : Hid (C3 = ((((((C2.setIfInBounds 12 (.int .i64 0)).setIfInBounds 13 (.int .i64 2)).setIfInBounds 14 (.bool false)).setIfInBounds 15 (.int .i64 0)).setIfInBounds 16 (.int .i64 2)).setIfInBounds 17 (.bool true)))) (e4 : Hid (C4 = ((((((C3.setIfInBounds 18 (.int .i64 0)).setIfInBounds 19 (.int .i64 3)).setIfInBounds 20 (.bool false)).setIfInBounds 21 (.int .i64 0)).setIfInBounds 22 (.int .i64 3)).setIfInBounds 23 (.bool true)))) (e5 : Hid (C5 = ((((((C4.setIfInBounds 24 (.int .i64 0)).setIfInBounds 25 (.int .i64 4)).setIfInBounds 26 (.bool false)).setIfInBounds 27 (.int .i64 0)).setIfInBounds 28 (.int .i64 4)).setIfInBounds 29 (.bool true)))) (e6 : Hid (C6 = ((((((C5.setIfInBounds 30 (.int .i64 0)).setIfInBounds 31 (.int .i64 5)).setIfInBounds 32 (.bool false)).setIfInBounds 33 (.int .i64 0)).setIfInBounds 34 (.int .i64 5)).setIfInBounds 35 (.bool true)))) (e7 : Hid (C7 = ((((((C6.setIfInBounds 36 (.int .i64 0)).setIfInBounds 37 (.int .i64 6)).setIfInBounds 38 (.bool false)).setIfInBounds 39 (.int .i64 0)).setIfInBounds 40 (.int .i64 6)).setIfInBounds 41 (.bool true)))) (e8 : Hid (C8 = ((((((C7.setIfInBounds 42 (.int .i64 0)).setIfInBounds 43 (.int .i64 7)).setIfInBounds 44 (.bool false)).setIfInBounds 45 (.int .i64 0)).setIfInBounds 46 (.int .i64 7)).setIfInBounds 47 (.bool true)))) (e9 : Hid (C9 = ((((((C8.setIfInBounds 48 (.int .i64 0)).setIfInBounds 49 (.int .i64 8)).setIfInBounds 50 (.bool false)).setIfInBounds 51 (.int .i64 0)).setIfInBounds 52 (.int .i64 8)).setIfInBounds 53 (.bool true)))) (e10 : Hid (C10 = ((((((C9.setIfInBounds 54 (.int .i64 0)).setIfInBounds 55 (.int .i64 9)).setIfInBounds 56 (.bool false)).setIfInBounds 57 (.int .i64 0)).setIfInBounds 58 (.int .i64 9)).setIfInBounds 59 (.bool true)))) (e11 : Hid (C11 = ((((((C10.setIfInBounds 60 (.int .i64 0)).setIfInBounds 61 (.int .i64 10)).setIfInBounds 62 (.bool false)).setIfInBounds 63 (.int .i64 0)).setIfInBounds 64 (.int .i64 10)).setIfInBounds 65 (.bool true)))) (e12 : Hid (C12 = (((C11.setIfInBounds 66 (.int .i64 1)).setIfInBounds 67 (.int .i64 0)).setIfInBounds 68 (.bool false)))) (e13 : Hid (C13 = ((((((C12.setIfInBounds 69 (.int .i64 1)).setIfInBounds 70 (.int .i64 1)).setIfInBounds 71 (.bool false)).setIfInBounds 72 (.int .i64 1)).setIfInBounds 73 (.int .i64 1)).setIfInBounds 74 (.bool true)))) (e14 : Hid (C14 = ((((((C13.setIfInBounds 75 (.int .i64 1)).setIfInBounds 76 (.int .i64 2)).setIfInBounds 77 (.bool false)).setIfInBounds 78 (.int .i64 1)).setIfInBounds 79 (.int .i64 2)).setIfInBounds 80 (.bool true)))) (e15 : Hid (C15 = ((((((C14.setIfInBounds 81 (.int .i64 1)).setIfInBounds 82 (.int .i64 3)).setIfInBounds 83 (.bool false)).setIfInBounds 84 (.int .i64 1)).setIfInBounds 85 (.int .i64 3)).setIfInBounds 86 (.bool true)))) (e16 : Hid (C16 = ((((((C15.setIfInBounds 87 (.int .i64 1)).setIfInBounds 88 (.int .i64 4)).setIfInBounds 89 (.bool false)).setIfInBounds 90 (.int .i64 1)).setIfInBounds 91 (.int .i64 4)).setIfInBounds 92 (.bool true)))) (e17 : Hid ((C16.toList.take 93 ++ (#[.int .i64 2, .int .i64 0, .bool false, .int .i64 2, .int .i64 0, .bool true, .int .i64 3, .int .i64 0, .bool false, .int .i64 3, .int .i64 0, .bool true, .int .i64 4, .int .i64 0, .bool false, .int .i64 4, .int .i64 0, .bool true, .int .i64 5, .int .i64 0, .bool false, .int .i64 6, .int .i64 0, .bool false, .int .i64 7, .int .i64 0, .bool false] : Array Value).toList ++ C16.toList.drop 120).toArray = C17)) (s17 : Hid (C17.size = 120)) (o17 : Hid (C17.all (·.oneCell') = true)) (ZR : Array Value) (hzs : Hid (ZR.size = 27)) (hz9 : ∀ w : World, (zeroValue 231).run Tryz.prog w = .ok (.agg ZR) w) (hz : ∀ w : World, (zeroValue 216).run Tryz.prog w = .ok (.agg C0) w) (w : World) :
    Calls Tryz.prog 142 #[] w fun e w' => e = .returned (.agg C17) ∧ Bel w w' := by
  go_enter Tryz.func142, Tryz.ntmps142
  go_wp2
  go_loopw [6] (fun k wr => ∃ (C : Array Value) (kk : Int), k = .int .i64 kk ∧ wr = (w.alloc (.cells C0 216)).alloc (.cells C 216) ∧ ((kk = 0 ∧ C = C0) ∨ (kk = 1 ∧ C = C1) ∨ (kk = 2 ∧ C = C2) ∨ (kk = 3 ∧ C = C3) ∨ (kk = 4 ∧ C = C4) ∨ (kk = 5 ∧ C = C5) ∨ (kk = 6 ∧ C = C6) ∨ (kk = 7 ∧ C = C7) ∨ (kk = 8 ∧ C = C8) ∨ (kk = 9 ∧ C = C9) ∨ (kk = 10 ∧ C = C10) ∨ (kk = 11 ∧ C = C11))) (fun k _ => (11 - intOf k).toNat)
  case atStart => exact ⟨C0, 0, rfl, rfl, .inl ⟨rfl, rfl⟩⟩
  case round =>
    obtain ⟨C, kk, rfl, hwr, hn⟩ := hrel
    rcases hn with ⟨hk, hc⟩ | ⟨hk, hc⟩ | ⟨hk, hc⟩ | ⟨hk, hc⟩ | ⟨hk, hc⟩ | ⟨hk, hc⟩ | ⟨hk, hc⟩ | ⟨hk, hc⟩ | ⟨hk, hc⟩ | ⟨hk, hc⟩ | ⟨hk, hc⟩ | ⟨hk, hc⟩
    · subst hk; subst hc; subst hwr
      have hs := s0.out
      go_wp2
      go_roundw
      case rel => exact ⟨C1, 1, rfl, by rw [e1.out], .inr (.inl ⟨rfl, rfl⟩)⟩
      case measure => decide
    · subst hk; subst hc; subst hwr
      have hs := s1.out
      go_wp2
      go_roundw
      case rel => exact ⟨C2, 2, rfl, by rw [e2.out], .inr (.inr (.inl ⟨rfl, rfl⟩))⟩
      case measure => decide
    · subst hk; subst hc; subst hwr
      have hs := s2.out
      go_wp2
      go_roundw
      case rel => exact ⟨C3, 3, rfl, by rw [e3.out], .inr (.inr (.inr (.inl ⟨rfl, rfl⟩)))⟩
      case measure => decide
    · subst hk; subst hc; subst hwr
      have hs := s3.out
      go_wp2
      go_roundw
      case rel => exact ⟨C4, 4, rfl, by rw [e4.out], .inr (.inr (.inr (.inr (.inl ⟨rfl, rfl⟩))))⟩
      case measure => decide
    · subst hk; subst hc; subst hwr
      have hs := s4.out
      go_wp2
      go_roundw
      case rel => exact ⟨C5, 5, rfl, by rw [e5.out], .inr (.inr (.inr (.inr (.inr (.inl ⟨rfl, rfl⟩)))))⟩
      case measure => decide
    · subst hk; subst hc; subst hwr
      have hs := s5.out
      go_wp2
      go_roundw
      case rel => exact ⟨C6, 6, rfl, by rw [e6.out], .inr (.inr (.inr (.inr (.inr (.inr (.inl ⟨rfl, rfl⟩))))))⟩
      case measure => decide
    · subst hk; subst hc; subst hwr
      have hs := s6.out
      go_wp2
      go_roundw
      case rel => exact ⟨C7, 7, rfl, by rw [e7.out], .inr (.inr (.inr (.inr (.inr (.inr (.inr (.inl ⟨rfl, rfl⟩)))))))⟩
      case measure => decide
    · subst hk; subst hc; subst hwr
      have hs := s7.out
      go_wp2
      go_roundw
      case rel => exact ⟨C8, 8, rfl, by rw [e8.out], .inr (.inr (.inr (.inr (.inr (.inr (.inr (.inr (.inl ⟨rfl, rfl⟩))))))))⟩
      case measure => decide
    · subst hk; subst hc; subst hwr
      have hs := s8.out
      go_wp2
      go_roundw
      case rel => exact ⟨C9, 9, rfl, by rw [e9.out], .inr (.inr (.inr (.inr (.inr (.inr (.inr (.inr (.inr (.inl ⟨rfl, rfl⟩)))))))))⟩
      case measure => decide
    · subst hk; subst hc; subst hwr
      have hs := s9.out
      go_wp2
      go_roundw
      case rel => exact ⟨C10, 10, rfl, by rw [e10.out], .inr (.inr (.inr (.inr (.inr (.inr (.inr (.inr (.inr (.inr (.inl ⟨rfl, rfl⟩))))))))))⟩
      case measure => decide
    · subst hk; subst hc; subst hwr
      have hs := s10.out
      go_wp2
      go_roundw
      case rel => exact ⟨C11, 11, rfl, by rw [e11.out], .inr (.inr (.inr (.inr (.inr (.inr (.inr (.inr (.inr (.inr (.inr (⟨rfl, rfl⟩)))))))))))⟩
      case measure => decide
    · subst hk; subst hc; subst hwr
      have hs := s11.out
      go_wp2
      rw [← e12.out]
      clear hs
      go_loopw [4] (fun k wr => ∃ (C : Array Value) (kk : Int), k = .int .i64 kk ∧ wr = (w.alloc (.cells C0 216)).alloc (.cells C 216) ∧ ((kk = 1 ∧ C = C12) ∨ (kk = 2 ∧ C = C13) ∨ (kk = 3 ∧ C = C14) ∨ (kk = 4 ∧ C = C15) ∨ (kk = 5 ∧ C = C16))) (fun k _ => (5 - intOf k).toNat)
      case atStart => exact ⟨_, _, rfl, rfl, .inl ⟨rfl, rfl⟩⟩
      case round =>
        obtain ⟨C, kk, rfl, hwr, hn⟩ := hrel
        rcases hn with ⟨hk, hc⟩ | ⟨hk, hc⟩ | ⟨hk, hc⟩ | ⟨hk, hc⟩ | ⟨hk, hc⟩
        · subst hk; subst hc; subst hwr
          have hs := s12.out
          go_wp2
          go_roundw
          case rel => exact ⟨C13, 2, rfl, by rw [e13.out], .inr (.inl ⟨rfl, rfl⟩)⟩
          case measure => decide
        · subst hk; subst hc; subst hwr
          have hs := s13.out
          go_wp2
          go_roundw
          case rel => exact ⟨C14, 3, rfl, by rw [e14.out], .inr (.inr (.inl ⟨rfl, rfl⟩))⟩
          case measure => decide
        · subst hk; subst hc; subst hwr
          have hs := s14.out
          go_wp2
          go_roundw
          case rel => exact ⟨C15, 4, rfl, by rw [e15.out], .inr (.inr (.inr (.inl ⟨rfl, rfl⟩)))⟩
          case measure => decide
        · subst hk; subst hc; subst hwr
          have hs := s15.out
          go_wp2
          go_roundw
          case rel => exact ⟨C16, 5, rfl, by rw [e16.out], .inr (.inr (.inr (.inr (⟨rfl, rfl⟩))))⟩
          case measure => decide
        · have hc := hc.symm; subst hk; subst hc; subst hwr
          have hs := s16.out
          have hcp := copy_rest C0 C16 C17 w hs e17
          clear hs
          go_wp2_with (first | (refine at_build (t := 231) #[.int .i64 2, .int .i64 0, .bool false, .int .i64 2, .int .i64 0, .bool true, .int .i64 3, .int .i64 0, .bool false, .int .i64 3, .int .i64 0, .bool true, .int .i64 4, .int .i64 0, .bool false, .int .i64 4, .int .i64 0, .bool true, .int .i64 5, .int .i64 0, .bool false, .int .i64 6, .int .i64 0, .bool false, .int .i64 7, .int .i64 0, .bool false] (by kernel_rfl) ?_) | (refine at_store_new (ty := 231) #[.int .i64 2, .int .i64 0, .bool false, .int .i64 2, .int .i64 0, .bool true, .int .i64 3, .int .i64 0, .bool false, .int .i64 3, .int .i64 0, .bool true, .int .i64 4, .int .i64 0, .bool false, .int .i64 4, .int .i64 0, .bool true, .int .i64 5, .int .i64 0, .bool false, .int .i64 6, .int .i64 0, .bool false, .int .i64 7, .int .i64 0, .bool false] (by show Value.pointer (some ⟨w.heap.size + 1 + 1, 0, none⟩) = _; simp) (by rfl) (by kernel_rfl) (by rw [hzs.out]; rfl) (by kernel_rfl) ?_))
          go_region
          obtain ⟨W9, HW9⟩ : ∃ W9 : World, (((w.alloc (.cells C0 216)).alloc (.cells C17 216)).alloc (.cells #[.int .i64 2, .int .i64 0, .bool false, .int .i64 2, .int .i64 0, .bool true, .int .i64 3, .int .i64 0, .bool false, .int .i64 3, .int .i64 0, .bool true, .int .i64 4, .int .i64 0, .bool false, .int .i64 4, .int .i64 0, .bool true, .int .i64 5, .int .i64 0, .bool false, .int .i64 6, .int .i64 0, .bool false, .int .i64 7, .int .i64 0, .bool false] 231)).drew = W9 := ⟨_, rfl⟩
          have HB : Bel w W9 := by rw [← HW9]; exact ((((Bel.refl w).alloc _).alloc _).alloc _).drew
          have H1 : W9.heap[w.heap.size + 1]? = some (.cells C17 216 (0, 0)) := by rw [← HW9]; show (((w.heap.push _).push _).push _)[w.heap.size + 1]? = _; simp [Array.getElem?_push, Array.getElem_push]
          have H0 : W9.heap[w.heap.size]? = some (.cells C0 216 (0, 0)) := by rw [← HW9]; show (((w.heap.push _).push _).push _)[w.heap.size]? = _; simp [Array.getElem?_push, Array.getElem_push]; omega
          rw [HW9]
          clear HW9 hcp
          have hld := run_loadVar_row (P := Tryz.prog) W9 (w.heap.size + 1) 216 216 C17 (0, 0) _ H1 Tryz.underlying216 rfl (by rw [s17.out]; kernel_rfl)
          have hst := run_storeVar_row (P := Tryz.prog) W9 w.heap.size 216 216 C0 C17 H0 (by rw [s17.out]; kernel_rfl) (by rw [s17.out, s0.out]) o17.out
          go_wp2_with (first | (refine at_load_row (by rfl) hld ?_) | (refine at_store_row (by rfl) (by rfl) hst ?_))
          have H2 := setRow_heap W9 w.heap.size C0 C17 216 (0, 0) H0
          have HB2 : Bel w (W9.setRow w.heap.size C17) := ⟨below_setRow HB.out (Nat.le_refl _) _⟩
          generalize W9.setRow w.heap.size C17 = W10 at H2 HB2 ⊢
          have hl2 := run_loadVar_row (P := Tryz.prog) W10 w.heap.size 216 216 C17 (0, 0) _ H2 Tryz.underlying216 rfl (by rw [s17.out]; kernel_rfl)
          refine bodyPost_ret (v := .agg C17) ?_ rfl ⟨rfl, HB2⟩
          have hr : (Tryz.f142).results = #[.cell 0 216] := by rfl
          simp only [results, hr]
          simp [Act.put, asAddr, Result.andThen, hl2]
/-- The table of all codes. -/
def patC : Array Value := #[.int .i64 0, .int .i64 0, .bool false, .int .i64 0, .int .i64 0, .bool true, .int .i64 0, .int .i64 1, .bool false, .int .i64 0, .int .i64 1, .bool true, .int .i64 0, .int .i64 2, .bool false, .int .i64 0, .int .i64 2, .bool true, .int .i64 0, .int .i64 3, .bool false, .int .i64 0, .int .i64 3, .bool true, .int .i64 0, .int .i64 4, .bool false, .int .i64 0, .int .i64 4, .bool true, .int .i64 0, .int .i64 5, .bool false, .int .i64 0, .int .i64 5, .bool true, .int .i64 0, .int .i64 6, .bool false, .int .i64 0, .int .i64 6, .bool true, .int .i64 0, .int .i64 7, .bool false, .int .i64 0, .int .i64 7, .bool true, .int .i64 0, .int .i64 8, .bool false, .int .i64 0, .int .i64 8, .bool true, .int .i64 0, .int .i64 9, .bool false, .int .i64 0, .int .i64 9, .bool true, .int .i64 0, .int .i64 10, .bool false, .int .i64 0, .int .i64 10, .bool true, .int .i64 1, .int .i64 0, .bool false, .int .i64 1, .int .i64 1, .bool false, .int .i64 1, .int .i64 1, .bool true, .int .i64 1, .int .i64 2, .bool false, .int .i64 1, .int .i64 2, .bool true, .int .i64 1, .int .i64 3, .bool false, .int .i64 1, .int .i64 3, .bool true, .int .i64 1, .int .i64 4, .bool false, .int .i64 1, .int .i64 4, .bool true, .int .i64 2, .int .i64 0, .bool false, .int .i64 2, .int .i64 0, .bool true, .int .i64 3, .int .i64 0, .bool false, .int .i64 3, .int .i64 0, .bool true, .int .i64 4, .int .i64 0, .bool false, .int .i64 4, .int .i64 0, .bool true, .int .i64 5, .int .i64 0, .bool false, .int .i64 6, .int .i64 0, .bool false, .int .i64 7, .int .i64 0, .bool false]
theorem pat_eq : (c16.toList.take 93 ++ (#[.int .i64 2, .int .i64 0, .bool false, .int .i64 2, .int .i64 0, .bool true, .int .i64 3, .int .i64 0, .bool false, .int .i64 3, .int .i64 0, .bool true, .int .i64 4, .int .i64 0, .bool false, .int .i64 4, .int .i64 0, .bool true, .int .i64 5, .int .i64 0, .bool false, .int .i64 6, .int .i64 0, .bool false, .int .i64 7, .int .i64 0, .bool false] : Array Value).toList ++ c16.toList.drop 120).toArray = patC := by kernel_rfl
theorem z9 (w : World) : (zeroValue 231).run Tryz.prog w = .ok (.agg #[.int .i64 0, .int .i64 0, .bool false, .int .i64 0, .int .i64 0, .bool false, .int .i64 0, .int .i64 0, .bool false, .int .i64 0, .int .i64 0, .bool false, .int .i64 0, .int .i64 0, .bool false, .int .i64 0, .int .i64 0, .bool false, .int .i64 0, .int .i64 0, .bool false, .int .i64 0, .int .i64 0, .bool false, .int .i64 0, .int .i64 0, .bool false]) w := by kernel_rfl
theorem patterns_any (w : World) : Calls Tryz.prog 142 #[] w fun e w' => e = .returned (.agg patC) ∧ Bel w w' :=
  patterns_core c0 c1 c2 c3 c4 c5 c6 c7 c8 c9 c10 c11 c12 c13 c14 c15 c16 patC (Lib.hid c0_size) (Lib.hid c1_size) (Lib.hid c2_size) (Lib.hid c3_size) (Lib.hid c4_size) (Lib.hid c5_size) (Lib.hid c6_size) (Lib.hid c7_size) (Lib.hid c8_size) (Lib.hid c9_size) (Lib.hid c10_size) (Lib.hid c11_size) (Lib.hid c12_size) (Lib.hid c13_size) (Lib.hid c14_size) (Lib.hid c15_size) (Lib.hid c16_size) (Lib.hid c1_eq) (Lib.hid c2_eq) (Lib.hid c3_eq) (Lib.hid c4_eq) (Lib.hid c5_eq) (Lib.hid c6_eq) (Lib.hid c7_eq) (Lib.hid c8_eq) (Lib.hid c9_eq) (Lib.hid c10_eq) (Lib.hid c11_eq) (Lib.hid c12_eq) (Lib.hid c13_eq) (Lib.hid c14_eq) (Lib.hid c15_eq) (Lib.hid c16_eq) (Lib.hid pat_eq) (Lib.hid (by rfl)) (Lib.hid (by kernel_rfl)) _ (Lib.hid (by rfl)) z9 z40 w
end Go.Proofs.YtebdnobgdimdoaaGreat
set_option linter.unusedVariables false
set_option linter.unusedSimpArgs false
namespace Go.Proofs.YtebdnobgdimdoaaGreat
open Go.RowKit
section
variable {P : Program} {d : Nat} {xs ys : Array Value} {f : Field} {fs : List Field} {a b : Value} {r s : Bool} {w : World}
theorem eq_more (hn : f.name ≠ "_") (ha : (part f.type xs f.offset).run P w = .ok a w) (hb : (part f.type ys f.offset).run P w = .ok b w) (he : (Op.equalIn d f.type a b).run P w = .ok r w) (hr : (Op.eqFields d xs ys fs).run P w = .ok s w) :
    (Op.eqFields d xs ys (f :: fs)).run P w = .ok (r && s) w := by
  rw [Op.eqFields]
  simp only [if_pos hn, Sem.run_bind, ha, hb, he, Result.andThen_ok]
  cases r
  · simp
  · simpa using hr
theorem eq_of_fields {t : TypeId} {gs : Array Field} (hu : P.underlying t = some (.struct gs)) (hp : P.stoodInHeld t = false) (h : (Op.eqFields d xs ys gs.toList).run P w = .ok r w) : (Op.equalIn (d + 1) t (.agg xs) (.agg ys)).run P w = .ok r w := by
  have hf : P.fieldsOf t = gs := by simp [Program.fieldsOf, hu]
  rw [run_equalIn_struct (P := P) w d t xs ys (by rw [hf]; exact hu) hp, hf]
  exact h
theorem eq_none : (Op.eqFields d xs ys []).run P w = .ok true w := by simp [Op.eqFields]
end
theorem eqA_Inst (d : Nat) (w : World) (i k : InstD) :
    (Op.equalIn (d + 2) 95 (.agg #[.int .i64 i.op, .int .i64 i.fn, .int .i64 i.dst, .int .i64 i.src, .bool i.reg, .int .i64 i.off, .int .u32 i.imm]) (.agg #[.int .i64 k.op, .int .i64 k.fn, .int .i64 k.dst, .int .i64 k.src, .bool k.reg, .int .i64 k.off, .int .u32 k.imm])).run Tryz.prog w = .ok (decide (i = k)) w := by
  have e : decide (i = k) = (decide (i.op = k.op) && (decide (i.fn = k.fn) && (decide (i.dst = k.dst) && (decide (i.src = k.src) && ((i.reg == k.reg) && (decide (i.off = k.off) && (decide (i.imm = k.imm) && true))))))) := by
    obtain ⟨a0, a1, a2, a3, a4, a5, a6⟩ := i
    obtain ⟨b0, b1, b2, b3, b4, b5, b6⟩ := k
    rw [Bool.eq_iff_iff]
    simp
  rw [e]
  refine eq_of_fields Tryz.underlying95 (by kernel_rfl) ?_
  refine eq_more (by decide) (by go_simp <;> rfl) (by go_simp <;> rfl) (by go_simp <;> rfl) ?_
  refine eq_more (by decide) (by go_simp <;> rfl) (by go_simp <;> rfl) (by go_simp <;> rfl) ?_
  refine eq_more (by decide) (by go_simp <;> rfl) (by go_simp <;> rfl) (by go_simp <;> rfl) ?_
  refine eq_more (by decide) (by go_simp <;> rfl) (by go_simp <;> rfl) (by go_simp <;> rfl) ?_
  refine eq_more (by decide) (by go_simp <;> rfl) (by go_simp <;> rfl) (by go_simp <;> rfl) ?_
  refine eq_more (by decide) (by go_simp <;> rfl) (by go_simp <;> rfl) (by go_simp <;> rfl) ?_
  refine eq_more (by decide) (by go_simp <;> rfl) (by go_simp <;> rfl) (by go_simp <;> rfl) ?_
  exact eq_none
theorem inst_eql (i k : InstD) (b : Bool) (hb : Hid (decide (i = k) = b)) : ∀ w, (binOp .eql 95 (.agg #[.int .i64 i.op, .int .i64 i.fn, .int .i64 i.dst, .int .i64 i.src, .bool i.reg, .int .i64 i.off, .int .u32 i.imm]) (.agg #[.int .i64 k.op, .int .i64 k.fn, .int .i64 k.dst, .int .i64 k.src, .bool k.reg, .int .i64 k.off, .int .u32 k.imm])).run Tryz.prog w = .ok (.bool b) w := by
  intro w
  rw [run_eql_struct, eqA_Inst, hb.out]; rfl
theorem inst_neq (i k : InstD) (b : Bool) (hb : Hid (decide (i = k) = b)) : ∀ w, (binOp .neq 95 (.agg #[.int .i64 i.op, .int .i64 i.fn, .int .i64 i.dst, .int .i64 i.src, .bool i.reg, .int .i64 i.off, .int .u32 i.imm]) (.agg #[.int .i64 k.op, .int .i64 k.fn, .int .i64 k.dst, .int .i64 k.src, .bool k.reg, .int .i64 k.off, .int .u32 k.imm])).run Tryz.prog w = .ok (.bool !b) w := by
  intro w
  rw [run_neq_struct, eqA_Inst, hb.out]; rfl
end Go.Proofs.YtebdnobgdimdoaaGreat
set_option linter.unusedVariables false
set_option linter.unusedSimpArgs false
namespace Go.Proofs.YtebdnobgdimdoaaGreat
open Go.RowKit
/-- The kinds of instructions that have codes, in their codes' order. -/
def patD (n : Nat) : Int × Int × Bool := [(0, 0, false), (0, 0, true), (0, 1, false), (0, 1, true), (0, 2, false), (0, 2, true), (0, 3, false), (0, 3, true), (0, 4, false), (0, 4, true), (0, 5, false), (0, 5, true), (0, 6, false), (0, 6, true), (0, 7, false), (0, 7, true), (0, 8, false), (0, 8, true), (0, 9, false), (0, 9, true), (0, 10, false), (0, 10, true), (1, 0, false), (1, 1, false), (1, 1, true), (1, 2, false), (1, 2, true), (1, 3, false), (1, 3, true), (1, 4, false), (1, 4, true), (2, 0, false), (2, 0, true), (3, 0, false), (3, 0, true), (4, 0, false), (4, 0, true), (5, 0, false), (6, 0, false), (7, 0, false)].getD n (0, 0, false)
def patV (p : Int × Int × Bool) : Value := .agg #[.int .i64 p.1, .int .i64 p.2.1, .bool p.2.2]
theorem pat_ix0 : ∀ w : World, (Instr.index 216 (.agg patC) (.int .i64 (0 : Nat))).run Tryz.prog w = .ok (patV (patD 0)) w := fun _ => by kernel_rfl
theorem pat_ix1 : ∀ w : World, (Instr.index 216 (.agg patC) (.int .i64 (1 : Nat))).run Tryz.prog w = .ok (patV (patD 1)) w := fun _ => by kernel_rfl
theorem pat_ix2 : ∀ w : World, (Instr.index 216 (.agg patC) (.int .i64 (2 : Nat))).run Tryz.prog w = .ok (patV (patD 2)) w := fun _ => by kernel_rfl
theorem pat_ix3 : ∀ w : World, (Instr.index 216 (.agg patC) (.int .i64 (3 : Nat))).run Tryz.prog w = .ok (patV (patD 3)) w := fun _ => by kernel_rfl
theorem pat_ix4 : ∀ w : World, (Instr.index 216 (.agg patC) (.int .i64 (4 : Nat))).run Tryz.prog w = .ok (patV (patD 4)) w := fun _ => by kernel_rfl
theorem pat_ix5 : ∀ w : World, (Instr.index 216 (.agg patC) (.int .i64 (5 : Nat))).run Tryz.prog w = .ok (patV (patD 5)) w := fun _ => by kernel_rfl
theorem pat_ix6 : ∀ w : World, (Instr.index 216 (.agg patC) (.int .i64 (6 : Nat))).run Tryz.prog w = .ok (patV (patD 6)) w := fun _ => by kernel_rfl
theorem pat_ix7 : ∀ w : World, (Instr.index 216 (.agg patC) (.int .i64 (7 : Nat))).run Tryz.prog w = .ok (patV (patD 7)) w := fun _ => by kernel_rfl
theorem pat_ix8 : ∀ w : World, (Instr.index 216 (.agg patC) (.int .i64 (8 : Nat))).run Tryz.prog w = .ok (patV (patD 8)) w := fun _ => by kernel_rfl
theorem pat_ix9 : ∀ w : World, (Instr.index 216 (.agg patC) (.int .i64 (9 : Nat))).run Tryz.prog w = .ok (patV (patD 9)) w := fun _ => by kernel_rfl
theorem pat_ix10 : ∀ w : World, (Instr.index 216 (.agg patC) (.int .i64 (10 : Nat))).run Tryz.prog w = .ok (patV (patD 10)) w := fun _ => by kernel_rfl
theorem pat_ix11 : ∀ w : World, (Instr.index 216 (.agg patC) (.int .i64 (11 : Nat))).run Tryz.prog w = .ok (patV (patD 11)) w := fun _ => by kernel_rfl
theorem pat_ix12 : ∀ w : World, (Instr.index 216 (.agg patC) (.int .i64 (12 : Nat))).run Tryz.prog w = .ok (patV (patD 12)) w := fun _ => by kernel_rfl
theorem pat_ix13 : ∀ w : World, (Instr.index 216 (.agg patC) (.int .i64 (13 : Nat))).run Tryz.prog w = .ok (patV (patD 13)) w := fun _ => by kernel_rfl
theorem pat_ix14 : ∀ w : World, (Instr.index 216 (.agg patC) (.int .i64 (14 : Nat))).run Tryz.prog w = .ok (patV (patD 14)) w := fun _ => by kernel_rfl
theorem pat_ix15 : ∀ w : World, (Instr.index 216 (.agg patC) (.int .i64 (15 : Nat))).run Tryz.prog w = .ok (patV (patD 15)) w := fun _ => by kernel_rfl
theorem pat_ix16 : ∀ w : World, (Instr.index 216 (.agg patC) (.int .i64 (16 : Nat))).run Tryz.prog w = .ok (patV (patD 16)) w := fun _ => by kernel_rfl
theorem pat_ix17 : ∀ w : World, (Instr.index 216 (.agg patC) (.int .i64 (17 : Nat))).run Tryz.prog w = .ok (patV (patD 17)) w := fun _ => by kernel_rfl
theorem pat_ix18 : ∀ w : World, (Instr.index 216 (.agg patC) (.int .i64 (18 : Nat))).run Tryz.prog w = .ok (patV (patD 18)) w := fun _ => by kernel_rfl
theorem pat_ix19 : ∀ w : World, (Instr.index 216 (.agg patC) (.int .i64 (19 : Nat))).run Tryz.prog w = .ok (patV (patD 19)) w := fun _ => by kernel_rfl
theorem pat_ix20 : ∀ w : World, (Instr.index 216 (.agg patC) (.int .i64 (20 : Nat))).run Tryz.prog w = .ok (patV (patD 20)) w := fun _ => by kernel_rfl
theorem pat_ix21 : ∀ w : World, (Instr.index 216 (.agg patC) (.int .i64 (21 : Nat))).run Tryz.prog w = .ok (patV (patD 21)) w := fun _ => by kernel_rfl
theorem pat_ix22 : ∀ w : World, (Instr.index 216 (.agg patC) (.int .i64 (22 : Nat))).run Tryz.prog w = .ok (patV (patD 22)) w := fun _ => by kernel_rfl
theorem pat_ix23 : ∀ w : World, (Instr.index 216 (.agg patC) (.int .i64 (23 : Nat))).run Tryz.prog w = .ok (patV (patD 23)) w := fun _ => by kernel_rfl
theorem pat_ix24 : ∀ w : World, (Instr.index 216 (.agg patC) (.int .i64 (24 : Nat))).run Tryz.prog w = .ok (patV (patD 24)) w := fun _ => by kernel_rfl
theorem pat_ix25 : ∀ w : World, (Instr.index 216 (.agg patC) (.int .i64 (25 : Nat))).run Tryz.prog w = .ok (patV (patD 25)) w := fun _ => by kernel_rfl
theorem pat_ix26 : ∀ w : World, (Instr.index 216 (.agg patC) (.int .i64 (26 : Nat))).run Tryz.prog w = .ok (patV (patD 26)) w := fun _ => by kernel_rfl
theorem pat_ix27 : ∀ w : World, (Instr.index 216 (.agg patC) (.int .i64 (27 : Nat))).run Tryz.prog w = .ok (patV (patD 27)) w := fun _ => by kernel_rfl
theorem pat_ix28 : ∀ w : World, (Instr.index 216 (.agg patC) (.int .i64 (28 : Nat))).run Tryz.prog w = .ok (patV (patD 28)) w := fun _ => by kernel_rfl
theorem pat_ix29 : ∀ w : World, (Instr.index 216 (.agg patC) (.int .i64 (29 : Nat))).run Tryz.prog w = .ok (patV (patD 29)) w := fun _ => by kernel_rfl
theorem pat_ix30 : ∀ w : World, (Instr.index 216 (.agg patC) (.int .i64 (30 : Nat))).run Tryz.prog w = .ok (patV (patD 30)) w := fun _ => by kernel_rfl
theorem pat_ix31 : ∀ w : World, (Instr.index 216 (.agg patC) (.int .i64 (31 : Nat))).run Tryz.prog w = .ok (patV (patD 31)) w := fun _ => by kernel_rfl
theorem pat_ix32 : ∀ w : World, (Instr.index 216 (.agg patC) (.int .i64 (32 : Nat))).run Tryz.prog w = .ok (patV (patD 32)) w := fun _ => by kernel_rfl
theorem pat_ix33 : ∀ w : World, (Instr.index 216 (.agg patC) (.int .i64 (33 : Nat))).run Tryz.prog w = .ok (patV (patD 33)) w := fun _ => by kernel_rfl
theorem pat_ix34 : ∀ w : World, (Instr.index 216 (.agg patC) (.int .i64 (34 : Nat))).run Tryz.prog w = .ok (patV (patD 34)) w := fun _ => by kernel_rfl
theorem pat_ix35 : ∀ w : World, (Instr.index 216 (.agg patC) (.int .i64 (35 : Nat))).run Tryz.prog w = .ok (patV (patD 35)) w := fun _ => by kernel_rfl
theorem pat_ix36 : ∀ w : World, (Instr.index 216 (.agg patC) (.int .i64 (36 : Nat))).run Tryz.prog w = .ok (patV (patD 36)) w := fun _ => by kernel_rfl
theorem pat_ix37 : ∀ w : World, (Instr.index 216 (.agg patC) (.int .i64 (37 : Nat))).run Tryz.prog w = .ok (patV (patD 37)) w := fun _ => by kernel_rfl
theorem pat_ix38 : ∀ w : World, (Instr.index 216 (.agg patC) (.int .i64 (38 : Nat))).run Tryz.prog w = .ok (patV (patD 38)) w := fun _ => by kernel_rfl
theorem pat_ix39 : ∀ w : World, (Instr.index 216 (.agg patC) (.int .i64 (39 : Nat))).run Tryz.prog w = .ok (patV (patD 39)) w := fun _ => by kernel_rfl
theorem pat_index {n : Nat} (hn : n < 40) : ∀ w : World, (Instr.index 216 (.agg patC) (.int .i64 n)).run Tryz.prog w = .ok (patV (patD n)) w := by
  match n, hn with
  | 0, _ => exact pat_ix0
  | 1, _ => exact pat_ix1
  | 2, _ => exact pat_ix2
  | 3, _ => exact pat_ix3
  | 4, _ => exact pat_ix4
  | 5, _ => exact pat_ix5
  | 6, _ => exact pat_ix6
  | 7, _ => exact pat_ix7
  | 8, _ => exact pat_ix8
  | 9, _ => exact pat_ix9
  | 10, _ => exact pat_ix10
  | 11, _ => exact pat_ix11
  | 12, _ => exact pat_ix12
  | 13, _ => exact pat_ix13
  | 14, _ => exact pat_ix14
  | 15, _ => exact pat_ix15
  | 16, _ => exact pat_ix16
  | 17, _ => exact pat_ix17
  | 18, _ => exact pat_ix18
  | 19, _ => exact pat_ix19
  | 20, _ => exact pat_ix20
  | 21, _ => exact pat_ix21
  | 22, _ => exact pat_ix22
  | 23, _ => exact pat_ix23
  | 24, _ => exact pat_ix24
  | 25, _ => exact pat_ix25
  | 26, _ => exact pat_ix26
  | 27, _ => exact pat_ix27
  | 28, _ => exact pat_ix28
  | 29, _ => exact pat_ix29
  | 30, _ => exact pat_ix30
  | 31, _ => exact pat_ix31
  | 32, _ => exact pat_ix32
  | 33, _ => exact pat_ix33
  | 34, _ => exact pat_ix34
  | 35, _ => exact pat_ix35
  | 36, _ => exact pat_ix36
  | 37, _ => exact pat_ix37
  | 38, _ => exact pat_ix38
  | 39, _ => exact pat_ix39
  | n + 40, h => exact absurd h (by omega)
theorem patD_inj : ∀ n m : Fin 40, patD n = patD m → n = m := by decide +kernel
def codeN (op fn : Int) (reg : Bool) : Nat :=
  let r := if reg then 1 else 0
  if op = 0 then (2 * fn).toNat + r else if op = 1 then (if fn = 0 then 22 else (21 + 2 * fn).toNat + r) else if op = 2 then 31 + r else if op = 3 then 33 + r else if op = 4 then 35 + r else if op = 5 then 37 else if op = 6 then 38 else 39
theorem code_pat {op fn dst src : Int} {reg : Bool} {off imm : Int} (hm : mayB op fn dst src reg off imm = true) : codeN op fn reg < 40 ∧ patD (codeN op fn reg) = (op, fn, reg) := by
  have h := of_decide_eq_true hm
  obtain ⟨⟨a1, a2⟩, _, _, ⟨d1, d2⟩, _, f, _⟩ := h
  have : op = 0 ∨ op = 1 ∨ op = 2 ∨ op = 3 ∨ op = 4 ∨ op = 5 ∨ op = 6 ∨ op = 7 := by omega
  rcases this with rfl | rfl | rfl | rfl | rfl | rfl | rfl | rfl
  · simp at d2
    have : fn = 0 ∨ fn = 1 ∨ fn = 2 ∨ fn = 3 ∨ fn = 4 ∨ fn = 5 ∨ fn = 6 ∨ fn = 7 ∨ fn = 8 ∨ fn = 9 ∨ fn = 10 := by omega
    rcases this with rfl | rfl | rfl | rfl | rfl | rfl | rfl | rfl | rfl | rfl | rfl <;> cases reg <;> decide
  · simp at d2
    have : fn = 0 ∨ fn = 1 ∨ fn = 2 ∨ fn = 3 ∨ fn = 4 := by omega
    rcases this with rfl | rfl | rfl | rfl | rfl
    · have hr : reg = false := by
        simp at f
        exact f.2
      subst hr
      decide
    all_goals (cases reg <;> decide)
  all_goals
    simp at d2
    obtain rfl : fn = 0 := by omega
    first
    | (cases reg <;> decide)
    | (have hr : reg = false := by
        rcases f with ⟨f, _⟩ | ⟨_, f⟩
        · omega
        · exact f
       subst hr
       decide)
theorem eqA_pat (d : Nat) (w : World) (p q : Int × Int × Bool) : (Op.equalIn (d + 2) 215 (.agg #[.int .i64 p.1, .int .i64 p.2.1, .bool p.2.2]) (.agg #[.int .i64 q.1, .int .i64 q.2.1, .bool q.2.2])).run Tryz.prog w = .ok (decide (p = q)) w := by
  have e : decide (p = q) = (decide (p.1 = q.1) && (decide (p.2.1 = q.2.1) && ((p.2.2 == q.2.2) && true))) := by
    obtain ⟨a0, a1, a2⟩ := p
    obtain ⟨b0, b1, b2⟩ := q
    rw [Bool.eq_iff_iff]
    simp
  rw [e]
  refine eq_of_fields Tryz.underlying215 (by kernel_rfl) ?_
  refine eq_more (by decide) (by go_simp <;> rfl) (by go_simp <;> rfl) (by go_simp <;> rfl) ?_
  refine eq_more (by decide) (by go_simp <;> rfl) (by go_simp <;> rfl) (by go_simp <;> rfl) ?_
  refine eq_more (by decide) (by go_simp <;> rfl) (by go_simp <;> rfl) (by go_simp <;> rfl) ?_
  exact eq_none
theorem pat_eql (p q : Int × Int × Bool) (b : Bool) (hb : decide (p = q) = b) : ∀ w, (binOp .eql 215 (.agg #[.int .i64 p.1, .int .i64 p.2.1, .bool p.2.2]) (.agg #[.int .i64 q.1, .int .i64 q.2.1, .bool q.2.2])).run Tryz.prog w = .ok (.bool b) w := by
  intro w
  rw [run_eql_struct, eqA_pat, hb]; rfl
theorem box7 {w w1 : World} {v0 v1 v2 v3 v4 v5 v6 : Value} {t : TypeId} (h : Bel (w.alloc (.cells #[v0, v1, v2, v3, v4, v5, v6] t)) w1) :
    w1.cell? ⟨w.heap.size, 0, none⟩ = some v0 ∧ w1.cell? ⟨w.heap.size, 1, none⟩ = some v1 ∧ w1.cell? ⟨w.heap.size, 2, none⟩ = some v2 ∧ w1.cell? ⟨w.heap.size, 3, none⟩ = some v3 ∧ w1.cell? ⟨w.heap.size, 4, none⟩ = some v4 ∧ w1.cell? ⟨w.heap.size, 5, none⟩ = some v5 ∧ w1.cell? ⟨w.heap.size, 6, none⟩ = some v6 :=
  ⟨h.cell (by simp), h.cell (by simp), h.cell (by simp), h.cell (by simp), h.cell (by simp), h.cell (by simp), h.cell (by simp)⟩
set_option maxHeartbeats 4000000 in
set_option maxRecDepth 100000 in
theorem code_ok (op fn dst src : Int) (reg : Bool) (off imm : Int) (w : World) (hm : mayB op fn dst src reg off imm = true) :
    Calls Tryz.prog 104 #[.agg #[.int .i64 op, .int .i64 fn, .int .i64 dst, .int .i64 src, .bool reg, .int .i64 off, .int .u32 imm]] w fun e w' => e = .returned (.tuple #[.int .i64 (codeN op fn reg), .bool true]) ∧ Bel w w' := by
  have HB := Bel.refl (w.alloc (.cells #[.int .i64 op, .int .i64 fn, .int .i64 dst, .int .i64 src, .bool reg, .int .i64 off, .int .u32 imm] 95))
  have hidx := fun n hn => @pat_index n hn
  obtain ⟨hc, hp⟩ := code_pat hm
  have heq : ∀ n : Nat, n < codeN op fn reg → decide (patD n = (op, fn, reg)) = false := by
    intro n hn
    rw [decide_eq_false_iff_not, ← hp]
    intro h
    have := patD_inj ⟨n, by omega⟩ ⟨codeN op fn reg, hc⟩ h
    simp at this
    omega
  generalize codeN op fn reg = c at *
  replace hidx := Lib.hid hidx
  replace heq := Lib.hid heq
  replace hp := Lib.hid hp
  go_enter Tryz.func104, Tryz.ntmps104
  go_wp2_with fail
  refine (may_any _ _ _ _ _ _ _ _).mono ?_
  rintro e w1 ⟨rfl, hb⟩
  have HB := HB.trans hb
  clear hb
  go_wp2_with fail
  refine (patterns_any _).mono ?_
  rintro e w2 ⟨rfl, hb⟩
  have HB := HB.trans hb
  clear hb
  generalize patC = T at *
  go_wp2
  go_loopw [10] (fun k wr => ∃ (n : Nat), k = .int .i64 n ∧ n ≤ c ∧ Bel (w.alloc (.cells #[.int .i64 op, .int .i64 fn, .int .i64 dst, .int .i64 src, .bool reg, .int .i64 off, .int .u32 imm] 95)) wr) (fun k _ => (40 - intOf k).toNat)
  case atStart => exact ⟨0, rfl, by omega, HB⟩
  case round =>
    clear HB
    obtain ⟨n, rfl, hn, HB⟩ := hrel
    obtain ⟨p0, p1, p2, p3, p4, p5, p6⟩ := box7 HB
    have hsz := HB.size
    simp at hsz
    have ix := hidx.out n (by omega)
    simp only [patV] at ix
    have n40 : (n : Int) < 40 := by omega
    have ne : w.heap.size < wr.heap.size := by omega
    have ne1 : ¬ w.heap.size = wr.heap.size := by omega
    have ne2 : ¬ wr.heap.size = w.heap.size := by omega
    have e1 : IntKind.i64.wrap (n + 1) = (n + 1 : Int) := by simp only [IntKind.wrap]; simp [go_sem]; omega
    by_cases h : n = c
    · subst h
      rw [hp.out] at ix
      have EQ := pat_eql (op, fn, reg) (op, fn, reg) true (by simp)
      simp only at ix EQ
      go_wp2
      go_ret2
      exact ⟨by simp, by repeat (first | exact HB.un | apply Bel.alloc | apply Bel.drewN)⟩
    · have EQ := pat_eql (patD n) (op, fn, reg) false (heq.out n (by omega))
      generalize patD n = p at ix EQ
      obtain ⟨a1, a2, a3⟩ := p
      simp only at ix EQ
      go_wp2
      go_roundw
      case rel => exact ⟨n + 1, by simp, by omega, by repeat (first | exact HB | apply Bel.alloc | apply Bel.drewN)⟩
      case measure => simp [intOf]; omega
theorem code_no (op fn dst src : Int) (reg : Bool) (off imm : Int) (w : World) (hm : mayB op fn dst src reg off imm = false) :
    Calls Tryz.prog 104 #[.agg #[.int .i64 op, .int .i64 fn, .int .i64 dst, .int .i64 src, .bool reg, .int .i64 off, .int .u32 imm]] w fun e w' => e = .returned (.tuple #[.int .i64 0, .bool false]) ∧ Bel w w' := by
  have HB := Bel.refl (w.alloc (.cells #[.int .i64 op, .int .i64 fn, .int .i64 dst, .int .i64 src, .bool reg, .int .i64 off, .int .u32 imm] 95))
  go_enter Tryz.func104, Tryz.ntmps104
  go_wp2_with fail
  refine (may_any _ _ _ _ _ _ _ _).mono ?_
  rintro e w1 ⟨rfl, hb⟩
  have HB := HB.trans hb
  clear hb
  go_wp2
  go_ret2
  exact ⟨by simp, HB.un⟩
end Go.Proofs.YtebdnobgdimdoaaGreat
set_option linter.unusedVariables false
set_option linter.unusedSimpArgs false
namespace Go.Proofs.YtebdnobgdimdoaaGreat
open Go.RowKit
theorem goes_any (op fn dst src : Int) (reg : Bool) (off imm : Int) (w : World) :
    Calls Tryz.prog 105 #[.agg #[.int .i64 op, .int .i64 fn, .int .i64 dst, .int .i64 src, .bool reg, .int .i64 off, .int .u32 imm]] w fun e w' => e = .returned (.bool (op == 1 || op == 6)) ∧ Bel w w' := by
  by_cases h1 : op = 1
  · subst h1
    go_enter Tryz.func105, Tryz.ntmps105
    go_wp2
    go_ret
    exact ⟨by simp, (Bel.refl _).alloc _⟩
  · have h1' : (op == 1) = false := by simpa using h1
    by_cases h6 : op = 6
    · subst h6
      go_enter Tryz.func105, Tryz.ntmps105
      go_wp2
      go_ret
      exact ⟨by simp, (Bel.refl _).alloc _⟩
    · have h6' : (op == 6) = false := by simpa using h6
      go_enter Tryz.func105, Tryz.ntmps105
      go_wp2
      go_ret
      exact ⟨by simp [h1', h6'], (Bel.refl _).alloc _⟩
/-- A word out of its parts. -/
def wordI (c dst src too imm : Int) : Int := c * 281474976710656 + dst * 35184372088832 + src * 4398046511104 + too * 4294967296 + imm
/-- What 'Put' tells: the word, and the error's number. -/
def wput (op fn dst src : Int) (reg : Bool) (off imm too : Int) : Int × Int :=
  if mayB op fn dst src reg off imm = true ∧ 0 ≤ too ∧ too ≤ 1023 ∧ (0 < too → op = 1 ∨ op = 6) then (wordI (codeN op fn reg) dst src too (if op = 6 then 0 else imm), 0) else (0, 1)
theorem or_add {a b : Int} (k : Nat) (A : Int) (ha : a = 2 ^ k * A) (hA : 0 ≤ A) (hb : 0 ≤ b) (hk : b < 2 ^ k) (h : a + b < 18446744073709551616) : bits .or .u64 a b = a + b := by
  have hp : (0 : Int) < 2 ^ k := Int.pow_pos (by decide)
  have ha0 : 0 ≤ a := by rw [ha]; exact Int.mul_nonneg (Int.le_of_lt hp) hA
  rw [u64_or a b ha0 (by omega) hb (by omega)]
  obtain ⟨A', rfl⟩ := Int.eq_ofNat_of_zero_le hA
  obtain ⟨b', rfl⟩ := Int.eq_ofNat_of_zero_le hb
  have h1 : a = ((2 ^ k * A' : Nat) : Int) := by rw [ha]; simp
  have h2 : b' < 2 ^ k := by exact_mod_cast hk
  subst h1
  rw [Int.toNat_natCast, Int.toNat_natCast, ← Nat.two_pow_add_eq_or_of_lt h2]
  simp
theorem or_sum {c dst src too m : Int} (c0 : 0 ≤ c) (c1 : c < 40) (d0 : 0 ≤ dst) (d1 : dst < 8) (s0 : 0 ≤ src) (s1 : src < 8) (t0 : 0 ≤ too) (t1 : too ≤ 1023) (m0 : 0 ≤ m) (m1 : m < 4294967296) :
    bits .or .u64 (bits .or .u64 (bits .or .u64 (bits .or .u64 (c * 281474976710656) (dst * 35184372088832)) (src * 4398046511104)) (too * 4294967296)) m = wordI c dst src too m := by
  rw [or_add (a := c * 281474976710656) (b := dst * 35184372088832) 48 c (by omega) c0 (by omega) (by omega) (by omega)]
  rw [or_add (b := src * 4398046511104) 45 (8 * c + dst) (by omega) (by omega) (by omega) (by omega) (by omega)]
  rw [or_add (b := too * 4294967296) 42 (64 * c + 8 * dst + src) (by omega) (by omega) (by omega) (by omega) (by omega)]
  rw [or_add (b := m) 32 (65536 * c + 8192 * dst + 1024 * src + too) (by omega) (by omega) (by omega) (by omega) (by omega)]
  rfl
set_option maxHeartbeats 4000000 in
set_option maxRecDepth 100000 in
theorem wput_no (op fn dst src : Int) (reg : Bool) (off imm too : Int) (w : World) (hm : mayB op fn dst src reg off imm = false) :
    Calls Tryz.prog 59 #[.agg #[.int .i64 op, .int .i64 fn, .int .i64 dst, .int .i64 src, .bool reg, .int .i64 off, .int .u32 imm], .int .i64 too] w fun e w' => e = .returned (.tuple #[.int .u64 0, .int .i64 1]) ∧ Bel w w' := by
  have HB := Bel.refl (w.alloc (.cells #[.int .i64 op, .int .i64 fn, .int .i64 dst, .int .i64 src, .bool reg, .int .i64 off, .int .u32 imm] 95))
  go_enter Tryz.func59, Tryz.ntmps59
  go_wp2_with fail
  refine (code_no _ _ _ _ _ _ _ _ hm).mono ?_
  rintro e w1 ⟨rfl, hb⟩
  have HB := HB.trans hb
  obtain ⟨p0, p1, p2, p3, p4, p5, p6⟩ := box7 HB
  have ne : w.heap.size < w1.heap.size := World.block_lt_of_cell? _ _ p0
  have fz : w1.frozen? ⟨w.heap.size, 6, none⟩ = false := by rw [HB.frozen (p := ⟨w.heap.size, 6, none⟩) (by simp; rfl)]; simp
  clear hb
  go_wp2_with fail
  go_ret2
  exact ⟨by simp, HB.un⟩
set_option maxHeartbeats 4000000 in
set_option maxRecDepth 100000 in
theorem wput_low (op fn dst src : Int) (reg : Bool) (off imm too : Int) (w : World) (hm : mayB op fn dst src reg off imm = true) (c : Nat) (hc : Hid (codeN op fn reg = c)) (hc4 : c < 40) (hd0 : 0 ≤ dst) (hd1 : dst < 8) (hs0 : 0 ≤ src) (hs1 : src < 8) (h0 : too < 0) :
    Calls Tryz.prog 59 #[.agg #[.int .i64 op, .int .i64 fn, .int .i64 dst, .int .i64 src, .bool reg, .int .i64 off, .int .u32 imm], .int .i64 too] w fun e w' => e = .returned (.tuple #[.int .u64 0, .int .i64 1]) ∧ Bel w w' := by
  have HB := Bel.refl (w.alloc (.cells #[.int .i64 op, .int .i64 fn, .int .i64 dst, .int .i64 src, .bool reg, .int .i64 off, .int .u32 imm] 95))
  go_enter Tryz.func59, Tryz.ntmps59
  go_wp2_with fail
  refine (code_ok _ _ _ _ _ _ _ _ hm).mono ?_
  rw [hc.out]
  rintro e w1 ⟨rfl, hb⟩
  have HB := HB.trans hb
  obtain ⟨p0, p1, p2, p3, p4, p5, p6⟩ := box7 HB
  have ne : w.heap.size < w1.heap.size := World.block_lt_of_cell? _ _ p0
  have fz : w1.frozen? ⟨w.heap.size, 6, none⟩ = false := by rw [HB.frozen (p := ⟨w.heap.size, 6, none⟩) (by simp; rfl)]; simp
  clear hb
  go_wp2_with fail
  go_ret2
  exact ⟨by simp, HB.un⟩
set_option maxHeartbeats 4000000 in
set_option maxRecDepth 100000 in
theorem wput_high (op fn dst src : Int) (reg : Bool) (off imm too : Int) (w : World) (hm : mayB op fn dst src reg off imm = true) (c : Nat) (hc : Hid (codeN op fn reg = c)) (hc4 : c < 40) (hd0 : 0 ≤ dst) (hd1 : dst < 8) (hs0 : 0 ≤ src) (hs1 : src < 8) (h0 : ¬ too < 0) (h1 : 1023 < too) :
    Calls Tryz.prog 59 #[.agg #[.int .i64 op, .int .i64 fn, .int .i64 dst, .int .i64 src, .bool reg, .int .i64 off, .int .u32 imm], .int .i64 too] w fun e w' => e = .returned (.tuple #[.int .u64 0, .int .i64 1]) ∧ Bel w w' := by
  have HB := Bel.refl (w.alloc (.cells #[.int .i64 op, .int .i64 fn, .int .i64 dst, .int .i64 src, .bool reg, .int .i64 off, .int .u32 imm] 95))
  go_enter Tryz.func59, Tryz.ntmps59
  go_wp2_with fail
  refine (code_ok _ _ _ _ _ _ _ _ hm).mono ?_
  rw [hc.out]
  rintro e w1 ⟨rfl, hb⟩
  have HB := HB.trans hb
  obtain ⟨p0, p1, p2, p3, p4, p5, p6⟩ := box7 HB
  have ne : w.heap.size < w1.heap.size := World.block_lt_of_cell? _ _ p0
  have fz : w1.frozen? ⟨w.heap.size, 6, none⟩ = false := by rw [HB.frozen (p := ⟨w.heap.size, 6, none⟩) (by simp; rfl)]; simp
  clear hb
  go_wp2_with fail
  go_ret2
  exact ⟨by simp, HB.un⟩
set_option maxHeartbeats 4000000 in
set_option maxRecDepth 100000 in
theorem wput_else (op fn dst src : Int) (reg : Bool) (off imm too : Int) (w : World) (hm : mayB op fn dst src reg off imm = true) (c : Nat) (hc : Hid (codeN op fn reg = c)) (hc4 : c < 40) (hd0 : 0 ≤ dst) (hd1 : dst < 8) (hs0 : 0 ≤ src) (hs1 : src < 8) (h0 : 0 < too) (h1 : too ≤ 1023) (hg : (op == 1 || op == 6) = false) :
    Calls Tryz.prog 59 #[.agg #[.int .i64 op, .int .i64 fn, .int .i64 dst, .int .i64 src, .bool reg, .int .i64 off, .int .u32 imm], .int .i64 too] w fun e w' => e = .returned (.tuple #[.int .u64 0, .int .i64 1]) ∧ Bel w w' := by
  have HB := Bel.refl (w.alloc (.cells #[.int .i64 op, .int .i64 fn, .int .i64 dst, .int .i64 src, .bool reg, .int .i64 off, .int .u32 imm] 95))
  have h00 : ¬ too < 0 := by omega
  have h11 : ¬ 1023 < too := by omega
  go_enter Tryz.func59, Tryz.ntmps59
  go_wp2_with fail
  refine (code_ok _ _ _ _ _ _ _ _ hm).mono ?_
  rw [hc.out]
  rintro e w1 ⟨rfl, hb⟩
  have HB := HB.trans hb
  obtain ⟨p0, p1, p2, p3, p4, p5, p6⟩ := box7 HB
  have ne : w.heap.size < w1.heap.size := World.block_lt_of_cell? _ _ p0
  have fz : w1.frozen? ⟨w.heap.size, 6, none⟩ = false := by rw [HB.frozen (p := ⟨w.heap.size, 6, none⟩) (by simp; rfl)]; simp
  clear hb
  go_wp2_with fail
  refine (goes_any _ _ _ _ _ _ _ _).mono ?_
  rw [hg]
  rintro e w2 ⟨rfl, hb⟩
  have HB := HB.trans hb
  obtain ⟨p0, p1, p2, p3, p4, p5, p6⟩ := box7 HB
  have ne : w.heap.size < w2.heap.size := World.block_lt_of_cell? _ _ p0
  have fz : w2.frozen? ⟨w.heap.size, 6, none⟩ = false := by rw [HB.frozen (p := ⟨w.heap.size, 6, none⟩) (by simp; rfl)]; simp
  clear hb
  go_wp2_with fail
  go_ret2
  exact ⟨by simp, HB.un⟩
set_option maxHeartbeats 4000000 in
set_option maxRecDepth 100000 in
theorem wput_z6 (op fn dst src : Int) (reg : Bool) (off imm too : Int) (w : World) (hm : mayB op fn dst src reg off imm = true) (c : Nat) (hc : Hid (codeN op fn reg = c)) (hc4 : c < 40) (hd0 : 0 ≤ dst) (hd1 : dst < 8) (hs0 : 0 ≤ src) (hs1 : src < 8) (hi0 : 0 ≤ imm) (hi1 : imm < 4294967296) (h0 : too = 0) (h6 : op = 6) :
    Calls Tryz.prog 59 #[.agg #[.int .i64 op, .int .i64 fn, .int .i64 dst, .int .i64 src, .bool reg, .int .i64 off, .int .u32 imm], .int .i64 too] w fun e w' => e = .returned (.tuple #[.int .u64 (wordI c dst src too 0), .int .i64 0]) ∧ Bel w w' := by
  have hw := or_sum (c := (c : Int)) (dst := dst) (src := src) (too := too) (m := 0) (by omega) (by omega) hd0 hd1 hs0 hs1 (by omega) (by omega) (by omega) (by omega)
  rw [← hw]
  clear hw
  subst h0
  subst h6
  have HB := Bel.refl (w.alloc (.cells #[.int .i64 6, .int .i64 fn, .int .i64 dst, .int .i64 src, .bool reg, .int .i64 off, .int .u32 imm] 95))
  go_enter Tryz.func59, Tryz.ntmps59
  go_wp2_with fail
  refine (code_ok _ _ _ _ _ _ _ _ hm).mono ?_
  rw [hc.out]
  rintro e w1 ⟨rfl, hb⟩
  have HB := HB.trans hb
  obtain ⟨p0, p1, p2, p3, p4, p5, p6⟩ := box7 HB
  have ne : w.heap.size < w1.heap.size := World.block_lt_of_cell? _ _ p0
  have fz : w1.frozen? ⟨w.heap.size, 6, none⟩ = false := by rw [HB.frozen (p := ⟨w.heap.size, 6, none⟩) (by simp; rfl)]; simp
  clear hb
  go_wp2_with fail
  go_ret2
  exact ⟨by simp, HB.un.setCell (Nat.le_refl _) _⟩
set_option maxHeartbeats 4000000 in
set_option maxRecDepth 100000 in
theorem wput_z (op fn dst src : Int) (reg : Bool) (off imm too : Int) (w : World) (hm : mayB op fn dst src reg off imm = true) (c : Nat) (hc : Hid (codeN op fn reg = c)) (hc4 : c < 40) (hd0 : 0 ≤ dst) (hd1 : dst < 8) (hs0 : 0 ≤ src) (hs1 : src < 8) (hi0 : 0 ≤ imm) (hi1 : imm < 4294967296) (h0 : too = 0) (h6 : op ≠ 6) :
    Calls Tryz.prog 59 #[.agg #[.int .i64 op, .int .i64 fn, .int .i64 dst, .int .i64 src, .bool reg, .int .i64 off, .int .u32 imm], .int .i64 too] w fun e w' => e = .returned (.tuple #[.int .u64 (wordI c dst src too imm), .int .i64 0]) ∧ Bel w w' := by
  have hw := or_sum (c := (c : Int)) (dst := dst) (src := src) (too := too) (m := imm) (by omega) (by omega) hd0 hd1 hs0 hs1 (by omega) (by omega) (by omega) (by omega)
  rw [← hw]
  clear hw
  subst h0
  have h6' : (op == 6) = false := by simpa using h6
  have HB := Bel.refl (w.alloc (.cells #[.int .i64 op, .int .i64 fn, .int .i64 dst, .int .i64 src, .bool reg, .int .i64 off, .int .u32 imm] 95))
  go_enter Tryz.func59, Tryz.ntmps59
  go_wp2_with fail
  refine (code_ok _ _ _ _ _ _ _ _ hm).mono ?_
  rw [hc.out]
  rintro e w1 ⟨rfl, hb⟩
  have HB := HB.trans hb
  obtain ⟨p0, p1, p2, p3, p4, p5, p6⟩ := box7 HB
  have ne : w.heap.size < w1.heap.size := World.block_lt_of_cell? _ _ p0
  have fz : w1.frozen? ⟨w.heap.size, 6, none⟩ = false := by rw [HB.frozen (p := ⟨w.heap.size, 6, none⟩) (by simp; rfl)]; simp
  clear hb
  go_wp2_with fail
  go_ret2
  exact ⟨by simp, HB.un⟩
set_option maxHeartbeats 4000000 in
set_option maxRecDepth 100000 in
theorem wput_p6 (op fn dst src : Int) (reg : Bool) (off imm too : Int) (w : World) (hm : mayB op fn dst src reg off imm = true) (c : Nat) (hc : Hid (codeN op fn reg = c)) (hc4 : c < 40) (hd0 : 0 ≤ dst) (hd1 : dst < 8) (hs0 : 0 ≤ src) (hs1 : src < 8) (hi0 : 0 ≤ imm) (hi1 : imm < 4294967296) (h0 : 0 < too) (h1 : too ≤ 1023) (h6 : op = 6) :
    Calls Tryz.prog 59 #[.agg #[.int .i64 op, .int .i64 fn, .int .i64 dst, .int .i64 src, .bool reg, .int .i64 off, .int .u32 imm], .int .i64 too] w fun e w' => e = .returned (.tuple #[.int .u64 (wordI c dst src too 0), .int .i64 0]) ∧ Bel w w' := by
  have h00 : ¬ too < 0 := by omega
  have h11 : ¬ 1023 < too := by omega
  have hw := or_sum (c := (c : Int)) (dst := dst) (src := src) (too := too) (m := 0) (by omega) (by omega) hd0 hd1 hs0 hs1 (by omega) (by omega) (by omega) (by omega)
  rw [← hw]
  clear hw
  subst h6
  have HB := Bel.refl (w.alloc (.cells #[.int .i64 6, .int .i64 fn, .int .i64 dst, .int .i64 src, .bool reg, .int .i64 off, .int .u32 imm] 95))
  go_enter Tryz.func59, Tryz.ntmps59
  go_wp2_with fail
  refine (code_ok _ _ _ _ _ _ _ _ hm).mono ?_
  rw [hc.out]
  rintro e w1 ⟨rfl, hb⟩
  have HB := HB.trans hb
  obtain ⟨p0, p1, p2, p3, p4, p5, p6⟩ := box7 HB
  have ne : w.heap.size < w1.heap.size := World.block_lt_of_cell? _ _ p0
  have fz : w1.frozen? ⟨w.heap.size, 6, none⟩ = false := by rw [HB.frozen (p := ⟨w.heap.size, 6, none⟩) (by simp; rfl)]; simp
  clear hb
  go_wp2_with fail
  refine (goes_any _ _ _ _ _ _ _ _).mono ?_
  rw [show ((6 : Int) == 1 || (6 : Int) == 6) = true from by decide]
  rintro e w2 ⟨rfl, hb⟩
  have HB := HB.trans hb
  obtain ⟨p0, p1, p2, p3, p4, p5, p6⟩ := box7 HB
  have ne : w.heap.size < w2.heap.size := World.block_lt_of_cell? _ _ p0
  have fz : w2.frozen? ⟨w.heap.size, 6, none⟩ = false := by rw [HB.frozen (p := ⟨w.heap.size, 6, none⟩) (by simp; rfl)]; simp
  clear hb
  go_wp2_with fail
  go_ret2
  exact ⟨by simp, HB.un.setCell (Nat.le_refl _) _⟩
set_option maxHeartbeats 4000000 in
set_option maxRecDepth 100000 in
theorem wput_p1 (op fn dst src : Int) (reg : Bool) (off imm too : Int) (w : World) (hm : mayB op fn dst src reg off imm = true) (c : Nat) (hc : Hid (codeN op fn reg = c)) (hc4 : c < 40) (hd0 : 0 ≤ dst) (hd1 : dst < 8) (hs0 : 0 ≤ src) (hs1 : src < 8) (hi0 : 0 ≤ imm) (hi1 : imm < 4294967296) (h0 : 0 < too) (h1 : too ≤ 1023) (h6 : op = 1) :
    Calls Tryz.prog 59 #[.agg #[.int .i64 op, .int .i64 fn, .int .i64 dst, .int .i64 src, .bool reg, .int .i64 off, .int .u32 imm], .int .i64 too] w fun e w' => e = .returned (.tuple #[.int .u64 (wordI c dst src too imm), .int .i64 0]) ∧ Bel w w' := by
  have h00 : ¬ too < 0 := by omega
  have h11 : ¬ 1023 < too := by omega
  have hw := or_sum (c := (c : Int)) (dst := dst) (src := src) (too := too) (m := imm) (by omega) (by omega) hd0 hd1 hs0 hs1 (by omega) (by omega) (by omega) (by omega)
  rw [← hw]
  clear hw
  subst h6
  have HB := Bel.refl (w.alloc (.cells #[.int .i64 1, .int .i64 fn, .int .i64 dst, .int .i64 src, .bool reg, .int .i64 off, .int .u32 imm] 95))
  go_enter Tryz.func59, Tryz.ntmps59
  go_wp2_with fail
  refine (code_ok _ _ _ _ _ _ _ _ hm).mono ?_
  rw [hc.out]
  rintro e w1 ⟨rfl, hb⟩
  have HB := HB.trans hb
  obtain ⟨p0, p1, p2, p3, p4, p5, p6⟩ := box7 HB
  have ne : w.heap.size < w1.heap.size := World.block_lt_of_cell? _ _ p0
  have fz : w1.frozen? ⟨w.heap.size, 6, none⟩ = false := by rw [HB.frozen (p := ⟨w.heap.size, 6, none⟩) (by simp; rfl)]; simp
  clear hb
  go_wp2_with fail
  refine (goes_any _ _ _ _ _ _ _ _).mono ?_
  rw [show ((1 : Int) == 1 || (1 : Int) == 6) = true from by decide]
  rintro e w2 ⟨rfl, hb⟩
  have HB := HB.trans hb
  obtain ⟨p0, p1, p2, p3, p4, p5, p6⟩ := box7 HB
  have ne : w.heap.size < w2.heap.size := World.block_lt_of_cell? _ _ p0
  have fz : w2.frozen? ⟨w.heap.size, 6, none⟩ = false := by rw [HB.frozen (p := ⟨w.heap.size, 6, none⟩) (by simp; rfl)]; simp
  clear hb
  go_wp2_with fail
  go_ret2
  exact ⟨by simp, HB.un⟩
theorem isaput_any (op fn dst src : Int) (reg : Bool) (off imm too : Int) (w : World) (hi : U32 imm) :
    Calls Tryz.prog 59 #[.agg #[.int .i64 op, .int .i64 fn, .int .i64 dst, .int .i64 src, .bool reg, .int .i64 off, .int .u32 imm], .int .i64 too] w fun e w' => e = .returned (.tuple #[.int .u64 (wput op fn dst src reg off imm too).1, .int .i64 (wput op fn dst src reg off imm too).2]) ∧ Bel w w' := by
  have i0 := hi.lo
  have i1 := hi.hi
  by_cases hm : mayB op fn dst src reg off imm = true
  · obtain ⟨hc4, -⟩ := code_pat hm
    obtain ⟨_, ⟨d0, d1⟩, ⟨s0, s1⟩, _⟩ := of_decide_eq_true hm
    by_cases h0 : too < 0
    · have hr : wput op fn dst src reg off imm too = (0, 1) := if_neg (by rintro ⟨_, h, _⟩; omega)
      rw [hr]
      exact wput_low op fn dst src reg off imm too w hm _ (Lib.hid rfl) hc4 d0 d1 s0 s1 h0
    · by_cases h1 : 1023 < too
      · have hr : wput op fn dst src reg off imm too = (0, 1) := if_neg (by rintro ⟨_, _, h, _⟩; omega)
        rw [hr]
        exact wput_high op fn dst src reg off imm too w hm _ (Lib.hid rfl) hc4 d0 d1 s0 s1 h0 h1
      · by_cases h2 : 0 < too
        · by_cases h6 : op = 6
          · have hr : wput op fn dst src reg off imm too = (wordI (codeN op fn reg) dst src too 0, 0) := by unfold wput; rw [if_pos ⟨hm, by omega, by omega, fun _ => .inr h6⟩, if_pos h6]
            rw [hr]
            exact wput_p6 op fn dst src reg off imm too w hm _ (Lib.hid rfl) hc4 d0 d1 s0 s1 i0 i1 h2 (by omega) h6
          · by_cases h7 : op = 1
            · have hr : wput op fn dst src reg off imm too = (wordI (codeN op fn reg) dst src too imm, 0) := by unfold wput; rw [if_pos ⟨hm, by omega, by omega, fun _ => .inl h7⟩, if_neg h6]
              rw [hr]
              exact wput_p1 op fn dst src reg off imm too w hm _ (Lib.hid rfl) hc4 d0 d1 s0 s1 i0 i1 h2 (by omega) h7
            · have hr : wput op fn dst src reg off imm too = (0, 1) := if_neg (by rintro ⟨_, _, _, h⟩; rcases h h2 with h | h <;> contradiction)
              rw [hr]
              exact wput_else op fn dst src reg off imm too w hm _ (Lib.hid rfl) hc4 d0 d1 s0 s1 h2 (by omega) (by simp [h6, h7])
        · obtain rfl : too = 0 := by omega
          by_cases h6 : op = 6
          · have hr : wput op fn dst src reg off imm 0 = (wordI (codeN op fn reg) dst src 0 0, 0) := by unfold wput; rw [if_pos ⟨hm, by omega, by omega, fun h => absurd h (by omega)⟩, if_pos h6]
            rw [hr]
            exact wput_z6 op fn dst src reg off imm 0 w hm _ (Lib.hid rfl) hc4 d0 d1 s0 s1 i0 i1 rfl h6
          · have hr : wput op fn dst src reg off imm 0 = (wordI (codeN op fn reg) dst src 0 imm, 0) := by unfold wput; rw [if_pos ⟨hm, by omega, by omega, fun h => absurd h (by omega)⟩, if_neg h6]
            rw [hr]
            exact wput_z op fn dst src reg off imm 0 w hm _ (Lib.hid rfl) hc4 d0 d1 s0 s1 i0 i1 rfl h6
  · have hm' : mayB op fn dst src reg off imm = false := by simpa using hm
    have hr : wput op fn dst src reg off imm too = (0, 1) := if_neg (by rintro ⟨h, _⟩; exact hm h)
    rw [hr]
    exact wput_no op fn dst src reg off imm too w hm'
end Go.Proofs.YtebdnobgdimdoaaGreat
set_option linter.unusedVariables false
set_option linter.unusedSimpArgs false
namespace Go.Proofs.YtebdnobgdimdoaaGreat
open Go.RowKit
theorem pat_ixU0 : ∀ w : World, (Instr.index 216 (.agg patC) (.int .u64 (0 : Nat))).run Tryz.prog w = .ok (patV (patD 0)) w := fun _ => by kernel_rfl
theorem pat_ixU1 : ∀ w : World, (Instr.index 216 (.agg patC) (.int .u64 (1 : Nat))).run Tryz.prog w = .ok (patV (patD 1)) w := fun _ => by kernel_rfl
theorem pat_ixU2 : ∀ w : World, (Instr.index 216 (.agg patC) (.int .u64 (2 : Nat))).run Tryz.prog w = .ok (patV (patD 2)) w := fun _ => by kernel_rfl
theorem pat_ixU3 : ∀ w : World, (Instr.index 216 (.agg patC) (.int .u64 (3 : Nat))).run Tryz.prog w = .ok (patV (patD 3)) w := fun _ => by kernel_rfl
theorem pat_ixU4 : ∀ w : World, (Instr.index 216 (.agg patC) (.int .u64 (4 : Nat))).run Tryz.prog w = .ok (patV (patD 4)) w := fun _ => by kernel_rfl
theorem pat_ixU5 : ∀ w : World, (Instr.index 216 (.agg patC) (.int .u64 (5 : Nat))).run Tryz.prog w = .ok (patV (patD 5)) w := fun _ => by kernel_rfl
theorem pat_ixU6 : ∀ w : World, (Instr.index 216 (.agg patC) (.int .u64 (6 : Nat))).run Tryz.prog w = .ok (patV (patD 6)) w := fun _ => by kernel_rfl
theorem pat_ixU7 : ∀ w : World, (Instr.index 216 (.agg patC) (.int .u64 (7 : Nat))).run Tryz.prog w = .ok (patV (patD 7)) w := fun _ => by kernel_rfl
theorem pat_ixU8 : ∀ w : World, (Instr.index 216 (.agg patC) (.int .u64 (8 : Nat))).run Tryz.prog w = .ok (patV (patD 8)) w := fun _ => by kernel_rfl
theorem pat_ixU9 : ∀ w : World, (Instr.index 216 (.agg patC) (.int .u64 (9 : Nat))).run Tryz.prog w = .ok (patV (patD 9)) w := fun _ => by kernel_rfl
theorem pat_ixU10 : ∀ w : World, (Instr.index 216 (.agg patC) (.int .u64 (10 : Nat))).run Tryz.prog w = .ok (patV (patD 10)) w := fun _ => by kernel_rfl
theorem pat_ixU11 : ∀ w : World, (Instr.index 216 (.agg patC) (.int .u64 (11 : Nat))).run Tryz.prog w = .ok (patV (patD 11)) w := fun _ => by kernel_rfl
theorem pat_ixU12 : ∀ w : World, (Instr.index 216 (.agg patC) (.int .u64 (12 : Nat))).run Tryz.prog w = .ok (patV (patD 12)) w := fun _ => by kernel_rfl
theorem pat_ixU13 : ∀ w : World, (Instr.index 216 (.agg patC) (.int .u64 (13 : Nat))).run Tryz.prog w = .ok (patV (patD 13)) w := fun _ => by kernel_rfl
theorem pat_ixU14 : ∀ w : World, (Instr.index 216 (.agg patC) (.int .u64 (14 : Nat))).run Tryz.prog w = .ok (patV (patD 14)) w := fun _ => by kernel_rfl
theorem pat_ixU15 : ∀ w : World, (Instr.index 216 (.agg patC) (.int .u64 (15 : Nat))).run Tryz.prog w = .ok (patV (patD 15)) w := fun _ => by kernel_rfl
theorem pat_ixU16 : ∀ w : World, (Instr.index 216 (.agg patC) (.int .u64 (16 : Nat))).run Tryz.prog w = .ok (patV (patD 16)) w := fun _ => by kernel_rfl
theorem pat_ixU17 : ∀ w : World, (Instr.index 216 (.agg patC) (.int .u64 (17 : Nat))).run Tryz.prog w = .ok (patV (patD 17)) w := fun _ => by kernel_rfl
theorem pat_ixU18 : ∀ w : World, (Instr.index 216 (.agg patC) (.int .u64 (18 : Nat))).run Tryz.prog w = .ok (patV (patD 18)) w := fun _ => by kernel_rfl
theorem pat_ixU19 : ∀ w : World, (Instr.index 216 (.agg patC) (.int .u64 (19 : Nat))).run Tryz.prog w = .ok (patV (patD 19)) w := fun _ => by kernel_rfl
theorem pat_ixU20 : ∀ w : World, (Instr.index 216 (.agg patC) (.int .u64 (20 : Nat))).run Tryz.prog w = .ok (patV (patD 20)) w := fun _ => by kernel_rfl
theorem pat_ixU21 : ∀ w : World, (Instr.index 216 (.agg patC) (.int .u64 (21 : Nat))).run Tryz.prog w = .ok (patV (patD 21)) w := fun _ => by kernel_rfl
theorem pat_ixU22 : ∀ w : World, (Instr.index 216 (.agg patC) (.int .u64 (22 : Nat))).run Tryz.prog w = .ok (patV (patD 22)) w := fun _ => by kernel_rfl
theorem pat_ixU23 : ∀ w : World, (Instr.index 216 (.agg patC) (.int .u64 (23 : Nat))).run Tryz.prog w = .ok (patV (patD 23)) w := fun _ => by kernel_rfl
theorem pat_ixU24 : ∀ w : World, (Instr.index 216 (.agg patC) (.int .u64 (24 : Nat))).run Tryz.prog w = .ok (patV (patD 24)) w := fun _ => by kernel_rfl
theorem pat_ixU25 : ∀ w : World, (Instr.index 216 (.agg patC) (.int .u64 (25 : Nat))).run Tryz.prog w = .ok (patV (patD 25)) w := fun _ => by kernel_rfl
theorem pat_ixU26 : ∀ w : World, (Instr.index 216 (.agg patC) (.int .u64 (26 : Nat))).run Tryz.prog w = .ok (patV (patD 26)) w := fun _ => by kernel_rfl
theorem pat_ixU27 : ∀ w : World, (Instr.index 216 (.agg patC) (.int .u64 (27 : Nat))).run Tryz.prog w = .ok (patV (patD 27)) w := fun _ => by kernel_rfl
theorem pat_ixU28 : ∀ w : World, (Instr.index 216 (.agg patC) (.int .u64 (28 : Nat))).run Tryz.prog w = .ok (patV (patD 28)) w := fun _ => by kernel_rfl
theorem pat_ixU29 : ∀ w : World, (Instr.index 216 (.agg patC) (.int .u64 (29 : Nat))).run Tryz.prog w = .ok (patV (patD 29)) w := fun _ => by kernel_rfl
theorem pat_ixU30 : ∀ w : World, (Instr.index 216 (.agg patC) (.int .u64 (30 : Nat))).run Tryz.prog w = .ok (patV (patD 30)) w := fun _ => by kernel_rfl
theorem pat_ixU31 : ∀ w : World, (Instr.index 216 (.agg patC) (.int .u64 (31 : Nat))).run Tryz.prog w = .ok (patV (patD 31)) w := fun _ => by kernel_rfl
theorem pat_ixU32 : ∀ w : World, (Instr.index 216 (.agg patC) (.int .u64 (32 : Nat))).run Tryz.prog w = .ok (patV (patD 32)) w := fun _ => by kernel_rfl
theorem pat_ixU33 : ∀ w : World, (Instr.index 216 (.agg patC) (.int .u64 (33 : Nat))).run Tryz.prog w = .ok (patV (patD 33)) w := fun _ => by kernel_rfl
theorem pat_ixU34 : ∀ w : World, (Instr.index 216 (.agg patC) (.int .u64 (34 : Nat))).run Tryz.prog w = .ok (patV (patD 34)) w := fun _ => by kernel_rfl
theorem pat_ixU35 : ∀ w : World, (Instr.index 216 (.agg patC) (.int .u64 (35 : Nat))).run Tryz.prog w = .ok (patV (patD 35)) w := fun _ => by kernel_rfl
theorem pat_ixU36 : ∀ w : World, (Instr.index 216 (.agg patC) (.int .u64 (36 : Nat))).run Tryz.prog w = .ok (patV (patD 36)) w := fun _ => by kernel_rfl
theorem pat_ixU37 : ∀ w : World, (Instr.index 216 (.agg patC) (.int .u64 (37 : Nat))).run Tryz.prog w = .ok (patV (patD 37)) w := fun _ => by kernel_rfl
theorem pat_ixU38 : ∀ w : World, (Instr.index 216 (.agg patC) (.int .u64 (38 : Nat))).run Tryz.prog w = .ok (patV (patD 38)) w := fun _ => by kernel_rfl
theorem pat_ixU39 : ∀ w : World, (Instr.index 216 (.agg patC) (.int .u64 (39 : Nat))).run Tryz.prog w = .ok (patV (patD 39)) w := fun _ => by kernel_rfl
theorem pat_indexU {n : Nat} (hn : n < 40) : ∀ w : World, (Instr.index 216 (.agg patC) (.int .u64 n)).run Tryz.prog w = .ok (patV (patD n)) w := by
  match n, hn with
  | 0, _ => exact pat_ixU0
  | 1, _ => exact pat_ixU1
  | 2, _ => exact pat_ixU2
  | 3, _ => exact pat_ixU3
  | 4, _ => exact pat_ixU4
  | 5, _ => exact pat_ixU5
  | 6, _ => exact pat_ixU6
  | 7, _ => exact pat_ixU7
  | 8, _ => exact pat_ixU8
  | 9, _ => exact pat_ixU9
  | 10, _ => exact pat_ixU10
  | 11, _ => exact pat_ixU11
  | 12, _ => exact pat_ixU12
  | 13, _ => exact pat_ixU13
  | 14, _ => exact pat_ixU14
  | 15, _ => exact pat_ixU15
  | 16, _ => exact pat_ixU16
  | 17, _ => exact pat_ixU17
  | 18, _ => exact pat_ixU18
  | 19, _ => exact pat_ixU19
  | 20, _ => exact pat_ixU20
  | 21, _ => exact pat_ixU21
  | 22, _ => exact pat_ixU22
  | 23, _ => exact pat_ixU23
  | 24, _ => exact pat_ixU24
  | 25, _ => exact pat_ixU25
  | 26, _ => exact pat_ixU26
  | 27, _ => exact pat_ixU27
  | 28, _ => exact pat_ixU28
  | 29, _ => exact pat_ixU29
  | 30, _ => exact pat_ixU30
  | 31, _ => exact pat_ixU31
  | 32, _ => exact pat_ixU32
  | 33, _ => exact pat_ixU33
  | 34, _ => exact pat_ixU34
  | 35, _ => exact pat_ixU35
  | 36, _ => exact pat_ixU36
  | 37, _ => exact pat_ixU37
  | 38, _ => exact pat_ixU38
  | 39, _ => exact pat_ixU39
  | n + 40, h => exact absurd h (by omega)
theorem box7b {w w1 : World} {o : Obj} {v0 v1 v2 v3 v4 v5 v6 : Value} {t : TypeId} (h : Bel ((w.alloc o).alloc (.cells #[v0, v1, v2, v3, v4, v5, v6] t)) w1) :
    w1.cell? ⟨w.heap.size + 1, 0, none⟩ = some v0 ∧ w1.cell? ⟨w.heap.size + 1, 1, none⟩ = some v1 ∧ w1.cell? ⟨w.heap.size + 1, 2, none⟩ = some v2 ∧ w1.cell? ⟨w.heap.size + 1, 3, none⟩ = some v3 ∧ w1.cell? ⟨w.heap.size + 1, 4, none⟩ = some v4 ∧ w1.cell? ⟨w.heap.size + 1, 5, none⟩ = some v5 ∧ w1.cell? ⟨w.heap.size + 1, 6, none⟩ = some v6 := by
  have := box7 h
  simpa using this
theorem box7f {w w1 : World} {v0 v1 v2 v3 v4 v5 v6 : Value} {t : TypeId} (h : Bel (w.alloc (.cells #[v0, v1, v2, v3, v4, v5, v6] t)) w1) (i : Nat) (hi : i < 7) : w1.frozen? ⟨w.heap.size, i, none⟩ = false := by
  have hlt : (⟨w.heap.size, i, none⟩ : Addr).block < (w.alloc (.cells #[v0, v1, v2, v3, v4, v5, v6] t)).heap.size := by simp
  rw [h.out.frozen hlt]
  simp
theorem and_mask {a : Int} (k : Nat) (h0 : 0 ≤ a) (h1 : a < 18446744073709551616) (hk : k < 64) : bits .and .u64 a ((2 ^ k - 1 : Nat) : Int) = a % (2 ^ k : Nat) := by
  have h2 : 2 ^ k - 1 < 18446744073709551616 := by
    have h3 : 2 ^ k ≤ 2 ^ 63 := Nat.pow_le_pow_right (by decide) (by omega)
    have h4 : (2 : Nat) ^ 63 = 9223372036854775808 := by decide
    omega
  rw [u64_and a _ h0 h1 (by omega) (by omega), Int.toNat_natCast, Nat.and_two_pow_sub_one_eq_mod]
  obtain ⟨A, rfl⟩ := Int.eq_ofNat_of_zero_le h0
  rfl
/-- What 'Get' tells of a word. -/
def wgetI (x : Int) : InstD := ⟨(patD (x / 281474976710656).toNat).1, (patD (x / 281474976710656).toNat).2.1, x / 35184372088832 % 8, x / 4398046511104 % 8, (patD (x / 281474976710656).toNat).2.2, 0, x % 4294967296⟩
def wputD (i : InstD) (too : Int) : Int × Int := wput i.op i.fn i.dst i.src i.reg i.off i.imm too
def wgetOk (x : Int) : Prop := x / 281474976710656 < 40 ∧ wputD (wgetI x) (x / 4294967296 % 1024) = (x, 0)
instance (x : Int) : Decidable (wgetOk x) := by unfold wgetOk; infer_instance
def wget (x : Int) : InstD × Int × Int := if wgetOk x then (wgetI x, x / 4294967296 % 1024, 0) else (⟨0, 0, 0, 0, false, 0, 0⟩, 0, 7)
theorem wput_two (op fn dst src : Int) (reg : Bool) (off imm too : Int) : (wput op fn dst src reg off imm too).2 = 0 ∨ wput op fn dst src reg off imm too = (0, 1) := by
  unfold wput
  split
  · exact .inl rfl
  · exact .inr rfl
def InstD.val (i : InstD) : Value := .agg #[.int .i64 i.op, .int .i64 i.fn, .int .i64 i.dst, .int .i64 i.src, .bool i.reg, .int .i64 i.off, .int .u32 i.imm]
end Go.Proofs.YtebdnobgdimdoaaGreat
