/- isa.patterns by its contract. -/
import Derived.Test.YteopeocgbfdofaaInst1
import Derived.LoopTactic
import Derived.Laws.CopyOwn
import Derived.Laws.ResultCell
import Derived.Lib.Hide
set_option linter.unusedVariables false
set_option linter.unusedSimpArgs false
namespace Go.Proofs.Yteopeocgbfdofaa
open Go.RowKit

def c0 : Array Value := #[.int .i64 0, .int .i64 0, .bool false, .int .i64 0, .int .i64 0, .bool false, .int .i64 0, .int .i64 0, .bool false, .int .i64 0, .int .i64 0, .bool false, .int .i64 0, .int .i64 0, .bool false, .int .i64 0, .int .i64 0, .bool false, .int .i64 0, .int .i64 0, .bool false, .int .i64 0, .int .i64 0, .bool false, .int .i64 0, .int .i64 0, .bool false, .int .i64 0, .int .i64 0, .bool false, .int .i64 0, .int .i64 0, .bool false, .int .i64 0, .int .i64 0, .bool false, .int .i64 0, .int .i64 0, .bool false, .int .i64 0, .int .i64 0, .bool false, .int .i64 0, .int .i64 0, .bool false, .int .i64 0, .int .i64 0, .bool false, .int .i64 0, .int .i64 0, .bool false, .int .i64 0, .int .i64 0, .bool false, .int .i64 0, .int .i64 0, .bool false, .int .i64 0, .int .i64 0, .bool false, .int .i64 0, .int .i64 0, .bool false, .int .i64 0, .int .i64 0, .bool false, .int .i64 0, .int .i64 0, .bool false, .int .i64 0, .int .i64 0, .bool false, .int .i64 0, .int .i64 0, .bool false, .int .i64 0, .int .i64 0, .bool false, .int .i64 0, .int .i64 0, .bool false, .int .i64 0, .int .i64 0, .bool false, .int .i64 0, .int .i64 0, .bool false, .int .i64 0, .int .i64 0, .bool false, .int .i64 0, .int .i64 0, .bool false, .int .i64 0, .int .i64 0, .bool false, .int .i64 0, .int .i64 0, .bool false, .int .i64 0, .int .i64 0, .bool false, .int .i64 0, .int .i64 0, .bool false, .int .i64 0, .int .i64 0, .bool false, .int .i64 0, .int .i64 0, .bool false, .int .i64 0, .int .i64 0, .bool false, .int .i64 0, .int .i64 0, .bool false, .int .i64 0, .int .i64 0, .bool false]
theorem c0_size : c0.size = 120 := rfl
def c1 : Array Value := ((((((c0.setIfInBounds 0 (.int .i64 0)).setIfInBounds 1 (.int .i64 0)).setIfInBounds 2 (.bool false)).setIfInBounds 3 (.int .i64 0)).setIfInBounds 4 (.int .i64 0)).setIfInBounds 5 (.bool true))
theorem c1_eq : c1 = ((((((c0.setIfInBounds 0 (.int .i64 0)).setIfInBounds 1 (.int .i64 0)).setIfInBounds 2 (.bool false)).setIfInBounds 3 (.int .i64 0)).setIfInBounds 4 (.int .i64 0)).setIfInBounds 5 (.bool true)) := rfl
theorem c1_size : c1.size = 120 := by simpa [c1] using c0_size
def c2 : Array Value := ((((((c1.setIfInBounds 6 (.int .i64 0)).setIfInBounds 7 (.int .i64 1)).setIfInBounds 8 (.bool false)).setIfInBounds 9 (.int .i64 0)).setIfInBounds 10 (.int .i64 1)).setIfInBounds 11 (.bool true))
theorem c2_eq : c2 = ((((((c1.setIfInBounds 6 (.int .i64 0)).setIfInBounds 7 (.int .i64 1)).setIfInBounds 8 (.bool false)).setIfInBounds 9 (.int .i64 0)).setIfInBounds 10 (.int .i64 1)).setIfInBounds 11 (.bool true)) := rfl
theorem c2_size : c2.size = 120 := by simpa [c2] using c1_size
def c3 : Array Value := ((((((c2.setIfInBounds 12 (.int .i64 0)).setIfInBounds 13 (.int .i64 2)).setIfInBounds 14 (.bool false)).setIfInBounds 15 (.int .i64 0)).setIfInBounds 16 (.int .i64 2)).setIfInBounds 17 (.bool true))
theorem c3_eq : c3 = ((((((c2.setIfInBounds 12 (.int .i64 0)).setIfInBounds 13 (.int .i64 2)).setIfInBounds 14 (.bool false)).setIfInBounds 15 (.int .i64 0)).setIfInBounds 16 (.int .i64 2)).setIfInBounds 17 (.bool true)) := rfl
theorem c3_size : c3.size = 120 := by simpa [c3] using c2_size
def c4 : Array Value := ((((((c3.setIfInBounds 18 (.int .i64 0)).setIfInBounds 19 (.int .i64 3)).setIfInBounds 20 (.bool false)).setIfInBounds 21 (.int .i64 0)).setIfInBounds 22 (.int .i64 3)).setIfInBounds 23 (.bool true))
theorem c4_eq : c4 = ((((((c3.setIfInBounds 18 (.int .i64 0)).setIfInBounds 19 (.int .i64 3)).setIfInBounds 20 (.bool false)).setIfInBounds 21 (.int .i64 0)).setIfInBounds 22 (.int .i64 3)).setIfInBounds 23 (.bool true)) := rfl
theorem c4_size : c4.size = 120 := by simpa [c4] using c3_size
def c5 : Array Value := ((((((c4.setIfInBounds 24 (.int .i64 0)).setIfInBounds 25 (.int .i64 4)).setIfInBounds 26 (.bool false)).setIfInBounds 27 (.int .i64 0)).setIfInBounds 28 (.int .i64 4)).setIfInBounds 29 (.bool true))
theorem c5_eq : c5 = ((((((c4.setIfInBounds 24 (.int .i64 0)).setIfInBounds 25 (.int .i64 4)).setIfInBounds 26 (.bool false)).setIfInBounds 27 (.int .i64 0)).setIfInBounds 28 (.int .i64 4)).setIfInBounds 29 (.bool true)) := rfl
theorem c5_size : c5.size = 120 := by simpa [c5] using c4_size
def c6 : Array Value := ((((((c5.setIfInBounds 30 (.int .i64 0)).setIfInBounds 31 (.int .i64 5)).setIfInBounds 32 (.bool false)).setIfInBounds 33 (.int .i64 0)).setIfInBounds 34 (.int .i64 5)).setIfInBounds 35 (.bool true))
theorem c6_eq : c6 = ((((((c5.setIfInBounds 30 (.int .i64 0)).setIfInBounds 31 (.int .i64 5)).setIfInBounds 32 (.bool false)).setIfInBounds 33 (.int .i64 0)).setIfInBounds 34 (.int .i64 5)).setIfInBounds 35 (.bool true)) := rfl
theorem c6_size : c6.size = 120 := by simpa [c6] using c5_size
def c7 : Array Value := ((((((c6.setIfInBounds 36 (.int .i64 0)).setIfInBounds 37 (.int .i64 6)).setIfInBounds 38 (.bool false)).setIfInBounds 39 (.int .i64 0)).setIfInBounds 40 (.int .i64 6)).setIfInBounds 41 (.bool true))
theorem c7_eq : c7 = ((((((c6.setIfInBounds 36 (.int .i64 0)).setIfInBounds 37 (.int .i64 6)).setIfInBounds 38 (.bool false)).setIfInBounds 39 (.int .i64 0)).setIfInBounds 40 (.int .i64 6)).setIfInBounds 41 (.bool true)) := rfl
theorem c7_size : c7.size = 120 := by simpa [c7] using c6_size
def c8 : Array Value := ((((((c7.setIfInBounds 42 (.int .i64 0)).setIfInBounds 43 (.int .i64 7)).setIfInBounds 44 (.bool false)).setIfInBounds 45 (.int .i64 0)).setIfInBounds 46 (.int .i64 7)).setIfInBounds 47 (.bool true))
theorem c8_eq : c8 = ((((((c7.setIfInBounds 42 (.int .i64 0)).setIfInBounds 43 (.int .i64 7)).setIfInBounds 44 (.bool false)).setIfInBounds 45 (.int .i64 0)).setIfInBounds 46 (.int .i64 7)).setIfInBounds 47 (.bool true)) := rfl
theorem c8_size : c8.size = 120 := by simpa [c8] using c7_size
def c9 : Array Value := ((((((c8.setIfInBounds 48 (.int .i64 0)).setIfInBounds 49 (.int .i64 8)).setIfInBounds 50 (.bool false)).setIfInBounds 51 (.int .i64 0)).setIfInBounds 52 (.int .i64 8)).setIfInBounds 53 (.bool true))
theorem c9_eq : c9 = ((((((c8.setIfInBounds 48 (.int .i64 0)).setIfInBounds 49 (.int .i64 8)).setIfInBounds 50 (.bool false)).setIfInBounds 51 (.int .i64 0)).setIfInBounds 52 (.int .i64 8)).setIfInBounds 53 (.bool true)) := rfl
theorem c9_size : c9.size = 120 := by simpa [c9] using c8_size
def c10 : Array Value := ((((((c9.setIfInBounds 54 (.int .i64 0)).setIfInBounds 55 (.int .i64 9)).setIfInBounds 56 (.bool false)).setIfInBounds 57 (.int .i64 0)).setIfInBounds 58 (.int .i64 9)).setIfInBounds 59 (.bool true))
theorem c10_eq : c10 = ((((((c9.setIfInBounds 54 (.int .i64 0)).setIfInBounds 55 (.int .i64 9)).setIfInBounds 56 (.bool false)).setIfInBounds 57 (.int .i64 0)).setIfInBounds 58 (.int .i64 9)).setIfInBounds 59 (.bool true)) := rfl
theorem c10_size : c10.size = 120 := by simpa [c10] using c9_size
def c11 : Array Value := ((((((c10.setIfInBounds 60 (.int .i64 0)).setIfInBounds 61 (.int .i64 10)).setIfInBounds 62 (.bool false)).setIfInBounds 63 (.int .i64 0)).setIfInBounds 64 (.int .i64 10)).setIfInBounds 65 (.bool true))
theorem c11_eq : c11 = ((((((c10.setIfInBounds 60 (.int .i64 0)).setIfInBounds 61 (.int .i64 10)).setIfInBounds 62 (.bool false)).setIfInBounds 63 (.int .i64 0)).setIfInBounds 64 (.int .i64 10)).setIfInBounds 65 (.bool true)) := rfl
theorem c11_size : c11.size = 120 := by simpa [c11] using c10_size
def c12 : Array Value := (((c11.setIfInBounds 66 (.int .i64 1)).setIfInBounds 67 (.int .i64 0)).setIfInBounds 68 (.bool false))
theorem c12_eq : c12 = (((c11.setIfInBounds 66 (.int .i64 1)).setIfInBounds 67 (.int .i64 0)).setIfInBounds 68 (.bool false)) := rfl
theorem c12_size : c12.size = 120 := by simpa [c12] using c11_size
def c13 : Array Value := ((((((c12.setIfInBounds 69 (.int .i64 1)).setIfInBounds 70 (.int .i64 1)).setIfInBounds 71 (.bool false)).setIfInBounds 72 (.int .i64 1)).setIfInBounds 73 (.int .i64 1)).setIfInBounds 74 (.bool true))
theorem c13_eq : c13 = ((((((c12.setIfInBounds 69 (.int .i64 1)).setIfInBounds 70 (.int .i64 1)).setIfInBounds 71 (.bool false)).setIfInBounds 72 (.int .i64 1)).setIfInBounds 73 (.int .i64 1)).setIfInBounds 74 (.bool true)) := rfl
theorem c13_size : c13.size = 120 := by simpa [c13] using c12_size
def c14 : Array Value := ((((((c13.setIfInBounds 75 (.int .i64 1)).setIfInBounds 76 (.int .i64 2)).setIfInBounds 77 (.bool false)).setIfInBounds 78 (.int .i64 1)).setIfInBounds 79 (.int .i64 2)).setIfInBounds 80 (.bool true))
theorem c14_eq : c14 = ((((((c13.setIfInBounds 75 (.int .i64 1)).setIfInBounds 76 (.int .i64 2)).setIfInBounds 77 (.bool false)).setIfInBounds 78 (.int .i64 1)).setIfInBounds 79 (.int .i64 2)).setIfInBounds 80 (.bool true)) := rfl
theorem c14_size : c14.size = 120 := by simpa [c14] using c13_size
def c15 : Array Value := ((((((c14.setIfInBounds 81 (.int .i64 1)).setIfInBounds 82 (.int .i64 3)).setIfInBounds 83 (.bool false)).setIfInBounds 84 (.int .i64 1)).setIfInBounds 85 (.int .i64 3)).setIfInBounds 86 (.bool true))
theorem c15_eq : c15 = ((((((c14.setIfInBounds 81 (.int .i64 1)).setIfInBounds 82 (.int .i64 3)).setIfInBounds 83 (.bool false)).setIfInBounds 84 (.int .i64 1)).setIfInBounds 85 (.int .i64 3)).setIfInBounds 86 (.bool true)) := rfl
theorem c15_size : c15.size = 120 := by simpa [c15] using c14_size
def c16 : Array Value := ((((((c15.setIfInBounds 87 (.int .i64 1)).setIfInBounds 88 (.int .i64 4)).setIfInBounds 89 (.bool false)).setIfInBounds 90 (.int .i64 1)).setIfInBounds 91 (.int .i64 4)).setIfInBounds 92 (.bool true))
theorem c16_eq : c16 = ((((((c15.setIfInBounds 87 (.int .i64 1)).setIfInBounds 88 (.int .i64 4)).setIfInBounds 89 (.bool false)).setIfInBounds 90 (.int .i64 1)).setIfInBounds 91 (.int .i64 4)).setIfInBounds 92 (.bool true)) := rfl
theorem c16_size : c16.size = 120 := by simpa [c16] using c15_size
theorem run_copy_k {P : Program} (w : World) (dT sT ty elem : TypeId) (g o dLen dCap : Nat) (a : Addr) (sLen sCap k n : Nat) (cur : Array Value) (t : TypeId) (cs : List Value)
    (hu : P.underlying dT = some (.slice elem)) (hs : (P.info? elem).map (·.size) = some k)
    (hg : w.heap[g]? = some (.cells cur t (0, 0))) (hn1 : Nat.min sLen dLen = n) (hn : cs.length = n * k)
    (hsrc : ∀ j v, cs[j]? = some v → w.cell? (a.add j) = some v) (hfit : o + cs.length ≤ cur.size) (h1 : ∀ v ∈ cs, v.oneCell' = true) :
    (Builtin.copy_ #[dT, sT] ty #[.slice (some ⟨g, o, none⟩) dLen dCap, .slice (some a) sLen sCap]).run P w =
      .ok (goInt n) (w.setRow g (cur.toList.take o ++ cs ++ cur.toList.drop (o + cs.length)).toArray) := by
  have hl := run_loadCells_list (P := P) w a cs hsrc
  have hst := run_storeCells_at (P := P) g o t cs 0 cur w hg (by simpa using hfit) h1
  cases hq : P.info? elem with
  | none => simp [hq] at hs
  | some i =>
    have hi : i.size = k := by simpa [hq] using hs
    rw [Nat.add_zero] at hst
    simp [Builtin.copy_, run_underlying hu, Builtin.lenOf, Builtin.firstCells, sizeOf, typeInfo, hq, hi, hn1, ← hn, hl]
    simp at hst
    simp [hst]
theorem setRow_mid (w : World) (a b : Obj) (c c' : Array Value) (t : TypeId) : ((((w.alloc a).alloc (.cells c t)).alloc b).drew).setRow (w.heap.size + 1) c' = (((w.alloc a).alloc (.cells c' t)).alloc b).drew := by
  simp only [World.setRow, World.alloc, World.drew]
  congr 1
  apply Array.ext_getElem?
  intro i
  rw [Array.getElem?_modify]
  by_cases h : w.heap.size + 1 = i
  · subst h
    simp [Array.getElem?_push, Array.getElem_push]
  · have h' : ¬ i = w.heap.size + 1 := fun e => h e.symm
    simp [h, h', Array.getElem?_push]
theorem z40 (w : World) : (zeroValue 66).run Try.prog w = .ok (.agg c0) w := by kernel_rfl
theorem at_load_row {P : Program} {ops : Array Oper} {rest : List Oper} {a : Act} {Q : Exit → Act → World → Prop} {w : World} {dst : Option Tmp} {tt : TypeId} {pos : String} {after : Array Edge} {ty : TypeId} {x : Operand} {ad : Addr} {v : Value}
    (hx : a.eval x = .pointer (some ad)) (hl : (loadVar ty ad).run P w = .ok v w)
    (h : wpList P ops Q rest (a.put dst v) w) : wpList P ops Q ({ dst := dst, op := .load ty x, type := tt, pos := pos, after := after, guard := none } :: rest) a w :=
  wpList_plain rfl fun _ hK => by
    unfold Oper.wp execOp
    simp only [hx, Instr.loadAt, Instr.sureAddr, Sem.run_bind, Sem.run_pure, Result.andThen, hl]
    exact hK _ _ h
theorem at_store_row {P : Program} {ops : Array Oper} {rest : List Oper} {a : Act} {Q : Exit → Act → World → Prop} {w w' : World} {dst : Option Tmp} {tt : TypeId} {pos : String} {after : Array Edge} {ty : TypeId} {x y : Operand} {ad : Addr} {v : Value}
    (hx : a.eval x = .pointer (some ad)) (hy : a.eval y = v) (hl : (storeVar ty ad v).run P w = .ok () w')
    (h : wpList P ops Q rest (a.put dst undef) w') : wpList P ops Q ({ dst := dst, op := .store ty x y, type := tt, pos := pos, after := after, guard := none } :: rest) a w :=
  wpList_plain rfl fun _ hK => by
    unfold Oper.wp execOp
    simp only [hx, hy, Instr.storeAt, Instr.sureAddr, Sem.run_bind, Sem.run_pure, Result.andThen, hl]
    exact hK _ _ h
theorem copy_rest (C0 C16 C17 : Array Value) (w : World) (hs : C16.size = 120) (e17 : Hid ((C16.toList.take 93 ++ (#[.int .i64 2, .int .i64 0, .bool false, .int .i64 2, .int .i64 0, .bool true, .int .i64 3, .int .i64 0, .bool false, .int .i64 3, .int .i64 0, .bool true, .int .i64 4, .int .i64 0, .bool false, .int .i64 4, .int .i64 0, .bool true, .int .i64 5, .int .i64 0, .bool false, .int .i64 6, .int .i64 0, .bool false, .int .i64 7, .int .i64 0, .bool false] : Array Value).toList ++ C16.toList.drop 120).toArray = C17)) :
    ∀ ty, (Builtin.copy_ #[84, 84] ty #[.slice (some ⟨w.heap.size + 1, 93, none⟩) 9 9, .slice (some ⟨w.heap.size + 1 + 1, 0, none⟩) 9 9]).run Try.prog ((((w.alloc (.cells C0 66)).alloc (.cells C16 66)).alloc (.cells #[.int .i64 2, .int .i64 0, .bool false, .int .i64 2, .int .i64 0, .bool true, .int .i64 3, .int .i64 0, .bool false, .int .i64 3, .int .i64 0, .bool true, .int .i64 4, .int .i64 0, .bool false, .int .i64 4, .int .i64 0, .bool true, .int .i64 5, .int .i64 0, .bool false, .int .i64 6, .int .i64 0, .bool false, .int .i64 7, .int .i64 0, .bool false] 83)).drew) = .ok (goInt 9) ((((w.alloc (.cells C0 66)).alloc (.cells C17 66)).alloc (.cells #[.int .i64 2, .int .i64 0, .bool false, .int .i64 2, .int .i64 0, .bool true, .int .i64 3, .int .i64 0, .bool false, .int .i64 3, .int .i64 0, .bool true, .int .i64 4, .int .i64 0, .bool false, .int .i64 4, .int .i64 0, .bool true, .int .i64 5, .int .i64 0, .bool false, .int .i64 6, .int .i64 0, .bool false, .int .i64 7, .int .i64 0, .bool false] 83)).drew) := by
  intro ty
  obtain ⟨R, hR⟩ : ∃ R : Array Value, R = #[.int .i64 2, .int .i64 0, .bool false, .int .i64 2, .int .i64 0, .bool true, .int .i64 3, .int .i64 0, .bool false, .int .i64 3, .int .i64 0, .bool true, .int .i64 4, .int .i64 0, .bool false, .int .i64 4, .int .i64 0, .bool true, .int .i64 5, .int .i64 0, .bool false, .int .i64 6, .int .i64 0, .bool false, .int .i64 7, .int .i64 0, .bool false] := ⟨_, rfl⟩
  rw [← hR] at e17 ⊢
  have hl : R.toList.length = 27 := by rw [hR]; rfl
  have h1 : ∀ v ∈ R.toList, v.oneCell' = true := by rw [hR]; decide
  clear hR
  have hsrc : ∀ j v, R.toList[j]? = some v → ((((w.alloc (.cells C0 66)).alloc (.cells C16 66)).alloc (.cells R 83)).drew).cell? ((⟨w.heap.size + 1 + 1, 0, none⟩ : Addr).add j) = some v := by
    intro j v hj
    have : ((((w.alloc (.cells C0 66)).alloc (.cells C16 66)).alloc (.cells R 83)).drew).cell? ⟨w.heap.size + 1 + 1, j, none⟩ = R[j]? := by
      have := World.cell?_alloc_new ((w.alloc (.cells C0 66)).alloc (.cells C16 66)) R 83 j
      simpa using this
    have hadd : (⟨w.heap.size + 1 + 1, 0, none⟩ : Addr).add j = ⟨w.heap.size + 1 + 1, j, none⟩ := by unfold Addr.add; split <;> simp_all
    rw [hadd, this]
    simpa using hj
  have := run_copy_k (P := Try.prog) ((((w.alloc (.cells C0 66)).alloc (.cells C16 66)).alloc (.cells R 83)).drew) 84 84 ty 65 (w.heap.size + 1) 93 9 9 ⟨w.heap.size + 1 + 1, 0, none⟩ 9 9 3 9 C16 66 R.toList Try.underlying84 (by kernel_rfl)
    (by show (((w.heap.push _).push _).push _)[w.heap.size + 1]? = _; simp [Array.getElem?_push, Array.getElem_push]) rfl (by rw [hl]) hsrc (by rw [hs, hl]; decide) h1
  rw [setRow_mid] at this
  rw [hl] at this
  rw [this, ← e17.out]
  rfl
set_option maxHeartbeats 4000000 in
set_option maxRecDepth 100000 in
theorem patterns_core (C0 C1 C2 C3 C4 C5 C6 C7 C8 C9 C10 C11 C12 C13 C14 C15 C16 C17 : Array Value) (s0 : Hid (C0.size = 120)) (s1 : Hid (C1.size = 120)) (s2 : Hid (C2.size = 120)) (s3 : Hid (C3.size = 120)) (s4 : Hid (C4.size = 120)) (s5 : Hid (C5.size = 120)) (s6 : Hid (C6.size = 120)) (s7 : Hid (C7.size = 120)) (s8 : Hid (C8.size = 120)) (s9 : Hid (C9.size = 120)) (s10 : Hid (C10.size = 120)) (s11 : Hid (C11.size = 120)) (s12 : Hid (C12.size = 120)) (s13 : Hid (C13.size = 120)) (s14 : Hid (C14.size = 120)) (s15 : Hid (C15.size = 120)) (s16 : Hid (C16.size = 120)) (e1 : Hid (C1 = ((((((C0.setIfInBounds 0 (.int .i64 0)).setIfInBounds 1 (.int .i64 0)).setIfInBounds 2 (.bool false)).setIfInBounds 3 (.int .i64 0)).setIfInBounds 4 (.int .i64 0)).setIfInBounds 5 (.bool true)))) (e2 : Hid (C2 = ((((((C1.setIfInBounds 6 (.int .i64 0)).setIfInBounds 7 (.int .i64 1)).setIfInBounds 8 (.bool false)).setIfInBounds 9 (.int .i64 0)).setIfInBounds 10 (.int .i64 1)).setIfInBounds 11 (.bool true)))) (e3 : Hid (C3 = ((((((C2.setIfInBounds 12 (.int .i64 0)).setIfInBounds 13 (.int .i64 2)).setIfInBounds 14 (.bool false)).setIfInBounds 15 (.int .i64 0)).setIfInBounds 16 (.int .i64 2)).setIfInBounds 17 (.bool true)))) (e4 : Hid (C4 = ((((((C3.setIfInBounds 18 (.int .i64 0)).setIfInBounds 19 (.int .i64 3)).setIfInBounds 20 (.bool false)).setIfInBounds 21 (.int .i64 0)).setIfInBounds 22 (.int .i64 3)).setIfInBounds 23 (.bool true)))) (e5 : Hid (C5 = ((((((C4.setIfInBounds 24 (.int .i64 0)).setIfInBounds 25 (.int .i64 4)).setIfInBounds 26 (.bool false)).setIfInBounds 27 (.int .i64 0)).setIfInBounds 28 (.int .i64 4)).setIfInBounds 29 (.bool true)))) (e6 : Hid (C6 = ((((((C5.setIfInBounds 30 (.int .i64 0)).setIfInBounds 31 (.int .i64 5)).setIfInBounds 32 (.bool false)).setIfInBounds 33 (.int .i64 0)).setIfInBounds 34 (.int .i64 5)).setIfInBounds 35 (.bool true)))) (e7 : Hid (C7 = ((((((C6.setIfInBounds 36 (.int .i64 0)).setIfInBounds 37 (.int .i64 6)).setIfInBounds 38 (.bool false)).setIfInBounds 39 (.int .i64 0)).setIfInBounds 40 (.int .i64 6)).setIfInBounds 41 (.bool true)))) (e8 : Hid (C8 = ((((((C7.setIfInBounds 42 (.int .i64 0)).setIfInBounds 43 (.int .i64 7)).setIfInBounds 44 (.bool false)).setIfInBounds 45 (.int .i64 0)).setIfInBounds 46 (.int .i64 7)).setIfInBounds 47 (.bool true)))) (e9 : Hid (C9 = ((((((C8.setIfInBounds 48 (.int .i64 0)).setIfInBounds 49 (.int .i64 8)).setIfInBounds 50 (.bool false)).setIfInBounds 51 (.int .i64 0)).setIfInBounds 52 (.int .i64 8)).setIfInBounds 53 (.bool true)))) (e10 : Hid (C10 = ((((((C9.setIfInBounds 54 (.int .i64 0)).setIfInBounds 55 (.int .i64 9)).setIfInBounds 56 (.bool false)).setIfInBounds 57 (.int .i64 0)).setIfInBounds 58 (.int .i64 9)).setIfInBounds 59 (.bool true)))) (e11 : Hid (C11 = ((((((C10.setIfInBounds 60 (.int .i64 0)).setIfInBounds 61 (.int .i64 10)).setIfInBounds 62 (.bool false)).setIfInBounds 63 (.int .i64 0)).setIfInBounds 64 (.int .i64 10)).setIfInBounds 65 (.bool true)))) (e12 : Hid (C12 = (((C11.setIfInBounds 66 (.int .i64 1)).setIfInBounds 67 (.int .i64 0)).setIfInBounds 68 (.bool false)))) (e13 : Hid (C13 = ((((((C12.setIfInBounds 69 (.int .i64 1)).setIfInBounds 70 (.int .i64 1)).setIfInBounds 71 (.bool false)).setIfInBounds 72 (.int .i64 1)).setIfInBounds 73 (.int .i64 1)).setIfInBounds 74 (.bool true)))) (e14 : Hid (C14 = ((((((C13.setIfInBounds 75 (.int .i64 1)).setIfInBounds 76 (.int .i64 2)).setIfInBounds 77 (.bool false)).setIfInBounds 78 (.int .i64 1)).setIfInBounds 79 (.int .i64 2)).setIfInBounds 80 (.bool true)))) (e15 : Hid (C15 = ((((((C14.setIfInBounds 81 (.int .i64 1)).setIfInBounds 82 (.int .i64 3)).setIfInBounds 83 (.bool false)).setIfInBounds 84 (.int .i64 1)).setIfInBounds 85 (.int .i64 3)).setIfInBounds 86 (.bool true)))) (e16 : Hid (C16 = ((((((C15.setIfInBounds 87 (.int .i64 1)).setIfInBounds 88 (.int .i64 4)).setIfInBounds 89 (.bool false)).setIfInBounds 90 (.int .i64 1)).setIfInBounds 91 (.int .i64 4)).setIfInBounds 92 (.bool true)))) (e17 : Hid ((C16.toList.take 93 ++ (#[.int .i64 2, .int .i64 0, .bool false, .int .i64 2, .int .i64 0, .bool true, .int .i64 3, .int .i64 0, .bool false, .int .i64 3, .int .i64 0, .bool true, .int .i64 4, .int .i64 0, .bool false, .int .i64 4, .int .i64 0, .bool true, .int .i64 5, .int .i64 0, .bool false, .int .i64 6, .int .i64 0, .bool false, .int .i64 7, .int .i64 0, .bool false] : Array Value).toList ++ C16.toList.drop 120).toArray = C17)) (s17 : Hid (C17.size = 120)) (o17 : Hid (C17.all (·.oneCell') = true)) (ZR : Array Value) (hzs : Hid (ZR.size = 27)) (hz9 : ∀ w : World, (zeroValue 83).run Try.prog w = .ok (.agg ZR) w) (hz : ∀ w : World, (zeroValue 66).run Try.prog w = .ok (.agg C0) w) (w : World) :
    Calls Try.prog 29 #[] w fun e w' => e = .returned (.agg C17) ∧ Bel w w' := by
  go_enter Try.func29, Try.ntmps29
  go_wp2
  go_loopw [6] (fun k wr => ∃ (C : Array Value) (kk : Int), k = .int .i64 kk ∧ wr = (w.alloc (.cells C0 66)).alloc (.cells C 66) ∧ ((kk = 0 ∧ C = C0) ∨ (kk = 1 ∧ C = C1) ∨ (kk = 2 ∧ C = C2) ∨ (kk = 3 ∧ C = C3) ∨ (kk = 4 ∧ C = C4) ∨ (kk = 5 ∧ C = C5) ∨ (kk = 6 ∧ C = C6) ∨ (kk = 7 ∧ C = C7) ∨ (kk = 8 ∧ C = C8) ∨ (kk = 9 ∧ C = C9) ∨ (kk = 10 ∧ C = C10) ∨ (kk = 11 ∧ C = C11))) (fun k _ => (11 - intOf k).toNat)
  case atStart => exact ⟨C0, 0, rfl, rfl, .inl ⟨rfl, rfl⟩⟩
  case round =>
    obtain ⟨C, kk, rfl, hwr, hn⟩ := hrel
    rcases hn with ⟨hk, hc⟩ | ⟨hk, hc⟩ | ⟨hk, hc⟩ | ⟨hk, hc⟩ | ⟨hk, hc⟩ | ⟨hk, hc⟩ | ⟨hk, hc⟩ | ⟨hk, hc⟩ | ⟨hk, hc⟩ | ⟨hk, hc⟩ | ⟨hk, hc⟩ | ⟨hk, hc⟩
    · subst hk; subst hc; subst hwr
      have hs := s0.out
      go_wp2
      go_roundw
      case rel => exact ⟨C1, 1, rfl, by rw [e1.out], .inr (.inl ⟨rfl, rfl⟩)⟩
      case measure => decide
    · subst hk; subst hc; subst hwr
      have hs := s1.out
      go_wp2
      go_roundw
      case rel => exact ⟨C2, 2, rfl, by rw [e2.out], .inr (.inr (.inl ⟨rfl, rfl⟩))⟩
      case measure => decide
    · subst hk; subst hc; subst hwr
      have hs := s2.out
      go_wp2
      go_roundw
      case rel => exact ⟨C3, 3, rfl, by rw [e3.out], .inr (.inr (.inr (.inl ⟨rfl, rfl⟩)))⟩
      case measure => decide
    · subst hk; subst hc; subst hwr
      have hs := s3.out
      go_wp2
      go_roundw
      case rel => exact ⟨C4, 4, rfl, by rw [e4.out], .inr (.inr (.inr (.inr (.inl ⟨rfl, rfl⟩))))⟩
      case measure => decide
    · subst hk; subst hc; subst hwr
      have hs := s4.out
      go_wp2
      go_roundw
      case rel => exact ⟨C5, 5, rfl, by rw [e5.out], .inr (.inr (.inr (.inr (.inr (.inl ⟨rfl, rfl⟩)))))⟩
      case measure => decide
    · subst hk; subst hc; subst hwr
      have hs := s5.out
      go_wp2
      go_roundw
      case rel => exact ⟨C6, 6, rfl, by rw [e6.out], .inr (.inr (.inr (.inr (.inr (.inr (.inl ⟨rfl, rfl⟩))))))⟩
      case measure => decide
    · subst hk; subst hc; subst hwr
      have hs := s6.out
      go_wp2
      go_roundw
      case rel => exact ⟨C7, 7, rfl, by rw [e7.out], .inr (.inr (.inr (.inr (.inr (.inr (.inr (.inl ⟨rfl, rfl⟩)))))))⟩
      case measure => decide
    · subst hk; subst hc; subst hwr
      have hs := s7.out
      go_wp2
      go_roundw
      case rel => exact ⟨C8, 8, rfl, by rw [e8.out], .inr (.inr (.inr (.inr (.inr (.inr (.inr (.inr (.inl ⟨rfl, rfl⟩))))))))⟩
      case measure => decide
    · subst hk; subst hc; subst hwr
      have hs := s8.out
      go_wp2
      go_roundw
      case rel => exact ⟨C9, 9, rfl, by rw [e9.out], .inr (.inr (.inr (.inr (.inr (.inr (.inr (.inr (.inr (.inl ⟨rfl, rfl⟩)))))))))⟩
      case measure => decide
    · subst hk; subst hc; subst hwr
      have hs := s9.out
      go_wp2
      go_roundw
      case rel => exact ⟨C10, 10, rfl, by rw [e10.out], .inr (.inr (.inr (.inr (.inr (.inr (.inr (.inr (.inr (.inr (.inl ⟨rfl, rfl⟩))))))))))⟩
      case measure => decide
    · subst hk; subst hc; subst hwr
      have hs := s10.out
      go_wp2
      go_roundw
      case rel => exact ⟨C11, 11, rfl, by rw [e11.out], .inr (.inr (.inr (.inr (.inr (.inr (.inr (.inr (.inr (.inr (.inr (⟨rfl, rfl⟩)))))))))))⟩
      case measure => decide
    · subst hk; subst hc; subst hwr
      have hs := s11.out
      go_wp2
      rw [← e12.out]
      clear hs
      go_loopw [4] (fun k wr => ∃ (C : Array Value) (kk : Int), k = .int .i64 kk ∧ wr = (w.alloc (.cells C0 66)).alloc (.cells C 66) ∧ ((kk = 1 ∧ C = C12) ∨ (kk = 2 ∧ C = C13) ∨ (kk = 3 ∧ C = C14) ∨ (kk = 4 ∧ C = C15) ∨ (kk = 5 ∧ C = C16))) (fun k _ => (5 - intOf k).toNat)
      case atStart => exact ⟨_, _, rfl, rfl, .inl ⟨rfl, rfl⟩⟩
      case round =>
        obtain ⟨C, kk, rfl, hwr, hn⟩ := hrel
        rcases hn with ⟨hk, hc⟩ | ⟨hk, hc⟩ | ⟨hk, hc⟩ | ⟨hk, hc⟩ | ⟨hk, hc⟩
        · subst hk; subst hc; subst hwr
          have hs := s12.out
          go_wp2
          go_roundw
          case rel => exact ⟨C13, 2, rfl, by rw [e13.out], .inr (.inl ⟨rfl, rfl⟩)⟩
          case measure => decide
        · subst hk; subst hc; subst hwr
          have hs := s13.out
          go_wp2
          go_roundw
          case rel => exact ⟨C14, 3, rfl, by rw [e14.out], .inr (.inr (.inl ⟨rfl, rfl⟩))⟩
          case measure => decide
        · subst hk; subst hc; subst hwr
          have hs := s14.out
          go_wp2
          go_roundw
          case rel => exact ⟨C15, 4, rfl, by rw [e15.out], .inr (.inr (.inr (.inl ⟨rfl, rfl⟩)))⟩
          case measure => decide
        · subst hk; subst hc; subst hwr
          have hs := s15.out
          go_wp2
          go_roundw
          case rel => exact ⟨C16, 5, rfl, by rw [e16.out], .inr (.inr (.inr (.inr (⟨rfl, rfl⟩))))⟩
          case measure => decide
        · have hc := hc.symm; subst hk; subst hc; subst hwr
          have hs := s16.out
          have hcp := copy_rest C0 C16 C17 w hs e17
          clear hs
          go_wp2_with (first | (refine at_build (t := 83) #[.int .i64 2, .int .i64 0, .bool false, .int .i64 2, .int .i64 0, .bool true, .int .i64 3, .int .i64 0, .bool false, .int .i64 3, .int .i64 0, .bool true, .int .i64 4, .int .i64 0, .bool false, .int .i64 4, .int .i64 0, .bool true, .int .i64 5, .int .i64 0, .bool false, .int .i64 6, .int .i64 0, .bool false, .int .i64 7, .int .i64 0, .bool false] (by kernel_rfl) ?_) | (refine at_store_new (ty := 83) #[.int .i64 2, .int .i64 0, .bool false, .int .i64 2, .int .i64 0, .bool true, .int .i64 3, .int .i64 0, .bool false, .int .i64 3, .int .i64 0, .bool true, .int .i64 4, .int .i64 0, .bool false, .int .i64 4, .int .i64 0, .bool true, .int .i64 5, .int .i64 0, .bool false, .int .i64 6, .int .i64 0, .bool false, .int .i64 7, .int .i64 0, .bool false] (by show Value.pointer (some ⟨w.heap.size + 1 + 1, 0, none⟩) = _; simp) (by rfl) (by kernel_rfl) (by rw [hzs.out]; rfl) (by kernel_rfl) ?_))
          go_region
          obtain ⟨W9, HW9⟩ : ∃ W9 : World, (((w.alloc (.cells C0 66)).alloc (.cells C17 66)).alloc (.cells #[.int .i64 2, .int .i64 0, .bool false, .int .i64 2, .int .i64 0, .bool true, .int .i64 3, .int .i64 0, .bool false, .int .i64 3, .int .i64 0, .bool true, .int .i64 4, .int .i64 0, .bool false, .int .i64 4, .int .i64 0, .bool true, .int .i64 5, .int .i64 0, .bool false, .int .i64 6, .int .i64 0, .bool false, .int .i64 7, .int .i64 0, .bool false] 83)).drew = W9 := ⟨_, rfl⟩
          have HB : Bel w W9 := by rw [← HW9]; exact ((((Bel.refl w).alloc _).alloc _).alloc _).drew
          have H1 : W9.heap[w.heap.size + 1]? = some (.cells C17 66 (0, 0)) := by rw [← HW9]; show (((w.heap.push _).push _).push _)[w.heap.size + 1]? = _; simp [Array.getElem?_push, Array.getElem_push]
          have H0 : W9.heap[w.heap.size]? = some (.cells C0 66 (0, 0)) := by rw [← HW9]; show (((w.heap.push _).push _).push _)[w.heap.size]? = _; simp [Array.getElem?_push, Array.getElem_push]; omega
          rw [HW9]
          clear HW9 hcp
          have hld := run_loadVar_row (P := Try.prog) W9 (w.heap.size + 1) 66 66 C17 (0, 0) _ H1 Try.underlying66 rfl (by rw [s17.out]; kernel_rfl)
          have hst := run_storeVar_row (P := Try.prog) W9 w.heap.size 66 66 C0 C17 H0 (by rw [s17.out]; kernel_rfl) (by rw [s17.out, s0.out]) o17.out
          go_wp2_with (first | (refine at_load_row (by rfl) hld ?_) | (refine at_store_row (by rfl) (by rfl) hst ?_))
          have H2 := setRow_heap W9 w.heap.size C0 C17 66 (0, 0) H0
          have HB2 : Bel w (W9.setRow w.heap.size C17) := ⟨below_setRow HB.out (Nat.le_refl _) _⟩
          generalize W9.setRow w.heap.size C17 = W10 at H2 HB2 ⊢
          have hl2 := run_loadVar_row (P := Try.prog) W10 w.heap.size 66 66 C17 (0, 0) _ H2 Try.underlying66 rfl (by rw [s17.out]; kernel_rfl)
          refine bodyPost_ret (v := .agg C17) ?_ rfl ⟨rfl, HB2⟩
          have hr : (Try.f29).results = #[.cell 0 66] := by rfl
          simp only [results, hr]
          simp [Act.put, asAddr, Result.andThen, hl2]
/-- The table of all codes. -/
def patC : Array Value := #[.int .i64 0, .int .i64 0, .bool false, .int .i64 0, .int .i64 0, .bool true, .int .i64 0, .int .i64 1, .bool false, .int .i64 0, .int .i64 1, .bool true, .int .i64 0, .int .i64 2, .bool false, .int .i64 0, .int .i64 2, .bool true, .int .i64 0, .int .i64 3, .bool false, .int .i64 0, .int .i64 3, .bool true, .int .i64 0, .int .i64 4, .bool false, .int .i64 0, .int .i64 4, .bool true, .int .i64 0, .int .i64 5, .bool false, .int .i64 0, .int .i64 5, .bool true, .int .i64 0, .int .i64 6, .bool false, .int .i64 0, .int .i64 6, .bool true, .int .i64 0, .int .i64 7, .bool false, .int .i64 0, .int .i64 7, .bool true, .int .i64 0, .int .i64 8, .bool false, .int .i64 0, .int .i64 8, .bool true, .int .i64 0, .int .i64 9, .bool false, .int .i64 0, .int .i64 9, .bool true, .int .i64 0, .int .i64 10, .bool false, .int .i64 0, .int .i64 10, .bool true, .int .i64 1, .int .i64 0, .bool false, .int .i64 1, .int .i64 1, .bool false, .int .i64 1, .int .i64 1, .bool true, .int .i64 1, .int .i64 2, .bool false, .int .i64 1, .int .i64 2, .bool true, .int .i64 1, .int .i64 3, .bool false, .int .i64 1, .int .i64 3, .bool true, .int .i64 1, .int .i64 4, .bool false, .int .i64 1, .int .i64 4, .bool true, .int .i64 2, .int .i64 0, .bool false, .int .i64 2, .int .i64 0, .bool true, .int .i64 3, .int .i64 0, .bool false, .int .i64 3, .int .i64 0, .bool true, .int .i64 4, .int .i64 0, .bool false, .int .i64 4, .int .i64 0, .bool true, .int .i64 5, .int .i64 0, .bool false, .int .i64 6, .int .i64 0, .bool false, .int .i64 7, .int .i64 0, .bool false]
theorem pat_eq : (c16.toList.take 93 ++ (#[.int .i64 2, .int .i64 0, .bool false, .int .i64 2, .int .i64 0, .bool true, .int .i64 3, .int .i64 0, .bool false, .int .i64 3, .int .i64 0, .bool true, .int .i64 4, .int .i64 0, .bool false, .int .i64 4, .int .i64 0, .bool true, .int .i64 5, .int .i64 0, .bool false, .int .i64 6, .int .i64 0, .bool false, .int .i64 7, .int .i64 0, .bool false] : Array Value).toList ++ c16.toList.drop 120).toArray = patC := by kernel_rfl
theorem z9 (w : World) : (zeroValue 83).run Try.prog w = .ok (.agg #[.int .i64 0, .int .i64 0, .bool false, .int .i64 0, .int .i64 0, .bool false, .int .i64 0, .int .i64 0, .bool false, .int .i64 0, .int .i64 0, .bool false, .int .i64 0, .int .i64 0, .bool false, .int .i64 0, .int .i64 0, .bool false, .int .i64 0, .int .i64 0, .bool false, .int .i64 0, .int .i64 0, .bool false, .int .i64 0, .int .i64 0, .bool false]) w := by kernel_rfl
theorem patterns_any (w : World) : Calls Try.prog 29 #[] w fun e w' => e = .returned (.agg patC) ∧ Bel w w' :=
  patterns_core c0 c1 c2 c3 c4 c5 c6 c7 c8 c9 c10 c11 c12 c13 c14 c15 c16 patC (Lib.hid c0_size) (Lib.hid c1_size) (Lib.hid c2_size) (Lib.hid c3_size) (Lib.hid c4_size) (Lib.hid c5_size) (Lib.hid c6_size) (Lib.hid c7_size) (Lib.hid c8_size) (Lib.hid c9_size) (Lib.hid c10_size) (Lib.hid c11_size) (Lib.hid c12_size) (Lib.hid c13_size) (Lib.hid c14_size) (Lib.hid c15_size) (Lib.hid c16_size) (Lib.hid c1_eq) (Lib.hid c2_eq) (Lib.hid c3_eq) (Lib.hid c4_eq) (Lib.hid c5_eq) (Lib.hid c6_eq) (Lib.hid c7_eq) (Lib.hid c8_eq) (Lib.hid c9_eq) (Lib.hid c10_eq) (Lib.hid c11_eq) (Lib.hid c12_eq) (Lib.hid c13_eq) (Lib.hid c14_eq) (Lib.hid c15_eq) (Lib.hid c16_eq) (Lib.hid pat_eq) (Lib.hid (by rfl)) (Lib.hid (by kernel_rfl)) _ (Lib.hid (by rfl)) z9 z40 w
end Go.Proofs.Yteopeocgbfdofaa
