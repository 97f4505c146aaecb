/- The chapter's example: 'awake'. -/
import Derived.Test.YtpfnjbebfihkeaaCrs8
import Derived.Test.YtpfnjbebfihkeaaEqInts
set_option linter.unusedVariables false
set_option linter.unusedSimpArgs false
namespace Go.Proofs.Ytpfnjbebfihkeaa
open Go.RowKit

theorem flat_get (l : List InstD) : ∀ (i j : Nat) (v : Value), i < l.length → (InstD.cells l[i]!)[j]? = some v → (l.flatMap InstD.cells)[i * 7 + j]? = some v := by
  induction l with
  | nil => intro i j v h; simp at h
  | cons x l ih =>
    intro i j v hi hv
    have hl : (InstD.cells x).length = 7 := rfl
    cases i with
    | zero =>
      have hj : j < 7 := by
        have := (List.getElem?_eq_some_iff.1 hv).1
        exact this
      rw [List.flatMap_cons, List.getElem?_append_left (by rw [hl]; omega)]
      simpa using hv
    | succ i =>
      have := ih i j v (by simpa using hi) (by simpa using hv)
      rw [List.flatMap_cons, List.getElem?_append_right (by rw [hl]; omega), hl, show (i + 1) * 7 + j - 7 = i * 7 + j by omega]
      exact this
/-- A block of instructions that was just made, as a slice. -/
theorem Sl.insts_at (w : World) (g : Nat) (t : TypeId) (l : List InstD) (a : Array Value) (hg : w.heap[g]? = some (.cells a t (0, 0))) (ha : a = (l.flatMap InstD.cells).toArray) (hw : ∀ x ∈ l, x.Wf) (hm : l.length ≤ maxLen) : Sl InstR 7 w (some ⟨g, 0, none⟩) l.length l :=
  ⟨Nat.le_refl _, hm, fun i hi => ⟨g, 0, InstD.cells l[i], rfl, rfl, ⟨rfl, hw _ (List.getElem_mem hi)⟩, fun j v hv => by
    have h := flat_get l i j v hi (by rw [getElem!_pos l i hi]; exact hv)
    subst ha
    simp [World.cell?, hg, h]⟩⟩
def awL : List InstD := [⟨1, 1, 0, 0, false, 1, 0⟩, ⟨0, 0, 0, 0, false, 0, 0⟩, ⟨7, 0, 0, 0, false, 0, 0⟩]
theorem awL_wf : ∀ x ∈ awL, x.Wf := by
  intro x hx
  simp only [awL, List.mem_cons, List.not_mem_nil, or_false] at hx
  rcases hx with rfl | rfl | rfl <;> exact ⟨by constructor <;> decide, by constructor <;> decide, by constructor <;> decide, by constructor <;> decide, by constructor <;> decide, by constructor <;> decide⟩
theorem awL_next : nextR awL 0 = [1, 2] := by decide
theorem awL_long : longR awL [] = 3 := by decide
theorem awL_fine : fineB awL = true := by decide
theorem awL_budget : budget [⟨0, awL⟩] = 3 := by decide
theorem cell_fresh (w : World) (a : Array Value) (t : TypeId) (k : Nat) (v : Value) (h : a[k]? = some v) : (w.alloc (.cells a t)).cell? ⟨w.heap.size, k, none⟩ = some v := by
  have e := World.alloc_heap_new w (.cells a t)
  unfold World.cell?
  simp only
  rw [e]
  exact h
theorem Sl.fn_at (w : World) (t : TypeId) (A : Option Addr) (c : Nat) (l : List InstD) (n : Nat) (hn : l.length = n) (hs : Sl InstR 7 w A c l) : Sl FnR 2 (w.alloc (.cells #[.int .i64 0, .slice A n c] t)) (some ⟨w.heap.size, 0, none⟩) 1 [⟨0, l⟩] := by
  subst hn
  exact ⟨Nat.le_refl _, (by decide : 1 ≤ maxLen), fun i hi => by
    obtain rfl : i = 0 := by simpa using hi
    refine ⟨w.heap.size, 0, [.int .i64 0, .slice A l.length c], rfl, rfl, ⟨A, c, rfl, hs.mono InstR.mono ((Bel.refl _).alloc _), (by decide : (Lit.int .i64 0).wf = true)⟩, fun j v hv => ?_⟩
    rw [show 0 + 0 * 2 + j = j by omega]
    exact cell_fresh w _ t j v (by simpa using hv)⟩
set_option maxHeartbeats 1000000 in
set_option maxRecDepth 100000 in
theorem awake_any (w : World) : Calls Try.prog 9 #[] w fun e w' => e = .returned (.bool true) ∧ Bel w w' := by
  go_enter Try.func9, Try.ntmps9
  go_wp2_with fail
  have S1 := Lib.hid (Sl.insts_at (w.alloc (.cells #[.int .i64 1, .int .i64 1, .int .i64 0, .int .i64 0, .bool false, .int .i64 1, .int .u32 0, .int .i64 0, .int .i64 0, .int .i64 0, .int .i64 0, .bool false, .int .i64 0, .int .u32 0, .int .i64 7, .int .i64 0, .int .i64 0, .int .i64 0, .bool false, .int .i64 0, .int .u32 0] 53)) w.heap.size _ awL _ (World.alloc_heap_new w _) rfl awL_wf (by decide))
  have hle : w.heap.size ≤ w.heap.size := Nat.le_refl _
  have HB0 := (Bel.refl w).alloc (.cells #[.int .i64 1, .int .i64 1, .int .i64 0, .int .i64 0, .bool false, .int .i64 1, .int .u32 0, .int .i64 0, .int .i64 0, .int .i64 0, .int .i64 0, .bool false, .int .i64 0, .int .u32 0, .int .i64 7, .int .i64 0, .int .i64 0, .int .i64 0, .bool false, .int .i64 0, .int .u32 0] 53)
  generalize w.alloc (.cells #[.int .i64 1, .int .i64 1, .int .i64 0, .int .i64 0, .bool false, .int .i64 1, .int .u32 0, .int .i64 0, .int .i64 0, .int .i64 0, .int .i64 0, .bool false, .int .i64 0, .int .u32 0, .int .i64 7, .int .i64 0, .int .i64 0, .int .i64 0, .bool false, .int .i64 0, .int .u32 0] 53) = W0 at *
  generalize w.heap.size = g at S1 ⊢
  refine (Next_any _ 3 3 awL 0 [1, 2] _ S1.out (Lib.hid rfl) (Lib.hid awL_next)).mono ?_
  rintro e w2 ⟨A2, c2, rfl, s2, -, hb2⟩
  have S2 := Lib.hid s2
  have HB := HB0.trans hb2
  have S1 := Lib.hid (S1.out.mono InstR.mono hb2)
  clear s2 hb2 HB0
  have SR := Lib.hid (sl_new_at (k := .i64) w2 w2.heap.size rfl 3 [1, 2] (by simp; exact ⟨wf_i64 (by omega) (by omega), wf_i64 (by omega) (by omega)⟩) (by decide))
  have S2 := Lib.hid (S2.out.mono (IntR.mono _) ((Bel.refl w2).alloc (.cells (([1, 2] : List Int).map (Value.int .i64)).toArray 3)))
  have S1 := Lib.hid (S1.out.mono InstR.mono ((Bel.refl w2).alloc (.cells (([1, 2] : List Int).map (Value.int .i64)).toArray 3)))
  have HB := HB.alloc (.cells (([1, 2] : List Int).map (Value.int .i64)).toArray 3)
  go_wp2_with fail
  generalize w2.heap.size = g2 at SR ⊢
  generalize hW3 : w2.alloc (.cells (([1, 2] : List Int).map (Value.int .i64)).toArray 3) = W3 at S1 S2 SR HB
  simp only [List.map_cons, List.map_nil] at hW3
  rw [hW3]
  clear hW3
  refine (intsEq_any _ _ _ _ (ints [1, 2]) [1, 2] _ S2.out SR.out).mono ?_
  rintro e w4 ⟨rfl, z, rfl⟩
  have HB := HB.drewN z
  have S1 := Lib.hid (S1.out.mono InstR.mono ((Bel.refl W3).drewN z))
  rw [show decide (ints [1, 2] = [1, 2]) = true by decide]
  generalize W3.drewN z = W4 at *
  clear S2 SR
  go_wp2_with fail
  refine (Longest_any _ _ 3 3 0 0 awL [] 3 _ S1.out (Lib.hid rfl) (Sl.nil _ _ _) (Lib.hid rfl) (Lib.hid awL_long)).mono ?_
  rintro e w5 ⟨rfl, hb5⟩
  have HB := HB.trans hb5
  have S1 := Lib.hid (S1.out.mono InstR.mono hb5)
  clear hb5
  go_wp2_with fail
  refine (Fine_any _ 3 3 awL true _ S1.out (Lib.hid rfl) (Lib.hid awL_fine)).mono ?_
  rintro e w6 ⟨rfl, hb6⟩
  have HB := HB.trans hb6
  have S1 := Lib.hid (S1.out.mono InstR.mono hb6)
  clear hb6
  go_wp2_with fail
  have SF := Sl.fn_at w6 46 _ 3 awL 3 rfl S1.out
  refine (Budget_any _ 1 1 [⟨0, awL⟩] 3 _ SF (Lib.hid rfl) (Lib.hid awL_budget)).mono ?_
  rintro e w7 ⟨rfl, hb7⟩
  have HB := (HB.alloc _).trans hb7
  clear hb7 SF
  go_wp2_with fail
  go_ret
  exact ⟨rfl, HB⟩
end Go.Proofs.Ytpfnjbebfihkeaa
