/- Chapter 14's example. -/
import Derived.Test.YteopeocgbfdofaaIm6
import Derived.Test.YteopeocgbfdofaaPg2
set_option linter.unusedVariables false
set_option linter.unusedSimpArgs false
namespace Go.Proofs.Yteopeocgbfdofaa
open Go.RowKit

def awI0 : InstD := ⟨0, 0, 0, 0, false, 0, 5⟩
def awI1 : InstD := ⟨7, 0, 0, 0, false, 0, 0⟩
def awP : List FnD := [⟨0, [awI0, awI1]⟩]
theorem aw_make : imgMake awP 10 = ([(wput 1 0 0 0 false 0 0 11).1, 5, (wput 7 0 0 0 false 0 0 0).1], 0) := by decide +kernel
theorem aw_size : imgSize awP = 3 := by decide +kernel
theorem awI0_wf : awI0.Wf := ⟨by constructor <;> decide, by constructor <;> decide, by constructor <;> decide, by constructor <;> decide, by constructor <;> decide, by constructor <;> decide⟩
theorem awI1_wf : awI1.Wf := ⟨by constructor <;> decide, by constructor <;> decide, by constructor <;> decide, by constructor <;> decide, by constructor <;> decide, by constructor <;> decide⟩
theorem aw_insts (w : World) : Sl InstR 7 (w.alloc (.cells #[.int .i64 0, .int .i64 0, .int .i64 0, .int .i64 0, .bool false, .int .i64 0, .int .u32 5, .int .i64 7, .int .i64 0, .int .i64 0, .int .i64 0, .bool false, .int .i64 0, .int .u32 0] 34)) (some ⟨w.heap.size, 0, none⟩) 2 [awI0, awI1] := by
  refine ⟨Nat.le_refl _, (by decide : 2 ≤ maxLen), fun i hi => ?_⟩
  have hi2 : i < 2 := hi
  by_cases h0 : i = 0
  · subst h0
    refine ⟨w.heap.size, 0, awI0.cells, rfl, rfl, ⟨rfl, awI0_wf⟩, fun j v hv => ?_⟩
    have hj : j < 7 := (List.getElem?_eq_some_iff.1 hv).1
    rw [show 0 + 0 * 7 + j = j by omega]
    refine cell_fresh w _ _ j v ?_
    match j, hj with
    | 0, _ => exact hv
    | 1, _ => exact hv
    | 2, _ => exact hv
    | 3, _ => exact hv
    | 4, _ => exact hv
    | 5, _ => exact hv
    | 6, _ => exact hv
  · obtain rfl : i = 1 := by omega
    refine ⟨w.heap.size, 0, awI1.cells, rfl, rfl, ⟨rfl, awI1_wf⟩, fun j v hv => ?_⟩
    have hj : j < 7 := (List.getElem?_eq_some_iff.1 hv).1
    rw [show 0 + 1 * 7 + j = 7 + j by omega]
    refine cell_fresh w _ _ (7 + j) v ?_
    match j, hj with
    | 0, _ => exact hv
    | 1, _ => exact hv
    | 2, _ => exact hv
    | 3, _ => exact hv
    | 4, _ => exact hv
    | 5, _ => exact hv
    | 6, _ => exact hv
theorem aw_sl (w : World) : Sl FnR 2 ((w.alloc (.cells #[.int .i64 0, .int .i64 0, .int .i64 0, .int .i64 0, .bool false, .int .i64 0, .int .u32 5, .int .i64 7, .int .i64 0, .int .i64 0, .int .i64 0, .bool false, .int .i64 0, .int .u32 0] 34)).alloc (.cells #[.int .i64 0, .slice (some ⟨w.heap.size, 0, none⟩) 2 2] 40)) (some ⟨w.heap.size + 1, 0, none⟩) 1 awP := by
  have hs := aw_insts w
  have hz : w.heap.size + 1 = (w.alloc (.cells #[.int .i64 0, .int .i64 0, .int .i64 0, .int .i64 0, .bool false, .int .i64 0, .int .u32 5, .int .i64 7, .int .i64 0, .int .i64 0, .int .i64 0, .bool false, .int .i64 0, .int .u32 0] 34)).heap.size := by simp
  rw [hz]
  exact ⟨Nat.le_refl _, (by decide : 1 ≤ maxLen), fun i hi => by
    obtain rfl : i = 0 := by simpa [awP] using hi
    refine ⟨_, 0, [.int .i64 0, .slice (some ⟨w.heap.size, 0, none⟩) 2 2], rfl, rfl, ⟨_, 2, rfl, hs.mono InstR.mono ((Bel.refl _).alloc _), (by decide : (Lit.int .i64 0).wf = true)⟩, fun j v hv => ?_⟩
    rw [show 0 + 0 * 2 + j = j by omega]
    exact cell_fresh _ _ _ j v (by simpa using hv)⟩
set_option maxHeartbeats 2000000 in
set_option maxRecDepth 100000 in
theorem awake_any (w : World) : Calls Try.prog 7 #[] w fun e w' => e = .returned (.bool true) ∧ Bel w w' := by
  have HB0 := Lib.hid ((((Bel.refl w).alloc (.cells #[.int .i64 0, .int .i64 0, .int .i64 0, .int .i64 0, .bool false, .int .i64 0, .int .u32 5, .int .i64 7, .int .i64 0, .int .i64 0, .int .i64 0, .bool false, .int .i64 0, .int .u32 0] 34)).alloc (.cells #[.int .i64 0, .slice (some ⟨w.heap.size, 0, none⟩) 2 2] 40)).alloc (.cells #[.slice (some ⟨w.heap.size + 1, 0, none⟩) 1 1] 24))
  have HS := Lib.hid ((aw_sl w).mono FnR.mono ((Bel.refl _).alloc (.cells #[.slice (some ⟨w.heap.size + 1, 0, none⟩) 1 1] 24)))
  have KP := Lib.hid (One.new ((w.alloc (.cells #[.int .i64 0, .int .i64 0, .int .i64 0, .int .i64 0, .bool false, .int .i64 0, .int .u32 5, .int .i64 7, .int .i64 0, .int .i64 0, .int .i64 0, .bool false, .int .i64 0, .int .u32 0] 34)).alloc (.cells #[.int .i64 0, .slice (some ⟨w.heap.size, 0, none⟩) 2 2] 40)) 24 (.slice (some ⟨w.heap.size + 1, 0, none⟩) 1 1))
  rw [World.size_alloc, World.size_alloc] at KP
  obtain ⟨v0, hv0⟩ : ∃ v0, Hid (wput 1 0 0 0 false 0 0 11 = (v0, 0)) := ⟨_, Lib.hid rfl⟩
  obtain ⟨v2, hv2⟩ : ∃ v2, Hid ((wput 7 0 0 0 false 0 0 0).1 = v2) := ⟨_, Lib.hid rfl⟩
  have HM : Hid (imgMake awP 10 = ([v0, 5, v2], 0)) := Lib.hid (by rw [aw_make, hv0.out, hv2.out])
  go_enter Try.func7, Try.ntmps7
  go_wp2_with fail
  generalize ((w.alloc (.cells #[.int .i64 0, .int .i64 0, .int .i64 0, .int .i64 0, .bool false, .int .i64 0, .int .u32 5, .int .i64 7, .int .i64 0, .int .i64 0, .int .i64 0, .bool false, .int .i64 0, .int .u32 0] 34)).alloc (.cells #[.int .i64 0, .slice (some ⟨w.heap.size, 0, none⟩) 2 2] 40)).alloc (.cells #[.slice (some ⟨w.heap.size + 1, 0, none⟩) 1 1] 24) = W0 at *
  refine (make_any _ 1 1 awP 10 _ HS.out (Lib.hid rfl) [v0, 5, v2] 0 3 HM (Lib.hid rfl)).mono ?_
  rintro e w1 ⟨A1, c1, rfl, s1, hb1⟩
  have HB1 := Lib.hid (HB0.out.trans hb1)
  have S1 := Lib.hid s1
  have HS1 := Lib.hid (HS.out.mono FnR.mono hb1)
  have KP1 := Lib.hid (KP.out.bel hb1)
  clear s1 hb1
  go_wp2_with fail
  refine (put_at 1 0 0 0 false 0 0 11 v0 0 _ (u32_lit 0 (by decide)) hv0).mono ?_
  rintro e w2 ⟨rfl, hb2⟩
  have HB2 := Lib.hid (HB1.out.trans hb2)
  have HS2 := Lib.hid (HS1.out.mono FnR.mono hb2)
  have q2 := (KP1.out.bel hb2).cell1 rfl
  obtain ⟨b, o, rfl, hc⟩ := (S1.out.mono (IntR.mono _) hb2).int_cell (by simp)
  have d0 := (hc 0 (by simp)).1
  have d1 := (hc 1 (by simp)).1
  rw [Nat.add_zero] at d0
  simp only [List.getD_cons_zero, List.getD_cons_succ] at d0 d1
  clear hc hb2
  go_wp2_with fail
  refine (size_any _ 1 1 awP _ HS2.out (Lib.hid rfl) 3 (Lib.hid aw_size)).mono ?_
  rintro e w3 ⟨rfl, hb3⟩
  go_wp2_with fail
  go_ret
  exact ⟨by first | rfl | simp, HB2.out.trans hb3⟩
end Go.Proofs.Yteopeocgbfdofaa
