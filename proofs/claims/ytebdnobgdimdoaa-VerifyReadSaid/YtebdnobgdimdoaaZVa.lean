/- The examples of chapter 11. -/
import Derived.Test.YtebdnobgdimdoaaGVs
import Derived.Test.YtebdnobgdimdoaaPg2
set_option linter.unusedVariables false
set_option linter.unusedSimpArgs false
namespace Go.Proofs.Ytebdnobgdimdoaa
open Go.RowKit

def vI0 : InstD := ⟨0, 0, 0, 0, false, 0, 5⟩
def vI1 : InstD := ⟨7, 0, 0, 0, false, 0, 0⟩
def vP2 : List FnD := [⟨0, [vI0, vI1]⟩]
def vP1 : List FnD := [⟨0, [vI1]⟩]
theorem vP2_v : verifyV vP2 [] = (2, 0) := by decide +kernel
theorem vP1_v : verifyV vP1 [] = (0, 8) := by decide +kernel
theorem vI0_wf : vI0.Wf := ⟨by constructor <;> decide, by constructor <;> decide, by constructor <;> decide, by constructor <;> decide, by constructor <;> decide, by constructor <;> decide⟩
theorem vI1_wf : vI1.Wf := ⟨by constructor <;> decide, by constructor <;> decide, by constructor <;> decide, by constructor <;> decide, by constructor <;> decide, by constructor <;> decide⟩
theorem steps_of {p : List FnD} {ls : List SchD} {fn : Nat} (h : ∀ k ins s, vUpto p fn ls ((p.map FnD.code).getD fn []) ((p.map FnD.args).getD fn 0).toNat k = some ins → k < ((p.map FnD.code).getD fn []).length → ins.getD k none = some s → StepOk (((p.map FnD.code).getD fn [])[k]!).op) : StepsFor p ls fn := fun _ k ins s h1 h2 h3 => h k ins s h1 h2 h3
theorem vP2_s (fn : Nat) (h : fn < max 1 vP2.length) : StepsFor vP2 [] fn := by
  obtain rfl : fn = 0 := by have : vP2.length = 1 := rfl; omega
  refine steps_of (fun k ins s _ hk _ => ?_)
  have hk2 : k < 2 := hk
  match k, hk2 with
  | 0, _ => exact step_alu
  | 1, _ => exact step_exit
theorem vP1_s (fn : Nat) (h : fn < max 1 vP1.length) : StepsFor vP1 [] fn := by
  obtain rfl : fn = 0 := by have : vP1.length = 1 := rfl; omega
  refine steps_of (fun k ins s _ hk _ => ?_)
  have hk2 : k < 1 := hk
  match k, hk2 with
  | 0, _ => exact step_exit
theorem vi2 (w : World) : Sl InstR 7 (w.alloc (.cells #[.int .i64 0, .int .i64 0, .int .i64 0, .int .i64 0, .bool false, .int .i64 0, .int .u32 5, .int .i64 7, .int .i64 0, .int .i64 0, .int .i64 0, .bool false, .int .i64 0, .int .u32 0] 32)) (some ⟨w.heap.size, 0, none⟩) 2 [vI0, vI1] := by
  refine ⟨Nat.le_refl _, (by decide : 2 ≤ maxLen), fun i hi => ?_⟩
  have hi2 : i < 2 := hi
  by_cases h0 : i = 0
  · subst h0
    refine ⟨w.heap.size, 0, vI0.cells, rfl, rfl, ⟨rfl, vI0_wf⟩, fun j v hv => ?_⟩
    have hj : j < 7 := (List.getElem?_eq_some_iff.1 hv).1
    rw [show 0 + 0 * 7 + j = j by omega]
    refine cell_fresh w _ _ j v ?_
    match j, hj with
    | 0, _ => exact hv
    | 1, _ => exact hv
    | 2, _ => exact hv
    | 3, _ => exact hv
    | 4, _ => exact hv
    | 5, _ => exact hv
    | 6, _ => exact hv
  · obtain rfl : i = 1 := by omega
    refine ⟨w.heap.size, 0, vI1.cells, rfl, rfl, ⟨rfl, vI1_wf⟩, fun j v hv => ?_⟩
    have hj : j < 7 := (List.getElem?_eq_some_iff.1 hv).1
    rw [show 0 + 1 * 7 + j = 7 + j by omega]
    refine cell_fresh w _ _ (7 + j) v ?_
    match j, hj with
    | 0, _ => exact hv
    | 1, _ => exact hv
    | 2, _ => exact hv
    | 3, _ => exact hv
    | 4, _ => exact hv
    | 5, _ => exact hv
    | 6, _ => exact hv
theorem vi1 (w : World) : Sl InstR 7 (w.alloc (.cells #[.int .i64 7, .int .i64 0, .int .i64 0, .int .i64 0, .bool false, .int .i64 0, .int .u32 0] 32)) (some ⟨w.heap.size, 0, none⟩) 1 [vI1] := by
  refine ⟨Nat.le_refl _, (by decide : 1 ≤ maxLen), fun i hi => ?_⟩
  have hi2 : i < 1 := hi
  · obtain rfl : i = 0 := by omega
    refine ⟨w.heap.size, 0, vI1.cells, rfl, rfl, ⟨rfl, vI1_wf⟩, fun j v hv => ?_⟩
    have hj : j < 7 := (List.getElem?_eq_some_iff.1 hv).1
    rw [show 0 + 0 * 7 + j = j by omega]
    refine cell_fresh w _ _ j v ?_
    match j, hj with
    | 0, _ => exact hv
    | 1, _ => exact hv
    | 2, _ => exact hv
    | 3, _ => exact hv
    | 4, _ => exact hv
    | 5, _ => exact hv
    | 6, _ => exact hv
theorem vp2 (w : World) : Sl FnR 2 ((w.alloc (.cells #[.int .i64 0, .int .i64 0, .int .i64 0, .int .i64 0, .bool false, .int .i64 0, .int .u32 5, .int .i64 7, .int .i64 0, .int .i64 0, .int .i64 0, .bool false, .int .i64 0, .int .u32 0] 32)).alloc (.cells #[.int .i64 0, .slice (some ⟨w.heap.size, 0, none⟩) 2 2] 34)) (some ⟨w.heap.size + 1, 0, none⟩) 1 vP2 := by
  have hs := vi2 w
  have hz : w.heap.size + 1 = (w.alloc (.cells #[.int .i64 0, .int .i64 0, .int .i64 0, .int .i64 0, .bool false, .int .i64 0, .int .u32 5, .int .i64 7, .int .i64 0, .int .i64 0, .int .i64 0, .bool false, .int .i64 0, .int .u32 0] 32)).heap.size := by simp
  rw [hz]
  exact ⟨Nat.le_refl _, (by decide : 1 ≤ maxLen), fun i hi => by
    obtain rfl : i = 0 := by simpa [vP2] using hi
    refine ⟨_, 0, [.int .i64 0, .slice (some ⟨w.heap.size, 0, none⟩) 2 2], rfl, rfl, ⟨_, 2, rfl, hs.mono InstR.mono ((Bel.refl _).alloc _), (by decide : (Lit.int .i64 0).wf = true)⟩, fun j v hv => ?_⟩
    rw [show 0 + 0 * 2 + j = j by omega]
    exact cell_fresh _ _ _ j v (by simpa using hv)⟩
theorem vp1 (w : World) : Sl FnR 2 ((w.alloc (.cells #[.int .i64 7, .int .i64 0, .int .i64 0, .int .i64 0, .bool false, .int .i64 0, .int .u32 0] 32)).alloc (.cells #[.int .i64 0, .slice (some ⟨w.heap.size, 0, none⟩) 1 1] 34)) (some ⟨w.heap.size + 1, 0, none⟩) 1 vP1 := by
  have hs := vi1 w
  have hz : w.heap.size + 1 = (w.alloc (.cells #[.int .i64 7, .int .i64 0, .int .i64 0, .int .i64 0, .bool false, .int .i64 0, .int .u32 0] 32)).heap.size := by simp
  rw [hz]
  exact ⟨Nat.le_refl _, (by decide : 1 ≤ maxLen), fun i hi => by
    obtain rfl : i = 0 := by simpa [vP1] using hi
    refine ⟨_, 0, [.int .i64 0, .slice (some ⟨w.heap.size, 0, none⟩) 1 1], rfl, rfl, ⟨_, 1, rfl, hs.mono InstR.mono ((Bel.refl _).alloc _), (by decide : (Lit.int .i64 0).wf = true)⟩, fun j v hv => ?_⟩
    rw [show 0 + 0 * 2 + j = j by omega]
    exact cell_fresh _ _ _ j v (by simpa using hv)⟩
set_option maxHeartbeats 4000000 in
set_option maxRecDepth 100000 in
theorem awake11 (w : World) : Calls Try.prog 6 #[] w fun e w' => e = .returned (.bool true) ∧ Bel w w' := by
  have KE := Bk.new w 32 #[.int .i64 7, .int .i64 0, .int .i64 0, .int .i64 0, .bool false, .int .i64 0, .int .u32 0]
  have HB0 := Lib.hid ((Bel.refl w).alloc (.cells #[.int .i64 7, .int .i64 0, .int .i64 0, .int .i64 0, .bool false, .int .i64 0, .int .u32 0] 32))
  have e0 := KE.cell 0 (v := .int .i64 7) rfl
  have e1 := KE.cell 1 (v := .int .i64 0) rfl
  have e2 := KE.cell 2 (v := .int .i64 0) rfl
  have e3 := KE.cell 3 (v := .int .i64 0) rfl
  have e4 := KE.cell 4 (v := .bool false) rfl
  have e5 := KE.cell 5 (v := .int .i64 0) rfl
  have e6 := KE.cell 6 (v := .int .u32 0) rfl
  go_enter Try.func6, Try.ntmps6
  go_wp2_with fail
  have KE := Lib.hid KE
  have hW1 : (w.alloc (.cells #[.int .i64 7, .int .i64 0, .int .i64 0, .int .i64 0, .bool false, .int .i64 0, .int .u32 0] 32)).heap.size = w.heap.size + 1 := by simp
  generalize w.alloc (.cells #[.int .i64 7, .int .i64 0, .int .i64 0, .int .i64 0, .bool false, .int .i64 0, .int .u32 0] 32) = W1 at *
  obtain ⟨g, hg⟩ : ∃ g, w.heap.size = g := ⟨_, rfl⟩
  rw [hg] at KE hW1
  simp only [hg]
  clear hg e0 e1 e2 e3 e4 e5 e6
  have HS := vp2 W1
  rw [hW1] at HS
  have hB := ((Bel.refl W1).alloc (.cells #[.int .i64 0, .int .i64 0, .int .i64 0, .int .i64 0, .bool false, .int .i64 0, .int .u32 5, .int .i64 7, .int .i64 0, .int .i64 0, .int .i64 0, .bool false, .int .i64 0, .int .u32 0] 32)).alloc (.cells #[.int .i64 0, .slice (some ⟨g + 1, 0, none⟩) 2 2] 34)
  clear hW1
  refine (verify_any _ 1 1 vP2 none 0 0 [] _ (Lib.hid HS) (Lib.hid rfl) (Lib.hid (Sl.nil _ _ _)) (Lib.hid rfl) 2 0 (Lib.hid vP2_v) (Lib.hid (fun fn h _ => vP2_s fn h))).mono ?_
  rintro e W2 ⟨rfl, hb⟩
  have HB2 := Lib.hid (HB0.out.trans (hB.trans hb))
  have KE2 := Lib.hid (KE.out.bel (hB.trans hb))
  clear HS hB hb
  have e0 := KE2.out.cell 0 (v := .int .i64 7) rfl
  have e1 := KE2.out.cell 1 (v := .int .i64 0) rfl
  have e2 := KE2.out.cell 2 (v := .int .i64 0) rfl
  have e3 := KE2.out.cell 3 (v := .int .i64 0) rfl
  have e4 := KE2.out.cell 4 (v := .bool false) rfl
  have e5 := KE2.out.cell 5 (v := .int .i64 0) rfl
  have e6 := KE2.out.cell 6 (v := .int .u32 0) rfl
  go_wp2_with fail
  clear e0 e1 e2 e3 e4 e5 e6
  have HS := vp1 W2
  have hB := ((Bel.refl W2).alloc (.cells #[.int .i64 7, .int .i64 0, .int .i64 0, .int .i64 0, .bool false, .int .i64 0, .int .u32 0] 32)).alloc (.cells #[.int .i64 0, .slice (some ⟨W2.heap.size, 0, none⟩) 1 1] 34)
  refine (verify_any _ 1 1 vP1 none 0 0 [] _ (Lib.hid HS) (Lib.hid rfl) (Lib.hid (Sl.nil _ _ _)) (Lib.hid rfl) 0 8 (Lib.hid vP1_v) (Lib.hid (fun fn h _ => vP1_s fn h))).mono ?_
  rintro e W3 ⟨rfl, hb⟩
  have HB3 := Lib.hid (HB2.out.trans (hB.trans hb))
  clear HS hB hb
  go_wp2_with fail
  go_ret
  exact ⟨by first | rfl | simp, HB3.out⟩
end Go.Proofs.Ytebdnobgdimdoaa
