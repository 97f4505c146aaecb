/- verify's small steps: word, within. -/
import Derived.Test.YtebdnobgdimdoaaVw1
set_option linter.unusedVariables false
set_option linter.unusedSimpArgs false
namespace Go.Proofs.Ytebdnobgdimdoaa
open Go.RowKit

set_option maxHeartbeats 4000000 in
set_option maxRecDepth 100000 in
theorem wword_any (v : VE) (N : Nat) (W : World) (k : Nat) (safe : Bool) (ins : InsD) (h : Wk v N W k safe ins) (hk : k < ins.length) (s : ShD) (hsk : Hid (sh0 ins[k] = s)) (op fn dst src : Int) (reg : Bool) (off imm : Int) (him : U32 imm) (hm : Hid (mayB op fn dst src reg off imm = true)) (o : Option Bd) (ho : Hid (shWord s ⟨op, fn, dst, src, reg, off, imm⟩ = o)) :
    Calls Try.prog 64 #[.pointer (some ⟨v.g, 0, none⟩), .agg #[.int .i64 op, .int .i64 fn, .int .i64 dst, .int .i64 src, .bool reg, .int .i64 off, .int .u32 imm]] W fun e w' => e = .returned (cV (rB o)) ∧ Wk v N w' k (safe && o.isSome) ins ∧ Fr v N W w' := by
  have hs : shOk s := by
    rw [← hsk.out]
    cases e : ins[k] with
    | none => intro i b hb; cases hb
    | some u => exact h.ok _ (List.getElem_mem hk) u e
  have H := Lib.hid (h.bel ((Bel.refl W).alloc (.cells #[.int .i64 op, .int .i64 fn, .int .i64 dst, .int .i64 src, .bool reg, .int .i64 off, .int .u32 imm] 32)))
  have HB := Lib.hid ((Bel.refl W).alloc (.cells #[.int .i64 op, .int .i64 fn, .int .i64 dst, .int .i64 src, .bool reg, .int .i64 off, .int .u32 imm] 32))
  have B1 := Bk.new W 32 #[.int .i64 op, .int .i64 fn, .int .i64 dst, .int .i64 src, .bool reg, .int .i64 off, .int .u32 imm]
  have hnw := h.nw
  clear h
  go_enter Try.func64, Try.ntmps64
  go_wp2_with fail
  generalize W.alloc (.cells #[.int .i64 op, .int .i64 fn, .int .i64 dst, .int .i64 src, .bool reg, .int .i64 off, .int .u32 imm] 32) = W0 at *
  obtain ⟨gr, hgr⟩ : ∃ gr, W.heap.size = gr := ⟨_, rfl⟩
  rw [hgr] at B1
  simp only [hgr]
  clear hgr
  have SD : Bel W0 W0.drew := (Bel.refl W0).drew
  have P0 := fun (w' : World) (hb : Bel W0 w') => (B1.bel hb).cell 0 (v := .int .i64 op) rfl
  have P1 := fun (w' : World) (hb : Bel W0 w') => (B1.bel hb).cell 1 (v := .int .i64 fn) rfl
  have P2 := fun (w' : World) (hb : Bel W0 w') => (B1.bel hb).cell 2 (v := .int .i64 dst) rfl
  have P3 := fun (w' : World) (hb : Bel W0 w') => (B1.bel hb).cell 3 (v := .int .i64 src) rfl
  have P4 := fun (w' : World) (hb : Bel W0 w') => (B1.bel hb).cell 4 (v := .bool reg) rfl
  have P5 := fun (w' : World) (hb : Bel W0 w') => (B1.bel hb).cell 5 (v := .int .i64 off) rfl
  have P6 := fun (w' : World) (hb : Bel W0 w') => (B1.bel hb).cell 6 (v := .int .u32 imm) rfl
  refine wp_region_T (fun w' => Bel W0 w') (fun _ => false) (by kernel_rfl) ?_
  refine wpAnyU_take (i := 0) (v := ?v0) rfl (by kernel_rfl) (by kernel_rfl) (by kernel_rfl) (by kernel_rfl) (fun _ _ _ h => h) ?hy0 SD ?rest0
  case hy0 => first | (refine Or.inl ⟨by rfl, ?_⟩; (intro w' hSw; go_simp) <;> with_reducible rfl) | (refine Or.inr ⟨by rfl, ?_⟩; with_reducible rfl)
  try simp only [List.getElem_toArray, List.getElem_cons_zero, List.getElem_cons_succ, Act.put, List.setIfInBounds_toArray, List.set_cons_zero, List.set_cons_succ]
  refine wpAnyU_take (i := 2) (v := ?v2) rfl (by kernel_rfl) (by kernel_rfl) (by kernel_rfl) (by kernel_rfl) (fun _ _ _ h => h) ?hy2 SD ?rest2
  case hy2 => first | (refine Or.inl ⟨by rfl, ?_⟩; (intro w' hSw; go_simp) <;> with_reducible rfl) | (refine Or.inr ⟨by rfl, ?_⟩; with_reducible rfl)
  try simp only [List.getElem_toArray, List.getElem_cons_zero, List.getElem_cons_succ, Act.put, List.setIfInBounds_toArray, List.set_cons_zero, List.set_cons_succ]
  refine wpAnyT_one (i := 1) (by kernel_rfl) rfl (fun K hK => ?_)
  go_simp
  go_at_call 68
  refine (here_any v N _ k safe ins (H.out.bel SD) hk s hsk).mono ?_
  rintro en w5 ⟨rfl, hb5⟩
  have S5 : Bel W0 w5 := SD.trans hb5
  dsimp only
  refine hK.out _ _ (fun _ => S5) ?_
  clear hK K
  try simp only [List.getElem_toArray, List.getElem_cons_zero, List.getElem_cons_succ, Act.put, List.setIfInBounds_toArray, List.set_cons_zero, List.set_cons_succ]
  refine wpAnyT_one (i := 3) (by kernel_rfl) rfl (fun K hK => ?_)
  go_simp
  go_at_call 94
  refine (shword_any s hs op fn dst src reg off imm him hm _ o ho).mono ?_
  rintro en w6 ⟨rfl, hb6⟩
  have S6 : Bel W0 w6 := S5.trans hb6
  dsimp only
  refine hK.out _ _ (fun _ => S6) ?_
  clear hK K
  try simp only [List.getElem_toArray, List.getElem_cons_zero, List.getElem_cons_succ, Act.put, List.setIfInBounds_toArray, List.set_cons_zero, List.set_cons_succ]
  refine wpAnyU_take (i := 4) (v := ?v4) rfl (by kernel_rfl) (by kernel_rfl) (by kernel_rfl) (by kernel_rfl) (fun _ _ _ h => h) ?hy4 S6 ?rest4
  case hy4 => first | (refine Or.inl ⟨by rfl, ?_⟩; (intro w' hSw; go_simp) <;> with_reducible rfl) | (refine Or.inr ⟨by rfl, ?_⟩; with_reducible rfl)
  try simp only [List.getElem_toArray, List.getElem_cons_zero, List.getElem_cons_succ, Act.put, List.setIfInBounds_toArray, List.set_cons_zero, List.set_cons_succ]
  refine wpAnyU_take (i := 5) (v := ?v5) rfl (by kernel_rfl) (by kernel_rfl) (by kernel_rfl) (by kernel_rfl) (fun _ _ _ h => h) ?hy5 S6 ?rest5
  case hy5 => first | (refine Or.inl ⟨by rfl, ?_⟩; (intro w' hSw; go_simp) <;> with_reducible rfl) | (refine Or.inr ⟨by rfl, ?_⟩; with_reducible rfl)
  try simp only [List.getElem_toArray, List.getElem_cons_zero, List.getElem_cons_succ, Act.put, List.setIfInBounds_toArray, List.set_cons_zero, List.set_cons_succ]
  refine wpAnyU_take (i := 6) (v := ?v6) rfl (by kernel_rfl) (by kernel_rfl) (by kernel_rfl) (by kernel_rfl) (fun _ _ _ h => h) ?hy6 S6 ?rest6
  case hy6 => first | (refine Or.inl ⟨by rfl, ?_⟩; (intro w' hSw; go_simp) <;> with_reducible rfl) | (refine Or.inr ⟨by rfl, ?_⟩; with_reducible rfl)
  try simp only [List.getElem_toArray, List.getElem_cons_zero, List.getElem_cons_succ, Act.put, List.setIfInBounds_toArray, List.set_cons_zero, List.set_cons_succ]
  refine wpAnyU_take (i := 7) (v := ?v7) rfl (by kernel_rfl) (by kernel_rfl) (by kernel_rfl) (by kernel_rfl) (fun _ _ _ h => h) ?hy7 S6 ?rest7
  case hy7 => first | (refine Or.inl ⟨by rfl, ?_⟩; (intro w' hSw; go_simp) <;> with_reducible rfl) | (refine Or.inr ⟨by rfl, ?_⟩; with_reducible rfl)
  try simp only [List.getElem_toArray, List.getElem_cons_zero, List.getElem_cons_succ, Act.put, List.setIfInBounds_toArray, List.set_cons_zero, List.set_cons_succ]
  refine wpAnyU_take (i := 8) (v := ?v8) rfl (by kernel_rfl) (by kernel_rfl) (by kernel_rfl) (by kernel_rfl) (fun _ _ _ h => h) ?hy8 S6 ?rest8
  case hy8 => first | (refine Or.inl ⟨by rfl, ?_⟩; (intro w' hSw; go_simp) <;> with_reducible rfl) | (refine Or.inr ⟨by rfl, ?_⟩; with_reducible rfl)
  try simp only [List.getElem_toArray, List.getElem_cons_zero, List.getElem_cons_succ, Act.put, List.setIfInBounds_toArray, List.set_cons_zero, List.set_cons_succ]
  refine wpAnyT_done (by kernel_rfl) ?_ _
  refine NoPanic.normal ?_
  have H2 := H.out.bel S6
  have c6 := H2.w.cell 6 (v := .bool safe) rfl
  have f6 := H2.w.frozen 6
  have HW := Lib.hid (H2.safe (safe && o.isSome))
  have HF := Lib.hid ((Fr.bel (HB.out.trans S6) hnw).trans (Fr.set (v := v) (N := N) w6 (p := ⟨v.g, 6, none⟩) (.inl rfl) H2.ng (.bool (safe && o.isSome))))
  clear hb5 hb6 H2 S5 S6 SD P0 P1 P2 P3 P4 P5 P6 B1
  unfold cV
  cases safe
  · simp only [Bool.false_and] at HW HF
    go_wp2_with fail
    go_ret
    exact ⟨rfl, by simpa using HW.out, HF.out⟩
  · simp only [Bool.true_and] at HW HF
    go_wp2_with fail
    go_ret
    exact ⟨rfl, by simpa using HW.out, HF.out⟩
set_option maxHeartbeats 4000000 in
set_option maxRecDepth 100000 in
theorem within_any (v : VE) (N : Nat) (W : World) (k : Nat) (safe : Bool) (ins : InsD) (h : Wk v N W k safe ins) (b : Bd) (hb : bdOk b) (m : Nat) (hm : m ≤ 100) (r : Bool) (hr : Hid (decide (b.2 < m) = r)) :
    Calls Try.prog 71 #[.pointer (some ⟨v.g, 0, none⟩), cV b, .int .i64 m] W fun e w' => e = .returned (.tuple #[]) ∧ Wk v N w' k (safe && r) ins ∧ Fr v N W w' := by
  obtain ⟨lo, hi⟩ := b
  obtain ⟨hb0, hb1⟩ := hb
  simp only at hb0 hb1 hr
  have H := Lib.hid h
  have em : IntKind.u64.wrap (m : Int) = m := by simp [IntKind.wrap, IntKind.bits, IntKind.signed]; omega
  have eh : IntKind.u64.wrap (hi : Int) = hi := by simp [IntKind.wrap, IntKind.bits, IntKind.signed]; omega
  clear h
  unfold cV
  go_enter Try.func71, Try.ntmps71
  go_wp2_with fail
  refine (ends_any lo hi _ hb0 hb1).mono ?_
  rintro e w1 ⟨rfl, hb⟩
  have H2 := H.out.bel hb
  have c6 := H2.w.cell 6 (v := .bool safe) rfl
  have f6 := H2.w.frozen 6
  have HW := Lib.hid (H2.safe (safe && r))
  have HF := Lib.hid ((Fr.bel hb H.out.nw).trans (Fr.set (v := v) (N := N) w1 (p := ⟨v.g, 6, none⟩) (.inl rfl) H2.ng (.bool (safe && r))))
  clear hb H2
  have hrr := hr.out
  cases r
  · have hlt : ¬ hi < m := of_decide_eq_false hrr
    have hlt2 : ¬ (hi : Int) < m := by omega
    clear hrr
    cases safe
    all_goals
      simp only [Bool.false_and, Bool.true_and] at HW HF
      go_wp2_with fail
      go_end0
      exact ⟨rfl, by simpa using HW.out, by simpa using HF.out⟩
  · have hlt : hi < m := of_decide_eq_true hrr
    have hlt2 : (hi : Int) < m := by omega
    clear hrr
    cases safe
    all_goals
      simp only [Bool.false_and, Bool.true_and] at HW HF
      go_wp2_with fail
      go_end0
      exact ⟨rfl, by simpa using HW.out, by simpa using HF.out⟩
end Go.Proofs.Ytebdnobgdimdoaa
