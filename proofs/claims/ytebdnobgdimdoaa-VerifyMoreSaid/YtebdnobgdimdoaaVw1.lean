/- verify's small steps: here, get. -/
import Derived.Test.YtebdnobgdimdoaaVw0
set_option linter.unusedVariables false
set_option linter.unusedSimpArgs false
namespace Go.Proofs.Ytebdnobgdimdoaa
open Go.RowKit

set_option maxHeartbeats 4000000 in
set_option maxRecDepth 100000 in
theorem here_any (v : VE) (N : Nat) (W : World) (k : Nat) (safe : Bool) (ins : InsD) (h : Wk v N W k safe ins) (hk : k < ins.length) (s : ShD) (hsk : Hid (sh0 ins[k] = s)) :
    Calls Try.prog 68 #[.pointer (some ⟨v.g, 0, none⟩)] W fun e w' => e = .returned (.agg (shC s)) ∧ Bel W w' := by
  have H := h.bel ((Bel.refl W).alloc (.cells (shC (fun _ => none)) 68))
  have B1 := Bk.new W 68 (shC (fun _ => none))
  have HB := (Bel.refl W).alloc (.cells (shC (fun _ => none)) 68)
  have hz := shC_zero
  have hk2 : (k : Int) < v.len := by have := h.len; omega
  have k0 : 0 ≤ (k : Int) := by omega
  have hgw := h.w.lt
  have KL := Lib.hid hk
  clear h
  go_enter Try.func68, Try.ntmps68
  go_wp2_with fail
  rw [← hz]
  clear hz
  generalize W.alloc (.cells (shC (fun _ => none)) 68) = W0 at *
  obtain ⟨gr, hgr⟩ : ∃ gr, W.heap.size = gr := ⟨_, rfl⟩
  have hwg : W.heap.size ≤ gr := by omega
  rw [hgr] at B1 hgw
  simp only [hgr]
  clear hgr
  have SD : Bel W0 W0.drew := (Bel.refl W0).drew
  have L0 := fun (w' : World) (hb : Bel W0 w') => (H.bel hb).load hk
  rw [hsk.out] at L0
  have M3 := fun (w' : World) (hb : Bel W0 w') => (H.bel hb).w.cell 3 (v := .slice (some ⟨v.Bi, 0, none⟩) v.len v.len) rfl
  have M5 := fun (w' : World) (hb : Bel W0 w') => (H.bel hb).w.cell 5 (v := .int .i64 k) rfl
  have b1 := B1.bel SD
  have HST := b1.store (shC_size _) s
  have HR := (b1.row (shC s)).load
  have HFIN := Lib.hid ((HB.trans SD).row (g := gr) (by omega) (shC s))
  refine wp_region_T (fun w' => Bel W0 w') (fun j => j == 10) (by kernel_rfl) ?_
  refine wpAnyU_take (i := 0) (v := ?v0) rfl (by kernel_rfl) (by kernel_rfl) (by kernel_rfl) (by kernel_rfl) (fun _ _ _ h => h) ?hy0 SD ?rest0
  case hy0 => first | (refine Or.inl ⟨by rfl, ?_⟩; (intro w' hSw; go_simp) <;> with_reducible rfl) | (refine Or.inr ⟨by rfl, ?_⟩; with_reducible rfl)
  try simp only [List.getElem_toArray, List.getElem_cons_zero, List.getElem_cons_succ, Act.put, List.setIfInBounds_toArray, List.set_cons_zero, List.set_cons_succ]
  refine wpAnyU_take (i := 1) (v := ?v1) rfl (by kernel_rfl) (by kernel_rfl) (by kernel_rfl) (by kernel_rfl) (fun _ _ _ h => h) ?hy1 SD ?rest1
  case hy1 => first | (refine Or.inl ⟨by rfl, ?_⟩; (intro w' hSw; go_simp) <;> with_reducible rfl) | (refine Or.inr ⟨by rfl, ?_⟩; with_reducible rfl)
  try simp only [List.getElem_toArray, List.getElem_cons_zero, List.getElem_cons_succ, Act.put, List.setIfInBounds_toArray, List.set_cons_zero, List.set_cons_succ]
  refine wpAnyU_take (i := 2) (v := ?v2) rfl (by kernel_rfl) (by kernel_rfl) (by kernel_rfl) (by kernel_rfl) (fun _ _ _ h => h) ?hy2 SD ?rest2
  case hy2 => first | (refine Or.inl ⟨by rfl, ?_⟩; (intro w' hSw; go_simp) <;> with_reducible rfl) | (refine Or.inr ⟨by rfl, ?_⟩; with_reducible rfl)
  try simp only [List.getElem_toArray, List.getElem_cons_zero, List.getElem_cons_succ, Act.put, List.setIfInBounds_toArray, List.set_cons_zero, List.set_cons_succ]
  refine wpAnyU_take (i := 3) (v := ?v3) rfl (by kernel_rfl) (by kernel_rfl) (by kernel_rfl) (by kernel_rfl) (fun _ _ _ h => h) ?hy3 SD ?rest3
  case hy3 => first | (refine Or.inl ⟨by rfl, ?_⟩; (intro w' hSw; go_simp) <;> with_reducible rfl) | (refine Or.inr ⟨by rfl, ?_⟩; with_reducible rfl)
  try simp only [List.getElem_toArray, List.getElem_cons_zero, List.getElem_cons_succ, Act.put, List.setIfInBounds_toArray, List.set_cons_zero, List.set_cons_succ]
  refine wpAnyU_take (i := 4) (v := ?v4) rfl (by kernel_rfl) (by kernel_rfl) (by kernel_rfl) (by kernel_rfl) (fun _ _ _ h => h) ?hy4 SD ?rest4
  case hy4 => first | (refine Or.inl ⟨by rfl, ?_⟩; (intro w' hSw; go_simp) <;> with_reducible rfl) | (refine Or.inr ⟨by rfl, ?_⟩; with_reducible rfl)
  try simp only [List.getElem_toArray, List.getElem_cons_zero, List.getElem_cons_succ, Act.put, List.setIfInBounds_toArray, List.set_cons_zero, List.set_cons_succ]
  refine wpAnyU_take (i := 5) (v := ?v5) rfl (by kernel_rfl) (by kernel_rfl) (by kernel_rfl) (by kernel_rfl) (fun _ _ _ h => h) ?hy5 SD ?rest5
  case hy5 => first | (refine Or.inl ⟨by rfl, ?_⟩; (intro w' hSw; go_simp) <;> with_reducible rfl) | (refine Or.inr ⟨by rfl, ?_⟩; with_reducible rfl)
  try simp only [List.getElem_toArray, List.getElem_cons_zero, List.getElem_cons_succ, Act.put, List.setIfInBounds_toArray, List.set_cons_zero, List.set_cons_succ]
  refine wpAnyU_take (i := 6) (v := ?v6) rfl (by kernel_rfl) (by kernel_rfl) (by kernel_rfl) (by kernel_rfl) (fun _ _ _ h => h) ?hy6 SD ?rest6
  case hy6 => first | (refine Or.inl ⟨by rfl, ?_⟩; (intro w' hSw; go_simp) <;> with_reducible rfl) | (refine Or.inr ⟨by rfl, ?_⟩; with_reducible rfl)
  try simp only [List.getElem_toArray, List.getElem_cons_zero, List.getElem_cons_succ, Act.put, List.setIfInBounds_toArray, List.set_cons_zero, List.set_cons_succ]
  refine wpAnyU_take (i := 7) (v := ?v7) rfl (by kernel_rfl) (by kernel_rfl) (by kernel_rfl) (by kernel_rfl) (fun _ _ _ h => h) ?hy7 SD ?rest7
  case hy7 => first | (refine Or.inl ⟨by rfl, ?_⟩; (intro w' hSw; go_simp) <;> with_reducible rfl) | (refine Or.inr ⟨by rfl, ?_⟩; with_reducible rfl)
  try simp only [List.getElem_toArray, List.getElem_cons_zero, List.getElem_cons_succ, Act.put, List.setIfInBounds_toArray, List.set_cons_zero, List.set_cons_succ]
  refine wpAnyU_take (i := 8) (v := ?v8) rfl (by kernel_rfl) (by kernel_rfl) (by kernel_rfl) (by kernel_rfl) (fun _ _ _ h => h) ?hy8 SD ?rest8
  case hy8 => first | (refine Or.inl ⟨by rfl, ?_⟩; (intro w' hSw; go_simp) <;> with_reducible rfl) | (refine Or.inr ⟨by rfl, ?_⟩; with_reducible rfl)
  try simp only [List.getElem_toArray, List.getElem_cons_zero, List.getElem_cons_succ, Act.put, List.setIfInBounds_toArray, List.set_cons_zero, List.set_cons_succ]
  refine wpAnyU_take (i := 9) rfl (by kernel_rfl) (by kernel_rfl) (by kernel_rfl) (by kernel_rfl) (fun _ _ _ h => h) (yields_loadV (by rfl) rfl (by rfl) L0) SD ?rest9
  try simp only [List.getElem_toArray, List.getElem_cons_zero, List.getElem_cons_succ, Act.put, List.setIfInBounds_toArray, List.set_cons_zero, List.set_cons_succ]
  refine wpAnyT_one (i := 10) (by kernel_rfl) rfl (fun K hK => ?_)
  refine wpT_storeV rfl rfl (by rfl) (by rfl) HST ?_
  refine hK.out _ _ (fun h => absurd h (by decide)) ?_
  clear hK K
  try simp only [List.getElem_toArray, List.getElem_cons_zero, List.getElem_cons_succ, Act.put, List.setIfInBounds_toArray, List.set_cons_zero, List.set_cons_succ]
  refine wpAnyT_done (by kernel_rfl) ?_ _
  refine NoPanic.normal ?_
  go_wp2_with fail
  refine bodyPost_ret (v := .agg (shC s)) ?_ rfl ⟨rfl, HFIN.out⟩
  have hr : (Try.f68).results = #[.cell 2 68] := by rfl
  simp only [results, hr]
  simp [Act.put, asAddr, Result.andThen, HR]
set_option maxHeartbeats 4000000 in
set_option maxRecDepth 100000 in
theorem wget_any (v : VE) (N : Nat) (W : World) (k : Nat) (safe : Bool) (ins : InsD) (h : Wk v N W k safe ins) (hk : k < ins.length) (s : ShD) (hsk : Hid (sh0 ins[k] = s)) (n : Int) (o : Option Bd) (ho : Hid (shGet s n = o)) :
    Calls Try.prog 65 #[.pointer (some ⟨v.g, 0, none⟩), .int .i64 n] W fun e w' => e = .returned (cV (rB o)) ∧ Wk v N w' k (safe && o.isSome) ins ∧ Fr v N W w' := by
  have hs : shOk s := by
    rw [← hsk.out]
    cases e : ins[k] with
    | none => intro i b hb; cases hb
    | some u => exact h.ok _ (List.getElem_mem hk) u e
  have H := Lib.hid h
  clear h
  go_enter Try.func65, Try.ntmps65
  go_wp2_with fail
  refine (here_any v N W k safe ins H.out hk s hsk).mono ?_
  rintro e w1 ⟨rfl, hb1⟩
  go_wp2_with fail
  refine (shget_any s hs n _ o ho).mono ?_
  rintro e w2 ⟨rfl, hb2⟩
  have hb := hb1.trans hb2
  have H2 := H.out.bel hb
  have c6 := H2.w.cell 6 (v := .bool safe) rfl
  have f6 := H2.w.frozen 6
  have HW := Lib.hid (H2.safe (safe && o.isSome))
  have HF := Lib.hid ((Fr.bel hb H.out.nw).trans (Fr.set (v := v) (N := N) w2 (p := ⟨v.g, 6, none⟩) (.inl rfl) H2.ng (.bool (safe && o.isSome))))
  clear hb hb1 hb2 H2
  unfold cV
  cases safe
  · simp only [Bool.false_and] at HW HF
    go_wp2_with fail
    go_ret
    exact ⟨rfl, by simpa using HW.out, HF.out⟩
  · simp only [Bool.true_and] at HW HF
    go_wp2_with fail
    go_ret
    exact ⟨rfl, by simpa using HW.out, HF.out⟩
end Go.Proofs.Ytebdnobgdimdoaa
