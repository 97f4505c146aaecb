/- verify's small steps: to, then, put. -/
import Derived.Test.YtebdnobgdimdoaaVw2
set_option linter.unusedVariables false
set_option linter.unusedSimpArgs false
namespace Go.Proofs.Ytebdnobgdimdoaa
open Go.RowKit

set_option maxHeartbeats 4000000 in
set_option maxRecDepth 100000 in
theorem wto_any (v : VE) (N : Nat) (W : World) (k : Nat) (safe : Bool) (ins : InsD) (h : Wk v N W k safe ins) (j : Nat) (s : ShD) (hs : shOk s) (r : Option InsD) (hr : Hid (vTo ins j s = r)) :
    Calls Try.prog 23 #[.pointer (some ⟨v.g, 0, none⟩), .int .i64 j, .agg (shC s)] W fun e w' => e = .returned (.tuple #[]) ∧ Wk v N w' k (safe && r.isSome) (r.getD ins) ∧ Fr v N W w' := by
  have H := h.bel ((Bel.refl W).alloc (.cells (shC s) 68))
  have HB := (Bel.refl W).alloc (.cells (shC s) 68)
  have B1 := Bk.new W 68 (shC s)
  have hnw := h.nw
  have hgr := h.w.lt
  have hir := h.i.lt
  have hsr := h.s.lt
  have hlen := h.len
  have H0 := Lib.hid h
  clear h
  have hre := hr.out
  unfold vTo at hre
  have c3 := H.w.cell 3 (v := .slice (some ⟨v.Bi, 0, none⟩) v.len v.len) rfl
  have c4 := H.w.cell 4 (v := .slice (some ⟨v.Bs, 0, none⟩) v.len v.len) rfl
  have c6 := H.w.cell 6 (v := .bool safe) rfl
  have f6 := H.w.frozen 6
  have j0 : 0 ≤ (j : Int) := by omega
  by_cases hj : j < ins.length
  · have hj2 : (j : Int) < v.len := by omega
    rw [dif_pos hj] at hre
    have c7 : (W.alloc (.cells (shC s) 68)).cell? ⟨v.Bs, j, none⟩ = some (.bool ins[j].isSome) := H.s.cell j (insB_get ins hj)
    obtain ⟨q, hq⟩ : ∃ q, ins[j] = q := ⟨_, rfl⟩
    cases q with
    | some t =>
      have ht : shOk t := H.ok _ (List.getElem_mem hj) t hq
      have hjt : ins[j].isSome = true := by rw [hq]; rfl
      rw [hjt] at c7
      rw [hq] at hre
      simp only at hre
      subst hre
      go_enter Try.func23, Try.ntmps23
      go_wp2_with fail
      generalize W.alloc (.cells (shC s) 68) = W0 at *
      obtain ⟨gr, hgg⟩ : ∃ gr, W.heap.size = gr := ⟨_, rfl⟩
      rw [hgg] at B1 hgr hir hsr
      simp only [hgg]
      clear hgg
      have SD : Bel W0 W0.drew := (Bel.refl W0).drew
      have M3 := fun (w' : World) (hb : Bel W0 w') => hb.cell c3
      have L1 := fun (w' : World) (hb : Bel W0 w') => (H.bel hb).load hj
      rw [hq] at L1
      have L2 := fun (w' : World) (hb : Bel W0 w') => (B1.bel hb).load
      clear c3 c4 c6 c7 f6
      refine wp_region_T (fun w' => Bel W0 w') (fun i => i == 15) (by kernel_rfl) ?_
      refine wpAnyU_take (i := 0) (v := ?v0a) rfl (by kernel_rfl) (by kernel_rfl) (by kernel_rfl) (by kernel_rfl) (fun _ _ _ h => h) ?hy0a SD ?rest0a
      case hy0a => first | (refine Or.inl ⟨by rfl, ?_⟩; (intro w' hSw; go_simp) <;> with_reducible rfl) | (refine Or.inr ⟨by rfl, ?_⟩; with_reducible rfl)
      try simp only [List.getElem_toArray, List.getElem_cons_zero, List.getElem_cons_succ, Act.put, List.setIfInBounds_toArray, List.set_cons_zero, List.set_cons_succ]
      refine wpAnyU_take (i := 1) (v := ?v1a) rfl (by kernel_rfl) (by kernel_rfl) (by kernel_rfl) (by kernel_rfl) (fun _ _ _ h => h) ?hy1a SD ?rest1a
      case hy1a => first | (refine Or.inl ⟨by rfl, ?_⟩; (intro w' hSw; go_simp) <;> with_reducible rfl) | (refine Or.inr ⟨by rfl, ?_⟩; with_reducible rfl)
      try simp only [List.getElem_toArray, List.getElem_cons_zero, List.getElem_cons_succ, Act.put, List.setIfInBounds_toArray, List.set_cons_zero, List.set_cons_succ]
      refine wpAnyU_take (i := 2) (v := ?v2a) rfl (by kernel_rfl) (by kernel_rfl) (by kernel_rfl) (by kernel_rfl) (fun _ _ _ h => h) ?hy2a SD ?rest2a
      case hy2a => first | (refine Or.inl ⟨by rfl, ?_⟩; (intro w' hSw; go_simp) <;> with_reducible rfl) | (refine Or.inr ⟨by rfl, ?_⟩; with_reducible rfl)
      try simp only [List.getElem_toArray, List.getElem_cons_zero, List.getElem_cons_succ, Act.put, List.setIfInBounds_toArray, List.set_cons_zero, List.set_cons_succ]
      refine wpAnyU_take (i := 3) (v := ?v3a) rfl (by kernel_rfl) (by kernel_rfl) (by kernel_rfl) (by kernel_rfl) (fun _ _ _ h => h) ?hy3a SD ?rest3a
      case hy3a => first | (refine Or.inl ⟨by rfl, ?_⟩; (intro w' hSw; go_simp) <;> with_reducible rfl) | (refine Or.inr ⟨by rfl, ?_⟩; with_reducible rfl)
      try simp only [List.getElem_toArray, List.getElem_cons_zero, List.getElem_cons_succ, Act.put, List.setIfInBounds_toArray, List.set_cons_zero, List.set_cons_succ]
      refine wpAnyU_take (i := 4) (v := ?v4a) rfl (by kernel_rfl) (by kernel_rfl) (by kernel_rfl) (by kernel_rfl) (fun _ _ _ h => h) ?hy4a SD ?rest4a
      case hy4a => first | (refine Or.inl ⟨by rfl, ?_⟩; (intro w' hSw; go_simp) <;> with_reducible rfl) | (refine Or.inr ⟨by rfl, ?_⟩; with_reducible rfl)
      try simp only [List.getElem_toArray, List.getElem_cons_zero, List.getElem_cons_succ, Act.put, List.setIfInBounds_toArray, List.set_cons_zero, List.set_cons_succ]
      refine wpAnyU_take (i := 5) (v := ?v5a) rfl (by kernel_rfl) (by kernel_rfl) (by kernel_rfl) (by kernel_rfl) (fun _ _ _ h => h) ?hy5a SD ?rest5a
      case hy5a => first | (refine Or.inl ⟨by rfl, ?_⟩; (intro w' hSw; go_simp) <;> with_reducible rfl) | (refine Or.inr ⟨by rfl, ?_⟩; with_reducible rfl)
      try simp only [List.getElem_toArray, List.getElem_cons_zero, List.getElem_cons_succ, Act.put, List.setIfInBounds_toArray, List.set_cons_zero, List.set_cons_succ]
      refine wpAnyU_take (i := 6) (v := ?v6a) rfl (by kernel_rfl) (by kernel_rfl) (by kernel_rfl) (by kernel_rfl) (fun _ _ _ h => h) ?hy6a SD ?rest6a
      case hy6a => first | (refine Or.inl ⟨by rfl, ?_⟩; (intro w' hSw; go_simp) <;> with_reducible rfl) | (refine Or.inr ⟨by rfl, ?_⟩; with_reducible rfl)
      try simp only [List.getElem_toArray, List.getElem_cons_zero, List.getElem_cons_succ, Act.put, List.setIfInBounds_toArray, List.set_cons_zero, List.set_cons_succ]
      refine wpAnyU_take (i := 7) (v := ?v7a) rfl (by kernel_rfl) (by kernel_rfl) (by kernel_rfl) (by kernel_rfl) (fun _ _ _ h => h) ?hy7a SD ?rest7a
      case hy7a => first | (refine Or.inl ⟨by rfl, ?_⟩; (intro w' hSw; go_simp) <;> with_reducible rfl) | (refine Or.inr ⟨by rfl, ?_⟩; with_reducible rfl)
      try simp only [List.getElem_toArray, List.getElem_cons_zero, List.getElem_cons_succ, Act.put, List.setIfInBounds_toArray, List.set_cons_zero, List.set_cons_succ]
      refine wpAnyU_take (i := 8) (v := ?v8a) rfl (by kernel_rfl) (by kernel_rfl) (by kernel_rfl) (by kernel_rfl) (fun _ _ _ h => h) ?hy8a SD ?rest8a
      case hy8a => first | (refine Or.inl ⟨by rfl, ?_⟩; (intro w' hSw; go_simp) <;> with_reducible rfl) | (refine Or.inr ⟨by rfl, ?_⟩; with_reducible rfl)
      try simp only [List.getElem_toArray, List.getElem_cons_zero, List.getElem_cons_succ, Act.put, List.setIfInBounds_toArray, List.set_cons_zero, List.set_cons_succ]
      refine wpAnyU_take (i := 9) (v := ?v9a) rfl (by kernel_rfl) (by kernel_rfl) (by kernel_rfl) (by kernel_rfl) (fun _ _ _ h => h) ?hy9a SD ?rest9a
      case hy9a => first | (refine Or.inl ⟨by rfl, ?_⟩; (intro w' hSw; go_simp) <;> with_reducible rfl) | (refine Or.inr ⟨by rfl, ?_⟩; with_reducible rfl)
      try simp only [List.getElem_toArray, List.getElem_cons_zero, List.getElem_cons_succ, Act.put, List.setIfInBounds_toArray, List.set_cons_zero, List.set_cons_succ]
      refine wpAnyU_take (i := 10) (v := ?v10a) rfl (by kernel_rfl) (by kernel_rfl) (by kernel_rfl) (by kernel_rfl) (fun _ _ _ h => h) ?hy10a SD ?rest10a
      case hy10a => first | (refine Or.inl ⟨by rfl, ?_⟩; (intro w' hSw; go_simp) <;> with_reducible rfl) | (refine Or.inr ⟨by rfl, ?_⟩; with_reducible rfl)
      try simp only [List.getElem_toArray, List.getElem_cons_zero, List.getElem_cons_succ, Act.put, List.setIfInBounds_toArray, List.set_cons_zero, List.set_cons_succ]
      refine wpAnyU_take (i := 11) rfl (by kernel_rfl) (by kernel_rfl) (by kernel_rfl) (by kernel_rfl) (fun _ _ _ h => h) (yields_loadV (by rfl) rfl (by rfl) L1) SD ?rest11a
      try simp only [List.getElem_toArray, List.getElem_cons_zero, List.getElem_cons_succ, Act.put, List.setIfInBounds_toArray, List.set_cons_zero, List.set_cons_succ]
      refine wpAnyU_take (i := 12) rfl (by kernel_rfl) (by kernel_rfl) (by kernel_rfl) (by kernel_rfl) (fun _ _ _ h => h) (yields_loadV (by rfl) rfl (by rfl) L2) SD ?rest12a
      try simp only [List.getElem_toArray, List.getElem_cons_zero, List.getElem_cons_succ, Act.put, List.setIfInBounds_toArray, List.set_cons_zero, List.set_cons_succ]
      refine wpAnyT_one (i := 13) (by kernel_rfl) rfl (fun K hK => ?_)
      go_simp
      go_at_call 40
      refine (shjoin_any t s ht hs _).mono ?_
      rintro en w5 ⟨rfl, hb5⟩
      have S5 : Bel W0 w5 := SD.trans hb5
      have H5 := H.bel S5
      have HST := H5.store hj (shJoin t s)
      have HW := Lib.hid (H5.known hj (shJoin_ok ht hs) hjt)
      have HF := Lib.hid ((Fr.bel (HB.trans S5) hnw).trans (Fr.cells (v := v) (N := N) w5 H5.ni (j * 16) (shC (shJoin t s)).toList))
      dsimp only
      refine hK.out _ _ (fun _ => S5) ?_
      clear hK K
      try simp only [List.getElem_toArray, List.getElem_cons_zero, List.getElem_cons_succ, Act.put, List.setIfInBounds_toArray, List.set_cons_zero, List.set_cons_succ]
      refine wpAnyU_take (i := 14) (v := ?v14a) rfl (by kernel_rfl) (by kernel_rfl) (by kernel_rfl) (by kernel_rfl) (fun _ _ _ h => h) ?hy14a S5 ?rest14a
      case hy14a => first | (refine Or.inl ⟨by rfl, ?_⟩; (intro w' hSw; go_simp) <;> with_reducible rfl) | (refine Or.inr ⟨by rfl, ?_⟩; with_reducible rfl)
      try simp only [List.getElem_toArray, List.getElem_cons_zero, List.getElem_cons_succ, Act.put, List.setIfInBounds_toArray, List.set_cons_zero, List.set_cons_succ]
      refine wpAnyT_one (i := 15) (by kernel_rfl) rfl (fun K hK => ?_)
      refine wpT_storeV rfl rfl (by rfl) (by rfl) HST ?_
      refine hK.out _ _ (fun h => absurd h (by decide)) ?_
      clear hK K
      try simp only [List.getElem_toArray, List.getElem_cons_zero, List.getElem_cons_succ, Act.put, List.setIfInBounds_toArray, List.set_cons_zero, List.set_cons_succ]
      refine wpAnyT_done (by kernel_rfl) ?_ _
      refine NoPanic.normal ?_
      go_wp2_with fail
      go_end0
      exact ⟨rfl, by simpa using HW.out, HF.out⟩
    | none =>
      have hjt : ins[j].isSome = false := by rw [hq]; rfl
      rw [hjt] at c7
      rw [hq] at hre
      simp only at hre
      subst hre
      go_enter Try.func23, Try.ntmps23
      go_wp2_with fail
      generalize W.alloc (.cells (shC s) 68) = W0 at *
      obtain ⟨gr, hgg⟩ : ∃ gr, W.heap.size = gr := ⟨_, rfl⟩
      rw [hgg] at B1 hgr hir hsr
      simp only [hgg]
      clear hgg
      have SD : Bk W0.drew v.g 63 (v.cells k safe) ∧ Bk W0.drew gr 68 (shC s) := ⟨H.w.bel (Bel.refl W0).drew, B1.bel (Bel.refl W0).drew⟩
      have H5 := H.bel (Bel.refl W0).drew
      have HST := H5.store hj s
      have HW := Lib.hid (H5.first hj hs)
      have HF := Lib.hid (((Fr.bel (HB.trans (Bel.refl W0).drew) hnw).trans (Fr.cells (v := v) (N := N) W0.drew H5.ni (j * 16) (shC s).toList)).trans (Fr.set (v := v) (N := N) _ (p := ⟨v.Bs, j, none⟩) (.inr (.inr rfl)) H5.ns (.bool true)))
      have SE : Bk (W0.drew.setCells v.Bi (j * 16) (shC s).toList) v.g 63 (v.cells k safe) ∧ Bk (W0.drew.setCells v.Bi (j * 16) (shC s).toList) gr 68 (shC s) := ⟨⟨(setCells_other H.gi _ _ _).trans SD.1.out⟩, ⟨(setCells_other (by omega) _ _ _).trans SD.2.out⟩⟩
      have b7 : Bk (W0.drew.setCells v.Bi (j * 16) (shC s).toList) v.Bs 4 (insB ins) := ⟨(setCells_other (Ne.symm H.is) _ _ _).trans (H.s.bel (Bel.refl W0).drew).out⟩
      have d7 := b7.cell j (insB_get ins hj)
      have e7 := b7.frozen j
      have M3 := fun (w' : World) (hb : Bk w' v.g 63 (v.cells k safe) ∧ Bk w' gr 68 (shC s)) => hb.1.cell 3 (v := .slice (some ⟨v.Bi, 0, none⟩) v.len v.len) rfl
      have M4 := fun (w' : World) (hb : Bk w' v.g 63 (v.cells k safe) ∧ Bk w' gr 68 (shC s)) => hb.1.cell 4 (v := .slice (some ⟨v.Bs, 0, none⟩) v.len v.len) rfl
      have L2 := fun (w' : World) (hb : Bk w' v.g 63 (v.cells k safe) ∧ Bk w' gr 68 (shC s)) => hb.2.load
      clear c3 c4 c6 c7 f6
      refine wp_region_T (fun w' => Bk w' v.g 63 (v.cells k safe) ∧ Bk w' gr 68 (shC s)) (fun i => i == 14) (by kernel_rfl) ?_
      refine wpAnyU_take (i := 0) (v := ?v0b) rfl (by kernel_rfl) (by kernel_rfl) (by kernel_rfl) (by kernel_rfl) (fun _ _ _ h => h) ?hy0b SD ?rest0b
      case hy0b => first | (refine Or.inl ⟨by rfl, ?_⟩; (intro w' hSw; go_simp) <;> with_reducible rfl) | (refine Or.inr ⟨by rfl, ?_⟩; with_reducible rfl)
      try simp only [List.getElem_toArray, List.getElem_cons_zero, List.getElem_cons_succ, Act.put, List.setIfInBounds_toArray, List.set_cons_zero, List.set_cons_succ]
      refine wpAnyU_take (i := 1) (v := ?v1b) rfl (by kernel_rfl) (by kernel_rfl) (by kernel_rfl) (by kernel_rfl) (fun _ _ _ h => h) ?hy1b SD ?rest1b
      case hy1b => first | (refine Or.inl ⟨by rfl, ?_⟩; (intro w' hSw; go_simp) <;> with_reducible rfl) | (refine Or.inr ⟨by rfl, ?_⟩; with_reducible rfl)
      try simp only [List.getElem_toArray, List.getElem_cons_zero, List.getElem_cons_succ, Act.put, List.setIfInBounds_toArray, List.set_cons_zero, List.set_cons_succ]
      refine wpAnyU_take (i := 2) (v := ?v2b) rfl (by kernel_rfl) (by kernel_rfl) (by kernel_rfl) (by kernel_rfl) (fun _ _ _ h => h) ?hy2b SD ?rest2b
      case hy2b => first | (refine Or.inl ⟨by rfl, ?_⟩; (intro w' hSw; go_simp) <;> with_reducible rfl) | (refine Or.inr ⟨by rfl, ?_⟩; with_reducible rfl)
      try simp only [List.getElem_toArray, List.getElem_cons_zero, List.getElem_cons_succ, Act.put, List.setIfInBounds_toArray, List.set_cons_zero, List.set_cons_succ]
      refine wpAnyU_take (i := 3) (v := ?v3b) rfl (by kernel_rfl) (by kernel_rfl) (by kernel_rfl) (by kernel_rfl) (fun _ _ _ h => h) ?hy3b SD ?rest3b
      case hy3b => first | (refine Or.inl ⟨by rfl, ?_⟩; (intro w' hSw; go_simp) <;> with_reducible rfl) | (refine Or.inr ⟨by rfl, ?_⟩; with_reducible rfl)
      try simp only [List.getElem_toArray, List.getElem_cons_zero, List.getElem_cons_succ, Act.put, List.setIfInBounds_toArray, List.set_cons_zero, List.set_cons_succ]
      refine wpAnyU_take (i := 4) (v := ?v4b) rfl (by kernel_rfl) (by kernel_rfl) (by kernel_rfl) (by kernel_rfl) (fun _ _ _ h => h) ?hy4b SD ?rest4b
      case hy4b => first | (refine Or.inl ⟨by rfl, ?_⟩; (intro w' hSw; go_simp) <;> with_reducible rfl) | (refine Or.inr ⟨by rfl, ?_⟩; with_reducible rfl)
      try simp only [List.getElem_toArray, List.getElem_cons_zero, List.getElem_cons_succ, Act.put, List.setIfInBounds_toArray, List.set_cons_zero, List.set_cons_succ]
      refine wpAnyU_take (i := 5) (v := ?v5b) rfl (by kernel_rfl) (by kernel_rfl) (by kernel_rfl) (by kernel_rfl) (fun _ _ _ h => h) ?hy5b SD ?rest5b
      case hy5b => first | (refine Or.inl ⟨by rfl, ?_⟩; (intro w' hSw; go_simp) <;> with_reducible rfl) | (refine Or.inr ⟨by rfl, ?_⟩; with_reducible rfl)
      try simp only [List.getElem_toArray, List.getElem_cons_zero, List.getElem_cons_succ, Act.put, List.setIfInBounds_toArray, List.set_cons_zero, List.set_cons_succ]
      refine wpAnyU_take (i := 6) (v := ?v6b) rfl (by kernel_rfl) (by kernel_rfl) (by kernel_rfl) (by kernel_rfl) (fun _ _ _ h => h) ?hy6b SD ?rest6b
      case hy6b => first | (refine Or.inl ⟨by rfl, ?_⟩; (intro w' hSw; go_simp) <;> with_reducible rfl) | (refine Or.inr ⟨by rfl, ?_⟩; with_reducible rfl)
      try simp only [List.getElem_toArray, List.getElem_cons_zero, List.getElem_cons_succ, Act.put, List.setIfInBounds_toArray, List.set_cons_zero, List.set_cons_succ]
      refine wpAnyU_take (i := 7) (v := ?v7b) rfl (by kernel_rfl) (by kernel_rfl) (by kernel_rfl) (by kernel_rfl) (fun _ _ _ h => h) ?hy7b SD ?rest7b
      case hy7b => first | (refine Or.inl ⟨by rfl, ?_⟩; (intro w' hSw; go_simp) <;> with_reducible rfl) | (refine Or.inr ⟨by rfl, ?_⟩; with_reducible rfl)
      try simp only [List.getElem_toArray, List.getElem_cons_zero, List.getElem_cons_succ, Act.put, List.setIfInBounds_toArray, List.set_cons_zero, List.set_cons_succ]
      refine wpAnyU_take (i := 8) (v := ?v8b) rfl (by kernel_rfl) (by kernel_rfl) (by kernel_rfl) (by kernel_rfl) (fun _ _ _ h => h) ?hy8b SD ?rest8b
      case hy8b => first | (refine Or.inl ⟨by rfl, ?_⟩; (intro w' hSw; go_simp) <;> with_reducible rfl) | (refine Or.inr ⟨by rfl, ?_⟩; with_reducible rfl)
      try simp only [List.getElem_toArray, List.getElem_cons_zero, List.getElem_cons_succ, Act.put, List.setIfInBounds_toArray, List.set_cons_zero, List.set_cons_succ]
      refine wpAnyU_take (i := 9) (v := ?v9b) rfl (by kernel_rfl) (by kernel_rfl) (by kernel_rfl) (by kernel_rfl) (fun _ _ _ h => h) ?hy9b SD ?rest9b
      case hy9b => first | (refine Or.inl ⟨by rfl, ?_⟩; (intro w' hSw; go_simp) <;> with_reducible rfl) | (refine Or.inr ⟨by rfl, ?_⟩; with_reducible rfl)
      try simp only [List.getElem_toArray, List.getElem_cons_zero, List.getElem_cons_succ, Act.put, List.setIfInBounds_toArray, List.set_cons_zero, List.set_cons_succ]
      refine wpAnyU_take (i := 10) rfl (by kernel_rfl) (by kernel_rfl) (by kernel_rfl) (by kernel_rfl) (fun _ _ _ h => h) (yields_loadV (by rfl) rfl (by rfl) L2) SD ?rest10b
      try simp only [List.getElem_toArray, List.getElem_cons_zero, List.getElem_cons_succ, Act.put, List.setIfInBounds_toArray, List.set_cons_zero, List.set_cons_succ]
      refine wpAnyU_take (i := 11) (v := ?v11b) rfl (by kernel_rfl) (by kernel_rfl) (by kernel_rfl) (by kernel_rfl) (fun _ _ _ h => h) ?hy11b SD ?rest11b
      case hy11b => first | (refine Or.inl ⟨by rfl, ?_⟩; (intro w' hSw; go_simp) <;> with_reducible rfl) | (refine Or.inr ⟨by rfl, ?_⟩; with_reducible rfl)
      try simp only [List.getElem_toArray, List.getElem_cons_zero, List.getElem_cons_succ, Act.put, List.setIfInBounds_toArray, List.set_cons_zero, List.set_cons_succ]
      refine wpAnyT_one (i := 12) (by kernel_rfl) rfl (fun K hK => ?_)
      refine wpT_storeV rfl rfl (by rfl) (by rfl) HST ?_
      refine hK.out _ _ (fun _ => SE) ?_
      clear hK K
      try simp only [List.getElem_toArray, List.getElem_cons_zero, List.getElem_cons_succ, Act.put, List.setIfInBounds_toArray, List.set_cons_zero, List.set_cons_succ]
      refine wpAnyU_take (i := 13) (v := ?v13b) rfl (by kernel_rfl) (by kernel_rfl) (by kernel_rfl) (by kernel_rfl) (fun _ _ _ h => h) ?hy13b SE ?rest13b
      case hy13b => first | (refine Or.inl ⟨by rfl, ?_⟩; (intro w' hSw; go_simp) <;> with_reducible rfl) | (refine Or.inr ⟨by rfl, ?_⟩; with_reducible rfl)
      try simp only [List.getElem_toArray, List.getElem_cons_zero, List.getElem_cons_succ, Act.put, List.setIfInBounds_toArray, List.set_cons_zero, List.set_cons_succ]
      refine wpAnyT_one (i := 14) (by kernel_rfl) rfl (fun K hK => ?_)
      go_simp
      refine hK.out _ _ (fun h => absurd h (by decide)) ?_
      clear hK K
      try simp only [List.getElem_toArray, List.getElem_cons_zero, List.getElem_cons_succ, Act.put, List.setIfInBounds_toArray, List.set_cons_zero, List.set_cons_succ]
      refine wpAnyT_done (by kernel_rfl) ?_ _
      refine NoPanic.normal ?_
      clear SD SE
      go_wp2_with fail
      go_end0
      exact ⟨rfl, by simpa using HW.out, HF.out⟩
  · rw [dif_neg hj] at hre
    subst hre
    have hj2 : (v.len : Int) ≤ j := by omega
    have HW := Lib.hid ((H0.out.safe false).bel ((Bel.refl _).alloc (.cells (shC s) 68)))
    have HF := Lib.hid ((Fr.set (v := v) (N := N) W (p := ⟨v.g, 6, none⟩) (.inl rfl) H.ng (.bool false)).trans (Fr.bel ((Bel.refl _).alloc (.cells (shC s) 68)) (H0.out.safe false).nw))
    go_enter Try.func23, Try.ntmps23
    go_wp2_with fail
    go_end0
    exact ⟨rfl, by simpa using HW.out, HF.out⟩
set_option maxHeartbeats 4000000 in
set_option maxRecDepth 100000 in
theorem wthen_any (v : VE) (N : Nat) (W : World) (k : Nat) (safe : Bool) (ins : InsD) (h : Wk v N W k safe ins) (hk : k < ins.length) (s : ShD) (hs : shOk s) (r : Option InsD) (hr : Hid (vTo ins (k + 1) s = r)) :
    Calls Try.prog 72 #[.pointer (some ⟨v.g, 0, none⟩), .agg (shC s)] W fun e w' => e = .returned (.tuple #[]) ∧ Wk v N w' k (safe && r.isSome) (if safe = true then r.getD ins else ins) ∧ Fr v N W w' := by
  have H := h.bel ((Bel.refl W).alloc (.cells (shC s) 68))
  have HB := (Bel.refl W).alloc (.cells (shC s) 68)
  have B1 := Bk.new W 68 (shC s)
  have hnw := h.nw
  have hk64 : k < 64 := by have := h.len; have := h.small; omega
  have ek : IntKind.i64.wrap ((k : Int) + 1) = (k : Int) + 1 := wrap_i64 (by omega) (by omega)
  clear h
  have c5 := H.w.cell 5 (v := .int .i64 k) rfl
  have c6 := H.w.cell 6 (v := .bool safe) rfl
  cases safe
  · have HW := Lib.hid H
    have HF := Lib.hid (Fr.bel (v := v) HB hnw)
    go_enter Try.func72, Try.ntmps72
    go_wp2_with fail
    go_end0
    exact ⟨rfl, by simpa using HW.out, HF.out⟩
  · go_enter Try.func72, Try.ntmps72
    go_wp2_with fail
    generalize W.alloc (.cells (shC s) 68) = W0 at *
    obtain ⟨gr, hgg⟩ : ∃ gr, W.heap.size = gr := ⟨_, rfl⟩
    rw [hgg] at B1
    simp only [hgg]
    clear hgg
    have SD : Bel W0 W0.drew := (Bel.refl W0).drew
    have M5 := fun (w' : World) (hb : Bel W0 w') => hb.cell c5
    have L2 := fun (w' : World) (hb : Bel W0 w') => (B1.bel hb).load
    clear c5 c6
    refine wp_region_T (fun w' => Bel W0 w') (fun i => i != 4 && i != 6) (by kernel_rfl) ?_
    refine wpAnyW_take (i := 0) (v := ?v0) rfl (by kernel_rfl) (by kernel_rfl) (by kernel_rfl) (by kernel_rfl) (fun _ _ _ h => h) (Or.inl ⟨by rfl, ?hy0⟩) ?rest0
    case hy0 => (intro w' hSw; go_simp) <;> with_reducible rfl
    try simp only [List.getElem_toArray, List.getElem_cons_zero, List.getElem_cons_succ, Act.put, List.setIfInBounds_toArray, List.set_cons_zero, List.set_cons_succ]
    refine wpAnyW_take (i := 1) (v := ?v1) rfl (by kernel_rfl) (by kernel_rfl) (by kernel_rfl) (by kernel_rfl) (fun _ _ _ h => h) (Or.inl ⟨by rfl, ?hy1⟩) ?rest1
    case hy1 => (intro w' hSw; go_simp) <;> with_reducible rfl
    try simp only [List.getElem_toArray, List.getElem_cons_zero, List.getElem_cons_succ, Act.put, List.setIfInBounds_toArray, List.set_cons_zero, List.set_cons_succ]
    refine wpAnyW_take (i := 2) (v := ?v2) rfl (by kernel_rfl) (by kernel_rfl) (by kernel_rfl) (by kernel_rfl) (fun _ _ _ h => h) (Or.inl ⟨by rfl, ?hy2⟩) ?rest2
    case hy2 => (intro w' hSw; go_simp) <;> with_reducible rfl
    try simp only [List.getElem_toArray, List.getElem_cons_zero, List.getElem_cons_succ, Act.put, List.setIfInBounds_toArray, List.set_cons_zero, List.set_cons_succ]
    refine wpAnyW_take (i := 3) (v := ?v3) rfl (by kernel_rfl) (by kernel_rfl) (by kernel_rfl) (by kernel_rfl) (fun _ _ _ h => h) (Or.inl ⟨by rfl, ?hy3⟩) ?rest3
    case hy3 => (intro w' hSw; go_simp) <;> with_reducible rfl
    try simp only [List.getElem_toArray, List.getElem_cons_zero, List.getElem_cons_succ, Act.put, List.setIfInBounds_toArray, List.set_cons_zero, List.set_cons_succ]
    refine wpAnyU_take (i := 4) (v := ?v4) rfl (by kernel_rfl) (by kernel_rfl) (by kernel_rfl) (by kernel_rfl) (fun _ _ _ h => h) ?hy4 SD ?rest4
    case hy4 => first | (refine Or.inl ⟨by rfl, ?_⟩; (intro w' hSw; go_simp) <;> with_reducible rfl) | (refine Or.inr ⟨by rfl, ?_⟩; with_reducible rfl)
    try simp only [List.getElem_toArray, List.getElem_cons_zero, List.getElem_cons_succ, Act.put, List.setIfInBounds_toArray, List.set_cons_zero, List.set_cons_succ]
    refine wpAnyW_take (i := 5) (v := ?v5) rfl (by kernel_rfl) (by kernel_rfl) (by kernel_rfl) (by kernel_rfl) (fun _ _ _ h => h) (Or.inl ⟨by rfl, ?hy5⟩) ?rest5
    case hy5 => (intro w' hSw; go_simp) <;> with_reducible rfl
    try simp only [List.getElem_toArray, List.getElem_cons_zero, List.getElem_cons_succ, Act.put, List.setIfInBounds_toArray, List.set_cons_zero, List.set_cons_succ]
    refine wpAnyU_take (i := 6) rfl (by kernel_rfl) (by kernel_rfl) (by kernel_rfl) (by kernel_rfl) (fun _ _ _ h => h) (yields_loadV (by rfl) rfl (by rfl) L2) SD ?rest6
    try simp only [List.getElem_toArray, List.getElem_cons_zero, List.getElem_cons_succ, Act.put, List.setIfInBounds_toArray, List.set_cons_zero, List.set_cons_succ]
    refine wpAnyT_one (i := 7) (by kernel_rfl) rfl (fun K hK => ?_)
    go_simp
    go_at_call 23
    refine (wto_any v N _ k true ins (H.bel SD) (k + 1) s hs r hr).mono ?_
    rintro en w5 ⟨rfl, hw5, hf5⟩
    have HW := Lib.hid hw5
    have HF := Lib.hid ((Fr.bel (HB.trans SD) hnw).trans hf5)
    dsimp only
    refine hK.out _ _ (fun h => absurd h (by decide)) ?_
    clear hK K
    try simp only [List.getElem_toArray, List.getElem_cons_zero, List.getElem_cons_succ, Act.put, List.setIfInBounds_toArray, List.set_cons_zero, List.set_cons_succ]
    refine wpAnyT_done (by kernel_rfl) ?_ _
    refine NoPanic.normal ?_
    go_wp2_with fail
    go_end0
    exact ⟨rfl, by simpa using HW.out, HF.out⟩
set_option maxHeartbeats 4000000 in
set_option maxRecDepth 100000 in
theorem wput_any (v : VE) (N : Nat) (W : World) (k : Nat) (safe : Bool) (ins : InsD) (h : Wk v N W k safe ins) (hk : k < ins.length) (s : ShD) (hsk : Hid (sh0 ins[k] = s)) (n : Int) (b : Bd) (hb : bdOk b) (r : Option InsD) (hr : Hid (vTo ins (k + 1) (shPut s n b) = r)) :
    Calls Try.prog 66 #[.pointer (some ⟨v.g, 0, none⟩), .int .i64 n, cV b] W fun e w' => e = .returned (.tuple #[]) ∧ Wk v N w' k (safe && r.isSome) (if safe = true then r.getD ins else ins) ∧ Fr v N W w' := by
  have hs : shOk s := by
    rw [← hsk.out]
    cases e : ins[k] with
    | none => intro i b hb; cases hb
    | some u => exact h.ok _ (List.getElem_mem hk) u e
  have H := Lib.hid h
  clear h
  go_enter Try.func66, Try.ntmps66
  go_wp2_with fail
  refine (here_any v N W k safe ins H.out hk s hsk).mono ?_
  rintro e w1 ⟨rfl, hb1⟩
  go_wp2_with fail
  refine (shput_any s (shPut s n b) hs n b hb (Lib.hid rfl) _).mono ?_
  rintro e w2 ⟨rfl, hb2⟩
  go_wp2_with fail
  refine (wthen_any v N _ k safe ins (H.out.bel (hb1.trans hb2)) hk (shPut s n b) (shPut_ok hs hb) r hr).mono ?_
  rintro e w3 ⟨rfl, hw3, hf3⟩
  have HW := Lib.hid hw3
  have HF := Lib.hid ((Fr.bel (hb1.trans hb2) H.out.nw).trans hf3)
  clear hw3 hf3 hb1 hb2
  cases safe
  all_goals
    go_wp2_with fail
    go_end0
    exact ⟨rfl, by simpa using HW.out, HF.out⟩
end Go.Proofs.Ytebdnobgdimdoaa
