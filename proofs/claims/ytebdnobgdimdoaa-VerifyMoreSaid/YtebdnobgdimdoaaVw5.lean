/- verify's steps: ctx, load, store, exit. -/
import Derived.Test.YtebdnobgdimdoaaVw4
set_option linter.unusedVariables false
set_option linter.unusedSimpArgs false
namespace Go.Proofs.Ytebdnobgdimdoaa
open Go.RowKit

set_option maxHeartbeats 4000000 in
set_option maxRecDepth 100000 in
theorem ctx_any (p : List FnD) (ls : List SchD) (v : VE) (N : Nat) (W : World) (k : Nat) (ins : InsD) (h : Wk v N W k true ins) (hk : k < ins.length) (s : ShD) (hsk : Hid (sh0 ins[k] = s)) (op fn dst src : Int) (reg : Bool) (off imm : Int) (him : U32 imm) (hm : Hid (mayB op fn dst src reg off imm = true)) (hop : op = 2) (r : Option InsD) (hr : Hid (vStep p v.fn ls k ⟨op, fn, dst, src, reg, off, imm⟩ s ins = r)) :
    Calls Try.prog 43 #[.pointer (some ⟨v.g, 0, none⟩), .agg #[.int .i64 op, .int .i64 fn, .int .i64 dst, .int .i64 src, .bool reg, .int .i64 off, .int .u32 imm]] W fun e w' => e = .returned (.tuple #[]) ∧ (∃ ins', Wk v N w' k r.isSome ins' ∧ (∀ x, r = some x → ins' = x)) ∧ Fr v N W w' := by
  subst hop
  have hs : shOk s := by
    rw [← hsk.out]
    cases e : ins[k] with
    | none => intro i b hb; cases hb
    | some u => exact h.ok _ (List.getElem_mem hk) u e
  have hre := hr.out
  unfold vStep at hre
  have hmp := of_decide_eq_true hm.out
  obtain ⟨-, ⟨hd0, hd1⟩, ⟨hs0, hs1⟩, ⟨hf0, hf1⟩, -⟩ := hmp
  have H := Lib.hid (h.bel ((Bel.refl W).alloc (.cells #[.int .i64 2, .int .i64 fn, .int .i64 dst, .int .i64 src, .bool reg, .int .i64 off, .int .u32 imm] 32)))
  have HF := Lib.hid (Fr.bel (v := v) ((Bel.refl W).alloc (.cells #[.int .i64 2, .int .i64 fn, .int .i64 dst, .int .i64 src, .bool reg, .int .i64 off, .int .u32 imm] 32)) h.nw)
  have B1 := Bk.new W 32 #[.int .i64 2, .int .i64 fn, .int .i64 dst, .int .i64 src, .bool reg, .int .i64 off, .int .u32 imm]
  have g1 := h.w.lt
  have g2 := h.i.lt
  have g3 := h.s.lt
  clear h hr
  rw [if_neg (by show ¬ ((2 : Int) = 0); decide)] at hre
  rw [if_neg (by show ¬ ((2 : Int) = 1); decide)] at hre
  rw [if_pos rfl] at hre
  obtain ⟨o, ho⟩ : ∃ o, Hid (shWord s ⟨2, fn, dst, src, reg, off, imm⟩ = o) := ⟨_, Lib.hid rfl⟩
  have ob : bdOk (rB o) := by
    have : ∀ b, o = some b → bdOk b := fun b e => shWord_ok hs him (ho.out.trans e)
    cases o with
    | none => exact ⟨by decide, by decide⟩
    | some b => exact this b rfl
  obtain ⟨x, hx⟩ : ∃ x, Hid (vTo ins (k + 1) (shPut s dst bdAll) = x) := ⟨_, Lib.hid rfl⟩
  obtain ⟨lt, hlt⟩ : ∃ lt, Hid (decide ((rB o).2 < 4) = lt) := ⟨_, Lib.hid rfl⟩
  have HN : Hid ((o.isSome && lt) = false → r = none) := Lib.hid (fun e => by
    rw [ho.out] at hre
    cases o with
    | none => exact hre.symm
    | some b =>
      have h2 : ¬ b.2 < 4 := (by have h3 := hlt.out; rw [show lt = false by simpa using e] at h3; exact of_decide_eq_false h3)
      simp only [Option.bind_some] at hre
      rw [if_neg h2] at hre
      exact hre.symm)
  have HS : Hid ((o.isSome && lt) = true → r = x) := Lib.hid (fun e => by
    rw [ho.out] at hre
    cases o with
    | none => simp at e
    | some b =>
      have h2 : b.2 < 4 := (by have h3 := hlt.out; rw [show lt = true by simpa using e] at h3; exact of_decide_eq_true h3)
      simp only [Option.bind_some] at hre
      rw [if_pos h2] at hre
      rw [← hre, ← hx.out])
  clear hre
  have c0 := B1.cell 0 (v := .int .i64 2) rfl
  have c1 := B1.cell 1 (v := .int .i64 fn) rfl
  have c2 := B1.cell 2 (v := .int .i64 dst) rfl
  have c3 := B1.cell 3 (v := .int .i64 src) rfl
  have c4 := B1.cell 4 (v := .bool reg) rfl
  have c5 := B1.cell 5 (v := .int .i64 off) rfl
  have c6 := B1.cell 6 (v := .int .u32 imm) rfl
  go_enter Try.func43, Try.ntmps43
  go_wp2_with fail
  generalize W.alloc (.cells #[.int .i64 2, .int .i64 fn, .int .i64 dst, .int .i64 src, .bool reg, .int .i64 off, .int .u32 imm] 32) = W0 at *
  obtain ⟨gr, hgr⟩ : ∃ gr, W.heap.size = gr := ⟨_, rfl⟩
  rw [hgr] at B1 g1 g2 g3
  simp only [hgr]
  clear hgr
  have n1 : gr ≠ v.g := by omega
  have n2 : gr ≠ v.Bi := by omega
  have n3 : gr ≠ v.Bs := by omega
  have B1 := Lib.hid B1
  have P0 := fun (w' : World) (hb : Bk w' gr 32 #[.int .i64 2, .int .i64 fn, .int .i64 dst, .int .i64 src, .bool reg, .int .i64 off, .int .u32 imm]) => hb.cell 0 (v := .int .i64 2) rfl
  have P1 := fun (w' : World) (hb : Bk w' gr 32 #[.int .i64 2, .int .i64 fn, .int .i64 dst, .int .i64 src, .bool reg, .int .i64 off, .int .u32 imm]) => hb.cell 1 (v := .int .i64 fn) rfl
  have P2 := fun (w' : World) (hb : Bk w' gr 32 #[.int .i64 2, .int .i64 fn, .int .i64 dst, .int .i64 src, .bool reg, .int .i64 off, .int .u32 imm]) => hb.cell 2 (v := .int .i64 dst) rfl
  have P3 := fun (w' : World) (hb : Bk w' gr 32 #[.int .i64 2, .int .i64 fn, .int .i64 dst, .int .i64 src, .bool reg, .int .i64 off, .int .u32 imm]) => hb.cell 3 (v := .int .i64 src) rfl
  have P4 := fun (w' : World) (hb : Bk w' gr 32 #[.int .i64 2, .int .i64 fn, .int .i64 dst, .int .i64 src, .bool reg, .int .i64 off, .int .u32 imm]) => hb.cell 4 (v := .bool reg) rfl
  have P5 := fun (w' : World) (hb : Bk w' gr 32 #[.int .i64 2, .int .i64 fn, .int .i64 dst, .int .i64 src, .bool reg, .int .i64 off, .int .u32 imm]) => hb.cell 5 (v := .int .i64 off) rfl
  have P6 := fun (w' : World) (hb : Bk w' gr 32 #[.int .i64 2, .int .i64 fn, .int .i64 dst, .int .i64 src, .bool reg, .int .i64 off, .int .u32 imm]) => hb.cell 6 (v := .int .u32 imm) rfl
  clear c0 c1 c2 c3 c4 c5 c6
  refine (wword_any v N _ k true ins H.out hk s hsk 2 fn dst src reg off imm him hm o ho).mono ?_
  rintro e w6 ⟨rfl, hw6, hf6⟩
  have S6 := hf6.bk B1.out n1 n2 n3
  have F6 := HF.out.trans hf6
  go_wp2_with fail
  refine (within_any v N _ k _ ins hw6 (rB o) ob 4 (by decide) lt hlt).mono ?_
  rintro e w7 ⟨rfl, hw7, hf7⟩
  have S7 := hf7.bk S6 n1 n2 n3
  have H7 := Lib.hid hw7
  have F7 := Lib.hid (F6.trans hf7)
  clear S6 F6 hw6 hf6 hw7 hf7
  go_wp2_with fail
  have SE := S7.bel (Bel.refl w7).drew
  have HE0 := H7.out.bel (Bel.refl w7).drew
  have FE0 := F7.out.trans (Fr.bel (Bel.refl w7).drew H7.out.nw)
  refine wp_region_T (fun w' => Bk w' gr 32 #[.int .i64 2, .int .i64 fn, .int .i64 dst, .int .i64 src, .bool reg, .int .i64 off, .int .u32 imm]) (fun _ => false) (by kernel_rfl) ?_
  refine wpAnyU_take (i := 0) (v := ?v0) rfl (by kernel_rfl) (by kernel_rfl) (by kernel_rfl) (by kernel_rfl) (fun _ _ _ h => h) ?hy0 SE ?rest0
  case hy0 => first | (refine Or.inl ⟨by rfl, ?_⟩; (intro w' hSw; go_simp) <;> with_reducible rfl) | (refine Or.inr ⟨by rfl, ?_⟩; with_reducible rfl)
  try simp only [List.getElem_toArray, List.getElem_cons_zero, List.getElem_cons_succ, Act.put, List.setIfInBounds_toArray, List.set_cons_zero, List.set_cons_succ]
  refine wpAnyU_take (i := 1) (v := ?v1) rfl (by kernel_rfl) (by kernel_rfl) (by kernel_rfl) (by kernel_rfl) (fun _ _ _ h => h) ?hy1 SE ?rest1
  case hy1 => first | (refine Or.inl ⟨by rfl, ?_⟩; (intro w' hSw; go_simp) <;> with_reducible rfl) | (refine Or.inr ⟨by rfl, ?_⟩; with_reducible rfl)
  try simp only [List.getElem_toArray, List.getElem_cons_zero, List.getElem_cons_succ, Act.put, List.setIfInBounds_toArray, List.set_cons_zero, List.set_cons_succ]
  refine wpAnyU_take (i := 2) (v := ?v2) rfl (by kernel_rfl) (by kernel_rfl) (by kernel_rfl) (by kernel_rfl) (fun _ _ _ h => h) ?hy2 SE ?rest2
  case hy2 => first | (refine Or.inl ⟨by rfl, ?_⟩; (intro w' hSw; go_simp) <;> with_reducible rfl) | (refine Or.inr ⟨by rfl, ?_⟩; with_reducible rfl)
  try simp only [List.getElem_toArray, List.getElem_cons_zero, List.getElem_cons_succ, Act.put, List.setIfInBounds_toArray, List.set_cons_zero, List.set_cons_succ]
  refine wpAnyT_one (i := 3) (by kernel_rfl) rfl (fun K hK => ?_)
  go_simp
  go_at_call 60
  refine (ofall _).mono ?_
  rintro en w8 ⟨rfl, hb8⟩
  have S8 := SE.bel hb8
  have H8 := HE0.bel hb8
  have F8 := FE0.trans (Fr.bel hb8 HE0.nw)
  dsimp only
  refine hK.out _ _ (fun _ => S8) ?_
  clear hK K
  try simp only [List.getElem_toArray, List.getElem_cons_zero, List.getElem_cons_succ, Act.put, List.setIfInBounds_toArray, List.set_cons_zero, List.set_cons_succ]
  refine wpAnyT_one (i := 4) (by kernel_rfl) rfl (fun K hK => ?_)
  go_simp
  go_at_call 66
  refine (wput_any v N _ k _ ins H8 hk s hsk dst bdAll bdAll_ok x hx).mono ?_
  rintro en w9 ⟨rfl, hw9, hf9⟩
  have HW := Lib.hid hw9
  have HE := Lib.hid (F8.trans hf9)
  have S9 := hf9.bk S8 n1 n2 n3
  dsimp only
  refine hK.out _ _ (fun _ => S9) ?_
  clear hK K
  try simp only [List.getElem_toArray, List.getElem_cons_zero, List.getElem_cons_succ, Act.put, List.setIfInBounds_toArray, List.set_cons_zero, List.set_cons_succ]
  refine wpAnyT_done (by kernel_rfl) ?_ _
  refine NoPanic.normal ?_
  clear SE HE0 FE0 H8 F8 S8 S9 hb8 hw9 hf9 P0 P1 P2 P3 P4 P5 P6
  go_wp2_with fail
  go_end0
  exact ⟨rfl, fin_put HN.out HS.out (by simpa using HW.out), HE.out⟩
set_option maxHeartbeats 4000000 in
set_option maxRecDepth 100000 in
theorem load_any (p : List FnD) (ls : List SchD) (v : VE) (N : Nat) (W : World) (k : Nat) (ins : InsD) (h : Wk v N W k true ins) (hk : k < ins.length) (s : ShD) (hsk : Hid (sh0 ins[k] = s)) (op fn dst src : Int) (reg : Bool) (off imm : Int) (him : U32 imm) (hm : Hid (mayB op fn dst src reg off imm = true)) (hop : op = 3) (r : Option InsD) (hr : Hid (vStep p v.fn ls k ⟨op, fn, dst, src, reg, off, imm⟩ s ins = r)) :
    Calls Try.prog 44 #[.pointer (some ⟨v.g, 0, none⟩), .agg #[.int .i64 op, .int .i64 fn, .int .i64 dst, .int .i64 src, .bool reg, .int .i64 off, .int .u32 imm]] W fun e w' => e = .returned (.tuple #[]) ∧ (∃ ins', Wk v N w' k r.isSome ins' ∧ (∀ x, r = some x → ins' = x)) ∧ Fr v N W w' := by
  subst hop
  have hs : shOk s := by
    rw [← hsk.out]
    cases e : ins[k] with
    | none => intro i b hb; cases hb
    | some u => exact h.ok _ (List.getElem_mem hk) u e
  have hre := hr.out
  unfold vStep at hre
  have hmp := of_decide_eq_true hm.out
  obtain ⟨-, ⟨hd0, hd1⟩, ⟨hs0, hs1⟩, ⟨hf0, hf1⟩, -⟩ := hmp
  have H := Lib.hid (h.bel ((Bel.refl W).alloc (.cells #[.int .i64 3, .int .i64 fn, .int .i64 dst, .int .i64 src, .bool reg, .int .i64 off, .int .u32 imm] 32)))
  have HF := Lib.hid (Fr.bel (v := v) ((Bel.refl W).alloc (.cells #[.int .i64 3, .int .i64 fn, .int .i64 dst, .int .i64 src, .bool reg, .int .i64 off, .int .u32 imm] 32)) h.nw)
  have B1 := Bk.new W 32 #[.int .i64 3, .int .i64 fn, .int .i64 dst, .int .i64 src, .bool reg, .int .i64 off, .int .u32 imm]
  have g1 := h.w.lt
  have g2 := h.i.lt
  have g3 := h.s.lt
  clear h hr
  rw [if_neg (by show ¬ ((3 : Int) = 0); decide)] at hre
  rw [if_neg (by show ¬ ((3 : Int) = 1); decide)] at hre
  rw [if_neg (by show ¬ ((3 : Int) = 2); decide)] at hre
  rw [if_pos rfl] at hre
  obtain ⟨o, ho⟩ : ∃ o, Hid (shWord s ⟨3, fn, dst, src, reg, off, imm⟩ = o) := ⟨_, Lib.hid rfl⟩
  have ob : bdOk (rB o) := by
    have : ∀ b, o = some b → bdOk b := fun b e => shWord_ok hs him (ho.out.trans e)
    cases o with
    | none => exact ⟨by decide, by decide⟩
    | some b => exact this b rfl
  obtain ⟨x, hx⟩ : ∃ x, Hid (vTo ins (k + 1) (shPut s dst bdAll) = x) := ⟨_, Lib.hid rfl⟩
  obtain ⟨lt, hlt⟩ : ∃ lt, Hid (decide ((rB o).2 < 16) = lt) := ⟨_, Lib.hid rfl⟩
  have HN : Hid ((o.isSome && lt) = false → r = none) := Lib.hid (fun e => by
    rw [ho.out] at hre
    cases o with
    | none => exact hre.symm
    | some b =>
      have h2 : ¬ b.2 < 16 := (by have h3 := hlt.out; rw [show lt = false by simpa using e] at h3; exact of_decide_eq_false h3)
      simp only [Option.bind_some] at hre
      rw [if_neg h2] at hre
      exact hre.symm)
  have HS : Hid ((o.isSome && lt) = true → r = x) := Lib.hid (fun e => by
    rw [ho.out] at hre
    cases o with
    | none => simp at e
    | some b =>
      have h2 : b.2 < 16 := (by have h3 := hlt.out; rw [show lt = true by simpa using e] at h3; exact of_decide_eq_true h3)
      simp only [Option.bind_some] at hre
      rw [if_pos h2] at hre
      rw [← hre, ← hx.out])
  clear hre
  have c0 := B1.cell 0 (v := .int .i64 3) rfl
  have c1 := B1.cell 1 (v := .int .i64 fn) rfl
  have c2 := B1.cell 2 (v := .int .i64 dst) rfl
  have c3 := B1.cell 3 (v := .int .i64 src) rfl
  have c4 := B1.cell 4 (v := .bool reg) rfl
  have c5 := B1.cell 5 (v := .int .i64 off) rfl
  have c6 := B1.cell 6 (v := .int .u32 imm) rfl
  go_enter Try.func44, Try.ntmps44
  go_wp2_with fail
  generalize W.alloc (.cells #[.int .i64 3, .int .i64 fn, .int .i64 dst, .int .i64 src, .bool reg, .int .i64 off, .int .u32 imm] 32) = W0 at *
  obtain ⟨gr, hgr⟩ : ∃ gr, W.heap.size = gr := ⟨_, rfl⟩
  rw [hgr] at B1 g1 g2 g3
  simp only [hgr]
  clear hgr
  have n1 : gr ≠ v.g := by omega
  have n2 : gr ≠ v.Bi := by omega
  have n3 : gr ≠ v.Bs := by omega
  have B1 := Lib.hid B1
  have P0 := fun (w' : World) (hb : Bk w' gr 32 #[.int .i64 3, .int .i64 fn, .int .i64 dst, .int .i64 src, .bool reg, .int .i64 off, .int .u32 imm]) => hb.cell 0 (v := .int .i64 3) rfl
  have P1 := fun (w' : World) (hb : Bk w' gr 32 #[.int .i64 3, .int .i64 fn, .int .i64 dst, .int .i64 src, .bool reg, .int .i64 off, .int .u32 imm]) => hb.cell 1 (v := .int .i64 fn) rfl
  have P2 := fun (w' : World) (hb : Bk w' gr 32 #[.int .i64 3, .int .i64 fn, .int .i64 dst, .int .i64 src, .bool reg, .int .i64 off, .int .u32 imm]) => hb.cell 2 (v := .int .i64 dst) rfl
  have P3 := fun (w' : World) (hb : Bk w' gr 32 #[.int .i64 3, .int .i64 fn, .int .i64 dst, .int .i64 src, .bool reg, .int .i64 off, .int .u32 imm]) => hb.cell 3 (v := .int .i64 src) rfl
  have P4 := fun (w' : World) (hb : Bk w' gr 32 #[.int .i64 3, .int .i64 fn, .int .i64 dst, .int .i64 src, .bool reg, .int .i64 off, .int .u32 imm]) => hb.cell 4 (v := .bool reg) rfl
  have P5 := fun (w' : World) (hb : Bk w' gr 32 #[.int .i64 3, .int .i64 fn, .int .i64 dst, .int .i64 src, .bool reg, .int .i64 off, .int .u32 imm]) => hb.cell 5 (v := .int .i64 off) rfl
  have P6 := fun (w' : World) (hb : Bk w' gr 32 #[.int .i64 3, .int .i64 fn, .int .i64 dst, .int .i64 src, .bool reg, .int .i64 off, .int .u32 imm]) => hb.cell 6 (v := .int .u32 imm) rfl
  clear c0 c1 c2 c3 c4 c5 c6
  refine (wword_any v N _ k true ins H.out hk s hsk 3 fn dst src reg off imm him hm o ho).mono ?_
  rintro e w6 ⟨rfl, hw6, hf6⟩
  have S6 := hf6.bk B1.out n1 n2 n3
  have F6 := HF.out.trans hf6
  go_wp2_with fail
  refine (within_any v N _ k _ ins hw6 (rB o) ob 16 (by decide) lt hlt).mono ?_
  rintro e w7 ⟨rfl, hw7, hf7⟩
  have S7 := hf7.bk S6 n1 n2 n3
  have H7 := Lib.hid hw7
  have F7 := Lib.hid (F6.trans hf7)
  clear S6 F6 hw6 hf6 hw7 hf7
  go_wp2_with fail
  have SE := S7.bel (Bel.refl w7).drew
  have HE0 := H7.out.bel (Bel.refl w7).drew
  have FE0 := F7.out.trans (Fr.bel (Bel.refl w7).drew H7.out.nw)
  refine wp_region_T (fun w' => Bk w' gr 32 #[.int .i64 3, .int .i64 fn, .int .i64 dst, .int .i64 src, .bool reg, .int .i64 off, .int .u32 imm]) (fun _ => false) (by kernel_rfl) ?_
  refine wpAnyU_take (i := 0) (v := ?v0) rfl (by kernel_rfl) (by kernel_rfl) (by kernel_rfl) (by kernel_rfl) (fun _ _ _ h => h) ?hy0 SE ?rest0
  case hy0 => first | (refine Or.inl ⟨by rfl, ?_⟩; (intro w' hSw; go_simp) <;> with_reducible rfl) | (refine Or.inr ⟨by rfl, ?_⟩; with_reducible rfl)
  try simp only [List.getElem_toArray, List.getElem_cons_zero, List.getElem_cons_succ, Act.put, List.setIfInBounds_toArray, List.set_cons_zero, List.set_cons_succ]
  refine wpAnyU_take (i := 1) (v := ?v1) rfl (by kernel_rfl) (by kernel_rfl) (by kernel_rfl) (by kernel_rfl) (fun _ _ _ h => h) ?hy1 SE ?rest1
  case hy1 => first | (refine Or.inl ⟨by rfl, ?_⟩; (intro w' hSw; go_simp) <;> with_reducible rfl) | (refine Or.inr ⟨by rfl, ?_⟩; with_reducible rfl)
  try simp only [List.getElem_toArray, List.getElem_cons_zero, List.getElem_cons_succ, Act.put, List.setIfInBounds_toArray, List.set_cons_zero, List.set_cons_succ]
  refine wpAnyU_take (i := 2) (v := ?v2) rfl (by kernel_rfl) (by kernel_rfl) (by kernel_rfl) (by kernel_rfl) (fun _ _ _ h => h) ?hy2 SE ?rest2
  case hy2 => first | (refine Or.inl ⟨by rfl, ?_⟩; (intro w' hSw; go_simp) <;> with_reducible rfl) | (refine Or.inr ⟨by rfl, ?_⟩; with_reducible rfl)
  try simp only [List.getElem_toArray, List.getElem_cons_zero, List.getElem_cons_succ, Act.put, List.setIfInBounds_toArray, List.set_cons_zero, List.set_cons_succ]
  refine wpAnyT_one (i := 3) (by kernel_rfl) rfl (fun K hK => ?_)
  go_simp
  go_at_call 60
  refine (ofall _).mono ?_
  rintro en w8 ⟨rfl, hb8⟩
  have S8 := SE.bel hb8
  have H8 := HE0.bel hb8
  have F8 := FE0.trans (Fr.bel hb8 HE0.nw)
  dsimp only
  refine hK.out _ _ (fun _ => S8) ?_
  clear hK K
  try simp only [List.getElem_toArray, List.getElem_cons_zero, List.getElem_cons_succ, Act.put, List.setIfInBounds_toArray, List.set_cons_zero, List.set_cons_succ]
  refine wpAnyT_one (i := 4) (by kernel_rfl) rfl (fun K hK => ?_)
  go_simp
  go_at_call 66
  refine (wput_any v N _ k _ ins H8 hk s hsk dst bdAll bdAll_ok x hx).mono ?_
  rintro en w9 ⟨rfl, hw9, hf9⟩
  have HW := Lib.hid hw9
  have HE := Lib.hid (F8.trans hf9)
  have S9 := hf9.bk S8 n1 n2 n3
  dsimp only
  refine hK.out _ _ (fun _ => S9) ?_
  clear hK K
  try simp only [List.getElem_toArray, List.getElem_cons_zero, List.getElem_cons_succ, Act.put, List.setIfInBounds_toArray, List.set_cons_zero, List.set_cons_succ]
  refine wpAnyT_done (by kernel_rfl) ?_ _
  refine NoPanic.normal ?_
  clear SE HE0 FE0 H8 F8 S8 S9 hb8 hw9 hf9 P0 P1 P2 P3 P4 P5 P6
  go_wp2_with fail
  go_end0
  exact ⟨rfl, fin_put HN.out HS.out (by simpa using HW.out), HE.out⟩
set_option maxHeartbeats 4000000 in
set_option maxRecDepth 100000 in
theorem store_any (p : List FnD) (ls : List SchD) (v : VE) (N : Nat) (W : World) (k : Nat) (ins : InsD) (h : Wk v N W k true ins) (hk : k < ins.length) (s : ShD) (hsk : Hid (sh0 ins[k] = s)) (op fn dst src : Int) (reg : Bool) (off imm : Int) (him : U32 imm) (hm : Hid (mayB op fn dst src reg off imm = true)) (hop : op = 4) (r : Option InsD) (hr : Hid (vStep p v.fn ls k ⟨op, fn, dst, src, reg, off, imm⟩ s ins = r)) :
    Calls Try.prog 45 #[.pointer (some ⟨v.g, 0, none⟩), .agg #[.int .i64 op, .int .i64 fn, .int .i64 dst, .int .i64 src, .bool reg, .int .i64 off, .int .u32 imm]] W fun e w' => e = .returned (.tuple #[]) ∧ (∃ ins', Wk v N w' k r.isSome ins' ∧ (∀ x, r = some x → ins' = x)) ∧ Fr v N W w' := by
  subst hop
  have hs : shOk s := by
    rw [← hsk.out]
    cases e : ins[k] with
    | none => intro i b hb; cases hb
    | some u => exact h.ok _ (List.getElem_mem hk) u e
  have hre := hr.out
  unfold vStep at hre
  have hmp := of_decide_eq_true hm.out
  obtain ⟨-, ⟨hd0, hd1⟩, ⟨hs0, hs1⟩, ⟨hf0, hf1⟩, -⟩ := hmp
  have H := Lib.hid (h.bel ((Bel.refl W).alloc (.cells #[.int .i64 4, .int .i64 fn, .int .i64 dst, .int .i64 src, .bool reg, .int .i64 off, .int .u32 imm] 32)))
  have HF := Lib.hid (Fr.bel (v := v) ((Bel.refl W).alloc (.cells #[.int .i64 4, .int .i64 fn, .int .i64 dst, .int .i64 src, .bool reg, .int .i64 off, .int .u32 imm] 32)) h.nw)
  have B1 := Bk.new W 32 #[.int .i64 4, .int .i64 fn, .int .i64 dst, .int .i64 src, .bool reg, .int .i64 off, .int .u32 imm]
  have g1 := h.w.lt
  have g2 := h.i.lt
  have g3 := h.s.lt
  clear h hr
  rw [if_neg (by show ¬ ((4 : Int) = 0); decide)] at hre
  rw [if_neg (by show ¬ ((4 : Int) = 1); decide)] at hre
  rw [if_neg (by show ¬ ((4 : Int) = 2); decide)] at hre
  rw [if_neg (by show ¬ ((4 : Int) = 3); decide)] at hre
  rw [if_pos rfl] at hre
  obtain ⟨ow, hw⟩ : ∃ ow, Hid (shGet s dst = ow) := ⟨_, Lib.hid rfl⟩
  obtain ⟨o, ho⟩ : ∃ o, Hid (shWord s ⟨4, fn, dst, src, reg, off, imm⟩ = o) := ⟨_, Lib.hid rfl⟩
  have ob : bdOk (rB o) := by
    have : ∀ b, o = some b → bdOk b := fun b e => shWord_ok hs him (ho.out.trans e)
    cases o with
    | none => exact ⟨by decide, by decide⟩
    | some b => exact this b rfl
  obtain ⟨x, hx⟩ : ∃ x, Hid (vTo ins (k + 1) s = x) := ⟨_, Lib.hid rfl⟩
  obtain ⟨lt, hlt⟩ : ∃ lt, Hid (decide ((rB o).2 < 16) = lt) := ⟨_, Lib.hid rfl⟩
  have HN : Hid ((ow.isSome && o.isSome && lt) = false → r = none) := Lib.hid (fun e => by
    rw [ho.out, hw.out] at hre
    cases ow with
    | none => exact hre.symm
    | some c =>
      cases o with
      | none => exact hre.symm
      | some b =>
        have h2 : ¬ b.2 < 16 := (by have h3 := hlt.out; rw [show lt = false by simpa using e] at h3; exact of_decide_eq_false h3)
        simp only [Option.bind_some] at hre
        rw [if_neg h2] at hre
        exact hre.symm)
  have HS : Hid ((ow.isSome && o.isSome && lt) = true → r = x) := Lib.hid (fun e => by
    rw [ho.out, hw.out] at hre
    cases ow with
    | none => simp at e
    | some c =>
      cases o with
      | none => simp at e
      | some b =>
        have h2 : b.2 < 16 := (by have h3 := hlt.out; rw [show lt = true by simpa using e] at h3; exact of_decide_eq_true h3)
        simp only [Option.bind_some] at hre
        rw [if_pos h2] at hre
        rw [← hre, ← hx.out])
  clear hre
  have c2 := B1.cell 2 (v := .int .i64 dst) rfl
  go_enter Try.func45, Try.ntmps45
  go_wp2_with fail
  generalize W.alloc (.cells #[.int .i64 4, .int .i64 fn, .int .i64 dst, .int .i64 src, .bool reg, .int .i64 off, .int .u32 imm] 32) = W0 at *
  obtain ⟨gr, hgr⟩ : ∃ gr, W.heap.size = gr := ⟨_, rfl⟩
  rw [hgr] at B1 g1 g2 g3
  simp only [hgr]
  clear hgr
  have n1 : gr ≠ v.g := by omega
  have n2 : gr ≠ v.Bi := by omega
  have n3 : gr ≠ v.Bs := by omega
  have B1 := Lib.hid B1
  have P0 := fun (w' : World) (hb : Bk w' gr 32 #[.int .i64 4, .int .i64 fn, .int .i64 dst, .int .i64 src, .bool reg, .int .i64 off, .int .u32 imm]) => hb.cell 0 (v := .int .i64 4) rfl
  have P1 := fun (w' : World) (hb : Bk w' gr 32 #[.int .i64 4, .int .i64 fn, .int .i64 dst, .int .i64 src, .bool reg, .int .i64 off, .int .u32 imm]) => hb.cell 1 (v := .int .i64 fn) rfl
  have P2 := fun (w' : World) (hb : Bk w' gr 32 #[.int .i64 4, .int .i64 fn, .int .i64 dst, .int .i64 src, .bool reg, .int .i64 off, .int .u32 imm]) => hb.cell 2 (v := .int .i64 dst) rfl
  have P3 := fun (w' : World) (hb : Bk w' gr 32 #[.int .i64 4, .int .i64 fn, .int .i64 dst, .int .i64 src, .bool reg, .int .i64 off, .int .u32 imm]) => hb.cell 3 (v := .int .i64 src) rfl
  have P4 := fun (w' : World) (hb : Bk w' gr 32 #[.int .i64 4, .int .i64 fn, .int .i64 dst, .int .i64 src, .bool reg, .int .i64 off, .int .u32 imm]) => hb.cell 4 (v := .bool reg) rfl
  have P5 := fun (w' : World) (hb : Bk w' gr 32 #[.int .i64 4, .int .i64 fn, .int .i64 dst, .int .i64 src, .bool reg, .int .i64 off, .int .u32 imm]) => hb.cell 5 (v := .int .i64 off) rfl
  have P6 := fun (w' : World) (hb : Bk w' gr 32 #[.int .i64 4, .int .i64 fn, .int .i64 dst, .int .i64 src, .bool reg, .int .i64 off, .int .u32 imm]) => hb.cell 6 (v := .int .u32 imm) rfl
  clear c2
  refine (wget_any v N _ k true ins H.out hk s hsk dst ow hw).mono ?_
  rintro e w5 ⟨rfl, hw5, hf5⟩
  have S5 := hf5.bk B1.out n1 n2 n3
  have F5 := HF.out.trans hf5
  have d0 := P0 _ S5
  have d1 := P1 _ S5
  have d2 := P2 _ S5
  have d3 := P3 _ S5
  have d4 := P4 _ S5
  have d5 := P5 _ S5
  have d6 := P6 _ S5
  go_wp2_with fail
  refine (wword_any v N _ k _ ins hw5 hk s hsk 4 fn dst src reg off imm him hm o ho).mono ?_
  rintro e w6 ⟨rfl, hw6, hf6⟩
  have S6 := hf6.bk S5 n1 n2 n3
  have F6 := F5.trans hf6
  clear d0 d1 d2 d3 d4 d5 d6
  go_wp2_with fail
  refine (within_any v N _ k _ ins hw6 (rB o) ob 16 (by decide) lt hlt).mono ?_
  rintro e w7 ⟨rfl, hw7, hf7⟩
  have F7 := F6.trans hf7
  go_wp2_with fail
  refine (here_any v N _ k _ ins hw7 hk s hsk).mono ?_
  rintro e w8 ⟨rfl, hb8⟩
  have H8 := hw7.bel hb8
  have F8 := F7.trans (Fr.bel hb8 hw7.nw)
  go_wp2_with fail
  refine (wthen_any v N _ k _ ins H8 hk s hs x hx).mono ?_
  rintro e w9 ⟨rfl, hw9, hf9⟩
  have HW := Lib.hid hw9
  have HE := Lib.hid (F8.trans hf9)
  clear hw5 hf5 S5 F5 hw6 hf6 S6 F6 hw7 hf7 F7 hb8 H8 F8 hw9 hf9 P0 P1 P2 P3 P4 P5 P6
  go_wp2_with fail
  go_end0
  exact ⟨rfl, fin_put HN.out HS.out (by simpa using HW.out), HE.out⟩
set_option maxHeartbeats 4000000 in
set_option maxRecDepth 100000 in
theorem exit_any (p : List FnD) (ls : List SchD) (v : VE) (N : Nat) (W : World) (k : Nat) (ins : InsD) (h : Wk v N W k true ins) (hk : k < ins.length) (s : ShD) (hsk : Hid (sh0 ins[k] = s)) (op fn dst src : Int) (reg : Bool) (off imm : Int) (him : U32 imm) (hm : Hid (mayB op fn dst src reg off imm = true)) (hop : op = 7) (r : Option InsD) (hr : Hid (vStep p v.fn ls k ⟨op, fn, dst, src, reg, off, imm⟩ s ins = r)) :
    Calls Try.prog 48 #[.pointer (some ⟨v.g, 0, none⟩), .agg #[.int .i64 op, .int .i64 fn, .int .i64 dst, .int .i64 src, .bool reg, .int .i64 off, .int .u32 imm]] W fun e w' => e = .returned (.tuple #[]) ∧ (∃ ins', Wk v N w' k r.isSome ins' ∧ (∀ x, r = some x → ins' = x)) ∧ Fr v N W w' := by
  subst hop
  have hs : shOk s := by
    rw [← hsk.out]
    cases e : ins[k] with
    | none => intro i b hb; cases hb
    | some u => exact h.ok _ (List.getElem_mem hk) u e
  have hre := hr.out
  unfold vStep at hre
  have hmp := of_decide_eq_true hm.out
  obtain ⟨-, ⟨hd0, hd1⟩, ⟨hs0, hs1⟩, ⟨hf0, hf1⟩, -⟩ := hmp
  have H := Lib.hid (h.bel ((Bel.refl W).alloc (.cells #[.int .i64 7, .int .i64 fn, .int .i64 dst, .int .i64 src, .bool reg, .int .i64 off, .int .u32 imm] 32)))
  have HF := Lib.hid (Fr.bel (v := v) ((Bel.refl W).alloc (.cells #[.int .i64 7, .int .i64 fn, .int .i64 dst, .int .i64 src, .bool reg, .int .i64 off, .int .u32 imm] 32)) h.nw)
  have B1 := Bk.new W 32 #[.int .i64 7, .int .i64 fn, .int .i64 dst, .int .i64 src, .bool reg, .int .i64 off, .int .u32 imm]
  have g1 := h.w.lt
  have g2 := h.i.lt
  have g3 := h.s.lt
  clear h hr
  rw [if_neg (by show ¬ ((7 : Int) = 0); decide)] at hre
  rw [if_neg (by show ¬ ((7 : Int) = 1); decide)] at hre
  rw [if_neg (by show ¬ ((7 : Int) = 2); decide)] at hre
  rw [if_neg (by show ¬ ((7 : Int) = 3); decide)] at hre
  rw [if_neg (by show ¬ ((7 : Int) = 4); decide)] at hre
  rw [if_neg (by show ¬ ((7 : Int) = 5); decide)] at hre
  rw [if_neg (by show ¬ ((7 : Int) = 6); decide)] at hre
  obtain ⟨o, ho⟩ : ∃ o, Hid (shGet s 0 = o) := ⟨_, Lib.hid rfl⟩
  rw [ho.out] at hre
  have HRE := Lib.hid hre
  clear hre
  go_enter Try.func48, Try.ntmps48
  go_wp2_with fail
  generalize W.alloc (.cells #[.int .i64 7, .int .i64 fn, .int .i64 dst, .int .i64 src, .bool reg, .int .i64 off, .int .u32 imm] 32) = W0 at *
  obtain ⟨gr, hgr⟩ : ∃ gr, W.heap.size = gr := ⟨_, rfl⟩
  rw [hgr] at B1 g1 g2 g3
  simp only [hgr]
  clear hgr
  have n1 : gr ≠ v.g := by omega
  have n2 : gr ≠ v.Bi := by omega
  have n3 : gr ≠ v.Bs := by omega
  have B1 := Lib.hid B1
  refine (wget_any v N _ k true ins H.out hk s hsk 0 o ho).mono ?_
  rintro e w5 ⟨rfl, hw5, hf5⟩
  have HW := Lib.hid hw5
  have HE := Lib.hid (HF.out.trans hf5)
  clear hw5 hf5
  go_wp2_with fail
  go_end0
  have hw := HW.out
  have hre := HRE.out
  refine ⟨rfl, ?_, HE.out⟩
  cases o with
  | none =>
    obtain rfl : r = none := hre.symm
    exact ⟨ins, by simpa using hw, fun y e => by cases e⟩
  | some b =>
    obtain rfl : r = some ins := hre.symm
    exact ⟨ins, by simpa using hw, fun y e => by cases e; rfl⟩
end Go.Proofs.Ytebdnobgdimdoaa
