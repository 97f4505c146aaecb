/- verify's steps: alu, ctx, load, store, exit. -/
import Derived.Test.YtebdnobgdimdoaaVw3
import Derived.Test.YtebdnobgdimdoaaBndCuts
import Derived.Test.YtebdnobgdimdoaaBndPure
set_option linter.unusedVariables false
set_option linter.unusedSimpArgs false
namespace Go.Proofs.Ytebdnobgdimdoaa
open Go.RowKit

theorem aluS_ok {l1 h1 l2 h2 op : Nat} (k1 : l1 ≤ h1) (k2 : h1 < 4294967296) (k3 : l2 ≤ h2) (k4 : h2 < 4294967296) (hop : op < 11) : bdOk (aluS op l1 h1 l2 h2) := by
  have := aluS_law (Nat.le_refl l1) k1 (Nat.le_refl l2) k3 k2 k4 op hop
  exact ⟨this.1, this.2.1⟩
theorem ofall (w : World) : Calls Try.prog 60 #[.int .u32 0, .int .u32 4294967295] w fun e w' => e = .returned (cV bdAll) ∧ Bel w w' := Of_any 0 4294967295 w (by decide) (by decide)
theorem fin_put {v : VE} {N : Nat} {W : World} {k : Nat} {b : Bool} {x r : Option InsD} {ins : InsD} (hn : b = false → r = none) (hs : b = true → r = x) (hw : Wk v N W k (b && x.isSome) (if b = true then x.getD ins else ins)) : ∃ ins', Wk v N W k r.isSome ins' ∧ ∀ y, r = some y → ins' = y := by
  cases b
  · obtain rfl := hn rfl
    exact ⟨ins, by simpa using hw, fun y e => by cases e⟩
  · obtain rfl := hs rfl
    cases r with
    | none => exact ⟨ins, by simpa using hw, fun y e => by cases e⟩
    | some y => exact ⟨y, by simpa using hw, fun z e => by cases e; rfl⟩
theorem shWord_ok {s : ShD} (hs : shOk s) {i : InstD} (hi : U32 i.imm) {b : Bd} (e : shWord s i = some b) : bdOk b := by
  unfold shWord at e
  split at e
  · exact shGet_ok hs e
  · cases e
    have := hi.lo
    have := hi.hi
    exact ⟨Nat.le_refl _, by omega⟩
set_option maxHeartbeats 4000000 in
set_option maxRecDepth 100000 in
theorem alu_any (p : List FnD) (ls : List SchD) (v : VE) (N : Nat) (W : World) (k : Nat) (ins : InsD) (h : Wk v N W k true ins) (hk : k < ins.length) (s : ShD) (hsk : Hid (sh0 ins[k] = s)) (op fn dst src : Int) (reg : Bool) (off imm : Int) (him : U32 imm) (hm : Hid (mayB op fn dst src reg off imm = true)) (hop : op = 0) (r : Option InsD) (hr : Hid (vStep p v.fn ls k ⟨op, fn, dst, src, reg, off, imm⟩ s ins = r)) :
    Calls Try.prog 41 #[.pointer (some ⟨v.g, 0, none⟩), .agg #[.int .i64 op, .int .i64 fn, .int .i64 dst, .int .i64 src, .bool reg, .int .i64 off, .int .u32 imm]] W fun e w' => e = .returned (.tuple #[]) ∧ (∃ ins', Wk v N w' k r.isSome ins' ∧ (∀ x, r = some x → ins' = x)) ∧ Fr v N W w' := by
  subst hop
  have hs : shOk s := by
    rw [← hsk.out]
    cases e : ins[k] with
    | none => intro i b hb; cases hb
    | some u => exact h.ok _ (List.getElem_mem hk) u e
  have hre := hr.out
  unfold vStep at hre
  have hmp := of_decide_eq_true hm.out
  obtain ⟨-, ⟨hd0, hd1⟩, ⟨hs0, hs1⟩, ⟨hf0, hf1⟩, -⟩ := hmp
  have H := Lib.hid (h.bel ((Bel.refl W).alloc (.cells #[.int .i64 0, .int .i64 fn, .int .i64 dst, .int .i64 src, .bool reg, .int .i64 off, .int .u32 imm] 32)))
  have HF := Lib.hid (Fr.bel (v := v) ((Bel.refl W).alloc (.cells #[.int .i64 0, .int .i64 fn, .int .i64 dst, .int .i64 src, .bool reg, .int .i64 off, .int .u32 imm] 32)) h.nw)
  have B1 := Bk.new W 32 #[.int .i64 0, .int .i64 fn, .int .i64 dst, .int .i64 src, .bool reg, .int .i64 off, .int .u32 imm]
  have g1 := h.w.lt
  have g2 := h.i.lt
  have g3 := h.s.lt
  clear h hr
  simp only [if_true] at hre hf1
  obtain ⟨q, HQ⟩ : ∃ q : Nat, Hid (fn = q) := ⟨fn.toNat, Lib.hid (by omega)⟩
  have hq11 : q < 11 := by have := HQ.out; omega
  obtain ⟨o, ho⟩ : ∃ o, Hid (shWord s ⟨0, fn, dst, src, reg, off, imm⟩ = o) := ⟨_, Lib.hid rfl⟩
  have ob : bdOk (rB o) := by
    have : ∀ b, o = some b → bdOk b := fun b e => shWord_ok hs him (ho.out.trans e)
    cases o with
    | none => exact ⟨by decide, by decide⟩
    | some b => exact this b rfl
  go_enter Try.func41, Try.ntmps41
  go_wp2_with fail
  generalize W.alloc (.cells #[.int .i64 0, .int .i64 fn, .int .i64 dst, .int .i64 src, .bool reg, .int .i64 off, .int .u32 imm] 32) = W0 at *
  obtain ⟨gr, hgr⟩ : ∃ gr, W.heap.size = gr := ⟨_, rfl⟩
  rw [hgr] at B1 g1 g2 g3
  simp only [hgr]
  clear hgr
  have n1 : gr ≠ v.g := by omega
  have n2 : gr ≠ v.Bi := by omega
  have n3 : gr ≠ v.Bs := by omega
  have B1 := Lib.hid B1
  have P0 := fun (w' : World) (hb : Bk w' gr 32 #[.int .i64 0, .int .i64 fn, .int .i64 dst, .int .i64 src, .bool reg, .int .i64 off, .int .u32 imm]) => hb.cell 0 (v := .int .i64 0) rfl
  have P1 := fun (w' : World) (hb : Bk w' gr 32 #[.int .i64 0, .int .i64 fn, .int .i64 dst, .int .i64 src, .bool reg, .int .i64 off, .int .u32 imm]) => hb.cell 1 (v := .int .i64 fn) rfl
  have P2 := fun (w' : World) (hb : Bk w' gr 32 #[.int .i64 0, .int .i64 fn, .int .i64 dst, .int .i64 src, .bool reg, .int .i64 off, .int .u32 imm]) => hb.cell 2 (v := .int .i64 dst) rfl
  have P3 := fun (w' : World) (hb : Bk w' gr 32 #[.int .i64 0, .int .i64 fn, .int .i64 dst, .int .i64 src, .bool reg, .int .i64 off, .int .u32 imm]) => hb.cell 3 (v := .int .i64 src) rfl
  have P4 := fun (w' : World) (hb : Bk w' gr 32 #[.int .i64 0, .int .i64 fn, .int .i64 dst, .int .i64 src, .bool reg, .int .i64 off, .int .u32 imm]) => hb.cell 4 (v := .bool reg) rfl
  have P5 := fun (w' : World) (hb : Bk w' gr 32 #[.int .i64 0, .int .i64 fn, .int .i64 dst, .int .i64 src, .bool reg, .int .i64 off, .int .u32 imm]) => hb.cell 5 (v := .int .i64 off) rfl
  have P6 := fun (w' : World) (hb : Bk w' gr 32 #[.int .i64 0, .int .i64 fn, .int .i64 dst, .int .i64 src, .bool reg, .int .i64 off, .int .u32 imm]) => hb.cell 6 (v := .int .u32 imm) rfl
  have SD := B1.out.bel (Bel.refl W0).drew
  refine wp_region_T (fun w' => Bk w' gr 32 #[.int .i64 0, .int .i64 fn, .int .i64 dst, .int .i64 src, .bool reg, .int .i64 off, .int .u32 imm]) (fun _ => false) (by kernel_rfl) ?_
  refine wpAnyU_take (i := 1) (v := ?v1a) rfl (by kernel_rfl) (by kernel_rfl) (by kernel_rfl) (by kernel_rfl) (fun _ _ _ h => h) ?hy1a SD ?rest1a
  case hy1a => first | (refine Or.inl ⟨by rfl, ?_⟩; (intro w' hSw; go_simp) <;> with_reducible rfl) | (refine Or.inr ⟨by rfl, ?_⟩; with_reducible rfl)
  try simp only [List.getElem_toArray, List.getElem_cons_zero, List.getElem_cons_succ, Act.put, List.setIfInBounds_toArray, List.set_cons_zero, List.set_cons_succ]
  refine wpAnyU_take (i := 2) (v := ?v2a) rfl (by kernel_rfl) (by kernel_rfl) (by kernel_rfl) (by kernel_rfl) (fun _ _ _ h => h) ?hy2a SD ?rest2a
  case hy2a => first | (refine Or.inl ⟨by rfl, ?_⟩; (intro w' hSw; go_simp) <;> with_reducible rfl) | (refine Or.inr ⟨by rfl, ?_⟩; with_reducible rfl)
  try simp only [List.getElem_toArray, List.getElem_cons_zero, List.getElem_cons_succ, Act.put, List.setIfInBounds_toArray, List.set_cons_zero, List.set_cons_succ]
  refine wpAnyT_one (i := 0) (by kernel_rfl) rfl (fun K hK => ?_)
  go_simp
  go_at_call 60
  refine (ofall _).mono ?_
  rintro en w5 ⟨rfl, hb5⟩
  have S5 := SD.bel hb5
  have H5 := (H.out.bel (Bel.refl W0).drew).bel hb5
  have F5 := (HF.out.trans (Fr.bel (Bel.refl W0).drew H.out.nw)).trans (Fr.bel hb5 (H.out.bel (Bel.refl W0).drew).nw)
  dsimp only
  refine hK.out _ _ (fun _ => S5) ?_
  clear hK K
  try simp only [List.getElem_toArray, List.getElem_cons_zero, List.getElem_cons_succ, Act.put, List.setIfInBounds_toArray, List.set_cons_zero, List.set_cons_succ]
  refine wpAnyT_one (i := 3) (by kernel_rfl) rfl (fun K hK => ?_)
  go_simp
  go_at_call 64
  refine (wword_any v N _ k true ins H5 hk s hsk 0 fn dst src reg off imm him hm o ho).mono ?_
  rintro en w6 ⟨rfl, hw6, hf6⟩
  have S6 := hf6.bk S5 n1 n2 n3
  have H6 := Lib.hid hw6
  have F6 := Lib.hid (F5.trans hf6)
  dsimp only
  refine hK.out _ _ (fun _ => S6) ?_
  clear hK K
  try simp only [List.getElem_toArray, List.getElem_cons_zero, List.getElem_cons_succ, Act.put, List.setIfInBounds_toArray, List.set_cons_zero, List.set_cons_succ]
  refine wpAnyU_take (i := 4) (v := ?v4a) rfl (by kernel_rfl) (by kernel_rfl) (by kernel_rfl) (by kernel_rfl) (fun _ _ _ h => h) ?hy4a S6 ?rest4a
  case hy4a => first | (refine Or.inl ⟨by rfl, ?_⟩; (intro w' hSw; go_simp) <;> with_reducible rfl) | (refine Or.inr ⟨by rfl, ?_⟩; with_reducible rfl)
  try simp only [List.getElem_toArray, List.getElem_cons_zero, List.getElem_cons_succ, Act.put, List.setIfInBounds_toArray, List.set_cons_zero, List.set_cons_succ]
  refine wpAnyU_take (i := 5) (v := ?v5a) rfl (by kernel_rfl) (by kernel_rfl) (by kernel_rfl) (by kernel_rfl) (fun _ _ _ h => h) ?hy5a S6 ?rest5a
  case hy5a => first | (refine Or.inl ⟨by rfl, ?_⟩; (intro w' hSw; go_simp) <;> with_reducible rfl) | (refine Or.inr ⟨by rfl, ?_⟩; with_reducible rfl)
  try simp only [List.getElem_toArray, List.getElem_cons_zero, List.getElem_cons_succ, Act.put, List.setIfInBounds_toArray, List.set_cons_zero, List.set_cons_succ]
  refine wpAnyT_done (by kernel_rfl) ?_ _
  refine NoPanic.normal ?_
  clear H5 F5 S5 hb5 hw6 hf6 SD
  have d1 := P1 _ S6
  have d2 := P2 _ S6
  by_cases h0 : fn = 0
  · have e0 : (fn != 0) = false := by simp [h0]
    obtain ⟨⟨a1, a2⟩, HA⟩ : ∃ q', Hid (aluS q bdAll.1 bdAll.2 (rB o).1 (rB o).2 = q') := ⟨_, Lib.hid rfl⟩
    have oka : bdOk (a1, a2) := by rw [← HA.out]; exact aluS_ok bdAll_ok.1 bdAll_ok.2 ob.1 ob.2 hq11
    obtain ⟨x, hx⟩ : ∃ x, Hid (vTo ins (k + 1) (shPut s dst (a1, a2)) = x) := ⟨_, Lib.hid rfl⟩
    have HN : Hid (o.isSome = false → r = none) := Lib.hid (fun e => by
      rw [ho.out, if_pos h0, Option.isSome_eq_false_iff.1 e |> Option.isNone_iff_eq_none.1] at hre
      exact hre.symm)
    have HS : Hid (o.isSome = true → r = x) := Lib.hid (fun e => by
      obtain ⟨b, rfl⟩ := Option.isSome_iff_exists.1 e
      rw [ho.out, if_pos h0] at hre
      simp only [Option.bind_some] at hre
      rw [← hre, ← hx.out, ← HA.out, HQ.out]
      rfl)
    have oa := bdAll_ok
    clear h0 hre d2
    go_wp2_with fail
    have SE := S6.bel (Bel.refl w6).drew
    have H8 := H6.out.bel (Bel.refl w6).drew
    have F8 := F6.out.trans (Fr.bel (Bel.refl w6).drew H6.out.nw)
    refine wp_region_T (fun w' => Bk w' gr 32 #[.int .i64 0, .int .i64 fn, .int .i64 dst, .int .i64 src, .bool reg, .int .i64 off, .int .u32 imm]) (fun _ => false) (by kernel_rfl) ?_
    refine wpAnyU_take (i := 0) (v := ?v0b) rfl (by kernel_rfl) (by kernel_rfl) (by kernel_rfl) (by kernel_rfl) (fun _ _ _ h => h) ?hy0b SE ?rest0b
    case hy0b => first | (refine Or.inl ⟨by rfl, ?_⟩; (intro w' hSw; go_simp) <;> with_reducible rfl) | (refine Or.inr ⟨by rfl, ?_⟩; with_reducible rfl)
    try simp only [List.getElem_toArray, List.getElem_cons_zero, List.getElem_cons_succ, Act.put, List.setIfInBounds_toArray, List.set_cons_zero, List.set_cons_succ]
    refine wpAnyU_take (i := 1) (v := ?v1b) rfl (by kernel_rfl) (by kernel_rfl) (by kernel_rfl) (by kernel_rfl) (fun _ _ _ h => h) ?hy1b SE ?rest1b
    case hy1b => first | (refine Or.inl ⟨by rfl, ?_⟩; (intro w' hSw; go_simp) <;> with_reducible rfl) | (refine Or.inr ⟨by rfl, ?_⟩; with_reducible rfl)
    try simp only [List.getElem_toArray, List.getElem_cons_zero, List.getElem_cons_succ, Act.put, List.setIfInBounds_toArray, List.set_cons_zero, List.set_cons_succ]
    refine wpAnyU_take (i := 2) (v := ?v2b) rfl (by kernel_rfl) (by kernel_rfl) (by kernel_rfl) (by kernel_rfl) (fun _ _ _ h => h) ?hy2b SE ?rest2b
    case hy2b => first | (refine Or.inl ⟨by rfl, ?_⟩; (intro w' hSw; go_simp) <;> with_reducible rfl) | (refine Or.inr ⟨by rfl, ?_⟩; with_reducible rfl)
    try simp only [List.getElem_toArray, List.getElem_cons_zero, List.getElem_cons_succ, Act.put, List.setIfInBounds_toArray, List.set_cons_zero, List.set_cons_succ]
    refine wpAnyU_take (i := 3) (v := ?v3b) rfl (by kernel_rfl) (by kernel_rfl) (by kernel_rfl) (by kernel_rfl) (fun _ _ _ h => h) ?hy3b SE ?rest3b
    case hy3b => first | (refine Or.inl ⟨by rfl, ?_⟩; (intro w' hSw; go_simp) <;> with_reducible rfl) | (refine Or.inr ⟨by rfl, ?_⟩; with_reducible rfl)
    try simp only [List.getElem_toArray, List.getElem_cons_zero, List.getElem_cons_succ, Act.put, List.setIfInBounds_toArray, List.set_cons_zero, List.set_cons_succ]
    refine wpAnyU_take (i := 4) (v := ?v4b) rfl (by kernel_rfl) (by kernel_rfl) (by kernel_rfl) (by kernel_rfl) (fun _ _ _ h => h) ?hy4b SE ?rest4b
    case hy4b => first | (refine Or.inl ⟨by rfl, ?_⟩; (intro w' hSw; go_simp) <;> with_reducible rfl) | (refine Or.inr ⟨by rfl, ?_⟩; with_reducible rfl)
    try simp only [List.getElem_toArray, List.getElem_cons_zero, List.getElem_cons_succ, Act.put, List.setIfInBounds_toArray, List.set_cons_zero, List.set_cons_succ]
    refine wpAnyU_take (i := 5) (v := ?v5b) rfl (by kernel_rfl) (by kernel_rfl) (by kernel_rfl) (by kernel_rfl) (fun _ _ _ h => h) ?hy5b SE ?rest5b
    case hy5b => first | (refine Or.inl ⟨by rfl, ?_⟩; (intro w' hSw; go_simp) <;> with_reducible rfl) | (refine Or.inr ⟨by rfl, ?_⟩; with_reducible rfl)
    try simp only [List.getElem_toArray, List.getElem_cons_zero, List.getElem_cons_succ, Act.put, List.setIfInBounds_toArray, List.set_cons_zero, List.set_cons_succ]
    refine wpAnyU_take (i := 6) (v := ?v6b) rfl (by kernel_rfl) (by kernel_rfl) (by kernel_rfl) (by kernel_rfl) (fun _ _ _ h => h) ?hy6b SE ?rest6b
    case hy6b => first | (refine Or.inl ⟨by rfl, ?_⟩; (intro w' hSw; go_simp) <;> with_reducible rfl) | (refine Or.inr ⟨by rfl, ?_⟩; with_reducible rfl)
    try simp only [List.getElem_toArray, List.getElem_cons_zero, List.getElem_cons_succ, Act.put, List.setIfInBounds_toArray, List.set_cons_zero, List.set_cons_succ]
    refine wpAnyT_one (i := 7) (by kernel_rfl) rfl (fun K hK => ?_)
    go_simp
    go_at_call 67
    refine (balu_at q bdAll.1 bdAll.2 (rB o).1 (rB o).2 a1 a2 fn _ HQ.out HA.out hq11 oa.1 oa.2 ob.1 ob.2).mono ?_
    rintro en w7 ⟨rfl, hb7⟩
    have S7 := SE.bel hb7
    have H7 := H8.bel hb7
    have F7 := F8.trans (Fr.bel hb7 H8.nw)
    dsimp only
    refine hK.out _ _ (fun _ => S7) ?_
    clear hK K
    try simp only [List.getElem_toArray, List.getElem_cons_zero, List.getElem_cons_succ, Act.put, List.setIfInBounds_toArray, List.set_cons_zero, List.set_cons_succ]
    refine wpAnyT_one (i := 8) (by kernel_rfl) rfl (fun K hK => ?_)
    go_simp
    go_at_call 66
    refine (wput_any v N _ k _ ins H7 hk s hsk dst (a1, a2) oka x hx).mono ?_
    rintro en w8 ⟨rfl, hw8, hf8⟩
    have HW := Lib.hid hw8
    have HE := Lib.hid (F7.trans hf8)
    have S8 := hf8.bk S7 n1 n2 n3
    dsimp only
    refine hK.out _ _ (fun _ => S8) ?_
    clear hK K
    try simp only [List.getElem_toArray, List.getElem_cons_zero, List.getElem_cons_succ, Act.put, List.setIfInBounds_toArray, List.set_cons_zero, List.set_cons_succ]
    refine wpAnyT_done (by kernel_rfl) ?_ _
    refine NoPanic.normal ?_
    clear SE H8 F8 H7 F7 S7 S8 hb7 hw8 hf8 P0 P1 P2 P3 P4 P5 P6
    go_wp2_with fail
    go_end0
    exact ⟨rfl, fin_put HN.out HS.out (by simpa using HW.out), HE.out⟩
  · have e0 : (fn != 0) = true := by simp [h0]
    obtain ⟨ow, hw⟩ : ∃ ow, Hid (shGet s dst = ow) := ⟨_, Lib.hid rfl⟩
    have oa : bdOk (rB ow) := by
      cases ow with
      | none => exact ⟨by decide, by decide⟩
      | some b => exact shGet_ok hs hw.out
    obtain ⟨⟨a1, a2⟩, HA⟩ : ∃ q', Hid (aluS q (rB ow).1 (rB ow).2 (rB o).1 (rB o).2 = q') := ⟨_, Lib.hid rfl⟩
    have oka : bdOk (a1, a2) := by rw [← HA.out]; exact aluS_ok oa.1 oa.2 ob.1 ob.2 hq11
    obtain ⟨x, hx⟩ : ∃ x, Hid (vTo ins (k + 1) (shPut s dst (a1, a2)) = x) := ⟨_, Lib.hid rfl⟩
    have HN : Hid ((o.isSome && ow.isSome) = false → r = none) := Lib.hid (fun e => by
      rw [ho.out, if_neg h0, hw.out] at hre
      cases o with
      | none => exact hre.symm
      | some b =>
        cases ow with
        | none => exact hre.symm
        | some c => simp at e)
    have HS : Hid ((o.isSome && ow.isSome) = true → r = x) := Lib.hid (fun e => by
      rw [ho.out, if_neg h0, hw.out] at hre
      cases o with
      | none => simp at e
      | some b =>
        cases ow with
        | none => simp at e
        | some c =>
          simp only [Option.bind_some] at hre
          rw [← hre, ← hx.out, ← HA.out, HQ.out]
          rfl)
    clear h0 hre
    go_wp2_with fail
    refine (wget_any v N _ k _ ins H6.out hk s hsk dst ow hw).mono ?_
    rintro e w9 ⟨rfl, hw9, hf9⟩
    have S9 := hf9.bk S6 n1 n2 n3
    have H9 := Lib.hid hw9
    have F9 := Lib.hid (F6.out.trans hf9)
    have d1 := P1 _ S9
    clear d2 hw9 hf9 S6 H6 F6
    go_wp2_with fail
    have SE := S9.bel (Bel.refl w9).drew
    have H8 := H9.out.bel (Bel.refl w9).drew
    have F8 := F9.out.trans (Fr.bel (Bel.refl w9).drew H9.out.nw)
    refine wp_region_T (fun w' => Bk w' gr 32 #[.int .i64 0, .int .i64 fn, .int .i64 dst, .int .i64 src, .bool reg, .int .i64 off, .int .u32 imm]) (fun _ => false) (by kernel_rfl) ?_
    refine wpAnyU_take (i := 0) (v := ?v0c) rfl (by kernel_rfl) (by kernel_rfl) (by kernel_rfl) (by kernel_rfl) (fun _ _ _ h => h) ?hy0c SE ?rest0c
    case hy0c => first | (refine Or.inl ⟨by rfl, ?_⟩; (intro w' hSw; go_simp) <;> with_reducible rfl) | (refine Or.inr ⟨by rfl, ?_⟩; with_reducible rfl)
    try simp only [List.getElem_toArray, List.getElem_cons_zero, List.getElem_cons_succ, Act.put, List.setIfInBounds_toArray, List.set_cons_zero, List.set_cons_succ]
    refine wpAnyU_take (i := 1) (v := ?v1c) rfl (by kernel_rfl) (by kernel_rfl) (by kernel_rfl) (by kernel_rfl) (fun _ _ _ h => h) ?hy1c SE ?rest1c
    case hy1c => first | (refine Or.inl ⟨by rfl, ?_⟩; (intro w' hSw; go_simp) <;> with_reducible rfl) | (refine Or.inr ⟨by rfl, ?_⟩; with_reducible rfl)
    try simp only [List.getElem_toArray, List.getElem_cons_zero, List.getElem_cons_succ, Act.put, List.setIfInBounds_toArray, List.set_cons_zero, List.set_cons_succ]
    refine wpAnyU_take (i := 2) (v := ?v2c) rfl (by kernel_rfl) (by kernel_rfl) (by kernel_rfl) (by kernel_rfl) (fun _ _ _ h => h) ?hy2c SE ?rest2c
    case hy2c => first | (refine Or.inl ⟨by rfl, ?_⟩; (intro w' hSw; go_simp) <;> with_reducible rfl) | (refine Or.inr ⟨by rfl, ?_⟩; with_reducible rfl)
    try simp only [List.getElem_toArray, List.getElem_cons_zero, List.getElem_cons_succ, Act.put, List.setIfInBounds_toArray, List.set_cons_zero, List.set_cons_succ]
    refine wpAnyU_take (i := 3) (v := ?v3c) rfl (by kernel_rfl) (by kernel_rfl) (by kernel_rfl) (by kernel_rfl) (fun _ _ _ h => h) ?hy3c SE ?rest3c
    case hy3c => first | (refine Or.inl ⟨by rfl, ?_⟩; (intro w' hSw; go_simp) <;> with_reducible rfl) | (refine Or.inr ⟨by rfl, ?_⟩; with_reducible rfl)
    try simp only [List.getElem_toArray, List.getElem_cons_zero, List.getElem_cons_succ, Act.put, List.setIfInBounds_toArray, List.set_cons_zero, List.set_cons_succ]
    refine wpAnyU_take (i := 4) (v := ?v4c) rfl (by kernel_rfl) (by kernel_rfl) (by kernel_rfl) (by kernel_rfl) (fun _ _ _ h => h) ?hy4c SE ?rest4c
    case hy4c => first | (refine Or.inl ⟨by rfl, ?_⟩; (intro w' hSw; go_simp) <;> with_reducible rfl) | (refine Or.inr ⟨by rfl, ?_⟩; with_reducible rfl)
    try simp only [List.getElem_toArray, List.getElem_cons_zero, List.getElem_cons_succ, Act.put, List.setIfInBounds_toArray, List.set_cons_zero, List.set_cons_succ]
    refine wpAnyU_take (i := 5) (v := ?v5c) rfl (by kernel_rfl) (by kernel_rfl) (by kernel_rfl) (by kernel_rfl) (fun _ _ _ h => h) ?hy5c SE ?rest5c
    case hy5c => first | (refine Or.inl ⟨by rfl, ?_⟩; (intro w' hSw; go_simp) <;> with_reducible rfl) | (refine Or.inr ⟨by rfl, ?_⟩; with_reducible rfl)
    try simp only [List.getElem_toArray, List.getElem_cons_zero, List.getElem_cons_succ, Act.put, List.setIfInBounds_toArray, List.set_cons_zero, List.set_cons_succ]
    refine wpAnyU_take (i := 6) (v := ?v6c) rfl (by kernel_rfl) (by kernel_rfl) (by kernel_rfl) (by kernel_rfl) (fun _ _ _ h => h) ?hy6c SE ?rest6c
    case hy6c => first | (refine Or.inl ⟨by rfl, ?_⟩; (intro w' hSw; go_simp) <;> with_reducible rfl) | (refine Or.inr ⟨by rfl, ?_⟩; with_reducible rfl)
    try simp only [List.getElem_toArray, List.getElem_cons_zero, List.getElem_cons_succ, Act.put, List.setIfInBounds_toArray, List.set_cons_zero, List.set_cons_succ]
    refine wpAnyT_one (i := 7) (by kernel_rfl) rfl (fun K hK => ?_)
    go_simp
    go_at_call 67
    refine (balu_at q (rB ow).1 (rB ow).2 (rB o).1 (rB o).2 a1 a2 fn _ HQ.out HA.out hq11 oa.1 oa.2 ob.1 ob.2).mono ?_
    rintro en w7 ⟨rfl, hb7⟩
    have S7 := SE.bel hb7
    have H7 := H8.bel hb7
    have F7 := F8.trans (Fr.bel hb7 H8.nw)
    dsimp only
    refine hK.out _ _ (fun _ => S7) ?_
    clear hK K
    try simp only [List.getElem_toArray, List.getElem_cons_zero, List.getElem_cons_succ, Act.put, List.setIfInBounds_toArray, List.set_cons_zero, List.set_cons_succ]
    refine wpAnyT_one (i := 8) (by kernel_rfl) rfl (fun K hK => ?_)
    go_simp
    go_at_call 66
    refine (wput_any v N _ k _ ins H7 hk s hsk dst (a1, a2) oka x hx).mono ?_
    rintro en w8 ⟨rfl, hw8, hf8⟩
    have HW := Lib.hid hw8
    have HE := Lib.hid (F7.trans hf8)
    have S8 := hf8.bk S7 n1 n2 n3
    dsimp only
    refine hK.out _ _ (fun _ => S8) ?_
    clear hK K
    try simp only [List.getElem_toArray, List.getElem_cons_zero, List.getElem_cons_succ, Act.put, List.setIfInBounds_toArray, List.set_cons_zero, List.set_cons_succ]
    refine wpAnyT_done (by kernel_rfl) ?_ _
    refine NoPanic.normal ?_
    clear SE H8 F8 H7 F7 S7 S8 hb7 hw8 hf8 P0 P1 P2 P3 P4 P5 P6
    go_wp2_with fail
    go_end0
    exact ⟨rfl, fin_put HN.out HS.out (by simpa using HW.out), HE.out⟩
end Go.Proofs.Ytebdnobgdimdoaa
