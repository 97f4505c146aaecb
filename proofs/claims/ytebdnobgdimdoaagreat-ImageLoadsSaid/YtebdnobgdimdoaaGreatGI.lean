/- verify's steps: alu, ctx, load, store, exit. verify's steps: ctx, load, store, exit. verify's kinds: what is done with instructions, as a map of functions. -/
import Derived.Test.YtebdnobgdimdoaaGreatGH
import Derived.Test.YtebdnobgdimdoaaGreatGE
import Derived.MapKept
import Derived.Carry
set_option linter.unusedVariables false
set_option linter.unusedSimpArgs false
namespace Go.Proofs.YtebdnobgdimdoaaGreat
open Go.RowKit
theorem aluS_ok {l1 h1 l2 h2 op : Nat} (k1 : l1 ≤ h1) (k2 : h1 < 4294967296) (k3 : l2 ≤ h2) (k4 : h2 < 4294967296) (hop : op < 11) : bdOk (aluS op l1 h1 l2 h2) := by
  have := aluS_law (Nat.le_refl l1) k1 (Nat.le_refl l2) k3 k2 k4 op hop
  exact ⟨this.1, this.2.1⟩
theorem ofall (w : World) : Calls Tryz.prog 120 #[.int .u32 0, .int .u32 4294967295] w fun e w' => e = .returned (cV bdAll) ∧ Bel w w' := Of_any 0 4294967295 w (by decide) (by decide)
theorem fin_put {v : VE} {N : Nat} {W : World} {k : Nat} {b : Bool} {x r : Option InsD} {ins : InsD} (hn : b = false → r = none) (hs : b = true → r = x) (hw : Wk v N W k (b && x.isSome) (if b = true then x.getD ins else ins)) : ∃ ins', Wk v N W k r.isSome ins' ∧ ∀ y, r = some y → ins' = y := by
  cases b
  · obtain rfl := hn rfl
    exact ⟨ins, by simpa using hw, fun y e => by cases e⟩
  · obtain rfl := hs rfl
    cases r with
    | none => exact ⟨ins, by simpa using hw, fun y e => by cases e⟩
    | some y => exact ⟨y, by simpa using hw, fun z e => by cases e; rfl⟩
theorem shWord_ok {s : ShD} (hs : shOk s) {i : InstD} (hi : U32 i.imm) {b : Bd} (e : shWord s i = some b) : bdOk b := by
  unfold shWord at e
  split at e
  · exact shGet_ok hs e
  · cases e
    have := hi.lo
    have := hi.hi
    exact ⟨Nat.le_refl _, by omega⟩
set_option maxHeartbeats 4000000 in
set_option maxRecDepth 100000 in
theorem alu_any (p : List FnD) (ls : List SchD) (v : VE) (N : Nat) (W : World) (k : Nat) (ins : InsD) (h : Wk v N W k true ins) (hk : k < ins.length) (s : ShD) (hsk : Hid (sh0 ins[k] = s)) (op fn dst src : Int) (reg : Bool) (off imm : Int) (him : U32 imm) (hm : Hid (mayB op fn dst src reg off imm = true)) (hop : op = 0) (r : Option InsD) (hr : Hid (vStep p v.fn ls k ⟨op, fn, dst, src, reg, off, imm⟩ s ins = r)) :
    Calls Tryz.prog 82 #[.pointer (some ⟨v.g, 0, none⟩), .agg #[.int .i64 op, .int .i64 fn, .int .i64 dst, .int .i64 src, .bool reg, .int .i64 off, .int .u32 imm]] W fun e w' => e = .returned (.tuple #[]) ∧ (∃ ins', Wk v N w' k r.isSome ins' ∧ (∀ x, r = some x → ins' = x)) ∧ Fr v N W w' := by
  subst hop
  have hs : shOk s := by
    rw [← hsk.out]
    cases e : ins[k] with
    | none => intro i b hb; cases hb
    | some u => exact h.ok _ (List.getElem_mem hk) u e
  have hre := hr.out
  unfold vStep at hre
  have hmp := of_decide_eq_true hm.out
  obtain ⟨-, ⟨hd0, hd1⟩, ⟨hs0, hs1⟩, ⟨hf0, hf1⟩, -⟩ := hmp
  have H := Lib.hid (h.bel ((Bel.refl W).alloc (.cells #[.int .i64 0, .int .i64 fn, .int .i64 dst, .int .i64 src, .bool reg, .int .i64 off, .int .u32 imm] 95)))
  have HF := Lib.hid (Fr.bel (v := v) ((Bel.refl W).alloc (.cells #[.int .i64 0, .int .i64 fn, .int .i64 dst, .int .i64 src, .bool reg, .int .i64 off, .int .u32 imm] 95)) h.nw)
  have B1 := Bk.new W 95 #[.int .i64 0, .int .i64 fn, .int .i64 dst, .int .i64 src, .bool reg, .int .i64 off, .int .u32 imm]
  have g1 := h.w.lt
  have g2 := h.i.lt
  have g3 := h.s.lt
  clear h hr
  simp only [if_true] at hre hf1
  obtain ⟨q, HQ⟩ : ∃ q : Nat, Hid (fn = q) := ⟨fn.toNat, Lib.hid (by omega)⟩
  have hq11 : q < 11 := by have := HQ.out; omega
  obtain ⟨o, ho⟩ : ∃ o, Hid (shWord s ⟨0, fn, dst, src, reg, off, imm⟩ = o) := ⟨_, Lib.hid rfl⟩
  have ob : bdOk (rB o) := by
    have : ∀ b, o = some b → bdOk b := fun b e => shWord_ok hs him (ho.out.trans e)
    cases o with
    | none => exact ⟨by decide, by decide⟩
    | some b => exact this b rfl
  go_enter Tryz.func82, Tryz.ntmps82
  go_wp2_with fail
  generalize W.alloc (.cells #[.int .i64 0, .int .i64 fn, .int .i64 dst, .int .i64 src, .bool reg, .int .i64 off, .int .u32 imm] 95) = W0 at *
  obtain ⟨gr, hgr⟩ : ∃ gr, W.heap.size = gr := ⟨_, rfl⟩
  rw [hgr] at B1 g1 g2 g3
  simp only [hgr]
  clear hgr
  have n1 : gr ≠ v.g := by omega
  have n2 : gr ≠ v.Bi := by omega
  have n3 : gr ≠ v.Bs := by omega
  have B1 := Lib.hid B1
  have P0 := fun (w' : World) (hb : Bk w' gr 95 #[.int .i64 0, .int .i64 fn, .int .i64 dst, .int .i64 src, .bool reg, .int .i64 off, .int .u32 imm]) => hb.cell 0 (v := .int .i64 0) rfl
  have P1 := fun (w' : World) (hb : Bk w' gr 95 #[.int .i64 0, .int .i64 fn, .int .i64 dst, .int .i64 src, .bool reg, .int .i64 off, .int .u32 imm]) => hb.cell 1 (v := .int .i64 fn) rfl
  have P2 := fun (w' : World) (hb : Bk w' gr 95 #[.int .i64 0, .int .i64 fn, .int .i64 dst, .int .i64 src, .bool reg, .int .i64 off, .int .u32 imm]) => hb.cell 2 (v := .int .i64 dst) rfl
  have P3 := fun (w' : World) (hb : Bk w' gr 95 #[.int .i64 0, .int .i64 fn, .int .i64 dst, .int .i64 src, .bool reg, .int .i64 off, .int .u32 imm]) => hb.cell 3 (v := .int .i64 src) rfl
  have P4 := fun (w' : World) (hb : Bk w' gr 95 #[.int .i64 0, .int .i64 fn, .int .i64 dst, .int .i64 src, .bool reg, .int .i64 off, .int .u32 imm]) => hb.cell 4 (v := .bool reg) rfl
  have P5 := fun (w' : World) (hb : Bk w' gr 95 #[.int .i64 0, .int .i64 fn, .int .i64 dst, .int .i64 src, .bool reg, .int .i64 off, .int .u32 imm]) => hb.cell 5 (v := .int .i64 off) rfl
  have P6 := fun (w' : World) (hb : Bk w' gr 95 #[.int .i64 0, .int .i64 fn, .int .i64 dst, .int .i64 src, .bool reg, .int .i64 off, .int .u32 imm]) => hb.cell 6 (v := .int .u32 imm) rfl
  have SD := B1.out.bel (Bel.refl W0).drew
  refine wp_region_T (fun w' => Bk w' gr 95 #[.int .i64 0, .int .i64 fn, .int .i64 dst, .int .i64 src, .bool reg, .int .i64 off, .int .u32 imm]) (fun _ => false) (by kernel_rfl) ?_
  refine wpAnyU_take (i := 1) (v := ?v1a) rfl (by kernel_rfl) (by kernel_rfl) (by kernel_rfl) (by kernel_rfl) (fun _ _ _ h => h) ?hy1a SD ?rest1a
  case hy1a => first | (refine Or.inl ⟨by rfl, ?_⟩; (intro w' hSw; go_simp) <;> with_reducible rfl) | (refine Or.inr ⟨by rfl, ?_⟩; with_reducible rfl)
  try simp only [List.getElem_toArray, List.getElem_cons_zero, List.getElem_cons_succ, Act.put, List.setIfInBounds_toArray, List.set_cons_zero, List.set_cons_succ]
  refine wpAnyU_take (i := 2) (v := ?v2a) rfl (by kernel_rfl) (by kernel_rfl) (by kernel_rfl) (by kernel_rfl) (fun _ _ _ h => h) ?hy2a SD ?rest2a
  case hy2a => first | (refine Or.inl ⟨by rfl, ?_⟩; (intro w' hSw; go_simp) <;> with_reducible rfl) | (refine Or.inr ⟨by rfl, ?_⟩; with_reducible rfl)
  try simp only [List.getElem_toArray, List.getElem_cons_zero, List.getElem_cons_succ, Act.put, List.setIfInBounds_toArray, List.set_cons_zero, List.set_cons_succ]
  refine wpAnyT_one (i := 0) (by kernel_rfl) rfl (fun K hK => ?_)
  go_simp
  go_at_call 120
  refine (ofall _).mono ?_
  rintro en w5 ⟨rfl, hb5⟩
  have S5 := SD.bel hb5
  have H5 := (H.out.bel (Bel.refl W0).drew).bel hb5
  have F5 := (HF.out.trans (Fr.bel (Bel.refl W0).drew H.out.nw)).trans (Fr.bel hb5 (H.out.bel (Bel.refl W0).drew).nw)
  dsimp only
  refine hK.out _ _ (fun _ => S5) ?_
  clear hK K
  try simp only [List.getElem_toArray, List.getElem_cons_zero, List.getElem_cons_succ, Act.put, List.setIfInBounds_toArray, List.set_cons_zero, List.set_cons_succ]
  refine wpAnyT_one (i := 3) (by kernel_rfl) rfl (fun K hK => ?_)
  go_simp
  go_at_call 123
  refine (wword_any v N _ k true ins H5 hk s hsk 0 fn dst src reg off imm him hm o ho).mono ?_
  rintro en w6 ⟨rfl, hw6, hf6⟩
  have S6 := hf6.bk S5 n1 n2 n3
  have H6 := Lib.hid hw6
  have F6 := Lib.hid (F5.trans hf6)
  dsimp only
  refine hK.out _ _ (fun _ => S6) ?_
  clear hK K
  try simp only [List.getElem_toArray, List.getElem_cons_zero, List.getElem_cons_succ, Act.put, List.setIfInBounds_toArray, List.set_cons_zero, List.set_cons_succ]
  refine wpAnyU_take (i := 4) (v := ?v4a) rfl (by kernel_rfl) (by kernel_rfl) (by kernel_rfl) (by kernel_rfl) (fun _ _ _ h => h) ?hy4a S6 ?rest4a
  case hy4a => first | (refine Or.inl ⟨by rfl, ?_⟩; (intro w' hSw; go_simp) <;> with_reducible rfl) | (refine Or.inr ⟨by rfl, ?_⟩; with_reducible rfl)
  try simp only [List.getElem_toArray, List.getElem_cons_zero, List.getElem_cons_succ, Act.put, List.setIfInBounds_toArray, List.set_cons_zero, List.set_cons_succ]
  refine wpAnyU_take (i := 5) (v := ?v5a) rfl (by kernel_rfl) (by kernel_rfl) (by kernel_rfl) (by kernel_rfl) (fun _ _ _ h => h) ?hy5a S6 ?rest5a
  case hy5a => first | (refine Or.inl ⟨by rfl, ?_⟩; (intro w' hSw; go_simp) <;> with_reducible rfl) | (refine Or.inr ⟨by rfl, ?_⟩; with_reducible rfl)
  try simp only [List.getElem_toArray, List.getElem_cons_zero, List.getElem_cons_succ, Act.put, List.setIfInBounds_toArray, List.set_cons_zero, List.set_cons_succ]
  refine wpAnyT_done (by kernel_rfl) ?_ _
  refine NoPanic.normal ?_
  clear H5 F5 S5 hb5 hw6 hf6 SD
  have d1 := P1 _ S6
  have d2 := P2 _ S6
  by_cases h0 : fn = 0
  · have e0 : (fn != 0) = false := by simp [h0]
    obtain ⟨⟨a1, a2⟩, HA⟩ : ∃ q', Hid (aluS q bdAll.1 bdAll.2 (rB o).1 (rB o).2 = q') := ⟨_, Lib.hid rfl⟩
    have oka : bdOk (a1, a2) := by rw [← HA.out]; exact aluS_ok bdAll_ok.1 bdAll_ok.2 ob.1 ob.2 hq11
    obtain ⟨x, hx⟩ : ∃ x, Hid (vTo ins (k + 1) (shPut s dst (a1, a2)) = x) := ⟨_, Lib.hid rfl⟩
    have HN : Hid (o.isSome = false → r = none) := Lib.hid (fun e => by
      rw [ho.out, if_pos h0, Option.isSome_eq_false_iff.1 e |> Option.isNone_iff_eq_none.1] at hre
      exact hre.symm)
    have HS : Hid (o.isSome = true → r = x) := Lib.hid (fun e => by
      obtain ⟨b, rfl⟩ := Option.isSome_iff_exists.1 e
      rw [ho.out, if_pos h0] at hre
      simp only [Option.bind_some] at hre
      rw [← hre, ← hx.out, ← HA.out, HQ.out]
      rfl)
    have oa := bdAll_ok
    clear h0 hre d2
    go_wp2_with fail
    have SE := S6.bel (Bel.refl w6).drew
    have H8 := H6.out.bel (Bel.refl w6).drew
    have F8 := F6.out.trans (Fr.bel (Bel.refl w6).drew H6.out.nw)
    refine wp_region_T (fun w' => Bk w' gr 95 #[.int .i64 0, .int .i64 fn, .int .i64 dst, .int .i64 src, .bool reg, .int .i64 off, .int .u32 imm]) (fun _ => false) (by kernel_rfl) ?_
    refine wpAnyU_take (i := 0) (v := ?v0b) rfl (by kernel_rfl) (by kernel_rfl) (by kernel_rfl) (by kernel_rfl) (fun _ _ _ h => h) ?hy0b SE ?rest0b
    case hy0b => first | (refine Or.inl ⟨by rfl, ?_⟩; (intro w' hSw; go_simp) <;> with_reducible rfl) | (refine Or.inr ⟨by rfl, ?_⟩; with_reducible rfl)
    try simp only [List.getElem_toArray, List.getElem_cons_zero, List.getElem_cons_succ, Act.put, List.setIfInBounds_toArray, List.set_cons_zero, List.set_cons_succ]
    refine wpAnyU_take (i := 1) (v := ?v1b) rfl (by kernel_rfl) (by kernel_rfl) (by kernel_rfl) (by kernel_rfl) (fun _ _ _ h => h) ?hy1b SE ?rest1b
    case hy1b => first | (refine Or.inl ⟨by rfl, ?_⟩; (intro w' hSw; go_simp) <;> with_reducible rfl) | (refine Or.inr ⟨by rfl, ?_⟩; with_reducible rfl)
    try simp only [List.getElem_toArray, List.getElem_cons_zero, List.getElem_cons_succ, Act.put, List.setIfInBounds_toArray, List.set_cons_zero, List.set_cons_succ]
    refine wpAnyU_take (i := 2) (v := ?v2b) rfl (by kernel_rfl) (by kernel_rfl) (by kernel_rfl) (by kernel_rfl) (fun _ _ _ h => h) ?hy2b SE ?rest2b
    case hy2b => first | (refine Or.inl ⟨by rfl, ?_⟩; (intro w' hSw; go_simp) <;> with_reducible rfl) | (refine Or.inr ⟨by rfl, ?_⟩; with_reducible rfl)
    try simp only [List.getElem_toArray, List.getElem_cons_zero, List.getElem_cons_succ, Act.put, List.setIfInBounds_toArray, List.set_cons_zero, List.set_cons_succ]
    refine wpAnyU_take (i := 3) (v := ?v3b) rfl (by kernel_rfl) (by kernel_rfl) (by kernel_rfl) (by kernel_rfl) (fun _ _ _ h => h) ?hy3b SE ?rest3b
    case hy3b => first | (refine Or.inl ⟨by rfl, ?_⟩; (intro w' hSw; go_simp) <;> with_reducible rfl) | (refine Or.inr ⟨by rfl, ?_⟩; with_reducible rfl)
    try simp only [List.getElem_toArray, List.getElem_cons_zero, List.getElem_cons_succ, Act.put, List.setIfInBounds_toArray, List.set_cons_zero, List.set_cons_succ]
    refine wpAnyU_take (i := 4) (v := ?v4b) rfl (by kernel_rfl) (by kernel_rfl) (by kernel_rfl) (by kernel_rfl) (fun _ _ _ h => h) ?hy4b SE ?rest4b
    case hy4b => first | (refine Or.inl ⟨by rfl, ?_⟩; (intro w' hSw; go_simp) <;> with_reducible rfl) | (refine Or.inr ⟨by rfl, ?_⟩; with_reducible rfl)
    try simp only [List.getElem_toArray, List.getElem_cons_zero, List.getElem_cons_succ, Act.put, List.setIfInBounds_toArray, List.set_cons_zero, List.set_cons_succ]
    refine wpAnyU_take (i := 5) (v := ?v5b) rfl (by kernel_rfl) (by kernel_rfl) (by kernel_rfl) (by kernel_rfl) (fun _ _ _ h => h) ?hy5b SE ?rest5b
    case hy5b => first | (refine Or.inl ⟨by rfl, ?_⟩; (intro w' hSw; go_simp) <;> with_reducible rfl) | (refine Or.inr ⟨by rfl, ?_⟩; with_reducible rfl)
    try simp only [List.getElem_toArray, List.getElem_cons_zero, List.getElem_cons_succ, Act.put, List.setIfInBounds_toArray, List.set_cons_zero, List.set_cons_succ]
    refine wpAnyU_take (i := 6) (v := ?v6b) rfl (by kernel_rfl) (by kernel_rfl) (by kernel_rfl) (by kernel_rfl) (fun _ _ _ h => h) ?hy6b SE ?rest6b
    case hy6b => first | (refine Or.inl ⟨by rfl, ?_⟩; (intro w' hSw; go_simp) <;> with_reducible rfl) | (refine Or.inr ⟨by rfl, ?_⟩; with_reducible rfl)
    try simp only [List.getElem_toArray, List.getElem_cons_zero, List.getElem_cons_succ, Act.put, List.setIfInBounds_toArray, List.set_cons_zero, List.set_cons_succ]
    refine wpAnyT_one (i := 7) (by kernel_rfl) rfl (fun K hK => ?_)
    go_simp
    go_at_call 126
    refine (balu_at q bdAll.1 bdAll.2 (rB o).1 (rB o).2 a1 a2 fn _ HQ.out HA.out hq11 oa.1 oa.2 ob.1 ob.2).mono ?_
    rintro en w7 ⟨rfl, hb7⟩
    have S7 := SE.bel hb7
    have H7 := H8.bel hb7
    have F7 := F8.trans (Fr.bel hb7 H8.nw)
    dsimp only
    refine hK.out _ _ (fun _ => S7) ?_
    clear hK K
    try simp only [List.getElem_toArray, List.getElem_cons_zero, List.getElem_cons_succ, Act.put, List.setIfInBounds_toArray, List.set_cons_zero, List.set_cons_succ]
    refine wpAnyT_one (i := 8) (by kernel_rfl) rfl (fun K hK => ?_)
    go_simp
    go_at_call 125
    refine (wput_any v N _ k _ ins H7 hk s hsk dst (a1, a2) oka x hx).mono ?_
    rintro en w8 ⟨rfl, hw8, hf8⟩
    have HW := Lib.hid hw8
    have HE := Lib.hid (F7.trans hf8)
    have S8 := hf8.bk S7 n1 n2 n3
    dsimp only
    refine hK.out _ _ (fun _ => S8) ?_
    clear hK K
    try simp only [List.getElem_toArray, List.getElem_cons_zero, List.getElem_cons_succ, Act.put, List.setIfInBounds_toArray, List.set_cons_zero, List.set_cons_succ]
    refine wpAnyT_done (by kernel_rfl) ?_ _
    refine NoPanic.normal ?_
    clear SE H8 F8 H7 F7 S7 S8 hb7 hw8 hf8 P0 P1 P2 P3 P4 P5 P6
    go_wp2_with fail
    go_end0
    exact ⟨rfl, fin_put HN.out HS.out (by simpa using HW.out), HE.out⟩
  · have e0 : (fn != 0) = true := by simp [h0]
    obtain ⟨ow, hw⟩ : ∃ ow, Hid (shGet s dst = ow) := ⟨_, Lib.hid rfl⟩
    have oa : bdOk (rB ow) := by
      cases ow with
      | none => exact ⟨by decide, by decide⟩
      | some b => exact shGet_ok hs hw.out
    obtain ⟨⟨a1, a2⟩, HA⟩ : ∃ q', Hid (aluS q (rB ow).1 (rB ow).2 (rB o).1 (rB o).2 = q') := ⟨_, Lib.hid rfl⟩
    have oka : bdOk (a1, a2) := by rw [← HA.out]; exact aluS_ok oa.1 oa.2 ob.1 ob.2 hq11
    obtain ⟨x, hx⟩ : ∃ x, Hid (vTo ins (k + 1) (shPut s dst (a1, a2)) = x) := ⟨_, Lib.hid rfl⟩
    have HN : Hid ((o.isSome && ow.isSome) = false → r = none) := Lib.hid (fun e => by
      rw [ho.out, if_neg h0, hw.out] at hre
      cases o with
      | none => exact hre.symm
      | some b =>
        cases ow with
        | none => exact hre.symm
        | some c => simp at e)
    have HS : Hid ((o.isSome && ow.isSome) = true → r = x) := Lib.hid (fun e => by
      rw [ho.out, if_neg h0, hw.out] at hre
      cases o with
      | none => simp at e
      | some b =>
        cases ow with
        | none => simp at e
        | some c =>
          simp only [Option.bind_some] at hre
          rw [← hre, ← hx.out, ← HA.out, HQ.out]
          rfl)
    clear h0 hre
    go_wp2_with fail
    refine (wget_any v N _ k _ ins H6.out hk s hsk dst ow hw).mono ?_
    rintro e w9 ⟨rfl, hw9, hf9⟩
    have S9 := hf9.bk S6 n1 n2 n3
    have H9 := Lib.hid hw9
    have F9 := Lib.hid (F6.out.trans hf9)
    have d1 := P1 _ S9
    clear d2 hw9 hf9 S6 H6 F6
    go_wp2_with fail
    have SE := S9.bel (Bel.refl w9).drew
    have H8 := H9.out.bel (Bel.refl w9).drew
    have F8 := F9.out.trans (Fr.bel (Bel.refl w9).drew H9.out.nw)
    refine wp_region_T (fun w' => Bk w' gr 95 #[.int .i64 0, .int .i64 fn, .int .i64 dst, .int .i64 src, .bool reg, .int .i64 off, .int .u32 imm]) (fun _ => false) (by kernel_rfl) ?_
    refine wpAnyU_take (i := 0) (v := ?v0c) rfl (by kernel_rfl) (by kernel_rfl) (by kernel_rfl) (by kernel_rfl) (fun _ _ _ h => h) ?hy0c SE ?rest0c
    case hy0c => first | (refine Or.inl ⟨by rfl, ?_⟩; (intro w' hSw; go_simp) <;> with_reducible rfl) | (refine Or.inr ⟨by rfl, ?_⟩; with_reducible rfl)
    try simp only [List.getElem_toArray, List.getElem_cons_zero, List.getElem_cons_succ, Act.put, List.setIfInBounds_toArray, List.set_cons_zero, List.set_cons_succ]
    refine wpAnyU_take (i := 1) (v := ?v1c) rfl (by kernel_rfl) (by kernel_rfl) (by kernel_rfl) (by kernel_rfl) (fun _ _ _ h => h) ?hy1c SE ?rest1c
    case hy1c => first | (refine Or.inl ⟨by rfl, ?_⟩; (intro w' hSw; go_simp) <;> with_reducible rfl) | (refine Or.inr ⟨by rfl, ?_⟩; with_reducible rfl)
    try simp only [List.getElem_toArray, List.getElem_cons_zero, List.getElem_cons_succ, Act.put, List.setIfInBounds_toArray, List.set_cons_zero, List.set_cons_succ]
    refine wpAnyU_take (i := 2) (v := ?v2c) rfl (by kernel_rfl) (by kernel_rfl) (by kernel_rfl) (by kernel_rfl) (fun _ _ _ h => h) ?hy2c SE ?rest2c
    case hy2c => first | (refine Or.inl ⟨by rfl, ?_⟩; (intro w' hSw; go_simp) <;> with_reducible rfl) | (refine Or.inr ⟨by rfl, ?_⟩; with_reducible rfl)
    try simp only [List.getElem_toArray, List.getElem_cons_zero, List.getElem_cons_succ, Act.put, List.setIfInBounds_toArray, List.set_cons_zero, List.set_cons_succ]
    refine wpAnyU_take (i := 3) (v := ?v3c) rfl (by kernel_rfl) (by kernel_rfl) (by kernel_rfl) (by kernel_rfl) (fun _ _ _ h => h) ?hy3c SE ?rest3c
    case hy3c => first | (refine Or.inl ⟨by rfl, ?_⟩; (intro w' hSw; go_simp) <;> with_reducible rfl) | (refine Or.inr ⟨by rfl, ?_⟩; with_reducible rfl)
    try simp only [List.getElem_toArray, List.getElem_cons_zero, List.getElem_cons_succ, Act.put, List.setIfInBounds_toArray, List.set_cons_zero, List.set_cons_succ]
    refine wpAnyU_take (i := 4) (v := ?v4c) rfl (by kernel_rfl) (by kernel_rfl) (by kernel_rfl) (by kernel_rfl) (fun _ _ _ h => h) ?hy4c SE ?rest4c
    case hy4c => first | (refine Or.inl ⟨by rfl, ?_⟩; (intro w' hSw; go_simp) <;> with_reducible rfl) | (refine Or.inr ⟨by rfl, ?_⟩; with_reducible rfl)
    try simp only [List.getElem_toArray, List.getElem_cons_zero, List.getElem_cons_succ, Act.put, List.setIfInBounds_toArray, List.set_cons_zero, List.set_cons_succ]
    refine wpAnyU_take (i := 5) (v := ?v5c) rfl (by kernel_rfl) (by kernel_rfl) (by kernel_rfl) (by kernel_rfl) (fun _ _ _ h => h) ?hy5c SE ?rest5c
    case hy5c => first | (refine Or.inl ⟨by rfl, ?_⟩; (intro w' hSw; go_simp) <;> with_reducible rfl) | (refine Or.inr ⟨by rfl, ?_⟩; with_reducible rfl)
    try simp only [List.getElem_toArray, List.getElem_cons_zero, List.getElem_cons_succ, Act.put, List.setIfInBounds_toArray, List.set_cons_zero, List.set_cons_succ]
    refine wpAnyU_take (i := 6) (v := ?v6c) rfl (by kernel_rfl) (by kernel_rfl) (by kernel_rfl) (by kernel_rfl) (fun _ _ _ h => h) ?hy6c SE ?rest6c
    case hy6c => first | (refine Or.inl ⟨by rfl, ?_⟩; (intro w' hSw; go_simp) <;> with_reducible rfl) | (refine Or.inr ⟨by rfl, ?_⟩; with_reducible rfl)
    try simp only [List.getElem_toArray, List.getElem_cons_zero, List.getElem_cons_succ, Act.put, List.setIfInBounds_toArray, List.set_cons_zero, List.set_cons_succ]
    refine wpAnyT_one (i := 7) (by kernel_rfl) rfl (fun K hK => ?_)
    go_simp
    go_at_call 126
    refine (balu_at q (rB ow).1 (rB ow).2 (rB o).1 (rB o).2 a1 a2 fn _ HQ.out HA.out hq11 oa.1 oa.2 ob.1 ob.2).mono ?_
    rintro en w7 ⟨rfl, hb7⟩
    have S7 := SE.bel hb7
    have H7 := H8.bel hb7
    have F7 := F8.trans (Fr.bel hb7 H8.nw)
    dsimp only
    refine hK.out _ _ (fun _ => S7) ?_
    clear hK K
    try simp only [List.getElem_toArray, List.getElem_cons_zero, List.getElem_cons_succ, Act.put, List.setIfInBounds_toArray, List.set_cons_zero, List.set_cons_succ]
    refine wpAnyT_one (i := 8) (by kernel_rfl) rfl (fun K hK => ?_)
    go_simp
    go_at_call 125
    refine (wput_any v N _ k _ ins H7 hk s hsk dst (a1, a2) oka x hx).mono ?_
    rintro en w8 ⟨rfl, hw8, hf8⟩
    have HW := Lib.hid hw8
    have HE := Lib.hid (F7.trans hf8)
    have S8 := hf8.bk S7 n1 n2 n3
    dsimp only
    refine hK.out _ _ (fun _ => S8) ?_
    clear hK K
    try simp only [List.getElem_toArray, List.getElem_cons_zero, List.getElem_cons_succ, Act.put, List.setIfInBounds_toArray, List.set_cons_zero, List.set_cons_succ]
    refine wpAnyT_done (by kernel_rfl) ?_ _
    refine NoPanic.normal ?_
    clear SE H8 F8 H7 F7 S7 S8 hb7 hw8 hf8 P0 P1 P2 P3 P4 P5 P6
    go_wp2_with fail
    go_end0
    exact ⟨rfl, fin_put HN.out HS.out (by simpa using HW.out), HE.out⟩
end Go.Proofs.YtebdnobgdimdoaaGreat
set_option linter.unusedVariables false
set_option linter.unusedSimpArgs false
namespace Go.Proofs.YtebdnobgdimdoaaGreat
open Go.RowKit
set_option maxHeartbeats 4000000 in
set_option maxRecDepth 100000 in
theorem ctx_any (p : List FnD) (ls : List SchD) (v : VE) (N : Nat) (W : World) (k : Nat) (ins : InsD) (h : Wk v N W k true ins) (hk : k < ins.length) (s : ShD) (hsk : Hid (sh0 ins[k] = s)) (op fn dst src : Int) (reg : Bool) (off imm : Int) (him : U32 imm) (hm : Hid (mayB op fn dst src reg off imm = true)) (hop : op = 2) (r : Option InsD) (hr : Hid (vStep p v.fn ls k ⟨op, fn, dst, src, reg, off, imm⟩ s ins = r)) :
    Calls Tryz.prog 84 #[.pointer (some ⟨v.g, 0, none⟩), .agg #[.int .i64 op, .int .i64 fn, .int .i64 dst, .int .i64 src, .bool reg, .int .i64 off, .int .u32 imm]] W fun e w' => e = .returned (.tuple #[]) ∧ (∃ ins', Wk v N w' k r.isSome ins' ∧ (∀ x, r = some x → ins' = x)) ∧ Fr v N W w' := by
  subst hop
  have hs : shOk s := by
    rw [← hsk.out]
    cases e : ins[k] with
    | none => intro i b hb; cases hb
    | some u => exact h.ok _ (List.getElem_mem hk) u e
  have hre := hr.out
  unfold vStep at hre
  have hmp := of_decide_eq_true hm.out
  obtain ⟨-, ⟨hd0, hd1⟩, ⟨hs0, hs1⟩, ⟨hf0, hf1⟩, -⟩ := hmp
  have H := Lib.hid (h.bel ((Bel.refl W).alloc (.cells #[.int .i64 2, .int .i64 fn, .int .i64 dst, .int .i64 src, .bool reg, .int .i64 off, .int .u32 imm] 95)))
  have HF := Lib.hid (Fr.bel (v := v) ((Bel.refl W).alloc (.cells #[.int .i64 2, .int .i64 fn, .int .i64 dst, .int .i64 src, .bool reg, .int .i64 off, .int .u32 imm] 95)) h.nw)
  have B1 := Bk.new W 95 #[.int .i64 2, .int .i64 fn, .int .i64 dst, .int .i64 src, .bool reg, .int .i64 off, .int .u32 imm]
  have g1 := h.w.lt
  have g2 := h.i.lt
  have g3 := h.s.lt
  clear h hr
  rw [if_neg (by show ¬ ((2 : Int) = 0); decide)] at hre
  rw [if_neg (by show ¬ ((2 : Int) = 1); decide)] at hre
  rw [if_pos rfl] at hre
  obtain ⟨o, ho⟩ : ∃ o, Hid (shWord s ⟨2, fn, dst, src, reg, off, imm⟩ = o) := ⟨_, Lib.hid rfl⟩
  have ob : bdOk (rB o) := by
    have : ∀ b, o = some b → bdOk b := fun b e => shWord_ok hs him (ho.out.trans e)
    cases o with
    | none => exact ⟨by decide, by decide⟩
    | some b => exact this b rfl
  obtain ⟨x, hx⟩ : ∃ x, Hid (vTo ins (k + 1) (shPut s dst bdAll) = x) := ⟨_, Lib.hid rfl⟩
  obtain ⟨lt, hlt⟩ : ∃ lt, Hid (decide ((rB o).2 < 4) = lt) := ⟨_, Lib.hid rfl⟩
  have HN : Hid ((o.isSome && lt) = false → r = none) := Lib.hid (fun e => by
    rw [ho.out] at hre
    cases o with
    | none => exact hre.symm
    | some b =>
      have h2 : ¬ b.2 < 4 := (by have h3 := hlt.out; rw [show lt = false by simpa using e] at h3; exact of_decide_eq_false h3)
      simp only [Option.bind_some] at hre
      rw [if_neg h2] at hre
      exact hre.symm)
  have HS : Hid ((o.isSome && lt) = true → r = x) := Lib.hid (fun e => by
    rw [ho.out] at hre
    cases o with
    | none => simp at e
    | some b =>
      have h2 : b.2 < 4 := (by have h3 := hlt.out; rw [show lt = true by simpa using e] at h3; exact of_decide_eq_true h3)
      simp only [Option.bind_some] at hre
      rw [if_pos h2] at hre
      rw [← hre, ← hx.out])
  clear hre
  have c0 := B1.cell 0 (v := .int .i64 2) rfl
  have c1 := B1.cell 1 (v := .int .i64 fn) rfl
  have c2 := B1.cell 2 (v := .int .i64 dst) rfl
  have c3 := B1.cell 3 (v := .int .i64 src) rfl
  have c4 := B1.cell 4 (v := .bool reg) rfl
  have c5 := B1.cell 5 (v := .int .i64 off) rfl
  have c6 := B1.cell 6 (v := .int .u32 imm) rfl
  go_enter Tryz.func84, Tryz.ntmps84
  go_wp2_with fail
  generalize W.alloc (.cells #[.int .i64 2, .int .i64 fn, .int .i64 dst, .int .i64 src, .bool reg, .int .i64 off, .int .u32 imm] 95) = W0 at *
  obtain ⟨gr, hgr⟩ : ∃ gr, W.heap.size = gr := ⟨_, rfl⟩
  rw [hgr] at B1 g1 g2 g3
  simp only [hgr]
  clear hgr
  have n1 : gr ≠ v.g := by omega
  have n2 : gr ≠ v.Bi := by omega
  have n3 : gr ≠ v.Bs := by omega
  have B1 := Lib.hid B1
  have P0 := fun (w' : World) (hb : Bk w' gr 95 #[.int .i64 2, .int .i64 fn, .int .i64 dst, .int .i64 src, .bool reg, .int .i64 off, .int .u32 imm]) => hb.cell 0 (v := .int .i64 2) rfl
  have P1 := fun (w' : World) (hb : Bk w' gr 95 #[.int .i64 2, .int .i64 fn, .int .i64 dst, .int .i64 src, .bool reg, .int .i64 off, .int .u32 imm]) => hb.cell 1 (v := .int .i64 fn) rfl
  have P2 := fun (w' : World) (hb : Bk w' gr 95 #[.int .i64 2, .int .i64 fn, .int .i64 dst, .int .i64 src, .bool reg, .int .i64 off, .int .u32 imm]) => hb.cell 2 (v := .int .i64 dst) rfl
  have P3 := fun (w' : World) (hb : Bk w' gr 95 #[.int .i64 2, .int .i64 fn, .int .i64 dst, .int .i64 src, .bool reg, .int .i64 off, .int .u32 imm]) => hb.cell 3 (v := .int .i64 src) rfl
  have P4 := fun (w' : World) (hb : Bk w' gr 95 #[.int .i64 2, .int .i64 fn, .int .i64 dst, .int .i64 src, .bool reg, .int .i64 off, .int .u32 imm]) => hb.cell 4 (v := .bool reg) rfl
  have P5 := fun (w' : World) (hb : Bk w' gr 95 #[.int .i64 2, .int .i64 fn, .int .i64 dst, .int .i64 src, .bool reg, .int .i64 off, .int .u32 imm]) => hb.cell 5 (v := .int .i64 off) rfl
  have P6 := fun (w' : World) (hb : Bk w' gr 95 #[.int .i64 2, .int .i64 fn, .int .i64 dst, .int .i64 src, .bool reg, .int .i64 off, .int .u32 imm]) => hb.cell 6 (v := .int .u32 imm) rfl
  clear c0 c1 c2 c3 c4 c5 c6
  refine (wword_any v N _ k true ins H.out hk s hsk 2 fn dst src reg off imm him hm o ho).mono ?_
  rintro e w6 ⟨rfl, hw6, hf6⟩
  have S6 := hf6.bk B1.out n1 n2 n3
  have F6 := HF.out.trans hf6
  go_wp2_with fail
  refine (within_any v N _ k _ ins hw6 (rB o) ob 4 (by decide) lt hlt).mono ?_
  rintro e w7 ⟨rfl, hw7, hf7⟩
  have S7 := hf7.bk S6 n1 n2 n3
  have H7 := Lib.hid hw7
  have F7 := Lib.hid (F6.trans hf7)
  clear S6 F6 hw6 hf6 hw7 hf7
  go_wp2_with fail
  have SE := S7.bel (Bel.refl w7).drew
  have HE0 := H7.out.bel (Bel.refl w7).drew
  have FE0 := F7.out.trans (Fr.bel (Bel.refl w7).drew H7.out.nw)
  refine wp_region_T (fun w' => Bk w' gr 95 #[.int .i64 2, .int .i64 fn, .int .i64 dst, .int .i64 src, .bool reg, .int .i64 off, .int .u32 imm]) (fun _ => false) (by kernel_rfl) ?_
  refine wpAnyU_take (i := 0) (v := ?v0) rfl (by kernel_rfl) (by kernel_rfl) (by kernel_rfl) (by kernel_rfl) (fun _ _ _ h => h) ?hy0 SE ?rest0
  case hy0 => first | (refine Or.inl ⟨by rfl, ?_⟩; (intro w' hSw; go_simp) <;> with_reducible rfl) | (refine Or.inr ⟨by rfl, ?_⟩; with_reducible rfl)
  try simp only [List.getElem_toArray, List.getElem_cons_zero, List.getElem_cons_succ, Act.put, List.setIfInBounds_toArray, List.set_cons_zero, List.set_cons_succ]
  refine wpAnyU_take (i := 1) (v := ?v1) rfl (by kernel_rfl) (by kernel_rfl) (by kernel_rfl) (by kernel_rfl) (fun _ _ _ h => h) ?hy1 SE ?rest1
  case hy1 => first | (refine Or.inl ⟨by rfl, ?_⟩; (intro w' hSw; go_simp) <;> with_reducible rfl) | (refine Or.inr ⟨by rfl, ?_⟩; with_reducible rfl)
  try simp only [List.getElem_toArray, List.getElem_cons_zero, List.getElem_cons_succ, Act.put, List.setIfInBounds_toArray, List.set_cons_zero, List.set_cons_succ]
  refine wpAnyU_take (i := 2) (v := ?v2) rfl (by kernel_rfl) (by kernel_rfl) (by kernel_rfl) (by kernel_rfl) (fun _ _ _ h => h) ?hy2 SE ?rest2
  case hy2 => first | (refine Or.inl ⟨by rfl, ?_⟩; (intro w' hSw; go_simp) <;> with_reducible rfl) | (refine Or.inr ⟨by rfl, ?_⟩; with_reducible rfl)
  try simp only [List.getElem_toArray, List.getElem_cons_zero, List.getElem_cons_succ, Act.put, List.setIfInBounds_toArray, List.set_cons_zero, List.set_cons_succ]
  refine wpAnyT_one (i := 3) (by kernel_rfl) rfl (fun K hK => ?_)
  go_simp
  go_at_call 120
  refine (ofall _).mono ?_
  rintro en w8 ⟨rfl, hb8⟩
  have S8 := SE.bel hb8
  have H8 := HE0.bel hb8
  have F8 := FE0.trans (Fr.bel hb8 HE0.nw)
  dsimp only
  refine hK.out _ _ (fun _ => S8) ?_
  clear hK K
  try simp only [List.getElem_toArray, List.getElem_cons_zero, List.getElem_cons_succ, Act.put, List.setIfInBounds_toArray, List.set_cons_zero, List.set_cons_succ]
  refine wpAnyT_one (i := 4) (by kernel_rfl) rfl (fun K hK => ?_)
  go_simp
  go_at_call 125
  refine (wput_any v N _ k _ ins H8 hk s hsk dst bdAll bdAll_ok x hx).mono ?_
  rintro en w9 ⟨rfl, hw9, hf9⟩
  have HW := Lib.hid hw9
  have HE := Lib.hid (F8.trans hf9)
  have S9 := hf9.bk S8 n1 n2 n3
  dsimp only
  refine hK.out _ _ (fun _ => S9) ?_
  clear hK K
  try simp only [List.getElem_toArray, List.getElem_cons_zero, List.getElem_cons_succ, Act.put, List.setIfInBounds_toArray, List.set_cons_zero, List.set_cons_succ]
  refine wpAnyT_done (by kernel_rfl) ?_ _
  refine NoPanic.normal ?_
  clear SE HE0 FE0 H8 F8 S8 S9 hb8 hw9 hf9 P0 P1 P2 P3 P4 P5 P6
  go_wp2_with fail
  go_end0
  exact ⟨rfl, fin_put HN.out HS.out (by simpa using HW.out), HE.out⟩
set_option maxHeartbeats 4000000 in
set_option maxRecDepth 100000 in
theorem load_any (p : List FnD) (ls : List SchD) (v : VE) (N : Nat) (W : World) (k : Nat) (ins : InsD) (h : Wk v N W k true ins) (hk : k < ins.length) (s : ShD) (hsk : Hid (sh0 ins[k] = s)) (op fn dst src : Int) (reg : Bool) (off imm : Int) (him : U32 imm) (hm : Hid (mayB op fn dst src reg off imm = true)) (hop : op = 3) (r : Option InsD) (hr : Hid (vStep p v.fn ls k ⟨op, fn, dst, src, reg, off, imm⟩ s ins = r)) :
    Calls Tryz.prog 85 #[.pointer (some ⟨v.g, 0, none⟩), .agg #[.int .i64 op, .int .i64 fn, .int .i64 dst, .int .i64 src, .bool reg, .int .i64 off, .int .u32 imm]] W fun e w' => e = .returned (.tuple #[]) ∧ (∃ ins', Wk v N w' k r.isSome ins' ∧ (∀ x, r = some x → ins' = x)) ∧ Fr v N W w' := by
  subst hop
  have hs : shOk s := by
    rw [← hsk.out]
    cases e : ins[k] with
    | none => intro i b hb; cases hb
    | some u => exact h.ok _ (List.getElem_mem hk) u e
  have hre := hr.out
  unfold vStep at hre
  have hmp := of_decide_eq_true hm.out
  obtain ⟨-, ⟨hd0, hd1⟩, ⟨hs0, hs1⟩, ⟨hf0, hf1⟩, -⟩ := hmp
  have H := Lib.hid (h.bel ((Bel.refl W).alloc (.cells #[.int .i64 3, .int .i64 fn, .int .i64 dst, .int .i64 src, .bool reg, .int .i64 off, .int .u32 imm] 95)))
  have HF := Lib.hid (Fr.bel (v := v) ((Bel.refl W).alloc (.cells #[.int .i64 3, .int .i64 fn, .int .i64 dst, .int .i64 src, .bool reg, .int .i64 off, .int .u32 imm] 95)) h.nw)
  have B1 := Bk.new W 95 #[.int .i64 3, .int .i64 fn, .int .i64 dst, .int .i64 src, .bool reg, .int .i64 off, .int .u32 imm]
  have g1 := h.w.lt
  have g2 := h.i.lt
  have g3 := h.s.lt
  clear h hr
  rw [if_neg (by show ¬ ((3 : Int) = 0); decide)] at hre
  rw [if_neg (by show ¬ ((3 : Int) = 1); decide)] at hre
  rw [if_neg (by show ¬ ((3 : Int) = 2); decide)] at hre
  rw [if_pos rfl] at hre
  obtain ⟨o, ho⟩ : ∃ o, Hid (shWord s ⟨3, fn, dst, src, reg, off, imm⟩ = o) := ⟨_, Lib.hid rfl⟩
  have ob : bdOk (rB o) := by
    have : ∀ b, o = some b → bdOk b := fun b e => shWord_ok hs him (ho.out.trans e)
    cases o with
    | none => exact ⟨by decide, by decide⟩
    | some b => exact this b rfl
  obtain ⟨x, hx⟩ : ∃ x, Hid (vTo ins (k + 1) (shPut s dst bdAll) = x) := ⟨_, Lib.hid rfl⟩
  obtain ⟨lt, hlt⟩ : ∃ lt, Hid (decide ((rB o).2 < 16) = lt) := ⟨_, Lib.hid rfl⟩
  have HN : Hid ((o.isSome && lt) = false → r = none) := Lib.hid (fun e => by
    rw [ho.out] at hre
    cases o with
    | none => exact hre.symm
    | some b =>
      have h2 : ¬ b.2 < 16 := (by have h3 := hlt.out; rw [show lt = false by simpa using e] at h3; exact of_decide_eq_false h3)
      simp only [Option.bind_some] at hre
      rw [if_neg h2] at hre
      exact hre.symm)
  have HS : Hid ((o.isSome && lt) = true → r = x) := Lib.hid (fun e => by
    rw [ho.out] at hre
    cases o with
    | none => simp at e
    | some b =>
      have h2 : b.2 < 16 := (by have h3 := hlt.out; rw [show lt = true by simpa using e] at h3; exact of_decide_eq_true h3)
      simp only [Option.bind_some] at hre
      rw [if_pos h2] at hre
      rw [← hre, ← hx.out])
  clear hre
  have c0 := B1.cell 0 (v := .int .i64 3) rfl
  have c1 := B1.cell 1 (v := .int .i64 fn) rfl
  have c2 := B1.cell 2 (v := .int .i64 dst) rfl
  have c3 := B1.cell 3 (v := .int .i64 src) rfl
  have c4 := B1.cell 4 (v := .bool reg) rfl
  have c5 := B1.cell 5 (v := .int .i64 off) rfl
  have c6 := B1.cell 6 (v := .int .u32 imm) rfl
  go_enter Tryz.func85, Tryz.ntmps85
  go_wp2_with fail
  generalize W.alloc (.cells #[.int .i64 3, .int .i64 fn, .int .i64 dst, .int .i64 src, .bool reg, .int .i64 off, .int .u32 imm] 95) = W0 at *
  obtain ⟨gr, hgr⟩ : ∃ gr, W.heap.size = gr := ⟨_, rfl⟩
  rw [hgr] at B1 g1 g2 g3
  simp only [hgr]
  clear hgr
  have n1 : gr ≠ v.g := by omega
  have n2 : gr ≠ v.Bi := by omega
  have n3 : gr ≠ v.Bs := by omega
  have B1 := Lib.hid B1
  have P0 := fun (w' : World) (hb : Bk w' gr 95 #[.int .i64 3, .int .i64 fn, .int .i64 dst, .int .i64 src, .bool reg, .int .i64 off, .int .u32 imm]) => hb.cell 0 (v := .int .i64 3) rfl
  have P1 := fun (w' : World) (hb : Bk w' gr 95 #[.int .i64 3, .int .i64 fn, .int .i64 dst, .int .i64 src, .bool reg, .int .i64 off, .int .u32 imm]) => hb.cell 1 (v := .int .i64 fn) rfl
  have P2 := fun (w' : World) (hb : Bk w' gr 95 #[.int .i64 3, .int .i64 fn, .int .i64 dst, .int .i64 src, .bool reg, .int .i64 off, .int .u32 imm]) => hb.cell 2 (v := .int .i64 dst) rfl
  have P3 := fun (w' : World) (hb : Bk w' gr 95 #[.int .i64 3, .int .i64 fn, .int .i64 dst, .int .i64 src, .bool reg, .int .i64 off, .int .u32 imm]) => hb.cell 3 (v := .int .i64 src) rfl
  have P4 := fun (w' : World) (hb : Bk w' gr 95 #[.int .i64 3, .int .i64 fn, .int .i64 dst, .int .i64 src, .bool reg, .int .i64 off, .int .u32 imm]) => hb.cell 4 (v := .bool reg) rfl
  have P5 := fun (w' : World) (hb : Bk w' gr 95 #[.int .i64 3, .int .i64 fn, .int .i64 dst, .int .i64 src, .bool reg, .int .i64 off, .int .u32 imm]) => hb.cell 5 (v := .int .i64 off) rfl
  have P6 := fun (w' : World) (hb : Bk w' gr 95 #[.int .i64 3, .int .i64 fn, .int .i64 dst, .int .i64 src, .bool reg, .int .i64 off, .int .u32 imm]) => hb.cell 6 (v := .int .u32 imm) rfl
  clear c0 c1 c2 c3 c4 c5 c6
  refine (wword_any v N _ k true ins H.out hk s hsk 3 fn dst src reg off imm him hm o ho).mono ?_
  rintro e w6 ⟨rfl, hw6, hf6⟩
  have S6 := hf6.bk B1.out n1 n2 n3
  have F6 := HF.out.trans hf6
  go_wp2_with fail
  refine (within_any v N _ k _ ins hw6 (rB o) ob 16 (by decide) lt hlt).mono ?_
  rintro e w7 ⟨rfl, hw7, hf7⟩
  have S7 := hf7.bk S6 n1 n2 n3
  have H7 := Lib.hid hw7
  have F7 := Lib.hid (F6.trans hf7)
  clear S6 F6 hw6 hf6 hw7 hf7
  go_wp2_with fail
  have SE := S7.bel (Bel.refl w7).drew
  have HE0 := H7.out.bel (Bel.refl w7).drew
  have FE0 := F7.out.trans (Fr.bel (Bel.refl w7).drew H7.out.nw)
  refine wp_region_T (fun w' => Bk w' gr 95 #[.int .i64 3, .int .i64 fn, .int .i64 dst, .int .i64 src, .bool reg, .int .i64 off, .int .u32 imm]) (fun _ => false) (by kernel_rfl) ?_
  refine wpAnyU_take (i := 0) (v := ?v0) rfl (by kernel_rfl) (by kernel_rfl) (by kernel_rfl) (by kernel_rfl) (fun _ _ _ h => h) ?hy0 SE ?rest0
  case hy0 => first | (refine Or.inl ⟨by rfl, ?_⟩; (intro w' hSw; go_simp) <;> with_reducible rfl) | (refine Or.inr ⟨by rfl, ?_⟩; with_reducible rfl)
  try simp only [List.getElem_toArray, List.getElem_cons_zero, List.getElem_cons_succ, Act.put, List.setIfInBounds_toArray, List.set_cons_zero, List.set_cons_succ]
  refine wpAnyU_take (i := 1) (v := ?v1) rfl (by kernel_rfl) (by kernel_rfl) (by kernel_rfl) (by kernel_rfl) (fun _ _ _ h => h) ?hy1 SE ?rest1
  case hy1 => first | (refine Or.inl ⟨by rfl, ?_⟩; (intro w' hSw; go_simp) <;> with_reducible rfl) | (refine Or.inr ⟨by rfl, ?_⟩; with_reducible rfl)
  try simp only [List.getElem_toArray, List.getElem_cons_zero, List.getElem_cons_succ, Act.put, List.setIfInBounds_toArray, List.set_cons_zero, List.set_cons_succ]
  refine wpAnyU_take (i := 2) (v := ?v2) rfl (by kernel_rfl) (by kernel_rfl) (by kernel_rfl) (by kernel_rfl) (fun _ _ _ h => h) ?hy2 SE ?rest2
  case hy2 => first | (refine Or.inl ⟨by rfl, ?_⟩; (intro w' hSw; go_simp) <;> with_reducible rfl) | (refine Or.inr ⟨by rfl, ?_⟩; with_reducible rfl)
  try simp only [List.getElem_toArray, List.getElem_cons_zero, List.getElem_cons_succ, Act.put, List.setIfInBounds_toArray, List.set_cons_zero, List.set_cons_succ]
  refine wpAnyT_one (i := 3) (by kernel_rfl) rfl (fun K hK => ?_)
  go_simp
  go_at_call 120
  refine (ofall _).mono ?_
  rintro en w8 ⟨rfl, hb8⟩
  have S8 := SE.bel hb8
  have H8 := HE0.bel hb8
  have F8 := FE0.trans (Fr.bel hb8 HE0.nw)
  dsimp only
  refine hK.out _ _ (fun _ => S8) ?_
  clear hK K
  try simp only [List.getElem_toArray, List.getElem_cons_zero, List.getElem_cons_succ, Act.put, List.setIfInBounds_toArray, List.set_cons_zero, List.set_cons_succ]
  refine wpAnyT_one (i := 4) (by kernel_rfl) rfl (fun K hK => ?_)
  go_simp
  go_at_call 125
  refine (wput_any v N _ k _ ins H8 hk s hsk dst bdAll bdAll_ok x hx).mono ?_
  rintro en w9 ⟨rfl, hw9, hf9⟩
  have HW := Lib.hid hw9
  have HE := Lib.hid (F8.trans hf9)
  have S9 := hf9.bk S8 n1 n2 n3
  dsimp only
  refine hK.out _ _ (fun _ => S9) ?_
  clear hK K
  try simp only [List.getElem_toArray, List.getElem_cons_zero, List.getElem_cons_succ, Act.put, List.setIfInBounds_toArray, List.set_cons_zero, List.set_cons_succ]
  refine wpAnyT_done (by kernel_rfl) ?_ _
  refine NoPanic.normal ?_
  clear SE HE0 FE0 H8 F8 S8 S9 hb8 hw9 hf9 P0 P1 P2 P3 P4 P5 P6
  go_wp2_with fail
  go_end0
  exact ⟨rfl, fin_put HN.out HS.out (by simpa using HW.out), HE.out⟩
set_option maxHeartbeats 4000000 in
set_option maxRecDepth 100000 in
theorem store_any (p : List FnD) (ls : List SchD) (v : VE) (N : Nat) (W : World) (k : Nat) (ins : InsD) (h : Wk v N W k true ins) (hk : k < ins.length) (s : ShD) (hsk : Hid (sh0 ins[k] = s)) (op fn dst src : Int) (reg : Bool) (off imm : Int) (him : U32 imm) (hm : Hid (mayB op fn dst src reg off imm = true)) (hop : op = 4) (r : Option InsD) (hr : Hid (vStep p v.fn ls k ⟨op, fn, dst, src, reg, off, imm⟩ s ins = r)) :
    Calls Tryz.prog 86 #[.pointer (some ⟨v.g, 0, none⟩), .agg #[.int .i64 op, .int .i64 fn, .int .i64 dst, .int .i64 src, .bool reg, .int .i64 off, .int .u32 imm]] W fun e w' => e = .returned (.tuple #[]) ∧ (∃ ins', Wk v N w' k r.isSome ins' ∧ (∀ x, r = some x → ins' = x)) ∧ Fr v N W w' := by
  subst hop
  have hs : shOk s := by
    rw [← hsk.out]
    cases e : ins[k] with
    | none => intro i b hb; cases hb
    | some u => exact h.ok _ (List.getElem_mem hk) u e
  have hre := hr.out
  unfold vStep at hre
  have hmp := of_decide_eq_true hm.out
  obtain ⟨-, ⟨hd0, hd1⟩, ⟨hs0, hs1⟩, ⟨hf0, hf1⟩, -⟩ := hmp
  have H := Lib.hid (h.bel ((Bel.refl W).alloc (.cells #[.int .i64 4, .int .i64 fn, .int .i64 dst, .int .i64 src, .bool reg, .int .i64 off, .int .u32 imm] 95)))
  have HF := Lib.hid (Fr.bel (v := v) ((Bel.refl W).alloc (.cells #[.int .i64 4, .int .i64 fn, .int .i64 dst, .int .i64 src, .bool reg, .int .i64 off, .int .u32 imm] 95)) h.nw)
  have B1 := Bk.new W 95 #[.int .i64 4, .int .i64 fn, .int .i64 dst, .int .i64 src, .bool reg, .int .i64 off, .int .u32 imm]
  have g1 := h.w.lt
  have g2 := h.i.lt
  have g3 := h.s.lt
  clear h hr
  rw [if_neg (by show ¬ ((4 : Int) = 0); decide)] at hre
  rw [if_neg (by show ¬ ((4 : Int) = 1); decide)] at hre
  rw [if_neg (by show ¬ ((4 : Int) = 2); decide)] at hre
  rw [if_neg (by show ¬ ((4 : Int) = 3); decide)] at hre
  rw [if_pos rfl] at hre
  obtain ⟨ow, hw⟩ : ∃ ow, Hid (shGet s dst = ow) := ⟨_, Lib.hid rfl⟩
  obtain ⟨o, ho⟩ : ∃ o, Hid (shWord s ⟨4, fn, dst, src, reg, off, imm⟩ = o) := ⟨_, Lib.hid rfl⟩
  have ob : bdOk (rB o) := by
    have : ∀ b, o = some b → bdOk b := fun b e => shWord_ok hs him (ho.out.trans e)
    cases o with
    | none => exact ⟨by decide, by decide⟩
    | some b => exact this b rfl
  obtain ⟨x, hx⟩ : ∃ x, Hid (vTo ins (k + 1) s = x) := ⟨_, Lib.hid rfl⟩
  obtain ⟨lt, hlt⟩ : ∃ lt, Hid (decide ((rB o).2 < 16) = lt) := ⟨_, Lib.hid rfl⟩
  have HN : Hid ((ow.isSome && o.isSome && lt) = false → r = none) := Lib.hid (fun e => by
    rw [ho.out, hw.out] at hre
    cases ow with
    | none => exact hre.symm
    | some c =>
      cases o with
      | none => exact hre.symm
      | some b =>
        have h2 : ¬ b.2 < 16 := (by have h3 := hlt.out; rw [show lt = false by simpa using e] at h3; exact of_decide_eq_false h3)
        simp only [Option.bind_some] at hre
        rw [if_neg h2] at hre
        exact hre.symm)
  have HS : Hid ((ow.isSome && o.isSome && lt) = true → r = x) := Lib.hid (fun e => by
    rw [ho.out, hw.out] at hre
    cases ow with
    | none => simp at e
    | some c =>
      cases o with
      | none => simp at e
      | some b =>
        have h2 : b.2 < 16 := (by have h3 := hlt.out; rw [show lt = true by simpa using e] at h3; exact of_decide_eq_true h3)
        simp only [Option.bind_some] at hre
        rw [if_pos h2] at hre
        rw [← hre, ← hx.out])
  clear hre
  have c2 := B1.cell 2 (v := .int .i64 dst) rfl
  go_enter Tryz.func86, Tryz.ntmps86
  go_wp2_with fail
  generalize W.alloc (.cells #[.int .i64 4, .int .i64 fn, .int .i64 dst, .int .i64 src, .bool reg, .int .i64 off, .int .u32 imm] 95) = W0 at *
  obtain ⟨gr, hgr⟩ : ∃ gr, W.heap.size = gr := ⟨_, rfl⟩
  rw [hgr] at B1 g1 g2 g3
  simp only [hgr]
  clear hgr
  have n1 : gr ≠ v.g := by omega
  have n2 : gr ≠ v.Bi := by omega
  have n3 : gr ≠ v.Bs := by omega
  have B1 := Lib.hid B1
  have P0 := fun (w' : World) (hb : Bk w' gr 95 #[.int .i64 4, .int .i64 fn, .int .i64 dst, .int .i64 src, .bool reg, .int .i64 off, .int .u32 imm]) => hb.cell 0 (v := .int .i64 4) rfl
  have P1 := fun (w' : World) (hb : Bk w' gr 95 #[.int .i64 4, .int .i64 fn, .int .i64 dst, .int .i64 src, .bool reg, .int .i64 off, .int .u32 imm]) => hb.cell 1 (v := .int .i64 fn) rfl
  have P2 := fun (w' : World) (hb : Bk w' gr 95 #[.int .i64 4, .int .i64 fn, .int .i64 dst, .int .i64 src, .bool reg, .int .i64 off, .int .u32 imm]) => hb.cell 2 (v := .int .i64 dst) rfl
  have P3 := fun (w' : World) (hb : Bk w' gr 95 #[.int .i64 4, .int .i64 fn, .int .i64 dst, .int .i64 src, .bool reg, .int .i64 off, .int .u32 imm]) => hb.cell 3 (v := .int .i64 src) rfl
  have P4 := fun (w' : World) (hb : Bk w' gr 95 #[.int .i64 4, .int .i64 fn, .int .i64 dst, .int .i64 src, .bool reg, .int .i64 off, .int .u32 imm]) => hb.cell 4 (v := .bool reg) rfl
  have P5 := fun (w' : World) (hb : Bk w' gr 95 #[.int .i64 4, .int .i64 fn, .int .i64 dst, .int .i64 src, .bool reg, .int .i64 off, .int .u32 imm]) => hb.cell 5 (v := .int .i64 off) rfl
  have P6 := fun (w' : World) (hb : Bk w' gr 95 #[.int .i64 4, .int .i64 fn, .int .i64 dst, .int .i64 src, .bool reg, .int .i64 off, .int .u32 imm]) => hb.cell 6 (v := .int .u32 imm) rfl
  clear c2
  refine (wget_any v N _ k true ins H.out hk s hsk dst ow hw).mono ?_
  rintro e w5 ⟨rfl, hw5, hf5⟩
  have S5 := hf5.bk B1.out n1 n2 n3
  have F5 := HF.out.trans hf5
  have d0 := P0 _ S5
  have d1 := P1 _ S5
  have d2 := P2 _ S5
  have d3 := P3 _ S5
  have d4 := P4 _ S5
  have d5 := P5 _ S5
  have d6 := P6 _ S5
  go_wp2_with fail
  refine (wword_any v N _ k _ ins hw5 hk s hsk 4 fn dst src reg off imm him hm o ho).mono ?_
  rintro e w6 ⟨rfl, hw6, hf6⟩
  have S6 := hf6.bk S5 n1 n2 n3
  have F6 := F5.trans hf6
  clear d0 d1 d2 d3 d4 d5 d6
  go_wp2_with fail
  refine (within_any v N _ k _ ins hw6 (rB o) ob 16 (by decide) lt hlt).mono ?_
  rintro e w7 ⟨rfl, hw7, hf7⟩
  have F7 := F6.trans hf7
  go_wp2_with fail
  refine (here_any v N _ k _ ins hw7 hk s hsk).mono ?_
  rintro e w8 ⟨rfl, hb8⟩
  have H8 := hw7.bel hb8
  have F8 := F7.trans (Fr.bel hb8 hw7.nw)
  go_wp2_with fail
  refine (wthen_any v N _ k _ ins H8 hk s hs x hx).mono ?_
  rintro e w9 ⟨rfl, hw9, hf9⟩
  have HW := Lib.hid hw9
  have HE := Lib.hid (F8.trans hf9)
  clear hw5 hf5 S5 F5 hw6 hf6 S6 F6 hw7 hf7 F7 hb8 H8 F8 hw9 hf9 P0 P1 P2 P3 P4 P5 P6
  go_wp2_with fail
  go_end0
  exact ⟨rfl, fin_put HN.out HS.out (by simpa using HW.out), HE.out⟩
set_option maxHeartbeats 4000000 in
set_option maxRecDepth 100000 in
theorem exit_any (p : List FnD) (ls : List SchD) (v : VE) (N : Nat) (W : World) (k : Nat) (ins : InsD) (h : Wk v N W k true ins) (hk : k < ins.length) (s : ShD) (hsk : Hid (sh0 ins[k] = s)) (op fn dst src : Int) (reg : Bool) (off imm : Int) (him : U32 imm) (hm : Hid (mayB op fn dst src reg off imm = true)) (hop : op = 7) (r : Option InsD) (hr : Hid (vStep p v.fn ls k ⟨op, fn, dst, src, reg, off, imm⟩ s ins = r)) :
    Calls Tryz.prog 89 #[.pointer (some ⟨v.g, 0, none⟩), .agg #[.int .i64 op, .int .i64 fn, .int .i64 dst, .int .i64 src, .bool reg, .int .i64 off, .int .u32 imm]] W fun e w' => e = .returned (.tuple #[]) ∧ (∃ ins', Wk v N w' k r.isSome ins' ∧ (∀ x, r = some x → ins' = x)) ∧ Fr v N W w' := by
  subst hop
  have hs : shOk s := by
    rw [← hsk.out]
    cases e : ins[k] with
    | none => intro i b hb; cases hb
    | some u => exact h.ok _ (List.getElem_mem hk) u e
  have hre := hr.out
  unfold vStep at hre
  have hmp := of_decide_eq_true hm.out
  obtain ⟨-, ⟨hd0, hd1⟩, ⟨hs0, hs1⟩, ⟨hf0, hf1⟩, -⟩ := hmp
  have H := Lib.hid (h.bel ((Bel.refl W).alloc (.cells #[.int .i64 7, .int .i64 fn, .int .i64 dst, .int .i64 src, .bool reg, .int .i64 off, .int .u32 imm] 95)))
  have HF := Lib.hid (Fr.bel (v := v) ((Bel.refl W).alloc (.cells #[.int .i64 7, .int .i64 fn, .int .i64 dst, .int .i64 src, .bool reg, .int .i64 off, .int .u32 imm] 95)) h.nw)
  have B1 := Bk.new W 95 #[.int .i64 7, .int .i64 fn, .int .i64 dst, .int .i64 src, .bool reg, .int .i64 off, .int .u32 imm]
  have g1 := h.w.lt
  have g2 := h.i.lt
  have g3 := h.s.lt
  clear h hr
  rw [if_neg (by show ¬ ((7 : Int) = 0); decide)] at hre
  rw [if_neg (by show ¬ ((7 : Int) = 1); decide)] at hre
  rw [if_neg (by show ¬ ((7 : Int) = 2); decide)] at hre
  rw [if_neg (by show ¬ ((7 : Int) = 3); decide)] at hre
  rw [if_neg (by show ¬ ((7 : Int) = 4); decide)] at hre
  rw [if_neg (by show ¬ ((7 : Int) = 5); decide)] at hre
  rw [if_neg (by show ¬ ((7 : Int) = 6); decide)] at hre
  obtain ⟨o, ho⟩ : ∃ o, Hid (shGet s 0 = o) := ⟨_, Lib.hid rfl⟩
  rw [ho.out] at hre
  have HRE := Lib.hid hre
  clear hre
  go_enter Tryz.func89, Tryz.ntmps89
  go_wp2_with fail
  generalize W.alloc (.cells #[.int .i64 7, .int .i64 fn, .int .i64 dst, .int .i64 src, .bool reg, .int .i64 off, .int .u32 imm] 95) = W0 at *
  obtain ⟨gr, hgr⟩ : ∃ gr, W.heap.size = gr := ⟨_, rfl⟩
  rw [hgr] at B1 g1 g2 g3
  simp only [hgr]
  clear hgr
  have n1 : gr ≠ v.g := by omega
  have n2 : gr ≠ v.Bi := by omega
  have n3 : gr ≠ v.Bs := by omega
  have B1 := Lib.hid B1
  refine (wget_any v N _ k true ins H.out hk s hsk 0 o ho).mono ?_
  rintro e w5 ⟨rfl, hw5, hf5⟩
  have HW := Lib.hid hw5
  have HE := Lib.hid (HF.out.trans hf5)
  clear hw5 hf5
  go_wp2_with fail
  go_end0
  have hw := HW.out
  have hre := HRE.out
  refine ⟨rfl, ?_, HE.out⟩
  cases o with
  | none =>
    obtain rfl : r = none := hre.symm
    exact ⟨ins, by simpa using hw, fun y e => by cases e⟩
  | some b =>
    obtain rfl : r = some ins := hre.symm
    exact ⟨ins, by simpa using hw, fun y e => by cases e; rfl⟩
end Go.Proofs.YtebdnobgdimdoaaGreat
set_option linter.unusedVariables false
set_option linter.unusedSimpArgs false
namespace Go.Proofs.YtebdnobgdimdoaaGreat
open Go.RowKit Go.MapKept
theorem kalloc_set (w : World) (o o' : Obj) : ({ w.alloc o with heap := (w.alloc o).heap.setIfInBounds w.heap.size o' } : World) = w.alloc o' := by
  have e : (w.heap.push o).setIfInBounds w.heap.size o' = w.heap.push o' := by
    apply Array.toList_inj.1
    rw [Array.toList_setIfInBounds, Array.toList_push, Array.toList_push, ← Array.length_toList, List.set_append_right _ _ (Nat.le_refl _), Nat.sub_self]
    rfl
  show ({ w.alloc o with heap := (w.heap.push o).setIfInBounds w.heap.size o' } : World) = _
  rw [e]
  rfl
theorem kkey_int (a : Int) : IsKey (.int .i64) (.int .i64 a) := by simp [IsKey]
theorem kcheckKey (b : Bool) (a : Int) (w : World) : (Instr.checkKey b 10000 3 (.int .i64 a)).run Tryz.prog w = .ok () w := run_checkKey Tryz.underlying3 (kkey_int a) b 9999
theorem kinsert (w : World) (E : Array MapEntry) (n : Nat) (a : Int) (f : Value) (hf : Instr.findNow (.int .i64) (.int .i64 a) E.toList 0 = some none) : (Instr.mapUpdate 117 (.map (some w.heap.size)) (.int .i64 a) f).run Tryz.prog (w.alloc (.map E n)) = .ok () (w.alloc (.map (E.push { key := .int .i64 a, val := f, born := n }) (n + 1))) := by
  have hb : (w.alloc (.map E n)).heap[w.heap.size]? = some (.map E n) := (heap_alloc w _).1
  unfold Instr.mapUpdate
  simp only [Sem.run_bind, Sem.run_pure, Result.andThen_ok, run_underlying Tryz.underlying117, Go.MapKept.run_getObj_map hb, kcheckKey, run_findKey Tryz.underlying3 hf, run_setObj_map _ hb, kalloc_set]
def kindsE : Array MapEntry := #[{ key := .int .i64 0, val := .func (.func 82) #[] #[], born := 0 }, { key := .int .i64 1, val := .func (.func 83) #[] #[], born := 1 }, { key := .int .i64 2, val := .func (.func 84) #[] #[], born := 2 }, { key := .int .i64 3, val := .func (.func 85) #[] #[], born := 3 }, { key := .int .i64 4, val := .func (.func 86) #[] #[], born := 4 }, { key := .int .i64 5, val := .func (.func 87) #[] #[], born := 5 }, { key := .int .i64 6, val := .func (.func 88) #[] #[], born := 6 }, { key := .int .i64 7, val := .func (.func 89) #[] #[], born := 7 }]
theorem klook {w : World} {b : Nat} (hb : w.heap[b]? = some (.map kindsE 8)) (a : Int) (r : Nat × Value) (hr : Instr.findNow (.int .i64) (.int .i64 a) kindsE.toList 0 = some (some r)) : (Instr.lookup 117 (.map (some b)) (.int .i64 a) false).run Tryz.prog w = .ok r.2 w := by
  obtain ⟨i, v⟩ := r
  unfold Instr.lookup
  simp only [Sem.run_bind, Sem.run_pure, Result.andThen_ok, run_underlying Tryz.underlying117, Go.MapKept.run_getObj_map hb, kcheckKey, run_findKey Tryz.underlying3 hr]
  rfl
set_option maxHeartbeats 4000000 in
set_option maxRecDepth 100000 in
theorem kinds_any (w : World) : Calls Tryz.prog 48 #[] w fun e w' => e = .returned (.map (some w.heap.size)) ∧ w' = w.alloc (.map kindsE 8) := by
  have hmm := @run_makeMap Tryz.prog
  have k0 := kinsert w #[] 0 0 (.func (.func 82) #[] #[]) rfl
  have k1 := kinsert w #[{ key := .int .i64 0, val := .func (.func 82) #[] #[], born := 0 }] 1 1 (.func (.func 83) #[] #[]) rfl
  have k2 := kinsert w #[{ key := .int .i64 0, val := .func (.func 82) #[] #[], born := 0 }, { key := .int .i64 1, val := .func (.func 83) #[] #[], born := 1 }] 2 2 (.func (.func 84) #[] #[]) rfl
  have k3 := kinsert w #[{ key := .int .i64 0, val := .func (.func 82) #[] #[], born := 0 }, { key := .int .i64 1, val := .func (.func 83) #[] #[], born := 1 }, { key := .int .i64 2, val := .func (.func 84) #[] #[], born := 2 }] 3 3 (.func (.func 85) #[] #[]) rfl
  have k4 := kinsert w #[{ key := .int .i64 0, val := .func (.func 82) #[] #[], born := 0 }, { key := .int .i64 1, val := .func (.func 83) #[] #[], born := 1 }, { key := .int .i64 2, val := .func (.func 84) #[] #[], born := 2 }, { key := .int .i64 3, val := .func (.func 85) #[] #[], born := 3 }] 4 4 (.func (.func 86) #[] #[]) rfl
  have k5 := kinsert w #[{ key := .int .i64 0, val := .func (.func 82) #[] #[], born := 0 }, { key := .int .i64 1, val := .func (.func 83) #[] #[], born := 1 }, { key := .int .i64 2, val := .func (.func 84) #[] #[], born := 2 }, { key := .int .i64 3, val := .func (.func 85) #[] #[], born := 3 }, { key := .int .i64 4, val := .func (.func 86) #[] #[], born := 4 }] 5 5 (.func (.func 87) #[] #[]) rfl
  have k6 := kinsert w #[{ key := .int .i64 0, val := .func (.func 82) #[] #[], born := 0 }, { key := .int .i64 1, val := .func (.func 83) #[] #[], born := 1 }, { key := .int .i64 2, val := .func (.func 84) #[] #[], born := 2 }, { key := .int .i64 3, val := .func (.func 85) #[] #[], born := 3 }, { key := .int .i64 4, val := .func (.func 86) #[] #[], born := 4 }, { key := .int .i64 5, val := .func (.func 87) #[] #[], born := 5 }] 6 6 (.func (.func 88) #[] #[]) rfl
  have k7 := kinsert w #[{ key := .int .i64 0, val := .func (.func 82) #[] #[], born := 0 }, { key := .int .i64 1, val := .func (.func 83) #[] #[], born := 1 }, { key := .int .i64 2, val := .func (.func 84) #[] #[], born := 2 }, { key := .int .i64 3, val := .func (.func 85) #[] #[], born := 3 }, { key := .int .i64 4, val := .func (.func 86) #[] #[], born := 4 }, { key := .int .i64 5, val := .func (.func 87) #[] #[], born := 5 }, { key := .int .i64 6, val := .func (.func 88) #[] #[], born := 6 }] 7 7 (.func (.func 89) #[] #[]) rfl
  simp only [List.push_toArray, List.cons_append, List.nil_append, Nat.reduceAdd] at k0
  simp only [List.push_toArray, List.cons_append, List.nil_append, Nat.reduceAdd] at k1
  simp only [List.push_toArray, List.cons_append, List.nil_append, Nat.reduceAdd] at k2
  simp only [List.push_toArray, List.cons_append, List.nil_append, Nat.reduceAdd] at k3
  simp only [List.push_toArray, List.cons_append, List.nil_append, Nat.reduceAdd] at k4
  simp only [List.push_toArray, List.cons_append, List.nil_append, Nat.reduceAdd] at k5
  simp only [List.push_toArray, List.cons_append, List.nil_append, Nat.reduceAdd] at k6
  simp only [List.push_toArray, List.cons_append, List.nil_append, Nat.reduceAdd] at k7
  go_enter Tryz.func48, Tryz.ntmps48
  go_wp2_with fail
  go_ret
  exact ⟨rfl, rfl⟩
end Go.Proofs.YtebdnobgdimdoaaGreat
